import Derived.Test.YtdfgdnaejnngoaaGreatJa9
import Derived.Test.YtdfgdnaejnngoaaGreatJa6
namespace Go.Proofs.YtdfgdnaejnngoaaGreat
open Go.RowKit
/-! grangerref26.Do. -/
def refC (err : Int) (has : Bool) (val : ByteArray) (its : Value) (n wt : Int) : List Value := [.int .i64 err, .bool has, .string val, its, .int .i64 n, .int .i64 wt, .int .i64 0, .int .i64 0, .int .i64 0]
def refV (err : Int) (has : Bool) (val : ByteArray) (its : Value) (n wt : Int) : Value := .agg (refC err has val its n wt).toArray
theorem refans_size : (Tryz.prog.info? 76).map (·.size) = some 9 := by kernel_rfl
theorem refans_all (err : Int) (has : Bool) (val : ByteArray) (A : Option Addr) (n c : Nat) (m wt : Int) : (refC err has val (.slice A n c) m wt).all (·.oneCell') = true := rfl
def RefDo (bu : Nat) (c : Int) (a : Int × Bool × ByteArray × List Itm × Int × Int) (ls' : List (List Itm)) (w : World) (e : Ending) (w' : World) : Prop :=
  ∃ A k cp, e = .returned (refV a.1 a.2.1 a.2.2.1 (.slice A k cp) a.2.2.2.2.1 a.2.2.2.2.2) ∧ k = a.2.2.2.1.length ∧ Elems w' A 2 (a.2.2.2.1.map Itm.cells) ∧ RefAt w' bu c ls' ∧ Fr (fun k => k = bu) w w'
theorem elems_nil (w : World) (A : Option Addr) : Elems w A 2 (([] : List Itm).map Itm.cells) := by intro i r hr; simp at hr
abbrev zeroR : List Value := refC 0 false ⟨#[]⟩ (.slice none 0 0) 0 0
abbrev RBox (s : Nat) (w : World) : Prop := w.heap[s]? = some (.cells zeroR.toArray 76 (0, 0))
abbrev QBox (s : Nat) (o : Ord) (w : World) : Prop := w.heap[s]? = some (.cells o.cells.toArray 78 (0, 0))
set_option maxHeartbeats 1000000 in
set_option maxRecDepth 100000 in
theorem refDo_bad (bu : Nat) (c : Int) (ls : List (List Itm)) (kind : Int) (key val : ByteArray) (n : Int) (lo hi : ByteArray) (w : World) (h : RefAt w bu c ls) (ho : isOrd ⟨kind, key, val, n, lo, hi⟩ = false) :
    Calls Tryz.prog 36 #[.pointer (some ⟨bu, 0, none⟩), (Ord.mk kind key val n lo hi).v] w (RefDo bu c (1, false, ⟨#[]⟩, [], 0, 0) ls w) := by
  have hia := fun W => refIs_any ⟨kind, key, val, n, lo, hi⟩ W
  rw [ho] at hia
  rw [Ord.v_def] at hia ⊢
  have HI := Lib.hid hia
  have HRF := Lib.hid h
  have HMS := Lib.hid refans_size
  clear hia ho h
  go_enter Tryz.func36, Tryz.ntmps36
  go_wp2_with (first
    | (go_at_call 64; (with_reducible refine (HI.out _).mono ?_); rintro e w1 ⟨rfl, hb1⟩; have hbo : QBox w.heap.size ⟨kind, key, val, n, lo, hi⟩ w1 := box_below (((Fr.refl (fun _ => False) _).alloc _).row id (((Fr.refl (fun _ => False) _).alloc _).row id (heap_alloc_new w _))) hb1; have hba : RBox (w.heap.size + 1) w1 := box_below (((Fr.refl (fun _ => False) _).alloc _).row id (heap_new_at (by simp))) hb1; have hbc : RBox (w.heap.size + 2) w1 := box_below (heap_new_at (by simp)) hb1; have d0 : w1.cell? ⟨w.heap.size, 0, none⟩ = some (.int .i64 kind) := (by rw [Lib.cell_of_heap hbo]; rfl); have d1 : w1.cell? ⟨w.heap.size, 1, none⟩ = some (.string key) := (by rw [Lib.cell_of_heap hbo]; rfl); have d2 : w1.cell? ⟨w.heap.size, 2, none⟩ = some (.string val) := (by rw [Lib.cell_of_heap hbo]; rfl); have d3 : w1.cell? ⟨w.heap.size, 3, none⟩ = some (.int .u64 n) := (by rw [Lib.cell_of_heap hbo]; rfl); have d4 : w1.cell? ⟨w.heap.size, 4, none⟩ = some (.string lo) := (by rw [Lib.cell_of_heap hbo]; rfl); have d5 : w1.cell? ⟨w.heap.size, 5, none⟩ = some (.string hi) := (by rw [Lib.cell_of_heap hbo]; rfl); have hxl := lt_of_row hbo; have HBO := Lib.hid hbo; have HBA := Lib.hid hba; have HBC := Lib.hid hbc; have HB1 := Lib.hid (below_next (below_alloc (below_alloc (below_alloc (Below.refl _ w)))) hb1); have z0 : w1.cell? ⟨w.heap.size + 2, 0, none⟩ = some (.int .i64 0) := (by rw [Lib.cell_of_heap hbc]; rfl); have y0 := Lib.frozen_of_heap hbc 0; have HRC := Lib.hid (setCell_row hbc 0 (.int .i64 1)); have hfc : Fr (fun q => q = w.heap.size + 2) w1 (w1.setCell ⟨w.heap.size + 2, 0, none⟩ (.int .i64 1)) := (Fr.refl (fun q => q = w.heap.size + 2) w1).setCell (p := ⟨w.heap.size + 2, 0, none⟩) (fun _ => rfl) _; have HFC := Lib.hid hfc; have HBA2 := Lib.hid (hfc.row (by omega) hba); clear hfc; clear hb1 hbo hba hbc)
    | (refine wpList_load_mid rfl 76 (Operand.tmp 5) rfl (w.heap.size + 2) 0 rfl (refC 1 false ⟨#[]⟩ (.slice none 0 0) 0 0) _ (row_range HRC.out) Tryz.underlying76 rfl HMS.out ?_)
    | (refine wpList_store_row rfl 76 (Operand.tmp 4) (Operand.tmp 14) rfl (w.heap.size + 1) _ (refC 1 false ⟨#[]⟩ (.slice none 0 0) 0 0) _ rfl rfl HBA2.out rfl HMS.out (refans_all _ _ _ _ _ _ _ _) ?_; intro w9 hr9 hf9; have HR9 := Lib.hid hr9; have HF9 := Lib.hid hf9; clear hr9 hf9))
  refine bodyPost_ret (v := refV 1 false ⟨#[]⟩ (.slice none 0 0) 0 0) (results_cell (a := 4) (t := 76) (ad := ⟨w.heap.size + 1, 0, none⟩) Tryz.results36 rfl (load_row _ HR9.out _ Tryz.underlying76 rfl HMS.out)) rfl ?_
  have hb9 : Below w.heap.size w w9 := (HB1.out.trans (HFC.out.to_below HB1.out.size (fun i hi e => by omega))).trans (HF9.out.to_below (Nat.le_trans HB1.out.size HFC.out.size) (fun i hi e => by omega))
  exact ⟨none, 0, 0, rfl, rfl, elems_nil _ _, HRF.out.below hb9, Fr.of_below hb9⟩
theorem ref_nopair (err : Int) (has : Bool) (val : ByteArray) (A : Option Addr) (n c : Nat) (m wt : Int) : ∀ i a b, (refC err has val (.slice A n c) m wt)[i]? = some (.string a) → (refC err has val (.slice A n c) m wt)[i + 1]? = some (.string b) → False := by
  intro i a b h1 h2
  rcases i with _ | _ | _ | _ | _ | _ | _ | _ | _ | i <;> simp [refC] at h1 h2
/-- an answer, written behind the deed -/
theorem refdo_done {w w1 w2 w3 w9 : World} {bu s : Nat} {c : Int} {ls' : List (List Itm)} {a : Int × Bool × ByteArray × List Itm × Int × Int} {A : Option Addr} {k cp : Nat} (hbl : bu < w.heap.size) (hb1 : Below w.heap.size w w1) (hr2 : RefAt w2 bu c ls') (hf2 : Fr (fun k => k = bu) w1 w2)
    (hs : w.heap.size ≤ s) (hc : w2.heap[s + 1]? = some (.cells zeroR.toArray 76 (0, 0))) (hfc : Fr (fun k => k = s + 1) w2 w3) (ha : w3.heap[s]? = some (.cells zeroR.toArray 76 (0, 0))) (hf9 : Fr (fun k => k = s) w3 w9)
    (hk : k = a.2.2.2.1.length) (hel : Elems w9 A 2 (a.2.2.2.1.map Itm.cells)) :
    RefDo bu c a ls' w (.returned (refV a.1 a.2.1 a.2.2.1 (.slice A k cp) a.2.2.2.2.1 a.2.2.2.2.2)) w9 := by
  have hsz := hb1.size
  have hr3 := ref_other hr2 hc (by decide) (by decide) (ref_nopair _ _ _ _ _ _ _ _) hfc
  have hr9 := ref_other hr3 ha (by decide) (by decide) (ref_nopair _ _ _ _ _ _ _ _) hf9
  refine ⟨A, k, cp, rfl, hk, hel, hr9, ?_⟩
  refine (((Fr.of_below hb1).trans hf2 (fun i _ e => e)).trans hfc (fun i hi e => by omega)).trans hf9 (fun i hi e => by omega)
set_option maxHeartbeats 1000000 in
set_option maxRecDepth 100000 in
theorem refDo_put (bu : Nat) (c : Int) (ls : List (List Itm)) (l : List Itm) (key val : ByteArray) (n : Int) (lo hi : ByteArray) (w : World) (h : RefAt w bu c ls) (hl : ls[ls.length - 1]? = some l) (hn : ls.length ≤ 90000) (hln : l.length ≤ 60000) (hri : Rises l) (hok : ∀ y ∈ l, y.ok) (ho : isOrd ⟨1, key, val, n, lo, hi⟩ = true) :
    Calls Tryz.prog 36 #[.pointer (some ⟨bu, 0, none⟩), (Ord.mk 1 key val n lo hi).v] w (RefDo bu c (errU c l ⟨1, key, val⟩, false, ⟨#[]⟩, [], 0, 0) (rowsU c ls l ⟨1, key, val⟩) w) := by
  have hia := fun W => refIs_any ⟨1, key, val, n, lo, hi⟩ W
  rw [ho] at hia
  have hup := fun W (hW : Below w.heap.size w W) => refUpdate_any bu c ls l ⟨1, key, val⟩ W (h.below hW) hl hn hln hri hok
  rw [Ord.v_def] at hia ⊢
  rw [Mg.v_def] at hup
  generalize errU c l ⟨1, key, val⟩ = E at *
  generalize rowsU c ls l ⟨1, key, val⟩ = R at *
  dsimp only at hup hia ⊢
  have hbul := h.lt
  have HI := Lib.hid hia
  have HU := Lib.hid hup
  have HMS := Lib.hid refans_size
  clear hia hup ho h hl hri hok
  go_enter Tryz.func36, Tryz.ntmps36
  go_wp2_with (first
    | (go_at_call 64; (with_reducible refine (HI.out _).mono ?_); rintro e w1 ⟨rfl, hb1⟩; have hbo : QBox w.heap.size ⟨1, key, val, n, lo, hi⟩ w1 := box_below (((Fr.refl (fun _ => False) _).alloc _).row id (((Fr.refl (fun _ => False) _).alloc _).row id (heap_alloc_new w _))) hb1; have hba : RBox (w.heap.size + 1) w1 := box_below (((Fr.refl (fun _ => False) _).alloc _).row id (heap_new_at (by simp))) hb1; have hbc : RBox (w.heap.size + 2) w1 := box_below (heap_new_at (by simp)) hb1; have d0 : w1.cell? ⟨w.heap.size, 0, none⟩ = some (.int .i64 1) := (by rw [Lib.cell_of_heap hbo]; rfl); have d1 : w1.cell? ⟨w.heap.size, 1, none⟩ = some (.string key) := (by rw [Lib.cell_of_heap hbo]; rfl); have d2 : w1.cell? ⟨w.heap.size, 2, none⟩ = some (.string val) := (by rw [Lib.cell_of_heap hbo]; rfl); have d3 : w1.cell? ⟨w.heap.size, 3, none⟩ = some (.int .u64 n) := (by rw [Lib.cell_of_heap hbo]; rfl); have d4 : w1.cell? ⟨w.heap.size, 4, none⟩ = some (.string lo) := (by rw [Lib.cell_of_heap hbo]; rfl); have d5 : w1.cell? ⟨w.heap.size, 5, none⟩ = some (.string hi) := (by rw [Lib.cell_of_heap hbo]; rfl); have hxl := lt_of_row hbo; have HBO := Lib.hid hbo; have HBA := Lib.hid hba; have HBC := Lib.hid hbc; have HB1 := Lib.hid (below_next (below_alloc (below_alloc (below_alloc (Below.refl _ w)))) hb1); skip; clear hb1 hbo hba hbc)
    | (go_at_call 65; (with_reducible refine (HU.out _ HB1.out).mono ?_); rintro e w2 ⟨rfl, hr2, hf2⟩; have hs1 := HB1.out.size; have hbc2 : RBox (w.heap.size + 2) w2 := hf2.row (by omega) HBC.out; have hba2 : RBox (w.heap.size + 1) w2 := hf2.row (by omega) HBA.out; have z0 : w2.cell? ⟨w.heap.size + 2, 0, none⟩ = some (.int .i64 0) := (by rw [Lib.cell_of_heap hbc2]; rfl); have y0 := Lib.frozen_of_heap hbc2 0; have HRC := Lib.hid (setCell_row hbc2 0 (.int .i64 E)); have hfc : Fr (fun q => q = w.heap.size + 2) w2 (w2.setCell ⟨w.heap.size + 2, 0, none⟩ (.int .i64 E)) := (Fr.refl (fun q => q = w.heap.size + 2) w2).setCell (p := ⟨w.heap.size + 2, 0, none⟩) (fun _ => rfl) _; have HFC := Lib.hid hfc; have HBA2 := Lib.hid (hfc.row (by omega) hba2); have HBC2 := Lib.hid hbc2; have HR2 := Lib.hid hr2; have HF2 := Lib.hid hf2; clear hfc hbc2 hba2 hr2 hf2)
    | (refine wpList_load_mid rfl 76 (Operand.tmp 5) rfl (w.heap.size + 2) 0 rfl (refC E false ⟨#[]⟩ (.slice none 0 0) 0 0) _ (row_range HRC.out) Tryz.underlying76 rfl HMS.out ?_)
    | (refine wpList_store_row rfl 76 (Operand.tmp 4) (Operand.tmp 108) rfl (w.heap.size + 1) _ (refC E false ⟨#[]⟩ (.slice none 0 0) 0 0) _ rfl rfl HBA2.out rfl HMS.out (refans_all _ _ _ _ _ _ _ _) ?_; intro w9 hr9 hf9; have HR9 := Lib.hid hr9; have HF9 := Lib.hid hf9; clear hr9 hf9))
  refine bodyPost_ret (v := refV E false ⟨#[]⟩ (.slice none 0 0) 0 0) (results_cell (a := 4) (t := 76) (ad := ⟨w.heap.size + 1, 0, none⟩) Tryz.results36 rfl (load_row _ HR9.out _ Tryz.underlying76 rfl HMS.out)) rfl ?_
  exact refdo_done hbul HB1.out HR2.out HF2.out (Nat.le_succ _) HBC2.out HFC.out HBA2.out HF9.out rfl (elems_nil _ _)
set_option maxHeartbeats 1000000 in
set_option maxRecDepth 100000 in
theorem refDo_del (bu : Nat) (c : Int) (ls : List (List Itm)) (l : List Itm) (key val : ByteArray) (n : Int) (lo hi : ByteArray) (w : World) (h : RefAt w bu c ls) (hl : ls[ls.length - 1]? = some l) (hn : ls.length ≤ 90000) (hln : l.length ≤ 60000) (hri : Rises l) (hok : ∀ y ∈ l, y.ok) (ho : isOrd ⟨2, key, val, n, lo, hi⟩ = true) :
    Calls Tryz.prog 36 #[.pointer (some ⟨bu, 0, none⟩), (Ord.mk 2 key val n lo hi).v] w (RefDo bu c (errU c l ⟨2, key, ⟨#[]⟩⟩, false, ⟨#[]⟩, [], 0, 0) (rowsU c ls l ⟨2, key, ⟨#[]⟩⟩) w) := by
  have hia := fun W => refIs_any ⟨2, key, val, n, lo, hi⟩ W
  rw [ho] at hia
  have hup := fun W (hW : Below w.heap.size w W) => refUpdate_any bu c ls l ⟨2, key, ⟨#[]⟩⟩ W (h.below hW) hl hn hln hri hok
  rw [Ord.v_def] at hia ⊢
  rw [Mg.v_def] at hup
  generalize errU c l ⟨2, key, ⟨#[]⟩⟩ = E at *
  generalize rowsU c ls l ⟨2, key, ⟨#[]⟩⟩ = R at *
  dsimp only at hup hia ⊢
  have hbul := h.lt
  have HI := Lib.hid hia
  have HU := Lib.hid hup
  have HMS := Lib.hid refans_size
  clear hia hup ho h hl hri hok
  go_enter Tryz.func36, Tryz.ntmps36
  go_wp2_with (first
    | (go_at_call 64; (with_reducible refine (HI.out _).mono ?_); rintro e w1 ⟨rfl, hb1⟩; have hbo : QBox w.heap.size ⟨2, key, val, n, lo, hi⟩ w1 := box_below (((Fr.refl (fun _ => False) _).alloc _).row id (((Fr.refl (fun _ => False) _).alloc _).row id (heap_alloc_new w _))) hb1; have hba : RBox (w.heap.size + 1) w1 := box_below (((Fr.refl (fun _ => False) _).alloc _).row id (heap_new_at (by simp))) hb1; have hbc : RBox (w.heap.size + 2) w1 := box_below (heap_new_at (by simp)) hb1; have d0 : w1.cell? ⟨w.heap.size, 0, none⟩ = some (.int .i64 2) := (by rw [Lib.cell_of_heap hbo]; rfl); have d1 : w1.cell? ⟨w.heap.size, 1, none⟩ = some (.string key) := (by rw [Lib.cell_of_heap hbo]; rfl); have d2 : w1.cell? ⟨w.heap.size, 2, none⟩ = some (.string val) := (by rw [Lib.cell_of_heap hbo]; rfl); have d3 : w1.cell? ⟨w.heap.size, 3, none⟩ = some (.int .u64 n) := (by rw [Lib.cell_of_heap hbo]; rfl); have d4 : w1.cell? ⟨w.heap.size, 4, none⟩ = some (.string lo) := (by rw [Lib.cell_of_heap hbo]; rfl); have d5 : w1.cell? ⟨w.heap.size, 5, none⟩ = some (.string hi) := (by rw [Lib.cell_of_heap hbo]; rfl); have hxl := lt_of_row hbo; have HBO := Lib.hid hbo; have HBA := Lib.hid hba; have HBC := Lib.hid hbc; have HB1 := Lib.hid (below_next (below_alloc (below_alloc (below_alloc (Below.refl _ w)))) hb1); skip; clear hb1 hbo hba hbc)
    | (go_at_call 65; (with_reducible refine (HU.out _ HB1.out).mono ?_); rintro e w2 ⟨rfl, hr2, hf2⟩; have hs1 := HB1.out.size; have hbc2 : RBox (w.heap.size + 2) w2 := hf2.row (by omega) HBC.out; have hba2 : RBox (w.heap.size + 1) w2 := hf2.row (by omega) HBA.out; have z0 : w2.cell? ⟨w.heap.size + 2, 0, none⟩ = some (.int .i64 0) := (by rw [Lib.cell_of_heap hbc2]; rfl); have y0 := Lib.frozen_of_heap hbc2 0; have HRC := Lib.hid (setCell_row hbc2 0 (.int .i64 E)); have hfc : Fr (fun q => q = w.heap.size + 2) w2 (w2.setCell ⟨w.heap.size + 2, 0, none⟩ (.int .i64 E)) := (Fr.refl (fun q => q = w.heap.size + 2) w2).setCell (p := ⟨w.heap.size + 2, 0, none⟩) (fun _ => rfl) _; have HFC := Lib.hid hfc; have HBA2 := Lib.hid (hfc.row (by omega) hba2); have HBC2 := Lib.hid hbc2; have HR2 := Lib.hid hr2; have HF2 := Lib.hid hf2; clear hfc hbc2 hba2 hr2 hf2)
    | (refine wpList_load_mid rfl 76 (Operand.tmp 5) rfl (w.heap.size + 2) 0 rfl (refC E false ⟨#[]⟩ (.slice none 0 0) 0 0) _ (row_range HRC.out) Tryz.underlying76 rfl HMS.out ?_)
    | (refine wpList_store_row rfl 76 (Operand.tmp 4) (Operand.tmp 108) rfl (w.heap.size + 1) _ (refC E false ⟨#[]⟩ (.slice none 0 0) 0 0) _ rfl rfl HBA2.out rfl HMS.out (refans_all _ _ _ _ _ _ _ _) ?_; intro w9 hr9 hf9; have HR9 := Lib.hid hr9; have HF9 := Lib.hid hf9; clear hr9 hf9))
  refine bodyPost_ret (v := refV E false ⟨#[]⟩ (.slice none 0 0) 0 0) (results_cell (a := 4) (t := 76) (ad := ⟨w.heap.size + 1, 0, none⟩) Tryz.results36 rfl (load_row _ HR9.out _ Tryz.underlying76 rfl HMS.out)) rfl ?_
  exact refdo_done hbul HB1.out HR2.out HF2.out (Nat.le_succ _) HBC2.out HFC.out HBA2.out HF9.out rfl (elems_nil _ _)
set_option maxHeartbeats 2000000 in
set_option maxRecDepth 100000 in
theorem refDo_add (bu : Nat) (c : Int) (ls : List (List Itm)) (l : List Itm) (key val : ByteArray) (n : Int) (lo hi : ByteArray) (w : World) (h : RefAt w bu c ls) (hl : ls[ls.length - 1]? = some l) (hn : ls.length ≤ 90000) (hln : l.length ≤ 60000) (hri : Rises l) (hok : ∀ y ∈ l, y.ok) (n0 : 0 ≤ n) (n1 : n < 18446744073709551616) (ho : isOrd ⟨3, key, val, n, lo, hi⟩ = true) :
    Calls Tryz.prog 36 #[.pointer (some ⟨bu, 0, none⟩), (Ord.mk 3 key val n lo hi).v] w (RefDo bu c (errU c l ⟨3, key, valB n.toNat⟩, false, ⟨#[]⟩, [], 0, 0) (rowsU c ls l ⟨3, key, valB n.toNat⟩) w) := by
  have hia := fun W => refIs_any ⟨3, key, val, n, lo, hi⟩ W
  rw [ho] at hia
  have hv := fun W => refValue_any n.toNat W (by omega)
  rw [Int.toNat_of_nonneg n0, ← show valB n.toNat = ⟨(valBytes n.toNat).toArray⟩ from rfl] at hv
  generalize valB n.toNat = V at *
  have hup := fun W (hW : Below w.heap.size w W) => refUpdate_any bu c ls l ⟨3, key, V⟩ W (h.below hW) hl hn hln hri hok
  rw [Ord.v_def] at hia ⊢
  rw [Mg.v_def] at hup
  generalize errU c l ⟨3, key, V⟩ = E at *
  generalize rowsU c ls l ⟨3, key, V⟩ = R at *
  dsimp only at hup hia ⊢
  have hbul := h.lt
  have HI := Lib.hid hia
  have HV := Lib.hid hv
  have HU := Lib.hid hup
  have HMS := Lib.hid refans_size
  clear hia hup ho h hl hri hok hv n0 n1
  go_enter Tryz.func36, Tryz.ntmps36
  go_wp2_with (go_at_call 64; (with_reducible refine (HI.out _).mono ?_); rintro e w1 ⟨rfl, hb1⟩; have hbo : QBox w.heap.size ⟨3, key, val, n, lo, hi⟩ w1 := box_below (((Fr.refl (fun _ => False) _).alloc _).row id (((Fr.refl (fun _ => False) _).alloc _).row id (heap_alloc_new w _))) hb1; have hba : RBox (w.heap.size + 1) w1 := box_below (((Fr.refl (fun _ => False) _).alloc _).row id (heap_new_at (by simp))) hb1; have hbc : RBox (w.heap.size + 2) w1 := box_below (heap_new_at (by simp)) hb1; have d0 : w1.cell? ⟨w.heap.size, 0, none⟩ = some (.int .i64 3) := (by rw [Lib.cell_of_heap hbo]; rfl); have d1 : w1.cell? ⟨w.heap.size, 1, none⟩ = some (.string key) := (by rw [Lib.cell_of_heap hbo]; rfl); have d2 : w1.cell? ⟨w.heap.size, 2, none⟩ = some (.string val) := (by rw [Lib.cell_of_heap hbo]; rfl); have d3 : w1.cell? ⟨w.heap.size, 3, none⟩ = some (.int .u64 n) := (by rw [Lib.cell_of_heap hbo]; rfl); have d4 : w1.cell? ⟨w.heap.size, 4, none⟩ = some (.string lo) := (by rw [Lib.cell_of_heap hbo]; rfl); have d5 : w1.cell? ⟨w.heap.size, 5, none⟩ = some (.string hi) := (by rw [Lib.cell_of_heap hbo]; rfl); have hxl := lt_of_row hbo; have HBO := Lib.hid hbo; have HBA := Lib.hid hba; have HBC := Lib.hid hbc; have HB1 := Lib.hid (below_next (below_alloc (below_alloc (below_alloc (Below.refl _ w)))) hb1); skip; clear hb1 hbo hba hbc)
  have hs1 := HB1.out.size
  refine rg_start (n := 10) (fun w' => w'.cell? ⟨w.heap.size, 1, none⟩ = some (.string key) ∧ w'.cell? ⟨w.heap.size, 3, none⟩ = some (.int .u64 n) ∧ w.heap.size < w'.heap.size) #[false, false, false, false, false, false, false, false, false, false] (by kernel_rfl) rfl rfl ⟨d1, d3, hxl⟩ (fun hHeld => ?_)
  refine rg_take (i := 0) (N := (some 43)) (v := ?_) (a' := ?_) #[true, false, false, false, false, false, false, false, false, false] rfl rfl (by kernel_rfl) (fun _ _ _ h => h) (by rfl) ?_ hHeld ?_ ?_
  rotate_left 2
  · rintro w' ⟨s0, s1, s2⟩
    go_simp
    try with_reducible rfl
  · simp only [Act.put, List.setIfInBounds_toArray, List.set_cons_zero, List.set_cons_succ]
    rfl
  refine rg_take (i := 1) (N := (some 44)) (v := ?_) (a' := ?_) #[true, true, false, false, false, false, false, false, false, false] rfl rfl (by kernel_rfl) (fun _ _ _ h => h) (by rfl) ?_ hHeld ?_ ?_
  rotate_left 2
  · rintro w' ⟨s0, s1, s2⟩
    go_simp
    try with_reducible rfl
  · simp only [Act.put, List.setIfInBounds_toArray, List.set_cons_zero, List.set_cons_succ]
    rfl
  refine rg_take (i := 2) (N := (some 45)) (v := ?_) (a' := ?_) #[true, true, true, false, false, false, false, false, false, false] rfl rfl (by kernel_rfl) (fun _ _ _ h => h) (by rfl) ?_ hHeld ?_ ?_
  rotate_left 2
  · rintro w' ⟨s0, s1, s2⟩
    go_simp
    try with_reducible rfl
  · simp only [Act.put, List.setIfInBounds_toArray, List.set_cons_zero, List.set_cons_succ]
    rfl
  refine rg_take (i := 3) (N := (some 46)) (v := ?_) (a' := ?_) #[true, true, true, true, false, false, false, false, false, false] rfl rfl (by kernel_rfl) (fun _ _ _ h => h) (by rfl) ?_ hHeld ?_ ?_
  rotate_left 2
  · rintro w' ⟨s0, s1, s2⟩
    go_simp
    try with_reducible rfl
  · simp only [Act.put, List.setIfInBounds_toArray, List.set_cons_zero, List.set_cons_succ]
    rfl
  refine rg_take (i := 4) (N := (some 47)) (v := ?_) (a' := ?_) #[true, true, true, true, true, false, false, false, false, false] rfl rfl (by kernel_rfl) (fun _ _ _ h => h) (by rfl) ?_ hHeld ?_ ?_
  rotate_left 2
  · rintro w' ⟨s0, s1, s2⟩
    go_simp
    try with_reducible rfl
  · simp only [Act.put, List.setIfInBounds_toArray, List.set_cons_zero, List.set_cons_succ]
    rfl
  refine rg_one (i := 5) #[true, true, true, true, true, true, false, false, false, false] rfl (by kernel_rfl) (by rfl) (fun K hK => ?_)
  obtain ⟨s0, s1, s2⟩ := hHeld
  repeat go_step
  ((with_reducible refine (HV.out _).mono ?_); rintro e w2 ⟨rfl, hb2⟩; have hbc2 : RBox (w.heap.size + 2) w2 := box_below (w := w1.drew) HBC.out hb2; have hba2 : RBox (w.heap.size + 1) w2 := box_below (w := w1.drew) HBA.out hb2; have hbw2 := below_next HB1.out.drew hb2)
  try dsimp only
  refine hK.out _ _ ?_ (fun hHeld => ?_)
  · exact ⟨keep_cell hb2 s2 s0, keep_cell hb2 s2 s1, keep_lt hb2 s2⟩
  clear hK K
  clear s0 s1 s2
  refine rg_take (i := 6) (N := (some 49)) (v := ?_) (a' := ?_) #[true, true, true, true, true, true, true, false, false, false] rfl rfl (by kernel_rfl) (fun _ _ _ h => h) (by rfl) ?_ hHeld ?_ ?_
  rotate_left 2
  · rintro w' ⟨s0, s1, s2⟩
    go_simp
    try with_reducible rfl
  · simp only [Act.put, List.setIfInBounds_toArray, List.set_cons_zero, List.set_cons_succ]
    rfl
  refine rg_one (i := 7) #[true, true, true, true, true, true, true, true, false, false] rfl (by kernel_rfl) (by rfl) (fun K hK => ?_)
  obtain ⟨s0, s1, s2⟩ := hHeld
  repeat go_step
  ((with_reducible refine (HU.out _ hbw2).mono ?_); rintro e w3 ⟨rfl, hr3, hf3⟩; have hbc3 : RBox (w.heap.size + 2) w3 := hf3.row (by omega) hbc2; have hba3 : RBox (w.heap.size + 1) w3 := hf3.row (by omega) hba2; have z0 : w3.cell? ⟨w.heap.size + 2, 0, none⟩ = some (.int .i64 0) := (by rw [Lib.cell_of_heap hbc3]; rfl); have y0 := Lib.frozen_of_heap hbc3 0; have HRC := Lib.hid (setCell_row hbc3 0 (.int .i64 E)); have hfc : Fr (fun q => q = w.heap.size + 2) w3 (w3.setCell ⟨w.heap.size + 2, 0, none⟩ (.int .i64 E)) := (Fr.refl (fun q => q = w.heap.size + 2) w3).setCell (p := ⟨w.heap.size + 2, 0, none⟩) (fun _ => rfl) _; have HFC := Lib.hid hfc; have HBA2 := Lib.hid (hfc.row (by omega) hba3); have HBC2 := Lib.hid hbc3; have HR2 := Lib.hid hr3; have HF2 := Lib.hid hf3; have HBW2 := Lib.hid hbw2)
  try dsimp only
  refine hK.out _ _ ?_ (fun hHeld => ?_)
  · exact ⟨hf3.cell s2 (by omega) s0, hf3.cell s2 (by omega) s1, Nat.lt_of_lt_of_le s2 hf3.size⟩
  clear hK K
  clear s0 s1 s2
  refine rg_take (i := 8) (N := (some 51)) (v := ?_) (a' := ?_) #[true, true, true, true, true, true, true, true, true, false] rfl rfl (by kernel_rfl) (fun _ _ _ h => h) (by rfl) ?_ hHeld ?_ ?_
  rotate_left 2
  · rintro w' ⟨s0, s1, s2⟩
    go_simp
    try with_reducible rfl
  · simp only [Act.put, List.setIfInBounds_toArray, List.set_cons_zero, List.set_cons_succ]
    rfl
  refine rg_one (i := 9) #[true, true, true, true, true, true, true, true, true, true] rfl (by kernel_rfl) (by rfl) (fun K hK => ?_)
  obtain ⟨s0, s1, s2⟩ := hHeld
  repeat go_step
  refine hK.out _ _ ?_ (fun hHeld => ?_)
  · exact ⟨hfc.cell s2 (by omega) s0, hfc.cell s2 (by omega) s1, Nat.lt_of_lt_of_le s2 hfc.size⟩
  clear hK K
  clear s0 s1 s2
  refine rg_done (by kernel_rfl) ?_
  clear hHeld hfc hbc2 hba2 hbc3 hba3 hr3 hf3 hbw2 hb2
  go_wp2_with (first
    | (refine wpList_load_mid rfl 76 (Operand.tmp 5) rfl (w.heap.size + 2) 0 rfl (refC E false ⟨#[]⟩ (.slice none 0 0) 0 0) _ (row_range HRC.out) Tryz.underlying76 rfl HMS.out ?_)
    | (refine wpList_store_row rfl 76 (Operand.tmp 4) (Operand.tmp 108) rfl (w.heap.size + 1) _ (refC E false ⟨#[]⟩ (.slice none 0 0) 0 0) _ rfl rfl HBA2.out rfl HMS.out (refans_all _ _ _ _ _ _ _ _) ?_; intro w9 hr9 hf9; have HR9 := Lib.hid hr9; have HF9 := Lib.hid hf9; clear hr9 hf9))
  refine bodyPost_ret (v := refV E false ⟨#[]⟩ (.slice none 0 0) 0 0) (results_cell (a := 4) (t := 76) (ad := ⟨w.heap.size + 1, 0, none⟩) Tryz.results36 rfl (load_row _ HR9.out _ Tryz.underlying76 rfl HMS.out)) rfl ?_
  exact refdo_done hbul HBW2.out HR2.out HF2.out (Nat.le_succ _) HBC2.out HFC.out HBA2.out HF9.out rfl (elems_nil _ _)
end Go.Proofs.YtdfgdnaejnngoaaGreat
namespace Go.Proofs.YtdfgdnaejnngoaaGreat
open Go.RowKit
theorem row_there {w4 : World} {s : Nat} (h : RBox s w4) : w4.there s 4 5 := fun j hj => by
  refine ⟨?_, Lib.frozen_of_heap h _⟩
  rw [Lib.cell_of_heap h]
  rcases j with _ | _ | _ | _ | _ | j
  · rfl
  · rfl
  · rfl
  · rfl
  · rfl
  · omega
theorem arr5_all (a b : Int) : (#[Value.int .i64 a, Value.int .i64 b, .int .i64 0, .int .i64 0, .int .i64 0] : Array Value).all (·.oneCell') = true := by
  rw [Array.all_eq_true_iff_forall_mem]
  intro v hv
  simp at hv
  rcases hv with rfl | rfl | rfl <;> rfl
theorem arr5_size : (Tryz.prog.info? 74).map (·.size) = some 5 := by kernel_rfl
theorem stat_row {w4 : World} {s : Nat} (h : RBox s w4) (a b : Int) : (((((w4.setCell ⟨s, 4, none⟩ (.int .i64 a)).setCell ⟨s, 5, none⟩ (.int .i64 b)).setCell ⟨s, 6, none⟩ (.int .i64 0)).setCell ⟨s, 7, none⟩ (.int .i64 0)).setCell ⟨s, 8, none⟩ (.int .i64 0)).heap[s]? = some (.cells (refC 0 false ⟨#[]⟩ (.slice none 0 0) a b).toArray 76 (0, 0)) ∧ Fr (fun k => k = s) w4 (((((w4.setCell ⟨s, 4, none⟩ (.int .i64 a)).setCell ⟨s, 5, none⟩ (.int .i64 b)).setCell ⟨s, 6, none⟩ (.int .i64 0)).setCell ⟨s, 7, none⟩ (.int .i64 0)).setCell ⟨s, 8, none⟩ (.int .i64 0)) := by
  refine ⟨setCell_row (setCell_row (setCell_row (setCell_row (setCell_row h 4 (.int .i64 a)) 5 (.int .i64 b)) 6 (.int .i64 0)) 7 (.int .i64 0)) 8 (.int .i64 0), ?_⟩
  exact (((((Fr.refl (fun k => k = s) w4).setCell (p := ⟨s, 4, none⟩) (fun _ => rfl) _).setCell (p := ⟨s, 5, none⟩) (fun _ => rfl) _).setCell (p := ⟨s, 6, none⟩) (fun _ => rfl) _).setCell (p := ⟨s, 7, none⟩) (fun _ => rfl) _).setCell (p := ⟨s, 8, none⟩) (fun _ => rfl) _
theorem stat_store {ops : Array Oper} {rest : List Oper} {op : Oper} {a : Act} {w : World} {Q : Exit → Act → World → Prop} (hgd : op.guard = none) (x y : Operand) (ho : op.op = .store 74 x y) (s : Nat) (m n : Int) (hx : a.eval x = .pointer (some ⟨s, 4, none⟩)) (hy : a.eval y = .agg #[.int .i64 m, .int .i64 n, .int .i64 0, .int .i64 0, .int .i64 0]) (hrow : RBox s w)
    (h : ∀ w', w'.heap[s]? = some (.cells (refC 0 false ⟨#[]⟩ (.slice none 0 0) m n).toArray 76 (0, 0)) → Fr (fun k => k = s) w w' → wpList Tryz.prog ops Q rest (a.put op.dst undef) w') : wpList Tryz.prog ops Q (op :: rest) a w :=
  wpList_store_mid hgd _ x y ho s 4 _ hx hy (row_there hrow) arr5_size (arr5_all _ _) (h _ (stat_row hrow m n).1 (stat_row hrow m n).2)
set_option maxHeartbeats 2000000 in
set_option maxRecDepth 100000 in
theorem refDo_stat (bu : Nat) (c : Int) (ls : List (List Itm)) (l : List Itm) (key val : ByteArray) (n : Int) (lo hi : ByteArray) (w : World) (h : RefAt w bu c ls) (hl : ls[ls.length - 1]? = some l) (hn : ls.length ≤ 90000) (hln : l.length ≤ 60000) (hok : ∀ y ∈ l, y.ok) (ho : isOrd ⟨8, key, val, n, lo, hi⟩ = true) :
    Calls Tryz.prog 36 #[.pointer (some ⟨bu, 0, none⟩), (Ord.mk 8 key val n lo hi).v] w (RefDo bu c (0, false, ⟨#[]⟩, [], l.length, sumW l) ls w) := by
  have hia := fun W => refIs_any ⟨8, key, val, n, lo, hi⟩ W
  rw [ho] at hia
  have hnow := fun W (hW : Below w.heap.size w W) => refNow_any bu c ls l W (h.below hW) hl hn
  have hwt := fun W A cp h1 => refWeight_any A cp l W h1 hok (by omega)
  generalize sumW l = S at *
  rw [Ord.v_def] at hia ⊢
  dsimp only at hia ⊢
  have hbul := h.lt
  have HI := Lib.hid hia
  have HN := Lib.hid hnow
  have HWT := Lib.hid hwt
  have HRF := Lib.hid h
  have HMS := Lib.hid refans_size
  clear hia ho h hl hok hnow hwt
  go_enter Tryz.func36, Tryz.ntmps36
  go_wp2_with (first
    | (go_at_call 64; (with_reducible refine (HI.out _).mono ?_); rintro e w1 ⟨rfl, hb1⟩; have hbo : QBox w.heap.size ⟨8, key, val, n, lo, hi⟩ w1 := box_below (((Fr.refl (fun _ => False) _).alloc _).row id (((Fr.refl (fun _ => False) _).alloc _).row id (heap_alloc_new w _))) hb1; have hba : RBox (w.heap.size + 1) w1 := box_below (((Fr.refl (fun _ => False) _).alloc _).row id (heap_new_at (by simp))) hb1; have hbc : RBox (w.heap.size + 2) w1 := box_below (heap_new_at (by simp)) hb1; have d0 : w1.cell? ⟨w.heap.size, 0, none⟩ = some (.int .i64 8) := (by rw [Lib.cell_of_heap hbo]; rfl); have d1 : w1.cell? ⟨w.heap.size, 1, none⟩ = some (.string key) := (by rw [Lib.cell_of_heap hbo]; rfl); have d2 : w1.cell? ⟨w.heap.size, 2, none⟩ = some (.string val) := (by rw [Lib.cell_of_heap hbo]; rfl); have d3 : w1.cell? ⟨w.heap.size, 3, none⟩ = some (.int .u64 n) := (by rw [Lib.cell_of_heap hbo]; rfl); have d4 : w1.cell? ⟨w.heap.size, 4, none⟩ = some (.string lo) := (by rw [Lib.cell_of_heap hbo]; rfl); have d5 : w1.cell? ⟨w.heap.size, 5, none⟩ = some (.string hi) := (by rw [Lib.cell_of_heap hbo]; rfl); have hxl := lt_of_row hbo; have HBO := Lib.hid hbo; have HBA := Lib.hid hba; have HBC := Lib.hid hbc; have HB1 := Lib.hid (below_next (below_alloc (below_alloc (below_alloc (Below.refl _ w)))) hb1); skip; clear hb1 hbo hba hbc)
    | (go_at_call 41; (with_reducible refine (HWT.out _ _ _ HE3.out).mono ?_); rintro e w4 ⟨rfl, hb4⟩; have hb14 := below_next HB13.out hb4; have hbc4 : RBox (w.heap.size + 2) w4 := box_below HBC.out hb14; have hba4 : RBox (w.heap.size + 1) w4 := box_below HBA.out hb14; have HBA4 := Lib.hid hba4; have HBC4 := Lib.hid hbc4; have HB4 := Lib.hid (below_next HB1.out hb14); clear hb4 hb14 hbc4 hba4)
    | (refine stat_store rfl (Operand.tmp 107) (Operand.tmp 106) rfl (w.heap.size + 2) l.length S rfl rfl HBC4.out ?_; intro w5 hr5 hf5; have HRC := Lib.hid hr5; have HBA2 := Lib.hid (hf5.row (by omega) HBA4.out); have HFC := Lib.hid hf5; clear hr5 hf5)
    | (go_at_call 40; (with_reducible refine (HN.out _ (below_next HB1.out HB2.out)).mono ?_); rintro e w3 ⟨A3, c3, rfl, hel3, hb3⟩; have HE3 := Lib.hid hel3; have HB13 := Lib.hid (below_next HB2.out hb3); clear hel3 hb3)
    | (go_at_call 40; (with_reducible refine (HN.out _ HB1.out).mono ?_); rintro e w2 ⟨A2, c2, rfl, _, hb2⟩; have HB2 := Lib.hid hb2; clear hb2)
    | (refine wpList_load_mid rfl 76 (Operand.tmp 5) rfl (w.heap.size + 2) 0 rfl (refC 0 false ⟨#[]⟩ (.slice none 0 0) l.length S) _ (row_range HRC.out) Tryz.underlying76 rfl HMS.out ?_)
    | (refine wpList_store_row rfl 76 (Operand.tmp 4) (Operand.tmp 108) rfl (w.heap.size + 1) _ (refC 0 false ⟨#[]⟩ (.slice none 0 0) l.length S) _ rfl rfl HBA2.out rfl HMS.out (refans_all _ _ _ _ _ _ _ _) ?_; intro w9 hr9 hf9; have HR9 := Lib.hid hr9; have HF9 := Lib.hid hf9; clear hr9 hf9))
  refine bodyPost_ret (v := refV 0 false ⟨#[]⟩ (.slice none 0 0) l.length S) (results_cell (a := 4) (t := 76) (ad := ⟨w.heap.size + 1, 0, none⟩) Tryz.results36 rfl (load_row _ HR9.out _ Tryz.underlying76 rfl HMS.out)) rfl ?_
  exact refdo_done hbul HB4.out (HRF.out.below HB4.out) (Fr.refl _ _) (Nat.le_succ _) HBC4.out HFC.out HBA2.out HF9.out rfl (elems_nil _ _)
end Go.Proofs.YtdfgdnaejnngoaaGreat
namespace Go.Proofs.YtdfgdnaejnngoaaGreat
open Go.RowKit
def Ord.small (o : Ord) : Prop := o.key.size ≤ 512 ∧ o.val.size ≤ 512 ∧ o.lo.size ≤ 512 ∧ o.hi.size ≤ 512
def GreatRes (os : List Ord) (w : World) (e : Ending) (w' : World) : Prop := ∃ b : Bool, e = .returned (.bool b) ∧ (b = false → os.length ≤ 150 ∧ ∀ o ∈ os, o.small) ∧ Below w.heap.size w w'
set_option maxHeartbeats 1000000 in
set_option maxRecDepth 100000 in
theorem great_any (A : Option Addr) (cap : Nat) (os : List Ord) (w : World) (hel : Elems w A 6 (os.map Ord.cells)) :
    Calls Tryz.prog 20 #[.slice A os.length cap] w (GreatRes os w) := by
  have HEL := Lib.hid hel
  clear hel
  go_enter Tryz.func20, Tryz.ntmps20
  go_wp2
  go_loopw [3, 4] (fun i _ wr => ∃ k : Nat, i = .int .i64 k ∧ k ≤ os.length ∧ k ≤ 151 ∧ (∀ o ∈ os.take k, o.small) ∧ Below w.heap.size w wr) (fun i _ _ => 152 - (intOf i).toNat)
  case atStart => exact ⟨0, rfl, Nat.zero_le _, by omega, by simp, (by repeat (first | assumption | exact Below.refl _ _ | (refine below_step (w := ?_) ?_ ?_ ?_; rotate_left 2; assumption) | refine Below.drew ?_ | refine below_drewN ?_ _ | refine Below.alloc ?_ ?_ _ | refine Below.setCell ?_ ?_ _ | (focus (simp; done)) | (focus (simp; omega)) | omega))⟩
  case round =>
    obtain ⟨k, rfl, hk, hk2, hsm, hbel⟩ := hrel
    by_cases hkl : k < os.length
    · have hkI : (k : Int) < (os.length : Int) := by omega
      by_cases hk3 : k < 151
      · have hk3I : (k : Int) < 151 := by omega
        obtain ⟨o, ho⟩ := get_lt hkl
        obtain ⟨b, off, rfl, hblt, d0, d1, d2, d3, d4, d5⟩ := ord_row (HEL.out.below hbel) ho
        have hsn := take_snocR ho
        have HB := Lib.hid hbel
        have HSM := Lib.hid hsm
        have HSN := Lib.hid hsn
        clear hbel hsm hsn ho
        obtain ⟨kind, key, val, n, lo, hi⟩ := o
        dsimp only at d0 d1 d2 d3 d4 d5
        by_cases h1 : (512 : Int) < (key.size : Int)
        · go_wp2
          go_ret
          exact ⟨true, rfl, (fun h => by cases h), below_alloc HB.out⟩
        by_cases h2 : (512 : Int) < (val.size : Int)
        · go_wp2
          go_ret
          exact ⟨true, rfl, (fun h => by cases h), below_alloc HB.out⟩
        by_cases h3 : (512 : Int) < (lo.size : Int)
        · go_wp2
          go_ret
          exact ⟨true, rfl, (fun h => by cases h), below_alloc HB.out⟩
        by_cases h4 : (512 : Int) < (hi.size : Int)
        · go_wp2
          go_ret
          exact ⟨true, rfl, (fun h => by cases h), below_alloc HB.out⟩
        have hs : (Ord.mk kind key val n lo hi).small := ⟨by show key.size ≤ 512; omega, by show val.size ≤ 512; omega, by show lo.size ≤ 512; omega, by show hi.size ≤ 512; omega⟩
        have HS := Lib.hid hs
        clear hs
        go_wp2
        refine ⟨⟨k + 1, by go_num, by omega, by omega, fun o ho => ?_, below_alloc HB.out⟩, ?_⟩
        · rw [HSN.out] at ho
          rcases List.mem_append.1 ho with ho | ho
          · exact HSM.out o ho
          · simp at ho
            subst ho
            exact HS.out
        · simp [intOf]
          omega
      · obtain rfl : k = 151 := by omega
        have h150 : (150 : Int) < (os.length : Int) := by omega
        have e0 : ((151 : Nat) : Int) = 151 := rfl
        rw [e0]
        have HB := Lib.hid hbel
        clear hbel hsm e0
        go_wp2
        go_ret
        exact ⟨true, rfl, (fun h => by cases h), HB.out⟩
    · obtain rfl : k = os.length := by omega
      rw [List.take_length] at hsm
      have HB := Lib.hid hbel
      have HSM := Lib.hid hsm
      clear hbel hsm
      go_wp2
      go_ret
      exact ⟨_, rfl, (fun h => ⟨by have := of_decide_eq_false h; omega, HSM.out⟩), HB.out⟩
end Go.Proofs.YtdfgdnaejnngoaaGreat
namespace Go.Proofs.YtdfgdnaejnngoaaGreat
open Go.RowKit
/-! grangerlaw33.awake. -/
theorem klt_data (a b : ByteArray) : klt a b = Op.bytesLess a.data.toList b.data.toList := by
  unfold klt
  rw [ByteArray.toList_eq, ByteArray.toList_eq]
def kA : ByteArray := ⟨#[97]⟩
def kB : ByteArray := ⟨#[98]⟩
def os0 : List Ord := [⟨1, ⟨#[97]⟩, ⟨#[]⟩, 0, ⟨#[]⟩, ⟨#[]⟩⟩, ⟨1, ⟨#[98]⟩, ⟨#[]⟩, 0, ⟨#[]⟩, ⟨#[]⟩⟩, ⟨2, ⟨#[97]⟩, ⟨#[]⟩, 0, ⟨#[]⟩, ⟨#[]⟩⟩, ⟨3, ⟨#[97]⟩, ⟨#[]⟩, 0, ⟨#[]⟩, ⟨#[]⟩⟩, ⟨4, ⟨#[98]⟩, ⟨#[]⟩, 0, ⟨#[]⟩, ⟨#[]⟩⟩]
theorem os0_alive : aliveL 0 os0 = [1, 3] := by kernel_rfl
theorem os0_prune : (pruneL os0).length = 2 := by rw [← alive_len os0 0, os0_alive]; rfl
theorem ltAB : klt ⟨#[97]⟩ ⟨#[98]⟩ = true := by rw [klt_data]; rfl
theorem ltBA : klt ⟨#[98]⟩ ⟨#[97]⟩ = false := by rw [klt_data]; rfl
theorem st1 : stepI [] ⟨1, ⟨#[97]⟩, ⟨#[]⟩, 0, ⟨#[]⟩, ⟨#[]⟩⟩ = [⟨⟨#[97]⟩, ⟨#[]⟩⟩] := by kernel_rfl
theorem st2 : stepI [⟨⟨#[97]⟩, ⟨#[]⟩⟩] ⟨1, ⟨#[98]⟩, ⟨#[]⟩, 0, ⟨#[]⟩, ⟨#[]⟩⟩ = [⟨⟨#[97]⟩, ⟨#[]⟩⟩, ⟨⟨#[98]⟩, ⟨#[]⟩⟩] := by
  have : stepI [⟨⟨#[97]⟩, ⟨#[]⟩⟩] ⟨1, ⟨#[98]⟩, ⟨#[]⟩, 0, ⟨#[]⟩, ⟨#[]⟩⟩ = insR ⟨#[98]⟩ ⟨#[]⟩ [⟨⟨#[97]⟩, ⟨#[]⟩⟩] := by kernel_rfl
  rw [this, insR, if_pos ltAB]
  rfl
theorem st3 : stepI [⟨⟨#[97]⟩, ⟨#[]⟩⟩, ⟨⟨#[98]⟩, ⟨#[]⟩⟩] ⟨2, ⟨#[97]⟩, ⟨#[]⟩, 0, ⟨#[]⟩, ⟨#[]⟩⟩ = [⟨⟨#[98]⟩, ⟨#[]⟩⟩] := by kernel_rfl
theorem st4 : stepI [⟨⟨#[98]⟩, ⟨#[]⟩⟩] ⟨3, ⟨#[97]⟩, ⟨#[]⟩, 0, ⟨#[]⟩, ⟨#[]⟩⟩ = [⟨⟨#[97]⟩, valB 0⟩, ⟨⟨#[98]⟩, ⟨#[]⟩⟩] := by
  have : stepI [⟨⟨#[98]⟩, ⟨#[]⟩⟩] ⟨3, ⟨#[97]⟩, ⟨#[]⟩, 0, ⟨#[]⟩, ⟨#[]⟩⟩ = insR ⟨#[97]⟩ (valB 0) [⟨⟨#[98]⟩, ⟨#[]⟩⟩] := by kernel_rfl
  rw [this, insR, if_neg (by rw [ltBA]; decide)]
  rfl
theorem os0_items : itemsO os0 = [⟨⟨#[97]⟩, valB 0⟩, ⟨⟨#[98]⟩, ⟨#[]⟩⟩] := by
  unfold itemsO os0
  rw [List.foldl_cons, List.foldl_cons, List.foldl_cons, List.foldl_cons, List.foldl_cons, st1, st2, st3, st4]
  rfl
theorem cap64 : pCap 64 = 4084 := by kernel_rfl
theorem er1 : errO 4084 [] ⟨1, ⟨#[97]⟩, ⟨#[]⟩, 0, ⟨#[]⟩, ⟨#[]⟩⟩ = 0 := by kernel_rfl
theorem er2 : errO 4084 [⟨⟨#[97]⟩, ⟨#[]⟩⟩] ⟨1, ⟨#[98]⟩, ⟨#[]⟩, 0, ⟨#[]⟩, ⟨#[]⟩⟩ = 0 := by
  refine errO_mk (m := ⟨1, ⟨#[98]⟩, ⟨#[]⟩⟩) (by kernel_rfl) (by kernel_rfl) (by kernel_rfl) (fun h => by cases h) ?_
  have : doL [⟨⟨#[97]⟩, ⟨#[]⟩⟩] ⟨1, ⟨#[98]⟩, ⟨#[]⟩⟩ = stepI [⟨⟨#[97]⟩, ⟨#[]⟩⟩] ⟨1, ⟨#[98]⟩, ⟨#[]⟩, 0, ⟨#[]⟩, ⟨#[]⟩⟩ := by kernel_rfl
  rw [this, st2]
  decide
theorem er3 : errO 4084 [⟨⟨#[97]⟩, ⟨#[]⟩⟩, ⟨⟨#[98]⟩, ⟨#[]⟩⟩] ⟨2, ⟨#[97]⟩, ⟨#[]⟩, 0, ⟨#[]⟩, ⟨#[]⟩⟩ = 0 := by kernel_rfl
theorem er4 : errO 4084 [⟨⟨#[98]⟩, ⟨#[]⟩⟩] ⟨3, ⟨#[97]⟩, ⟨#[]⟩, 0, ⟨#[]⟩, ⟨#[]⟩⟩ = 0 := by
  refine errO_mk (m := ⟨3, ⟨#[97]⟩, valB 0⟩) (by kernel_rfl) (by kernel_rfl) (by kernel_rfl) (fun _ => by kernel_rfl) ?_
  have : doL [⟨⟨#[98]⟩, ⟨#[]⟩⟩] ⟨3, ⟨#[97]⟩, valB 0⟩ = stepI [⟨⟨#[98]⟩, ⟨#[]⟩⟩] ⟨3, ⟨#[97]⟩, ⟨#[]⟩, 0, ⟨#[]⟩, ⟨#[]⟩⟩ := by kernel_rfl
  rw [this, st4]
  decide
theorem er5 : errO 4084 [⟨⟨#[97]⟩, valB 0⟩, ⟨⟨#[98]⟩, ⟨#[]⟩⟩] ⟨4, ⟨#[98]⟩, ⟨#[]⟩, 0, ⟨#[]⟩, ⟨#[]⟩⟩ = 0 := by kernel_rfl
theorem os0_plain : plainL (pCap 64) [] os0 = true := by
  rw [cap64]
  unfold os0
  rw [plainL, plainL, plainL, plainL, plainL, plainL, er1, st1, er2, st2, er3, st3, er4, st4, er5]
  rfl
theorem os0_okN : okN os0 := by
  intro o ho
  simp [os0] at ho
  rcases ho with rfl | rfl | rfl | rfl | rfl <;> exact ⟨by decide, by decide⟩
theorem os0_okK : okK os0 := by
  intro o ho
  simp [os0] at ho
  rcases ho with rfl | rfl | rfl | rfl | rfl <;> (show ByteArray.size _ ≤ 512; decide)
set_option maxHeartbeats 2000000 in
set_option maxRecDepth 100000 in
theorem awake33_any (w : World) : Calls Tryz.prog 19 #[] w fun e w' => e = .returned (.bool true) ∧ Below w.heap.size w w' := by
  have hel : ∀ W : World, Below w.heap.size w w → W.heap[w.heap.size]? = some (.cells (os0.map Ord.cells).flatten.toArray 39 (0, 0)) → Elems W (some ⟨w.heap.size, 0, none⟩) 6 (os0.map Ord.cells) := fun W _ h => Elems.of_block h (fun r hr => by obtain ⟨v, _, rfl⟩ := List.mem_map.1 hr; rfl) rfl
  have hal : ∀ W, W.heap[w.heap.size]? = some (.cells (os0.map Ord.cells).flatten.toArray 39 (0, 0)) → Calls Tryz.prog 23 #[.slice (some ⟨w.heap.size, 0, none⟩) 5 5] W fun e w' => ∃ A' c', e = .returned (.slice A' 2 c') ∧ OwnsN w' W.heap.size (.slice A' 2 c') [1, 3] ∧ Below W.heap.size W w' := fun W h => by
    have := alive_any (some ⟨w.heap.size, 0, none⟩) 5 os0 W (hel W (Below.refl _ w) h) (by decide) os0_okK
    rw [os0_alive] at this
    exact this
  have hpr : ∀ W, W.heap[w.heap.size]? = some (.cells (os0.map Ord.cells).flatten.toArray 39 (0, 0)) → Calls Tryz.prog 25 #[.slice (some ⟨w.heap.size, 0, none⟩) 5 5] W fun e w' => ∃ A' c', e = .returned (.slice A' 2 c') ∧ Below W.heap.size W w' := fun W h => by
    refine (prune_any (some ⟨w.heap.size, 0, none⟩) 5 os0 W (hel W (Below.refl _ w) h) (by decide) os0_okK).mono ?_
    rintro e w' ⟨A', c', rfl, _, hb⟩
    exact ⟨A', c', by rw [os0_prune], hb⟩
  have hit : ∀ W, W.heap[w.heap.size]? = some (.cells (os0.map Ord.cells).flatten.toArray 39 (0, 0)) → Calls Tryz.prog 29 #[.slice (some ⟨w.heap.size, 0, none⟩) 5 5] W fun e w' => ∃ A' c', e = .returned (.slice A' 2 c') ∧ Below W.heap.size W w' := fun W h => by
    refine (pruneItems_any (some ⟨w.heap.size, 0, none⟩) 5 os0 W (hel W (Below.refl _ w) h) (by decide) os0_okN).mono ?_
    rintro e w' ⟨A', c', rfl, _, hb⟩
    exact ⟨A', c', by rw [os0_items]; rfl, hb⟩
  have hpl : ∀ W, W.heap[w.heap.size]? = some (.cells (os0.map Ord.cells).flatten.toArray 39 (0, 0)) → Calls Tryz.prog 26 #[.agg (planA 64), .slice (some ⟨w.heap.size, 0, none⟩) 5 5] W fun e w' => e = .returned (.bool true) ∧ Below W.heap.size W w' := fun W h => by
    have := isPlain_ok 64 (some ⟨w.heap.size, 0, none⟩) 5 os0 W (by decide) (by decide) (hel W (Below.refl _ w) h) (by decide) os0_okN
    rw [os0_plain] at this
    exact this
  have hpn := fun W => isPlain_none ⟨0, 0, 0, 0, 0, 0, 0⟩ (some ⟨w.heap.size, 0, none⟩) 5 5 W (by kernel_rfl)
  rw [Pl.v_def] at hpn
  dsimp only at hpn
  have hcap := fun W => capaOf_ok 64 W (by decide) (by decide)
  have p64 : planA 64 = #[.int .i64 64, .int .i64 8, .int .i64 10, .int .i64 54, .int .i64 26, .int .i64 19, .int .i64 4084] := by kernel_rfl
  rw [p64] at hcap hpl
  have HAL := Lib.hid hal
  have HPR := Lib.hid hpr
  have HIT := Lib.hid hit
  have HPL := Lib.hid hpl
  have HPN := Lib.hid hpn
  have HC := Lib.hid hcap
  clear hal hpr hit hpl hpn hcap hel p64
  go_enter Tryz.func19, Tryz.ntmps19
  go_wp2_with (first
    | (go_at_call 21; (with_reducible refine (HC.out _).mono ?_); rintro e w1 ⟨rfl, hb1⟩; have HX1 := Lib.hid (show w1.heap[w.heap.size]? = some (.cells (os0.map Ord.cells).flatten.toArray 39 (0, 0)) from box_cells hb1); have HB1 := Lib.hid (below_next (below_alloc (Below.refl _ w)) hb1); clear hb1)
    | (go_at_call 23; (with_reducible refine (HAL.out _ (((Fr.refl (fun _ => False) _).alloc _).row id HX1.out)).mono ?_); rintro e w2 ⟨A2, c2, rfl, ho2, hb2⟩; obtain ⟨g2, rfl, _, hgl2, hcap2, hc2⟩ := ho2.row natLen (j := 0) (p := 1) rfl; have q0 : w2.cell? ⟨g2, 0, none⟩ = some (.int .i64 1) := hc2 0 _ rfl; obtain ⟨g3, hg3, _, _, _, hc3⟩ := ho2.row natLen (j := 1) (p := 3) rfl; have q1 : w2.cell? ⟨g2, 1, none⟩ = some (.int .i64 3) := (by cases hg3; exact hc3 0 _ rfl); have hx2 : w2.heap[w.heap.size]? = some (.cells (os0.map Ord.cells).flatten.toArray 39 (0, 0)) := box_below (((Fr.refl (fun _ => False) _).alloc _).row id HX1.out) hb2; have hp2 : w2.heap[w1.heap.size]? = some (.cells #[.int .i64 64, .int .i64 8, .int .i64 10, .int .i64 54, .int .i64 26, .int .i64 19, .int .i64 4084] 26 (0, 0)) := box_below (heap_alloc_new w1 _) hb2; have HX2 := Lib.hid hx2; have HP2 := Lib.hid hp2; have HB2 := Lib.hid (below_next (below_alloc HB1.out) hb2); clear hx2 hp2 hb2 ho2 hc2 hg3 hc3)
    | (go_at_call 25; (with_reducible refine (HPR.out _ HX2.out).mono ?_); rintro e w3 ⟨A3, c3, rfl, hb3⟩; have hx3 : w3.heap[w.heap.size]? = some (.cells (os0.map Ord.cells).flatten.toArray 39 (0, 0)) := box_below HX2.out hb3; have hp3 : w3.heap[w1.heap.size]? = some (.cells #[.int .i64 64, .int .i64 8, .int .i64 10, .int .i64 54, .int .i64 26, .int .i64 19, .int .i64 4084] 26 (0, 0)) := box_below HP2.out hb3; have HX3 := Lib.hid hx3; have HP3 := Lib.hid hp3; have HB3 := Lib.hid (below_next HB2.out hb3); clear hx3 hp3 hb3)
    | (go_at_call 29; (with_reducible refine (HIT.out _ HX3.out).mono ?_); rintro e w4 ⟨A4, c4, rfl, hb4⟩; have hx4 : w4.heap[w.heap.size]? = some (.cells (os0.map Ord.cells).flatten.toArray 39 (0, 0)) := box_below HX3.out hb4; have hp4 : w4.heap[w1.heap.size]? = some (.cells #[.int .i64 64, .int .i64 8, .int .i64 10, .int .i64 54, .int .i64 26, .int .i64 19, .int .i64 4084] 26 (0, 0)) := box_below HP3.out hb4; have HX4 := Lib.hid hx4; have HP4 := Lib.hid hp4; have HB4 := Lib.hid (below_next HB3.out hb4); clear hx4 hp4 hb4; obtain ⟨z0, z1, z2, z3, z4, z5, z6⟩ : w4.cell? ⟨w1.heap.size, 0, none⟩ = some (.int .i64 64) ∧ w4.cell? ⟨w1.heap.size, 1, none⟩ = some (.int .i64 8) ∧ w4.cell? ⟨w1.heap.size, 2, none⟩ = some (.int .i64 10) ∧ w4.cell? ⟨w1.heap.size, 3, none⟩ = some (.int .i64 54) ∧ w4.cell? ⟨w1.heap.size, 4, none⟩ = some (.int .i64 26) ∧ w4.cell? ⟨w1.heap.size, 5, none⟩ = some (.int .i64 19) ∧ w4.cell? ⟨w1.heap.size, 6, none⟩ = some (.int .i64 4084) := (by have hh := HP4.out; refine ⟨?_, ?_, ?_, ?_, ?_, ?_, ?_⟩ <;> (rw [Lib.cell_of_heap hh]; rfl)))
    | (go_at_call 26; (with_reducible refine (HPN.out _).mono ?_); rintro e w6 ⟨rfl, hb6⟩; have HB6 := Lib.hid (below_next HB5.out hb6); clear hb6)
    | (go_at_call 26; (with_reducible refine (HPL.out _ HX4.out).mono ?_); rintro e w5 ⟨rfl, hb5⟩; have HB5 := Lib.hid (below_next HB4.out hb5); clear hb5))
  go_ret
  exact ⟨rfl, HB6.out⟩
end Go.Proofs.YtdfgdnaejnngoaaGreat
namespace Go.Proofs.YtdfgdnaejnngoaaGreat
open Go.RowKit
/-! grangerref33.Alive. -/
theorem take_dropR {α : Type} {l : List α} {j i : Nat} {x : α} (h : l[j]? = some x) (hi : i ≤ j) : (l.take (j + 1)).drop i = (l.take j).drop i ++ [x] := by
  have hj := (List.getElem?_eq_some_iff.1 h).1
  rw [take_snocR h, List.drop_append_of_le_length (by rw [List.length_take]; omega)]
theorem ord_rowA {w : World} {b off : Nat} {os : List Ord} (hel : Elems w (some ⟨b, off, none⟩) 6 (os.map Ord.cells)) {k : Nat} {o : Ord} (ho : os[k]? = some o) : b < w.heap.size ∧ w.cell? ⟨b, off + k * 6, none⟩ = some (.int .i64 o.kind) ∧ w.cell? ⟨b, off + k * 6 + 1, none⟩ = some (.string o.key) ∧ w.cell? ⟨b, off + k * 6 + 2, none⟩ = some (.string o.val) ∧ w.cell? ⟨b, off + k * 6 + 3, none⟩ = some (.int .u64 o.n) ∧ w.cell? ⟨b, off + k * 6 + 4, none⟩ = some (.string o.lo) ∧ w.cell? ⟨b, off + k * 6 + 5, none⟩ = some (.string o.hi) := by
  obtain ⟨b', off', e, h⟩ := ord_row hel ho
  cases e
  exact h
theorem alive_next {os : List Ord} {k : Nat} {o : Ord} {L : List Nat} (ho : os[k]? = some o) (hal : aliveL 0 os = L ++ aliveL k (os.drop k)) : (aliveB o (os.drop (k + 1)) = true → aliveL 0 os = (L ++ [k]) ++ aliveL (k + 1) (os.drop (k + 1))) ∧ (aliveB o (os.drop (k + 1)) = false → aliveL 0 os = L ++ aliveL (k + 1) (os.drop (k + 1))) := by
  have hdr : os.drop k = o :: os.drop (k + 1) := by
    obtain ⟨hk', rfl⟩ := List.getElem?_eq_some_iff.1 ho
    exact List.drop_eq_getElem_cons hk'
  rw [hdr, aliveL] at hal
  refine ⟨fun h => ?_, fun h => ?_⟩
  · rw [hal, if_pos h]; simp
  · rw [hal, if_neg (by rw [h]; decide)]
set_option maxHeartbeats 4000000 in
set_option maxRecDepth 100000 in
theorem refAlive_any (A : Option Addr) (cap : Nat) (os : List Ord) (w : World) (hel : Elems w A 6 (os.map Ord.cells)) (hl : os.length ≤ 1000) :
    Calls Tryz.prog 24 #[.slice A os.length cap] w fun e w' => ∃ A' c', e = .returned (.slice A' (aliveL 0 os).length c') ∧ OwnsN w' w.heap.size (.slice A' (aliveL 0 os).length c') (aliveL 0 os) ∧ Below w.heap.size w w' := by
  have HEL := Lib.hid hel
  clear hel
  go_enter Tryz.func24, Tryz.ntmps24
  go_wp2
  have HO0 := Lib.hid (show OwnsN (w.alloc (.cells #[] 3)) w.heap.size (.slice (some ⟨w.heap.size, 0, none⟩) 0 0) [] from OwnsG.empty (heap_alloc_new w _) (Nat.le_refl _))
  go_loopw [4, 3, 5, 6] (fun i v _ _ wr => ∃ (k c2 : Nat) (A2 : Option Addr) (L : List Nat), i = .int .i64 k ∧ k ≤ os.length ∧ v = .slice A2 L.length c2 ∧ OwnsN wr w.heap.size (.slice A2 L.length c2) L ∧ L.length ≤ k ∧ aliveL 0 os = L ++ aliveL k (os.drop k) ∧ Below w.heap.size w wr) (fun i _ _ _ _ => os.length + 1 - (intOf i).toNat)
  case atStart => exact ⟨0, 0, _, [], rfl, Nat.zero_le _, rfl, HO0.out, Nat.le_refl _, rfl, below_alloc (Below.refl _ w)⟩
  case round =>
    obtain ⟨k, c2, A2, L, rfl, hk, rfl, how, hLk, hal, hbel⟩ := hrel
    by_cases hkl : k < os.length
    · have hkI : (k : Int) < (os.length : Int) := by omega
      have hw1 : wrap64 ((k : Int) + 1) = ((k + 1 : Nat) : Int) := by unfold wrap64; omega
      obtain ⟨o, ho⟩ := get_lt hkl
      obtain ⟨b, off, rfl, hblt, d0, d1, d2, d3, d4, d5⟩ := ord_row (HEL.out.below hbel) ho
      obtain ⟨hat, haf⟩ := alive_next ho hal
      have HAT := Lib.hid hat
      have HAF := Lib.hid haf
      have HOW := Lib.hid how
      have HBEL := Lib.hid hbel
      obtain ⟨kind, key, val, n, lo, hi⟩ := o
      have HAB := Lib.hid (show aliveB ⟨kind, key, val, n, lo, hi⟩ (os.drop (k + 1)) = ((decide (kind = 1) || decide (kind = 3)) && !((os.take os.length).drop (k + 1)).any (resetB key)) by rw [List.take_length]; rfl)
      dsimp only at d0 d1 d2 d3 d4 d5
      clear hat haf how hbel hal ho
      obtain ⟨bb, hbb⟩ : ∃ bb, (decide (kind = 1) || decide (kind = 3)) = bb := ⟨_, rfl⟩
      have hkc : (kind = 1 ∧ Hid (bb = true)) ∨ (kind = 3 ∧ Hid (bb = true)) ∨ ((kind == 1) = false ∧ (kind == 3) = false ∧ Hid (bb = false)) := by
        by_cases h1 : kind = 1
        · exact .inl ⟨h1, Lib.hid (by rw [← hbb]; simp [h1])⟩
        · by_cases h3 : kind = 3
          · exact .inr (.inl ⟨h3, Lib.hid (by rw [← hbb]; simp [h3])⟩)
          · exact .inr (.inr ⟨by simp [h1], by simp [h3], Lib.hid (by rw [← hbb]; simp [h1, h3])⟩)
      rw [hbb] at HAB
      clear hbb
      rcases hkc with ⟨rfl, HBB⟩ | ⟨rfl, HBB⟩ | ⟨e1, e3, HBB⟩
      all_goals
        go_wp2
        go_loopw [6, 5] (fun j v w2 => ∃ (m : Nat) (q : Bool), j = .int .i64 m ∧ k + 1 ≤ m ∧ m ≤ os.length ∧ v = .bool q ∧ Hid (q = (bb && !((os.take m).drop (k + 1)).any (resetB key))) ∧ Below wr.heap.size wr w2) (fun j _ _ => os.length + 1 - (intOf j).toNat)
        case atStart => exact ⟨k + 1, _, by go_num, Nat.le_refl _, by omega, rfl, Lib.hid (by rw [HBB.out, List.drop_eq_nil_of_le (by rw [List.length_take]; omega)]; rfl), Below.refl _ _⟩
        case round =>
          rename World => wr2
          obtain ⟨m, q, rfl, hm1, hm, rfl, HQ, hb2⟩ := hrel
          by_cases hml : m < os.length
          · have hmI : (m : Int) < (os.length : Int) := by omega
            obtain ⟨x, hx⟩ := get_lt hml
            obtain ⟨_, x0, x1, _, _, _, _⟩ := ord_rowA (HEL.out.below (below_next HBEL.out hb2)) hx
            have o1 := keep_cell hb2 hblt d1
            have hbl2 := keep_lt hb2 hblt
            have hst : ((os.take (m + 1)).drop (k + 1)).any (resetB key) = (((os.take m).drop (k + 1)).any (resetB key) || resetB key x) := by rw [take_dropR hx hm1, List.any_append]; simp
            have hqq : (x.key.toList == key.toList) = decide (x.key = key) := eqB
            have HST := Lib.hid hst
            have HB2 := Lib.hid hb2
            obtain ⟨xkd, xk, xv, xn, xl, xh⟩ := x
            dsimp only at x0 x1 hqq
            clear hst hb2 hx
            by_cases e : xk = key
            · subst e
              rw [decide_eq_true rfl] at hqq
              by_cases h1 : xkd = 1
              · subst h1
                go_wp2
                go_quiet (fail)
                go_wp2
                refine ⟨⟨m + 1, false, by go_num, by omega, by omega, rfl, Lib.hid (by rw [HST.out]; simp [resetB]), below_drewN HB2.out _⟩, ?_⟩
                simp [intOf]
                omega
              · by_cases h2 : xkd = 2
                · subst h2
                  go_wp2
                  go_quiet (fail)
                  go_wp2
                  refine ⟨⟨m + 1, false, by go_num, by omega, by omega, rfl, Lib.hid (by rw [HST.out]; simp [resetB]), below_drewN HB2.out _⟩, ?_⟩
                  simp [intOf]
                  omega
                · have f1 : (xkd == 1) = false := by simp [h1]
                  have f2 : (xkd == 2) = false := by simp [h2]
                  have HN := Lib.hid (show resetB xk ⟨xkd, xk, xv, xn, xl, xh⟩ = false by simp [resetB, h1, h2])
                  clear h1 h2
                  go_wp2
                  go_quiet (fail)
                  go_wp2
                  refine ⟨⟨m + 1, q, by go_num, by omega, by omega, rfl, Lib.hid (by rw [HST.out, HN.out, Bool.or_false]; exact HQ.out), below_drewN HB2.out _⟩, ?_⟩
                  simp [intOf]
                  omega
            · rw [decide_eq_false e] at hqq
              have HN := Lib.hid (show resetB key ⟨xkd, xk, xv, xn, xl, xh⟩ = false by simp [resetB, e])
              clear e
              go_wp2
              go_quiet (fail)
              go_wp2
              refine ⟨⟨m + 1, q, by go_num, by omega, by omega, rfl, Lib.hid (by rw [HST.out, HN.out, Bool.or_false]; exact HQ.out), below_drewN HB2.out _⟩, ?_⟩
              simp [intOf]
              omega
          · obtain rfl : m = os.length := by omega
            have hqv := HQ.out.trans HAB.out.symm
            have HB2 := Lib.hid hb2
            have hw2l : L.length + 1 ≤ 1001 := by omega
            cases hq : q with
            | true =>
              have HAL := Lib.hid (HAT.out (by rw [← hqv]; exact hq))
              clear hqv hb2
              subst hq
              go_wp2_with (at_builtin; go_loud (refine nat_append rfl (some 67) rfl _ _ rfl w.heap.size (.slice A2 L.length c2) L [k] 1 ⟨wr2.heap.size, 0, none⟩ 1 rfl rfl (by simp [Act.eval]) ((HOW.out.below HB2.out).alloc _) (nat_news (heap_alloc_new wr2 _)) (by simp; omega) (by have := HBEL.out.size; have := HB2.out.size; simp; omega) (L.length + 1) (by simp) ?_; intro A3 c3 w3 ho3 hf3; have HO3 := Lib.hid ho3; have HF3 := Lib.hid hf3; clear ho3 hf3))
              have hb3 := fun o : Obj => below_alloc (o := o) (below_next HBEL.out HB2.out)
              refine ⟨⟨k + 1, c3, A3, L ++ [k], by go_num, by omega, by simp, by rw [List.length_append]; exact HO3.out, by simp; omega, HAL.out, (hb3 _).trans (HF3.out.to_below (hb3 _).size (fun i hi e => nat_ge (HOW.out.below HB2.out) hi e))⟩, ?_⟩
              simp [intOf]
              omega
            | false =>
              have HAL := Lib.hid (HAF.out (by rw [← hqv]; exact hq))
              clear hqv hb2
              subst hq
              go_wp2
              refine ⟨⟨k + 1, c2, A2, L, by go_num, by omega, rfl, HOW.out.below HB2.out, by omega, HAL.out, below_next HBEL.out HB2.out⟩, ?_⟩
              simp [intOf]
              omega
    · obtain rfl : k = os.length := by omega
      rw [List.drop_length] at hal
      simp only [aliveL, List.append_nil] at hal
      have HOW := Lib.hid how
      have HB2 := Lib.hid hbel
      have HAL := Lib.hid hal
      clear how hbel hal
      go_wp2
      go_ret
      rw [HAL.out]
      exact ⟨A2, c2, rfl, HOW.out, HB2.out⟩
end Go.Proofs.YtdfgdnaejnngoaaGreat
namespace Go.Proofs.YtdfgdnaejnngoaaGreat
open Go.RowKit
theorem elems_other {w w' : World} {A : Option Addr} {q : Nat} {l : List Itm} {cs : List Value} {T : TypeId} (h : Elems w A 2 (l.map Itm.cells)) (hq : w.heap[q]? = some (.cells cs.toArray T (0, 0)))
    (hns : ∀ i a b, cs[i]? = some (.string a) → cs[i + 1]? = some (.string b) → False) (hf : Fr (fun k => k = q) w w') : Elems w' A 2 (l.map Itm.cells) := by
  intro i r hr
  obtain ⟨b, o, e2, hlt, hc⟩ := h i r hr
  rw [List.getElem?_map, Option.map_eq_some_iff] at hr
  obtain ⟨x, hx, rfl⟩ := hr
  have hb : ¬ b = q := by
    rintro rfl
    have c0 := hc 0 _ rfl
    have c1 := hc 1 _ rfl
    rw [Lib.cell_of_heap hq] at c0 c1
    refine hns (o + i * 2) x.key x.val ?_ ?_
    · simpa using c0
    · simpa using c1
  exact ⟨b, o, e2, Nat.lt_of_lt_of_le hlt hf.size, fun j u hu => hf.cell hlt hb (hc j u hu)⟩
theorem fr_drewN (S : Nat → Prop) (w : World) (n : Nat) : Fr S w (w.drewN n) := Fr.of_below (below_drewN (Below.refl _ w) n)
theorem got_row {w4 w5 : World} {s : Nat} {has : Bool} {val : ByteArray} (h : w4.heap[s]? = some (.cells (refC 0 has val (.slice none 0 0) 0 0).toArray 76 (0, 0))) (hw : w5.heap[s]? = w4.heap[s]?) (v : ByteArray) :
    ((w5.setCell ⟨s, 2, none⟩ (.string v)).setCell ⟨s, 1, none⟩ (.bool true)).heap[s]? = some (.cells (refC 0 true v (.slice none 0 0) 0 0).toArray 76 (0, 0)) :=
  setCell_row (setCell_row (hw.trans h) 2 (.string v)) 1 (.bool true)
theorem got_fr (w5 : World) (s : Nat) (v : ByteArray) : Fr (fun q => q = s) w5 ((w5.setCell ⟨s, 2, none⟩ (.string v)).setCell ⟨s, 1, none⟩ (.bool true)) :=
  ((Fr.refl (fun q => q = s) w5).setCell (p := ⟨s, 2, none⟩) (fun _ => rfl) _).setCell (p := ⟨s, 1, none⟩) (fun _ => rfl) _
set_option maxHeartbeats 4000000 in
set_option maxRecDepth 100000 in
theorem refDo_get (bu : Nat) (c : Int) (ls : List (List Itm)) (l : List Itm) (key val : ByteArray) (n : Int) (lo hi : ByteArray) (w : World) (h : RefAt w bu c ls) (hl : ls[ls.length - 1]? = some l) (hn : ls.length ≤ 90000) (hln : l.length ≤ 60000) (hri : Rises l) (ho : isOrd ⟨4, key, val, n, lo, hi⟩ = true) :
    Calls Tryz.prog 36 #[.pointer (some ⟨bu, 0, none⟩), (Ord.mk 4 key val n lo hi).v] w (RefDo bu c (if isKey key = true then 0 else 1, (getL l key).isSome, strO (getL l key), [], 0, 0) ls w) := by
  have hia := fun W => refIs_any ⟨4, key, val, n, lo, hi⟩ W
  rw [ho] at hia
  have hnow := fun W (hW : Below w.heap.size w W) => refNow_any bu c ls l W (h.below hW) hl hn
  have hk := fun W => ref07Is_any key W
  rw [Ord.v_def] at hia ⊢
  dsimp only at hia ⊢
  have hbul := h.lt
  have HI := Lib.hid hia
  have HN := Lib.hid hnow
  have HK := Lib.hid hk
  have HRF := Lib.hid h
  have HRI := Lib.hid hri
  have HMS := Lib.hid refans_size
  obtain ⟨E, hE⟩ : ∃ E : Int, (if isKey key = true then 0 else 1) = E := ⟨_, rfl⟩
  rw [hE]
  have HEE := Lib.hid hE
  clear hia ho h hl hnow hk hri hE
  go_enter Tryz.func36, Tryz.ntmps36
  go_wp2_with (first
    | (go_at_call 64; (with_reducible refine (HI.out _).mono ?_); rintro e w1 ⟨rfl, hb1⟩; have hbo : QBox w.heap.size ⟨4, key, val, n, lo, hi⟩ w1 := box_below (((Fr.refl (fun _ => False) _).alloc _).row id (((Fr.refl (fun _ => False) _).alloc _).row id (heap_alloc_new w _))) hb1; have hba : RBox (w.heap.size + 1) w1 := box_below (((Fr.refl (fun _ => False) _).alloc _).row id (heap_new_at (by simp))) hb1; have hbc : RBox (w.heap.size + 2) w1 := box_below (heap_new_at (by simp)) hb1; have d0 : w1.cell? ⟨w.heap.size, 0, none⟩ = some (.int .i64 4) := (by rw [Lib.cell_of_heap hbo]; rfl); have d1 : w1.cell? ⟨w.heap.size, 1, none⟩ = some (.string key) := (by rw [Lib.cell_of_heap hbo]; rfl); have d2 : w1.cell? ⟨w.heap.size, 2, none⟩ = some (.string val) := (by rw [Lib.cell_of_heap hbo]; rfl); have d3 : w1.cell? ⟨w.heap.size, 3, none⟩ = some (.int .u64 n) := (by rw [Lib.cell_of_heap hbo]; rfl); have d4 : w1.cell? ⟨w.heap.size, 4, none⟩ = some (.string lo) := (by rw [Lib.cell_of_heap hbo]; rfl); have d5 : w1.cell? ⟨w.heap.size, 5, none⟩ = some (.string hi) := (by rw [Lib.cell_of_heap hbo]; rfl); have hxl := lt_of_row hbo; have HBO := Lib.hid hbo; have HBA := Lib.hid hba; have HBC := Lib.hid hbc; have HB1 := Lib.hid (below_next (below_alloc (below_alloc (below_alloc (Below.refl _ w)))) hb1); skip; clear hb1 hbo hba hbc)
    | (go_at_call 40; (with_reducible refine (HN.out _ HB1.out).mono ?_); rintro e w2 ⟨A2, c2, rfl, hel2, hb2⟩; have HBO2 := Lib.hid (show QBox w.heap.size ⟨4, key, val, n, lo, hi⟩ w2 from box_below HBO.out hb2); have HBA2 := Lib.hid (show RBox (w.heap.size + 1) w2 from box_below HBA.out hb2); have HBC2 := Lib.hid (show RBox (w.heap.size + 2) w2 from box_below HBC.out hb2); have HB2 := Lib.hid (below_next HB1.out hb2); have HE2 := Lib.hid hel2; clear hel2 hb2))
  go_loopw [7] (fun i wr => ∃ k : Nat, i = .int .i64 k ∧ k ≤ l.length ∧ wr.heap[w.heap.size + 2]? = some (.cells (refC 0 (getL (l.take k) key).isSome (strO (getL (l.take k) key)) (.slice none 0 0) 0 0).toArray 76 (0, 0)) ∧ Fr (fun q => q = w.heap.size + 2) w2 wr) (fun i _ => l.length + 1 - (intOf i).toNat)
  case atStart => exact ⟨0, rfl, Nat.zero_le _, HBC2.out, Fr.refl _ _⟩
  case round =>
    obtain ⟨k, rfl, hk, hbx, hfr⟩ := hrel
    have hw2 := HB2.out.size
    have hbo : QBox w.heap.size ⟨4, key, val, n, lo, hi⟩ wr := hfr.row (by omega) HBO2.out
    have q1 : wr.cell? ⟨w.heap.size, 1, none⟩ = some (.string key) := by rw [Lib.cell_of_heap hbo]; rfl
    have hxl := lt_of_row hbo
    by_cases hkl : k < l.length
    · have hkI : (k : Int) < (l.length : Int) := by omega
      obtain ⟨y, hy⟩ := get_lt hkl
      obtain ⟨b, off, rfl, hlt, d0, d1⟩ := itm_rowR (elems_other HE2.out HBC2.out (ref_nopair _ _ _ _ _ _ _ _) hfr) hy
      have hgt := get_take HRI.out hy key
      have hq : (y.key.toList == key.toList) = decide (y.key = key) := eqB
      have HGT := Lib.hid hgt
      have HFR := Lib.hid hfr
      have HBX := Lib.hid hbx
      have f1 := Lib.frozen_of_heap hbx 1
      have f2 := Lib.frozen_of_heap hbx 2
      have z1 : wr.cell? ⟨w.heap.size + 2, 1, none⟩ = some (.bool (getL (l.take k) key).isSome) := by rw [Lib.cell_of_heap hbx]; rfl
      have z2 : wr.cell? ⟨w.heap.size + 2, 2, none⟩ = some (.string (strO (getL (l.take k) key))) := by rw [Lib.cell_of_heap hbx]; rfl
      clear hgt hbx hy hfr hbo
      obtain ⟨yk, yv⟩ := y
      dsimp only at d0 d1 hq HGT
      by_cases e : yk = key
      · subst e
        rw [decide_eq_true rfl] at hq
        rw [if_pos rfl] at HGT
        go_wp2
        go_quiet (fail)
        go_wp2
        refine ⟨⟨k + 1, by go_num, by omega, by rw [HGT.out]; exact got_row HBX.out (by rfl) _, (HFR.out.trans (fr_drewN _ _ _) (fun i _ e => e)).trans (got_fr _ (w.heap.size + 2) _) (fun i _ e => e)⟩, ?_⟩
        simp [intOf]
        omega
      · rw [decide_eq_false e] at hq
        rw [if_neg e] at HGT
        go_wp2
        go_quiet (fail)
        go_wp2
        refine ⟨⟨k + 1, by go_num, by omega, by rw [HGT.out]; exact HBX.out, HFR.out.trans (fr_drewN _ _ _) (fun i _ e => e)⟩, ?_⟩
        simp [intOf]
        omega
    · obtain rfl : k = l.length := by omega
      rw [List.take_length] at hbx
      have hba : RBox (w.heap.size + 1) wr := hfr.row (by omega) HBA2.out
      have hk2 := HK.out
      generalize getL l key = g at *
      have HFR := Lib.hid hfr
      have HBX := Lib.hid hbx
      have HBAR := Lib.hid hba
      clear hbx hfr hbo hba
      cases hik : isKey key with
      | true =>
        rw [hik] at hk2
        have HK2 := Lib.hid hk2
        obtain rfl : E = 0 := by rw [← HEE.out, hik]; rfl
        clear hk2 HK hik HEE
        go_wp2_with (first
          | (go_at_call 66; (with_reducible refine (HK2.out _).mono ?_); rintro e w5 ⟨rfl, hb5⟩; have HRC := Lib.hid (show w5.heap[w.heap.size + 2]? = some (.cells (refC 0 g.isSome (strO g) (.slice none 0 0) 0 0).toArray 76 (0, 0)) from box_below HBX.out hb5); have HBA5 := Lib.hid (show RBox (w.heap.size + 1) w5 from box_below HBAR.out hb5); have HFC := Lib.hid (HFR.out.trans (Fr.of_below (S := fun q => q = w.heap.size + 2) hb5) (fun i _ e => e)); clear hb5)
          | (refine wpList_load_mid rfl 76 (Operand.tmp 5) rfl (w.heap.size + 2) 0 rfl (refC 0 g.isSome (strO g) (.slice none 0 0) 0 0) _ (row_range HRC.out) Tryz.underlying76 rfl HMS.out ?_)
          | (refine wpList_store_row rfl 76 (Operand.tmp 4) (Operand.tmp 108) rfl (w.heap.size + 1) _ (refC 0 g.isSome (strO g) (.slice none 0 0) 0 0) _ rfl rfl HBA5.out rfl HMS.out (refans_all _ _ _ _ _ _ _ _) ?_; intro w9 hr9 hf9; have HR9 := Lib.hid hr9; have HF9 := Lib.hid hf9; clear hr9 hf9))
        refine bodyPost_ret (v := refV 0 g.isSome (strO g) (.slice none 0 0) 0 0) (results_cell (a := 4) (t := 76) (ad := ⟨w.heap.size + 1, 0, none⟩) Tryz.results36 rfl (load_row _ HR9.out _ Tryz.underlying76 rfl HMS.out)) rfl ?_
        exact refdo_done hbul HB2.out (HRF.out.below HB2.out) (Fr.refl _ _) (Nat.le_succ _) HBC2.out HFC.out HBA5.out HF9.out rfl (elems_nil _ _)
      | false =>
        rw [hik] at hk2
        have HK2 := Lib.hid hk2
        obtain rfl : E = 1 := by rw [← HEE.out, hik]; rfl
        clear hk2 HK hik HEE
        go_wp2_with (first
          | (go_at_call 66; (with_reducible refine (HK2.out _).mono ?_); rintro e w5 ⟨rfl, hb5⟩; have hrc5 : w5.heap[w.heap.size + 2]? = some (.cells (refC 0 g.isSome (strO g) (.slice none 0 0) 0 0).toArray 76 (0, 0)) := box_below HBX.out hb5; have z0 : w5.cell? ⟨w.heap.size + 2, 0, none⟩ = some (.int .i64 0) := (by rw [Lib.cell_of_heap hrc5]; rfl); have y0 := Lib.frozen_of_heap hrc5 0; have HRC := Lib.hid (setCell_row hrc5 0 (.int .i64 1)); have hba5 : RBox (w.heap.size + 1) w5 := box_below HBAR.out hb5; have hfc : Fr (fun q => q = w.heap.size + 2) w5 (w5.setCell ⟨w.heap.size + 2, 0, none⟩ (.int .i64 1)) := (Fr.refl (fun q => q = w.heap.size + 2) w5).setCell (p := ⟨w.heap.size + 2, 0, none⟩) (fun _ => rfl) _; have HBA5 := Lib.hid (hfc.row (by omega) hba5); have HFC := Lib.hid ((HFR.out.trans (Fr.of_below (S := fun q => q = w.heap.size + 2) hb5) (fun i _ e => e)).trans hfc (fun i _ e => e)); clear hb5 hrc5 hba5 hfc)
          | (refine wpList_load_mid rfl 76 (Operand.tmp 5) rfl (w.heap.size + 2) 0 rfl (refC 1 g.isSome (strO g) (.slice none 0 0) 0 0) _ (row_range HRC.out) Tryz.underlying76 rfl HMS.out ?_)
          | (refine wpList_store_row rfl 76 (Operand.tmp 4) (Operand.tmp 108) rfl (w.heap.size + 1) _ (refC 1 g.isSome (strO g) (.slice none 0 0) 0 0) _ rfl rfl HBA5.out rfl HMS.out (refans_all _ _ _ _ _ _ _ _) ?_; intro w9 hr9 hf9; have HR9 := Lib.hid hr9; have HF9 := Lib.hid hf9; clear hr9 hf9))
        refine bodyPost_ret (v := refV 1 g.isSome (strO g) (.slice none 0 0) 0 0) (results_cell (a := 4) (t := 76) (ad := ⟨w.heap.size + 1, 0, none⟩) Tryz.results36 rfl (load_row _ HR9.out _ Tryz.underlying76 rfl HMS.out)) rfl ?_
        exact refdo_done hbul HB2.out (HRF.out.below HB2.out) (Fr.refl _ _) (Nat.le_succ _) HBC2.out HFC.out HBA5.out HF9.out rfl (elems_nil _ _)
end Go.Proofs.YtdfgdnaejnngoaaGreat
namespace Go.Proofs.YtdfgdnaejnngoaaGreat
open Go.RowKit
set_option maxHeartbeats 4000000 in
set_option maxRecDepth 100000 in
theorem refDo_scanbad (bu : Nat) (c : Int) (ls : List (List Itm)) (l : List Itm) (key val : ByteArray) (n : Int) (lo hi : ByteArray) (w : World) (h : RefAt w bu c ls) (hl : ls[ls.length - 1]? = some l) (hn : ls.length ≤ 90000) (hln : l.length ≤ 60000) (hr : isRng lo hi = false) (ho : isOrd ⟨5, key, val, n, lo, hi⟩ = true) :
    Calls Tryz.prog 36 #[.pointer (some ⟨bu, 0, none⟩), (Ord.mk 5 key val n lo hi).v] w (RefDo bu c (1, false, ⟨#[]⟩, [], 0, 0) ls w) := by
  have hia := fun W => refIs_any ⟨5, key, val, n, lo, hi⟩ W
  rw [ho] at hia
  have hm := fun W => refMay_any lo hi W
  rw [hr] at hm
  rw [Ord.v_def] at hia ⊢
  dsimp only at hia ⊢
  have hbul := h.lt
  have HI := Lib.hid hia
  have HM := Lib.hid hm
  have HRF := Lib.hid h
  have HMS := Lib.hid refans_size
  clear hia ho h hl hm hr
  go_enter Tryz.func36, Tryz.ntmps36
  go_wp2_with (first
    | (go_at_call 64; (with_reducible refine (HI.out _).mono ?_); rintro e w1 ⟨rfl, hb1⟩; have hbo : QBox w.heap.size ⟨5, key, val, n, lo, hi⟩ w1 := box_below (((Fr.refl (fun _ => False) _).alloc _).row id (((Fr.refl (fun _ => False) _).alloc _).row id (heap_alloc_new w _))) hb1; have hba : RBox (w.heap.size + 1) w1 := box_below (((Fr.refl (fun _ => False) _).alloc _).row id (heap_new_at (by simp))) hb1; have hbc : RBox (w.heap.size + 2) w1 := box_below (heap_new_at (by simp)) hb1; have d0 : w1.cell? ⟨w.heap.size, 0, none⟩ = some (.int .i64 5) := (by rw [Lib.cell_of_heap hbo]; rfl); have d1 : w1.cell? ⟨w.heap.size, 1, none⟩ = some (.string key) := (by rw [Lib.cell_of_heap hbo]; rfl); have d2 : w1.cell? ⟨w.heap.size, 2, none⟩ = some (.string val) := (by rw [Lib.cell_of_heap hbo]; rfl); have d3 : w1.cell? ⟨w.heap.size, 3, none⟩ = some (.int .u64 n) := (by rw [Lib.cell_of_heap hbo]; rfl); have d4 : w1.cell? ⟨w.heap.size, 4, none⟩ = some (.string lo) := (by rw [Lib.cell_of_heap hbo]; rfl); have d5 : w1.cell? ⟨w.heap.size, 5, none⟩ = some (.string hi) := (by rw [Lib.cell_of_heap hbo]; rfl); have hxl := lt_of_row hbo; have HBO := Lib.hid hbo; have HBA := Lib.hid hba; have HBC := Lib.hid hbc; have HB1 := Lib.hid (below_next (below_alloc (below_alloc (below_alloc (Below.refl _ w)))) hb1); skip; clear hb1 hbo hba hbc)
    | (go_at_call 67; (with_reducible refine (HM.out _).mono ?_); rintro e w2 ⟨rfl, hb2⟩; have hb12 := below_next (below_alloc (o := .cells #[.string lo, .string hi] 119) (Below.refl _ w1)) hb2; have hbc2 : RBox (w.heap.size + 2) w2 := box_below HBC.out hb12; have hba2 : RBox (w.heap.size + 1) w2 := box_below HBA.out hb12; have z0 : w2.cell? ⟨w.heap.size + 2, 0, none⟩ = some (.int .i64 0) := (by rw [Lib.cell_of_heap hbc2]; rfl); have y0 := Lib.frozen_of_heap hbc2 0; have HRC := Lib.hid (setCell_row hbc2 0 (.int .i64 1)); have hfc : Fr (fun q => q = w.heap.size + 2) w2 (w2.setCell ⟨w.heap.size + 2, 0, none⟩ (.int .i64 1)) := (Fr.refl (fun q => q = w.heap.size + 2) w2).setCell (p := ⟨w.heap.size + 2, 0, none⟩) (fun _ => rfl) _; have HFC := Lib.hid hfc; have HBA2 := Lib.hid (hfc.row (by omega) hba2); have HBC2 := Lib.hid hbc2; have HB2 := Lib.hid (below_next HB1.out hb12); clear hfc hbc2 hba2 hb2 hb12)
    | (refine wpList_load_mid rfl 76 (Operand.tmp 5) rfl (w.heap.size + 2) 0 rfl (refC 1 false ⟨#[]⟩ (.slice none 0 0) 0 0) _ (row_range HRC.out) Tryz.underlying76 rfl HMS.out ?_)
    | (refine wpList_store_row rfl 76 (Operand.tmp 4) (Operand.tmp 108) rfl (w.heap.size + 1) _ (refC 1 false ⟨#[]⟩ (.slice none 0 0) 0 0) _ rfl rfl HBA2.out rfl HMS.out (refans_all _ _ _ _ _ _ _ _) ?_; intro w9 hr9 hf9; have HR9 := Lib.hid hr9; have HF9 := Lib.hid hf9; clear hr9 hf9))
  refine bodyPost_ret (v := refV 1 false ⟨#[]⟩ (.slice none 0 0) 0 0) (results_cell (a := 4) (t := 76) (ad := ⟨w.heap.size + 1, 0, none⟩) Tryz.results36 rfl (load_row _ HR9.out _ Tryz.underlying76 rfl HMS.out)) rfl ?_
  exact refdo_done hbul HB2.out (HRF.out.below HB2.out) (Fr.refl _ _) (Nat.le_succ _) HBC2.out HFC.out HBA2.out HF9.out rfl (elems_nil _ _)
set_option maxHeartbeats 4000000 in
set_option maxRecDepth 100000 in
theorem refDo_scan (bu : Nat) (c : Int) (ls : List (List Itm)) (l : List Itm) (key val : ByteArray) (n : Int) (lo hi : ByteArray) (w : World) (h : RefAt w bu c ls) (hl : ls[ls.length - 1]? = some l) (hn : ls.length ≤ 90000) (hln : l.length ≤ 60000) (hr : isRng lo hi = true) (ho : isOrd ⟨5, key, val, n, lo, hi⟩ = true) :
    Calls Tryz.prog 36 #[.pointer (some ⟨bu, 0, none⟩), (Ord.mk 5 key val n lo hi).v] w (RefDo bu c (0, false, ⟨#[]⟩, withinL lo hi l, 0, 0) ls w) := by
  have hia := fun W => refIs_any ⟨5, key, val, n, lo, hi⟩ W
  rw [ho] at hia
  have hm := fun W => refMay_any lo hi W
  rw [hr] at hm
  have hnow := fun W (hW : Below w.heap.size w W) => refNow_any bu c ls l W (h.below hW) hl hn
  have hwi := fun W A cp h1 => refWithin_any A cp lo hi l W h1 (by omega)
  rw [Ord.v_def] at hia ⊢
  dsimp only at hia ⊢
  generalize withinL lo hi l = M at *
  have hbul := h.lt
  have HI := Lib.hid hia
  have HM := Lib.hid hm
  have HN := Lib.hid hnow
  have HWI := Lib.hid hwi
  have HRF := Lib.hid h
  have HMS := Lib.hid refans_size
  clear hia ho h hl hm hr hnow hwi
  go_enter Tryz.func36, Tryz.ntmps36
  go_wp2_with (first
    | (go_at_call 64; (with_reducible refine (HI.out _).mono ?_); rintro e w1 ⟨rfl, hb1⟩; have hbo : QBox w.heap.size ⟨5, key, val, n, lo, hi⟩ w1 := box_below (((Fr.refl (fun _ => False) _).alloc _).row id (((Fr.refl (fun _ => False) _).alloc _).row id (heap_alloc_new w _))) hb1; have hba : RBox (w.heap.size + 1) w1 := box_below (((Fr.refl (fun _ => False) _).alloc _).row id (heap_new_at (by simp))) hb1; have hbc : RBox (w.heap.size + 2) w1 := box_below (heap_new_at (by simp)) hb1; have d0 : w1.cell? ⟨w.heap.size, 0, none⟩ = some (.int .i64 5) := (by rw [Lib.cell_of_heap hbo]; rfl); have d1 : w1.cell? ⟨w.heap.size, 1, none⟩ = some (.string key) := (by rw [Lib.cell_of_heap hbo]; rfl); have d2 : w1.cell? ⟨w.heap.size, 2, none⟩ = some (.string val) := (by rw [Lib.cell_of_heap hbo]; rfl); have d3 : w1.cell? ⟨w.heap.size, 3, none⟩ = some (.int .u64 n) := (by rw [Lib.cell_of_heap hbo]; rfl); have d4 : w1.cell? ⟨w.heap.size, 4, none⟩ = some (.string lo) := (by rw [Lib.cell_of_heap hbo]; rfl); have d5 : w1.cell? ⟨w.heap.size, 5, none⟩ = some (.string hi) := (by rw [Lib.cell_of_heap hbo]; rfl); have hxl := lt_of_row hbo; have HBO := Lib.hid hbo; have HBA := Lib.hid hba; have HBC := Lib.hid hbc; have HB1 := Lib.hid (below_next (below_alloc (below_alloc (below_alloc (Below.refl _ w)))) hb1); skip; clear hb1 hbo hba hbc)
    | (go_at_call 67; (with_reducible refine (HM.out _).mono ?_); rintro e w2 ⟨rfl, hb2⟩; have hb12 := below_next (below_alloc (o := .cells #[.string lo, .string hi] 119) (Below.refl _ w1)) hb2; have HBC2 := Lib.hid (show RBox (w.heap.size + 2) w2 from box_below HBC.out hb12); have HBA2 := Lib.hid (show RBox (w.heap.size + 1) w2 from box_below HBA.out hb12); have HBX2 := Lib.hid (box_cells hb2); have HB2 := Lib.hid (below_next HB1.out hb12); clear hb2 hb12))
  have hbx2 := HBX2.out
  have x0 : w2.cell? ⟨w1.heap.size, 0, none⟩ = some (.string lo) := by rw [Lib.cell_of_heap hbx2]; rfl
  have x1 : w2.cell? ⟨w1.heap.size, 1, none⟩ = some (.string hi) := by rw [Lib.cell_of_heap hbx2]; rfl
  have hxl2 := lt_of_row hbx2
  have hs2 := HB2.out.size
  have hs1 := HB1.out.size
  have hx3 : w.heap.size + 2 < w1.heap.size := lt_of_row HBC.out
  clear hbx2
  refine rg_start (n := 6) (fun w' => w'.cell? ⟨w1.heap.size, 0, none⟩ = some (.string lo) ∧ w'.cell? ⟨w1.heap.size, 1, none⟩ = some (.string hi) ∧ w1.heap.size < w'.heap.size) #[false, false, false, false, false, false] (by kernel_rfl) rfl rfl ⟨x0, x1, hxl2⟩ (fun hHeld => ?_)
  refine rg_take (i := 0) (N := (some 93)) (v := ?_) (a' := ?_) #[true, false, false, false, false, false] rfl rfl (by kernel_rfl) (fun _ _ _ h => h) (by rfl) ?_ hHeld ?_ ?_
  rotate_left 2
  · rintro w' ⟨s0, s1, s2⟩
    go_simp
    try with_reducible rfl
  · simp only [Act.put, List.setIfInBounds_toArray, List.set_cons_zero, List.set_cons_succ]
    rfl
  refine rg_take (i := 2) (N := (some 95)) (v := ?_) (a' := ?_) #[true, false, true, false, false, false] rfl rfl (by kernel_rfl) (fun _ _ _ h => h) (by rfl) ?_ hHeld ?_ ?_
  rotate_left 2
  · rintro w' ⟨s0, s1, s2⟩
    go_simp
    try with_reducible rfl
  · simp only [Act.put, List.setIfInBounds_toArray, List.set_cons_zero, List.set_cons_succ]
    rfl
  refine rg_one (i := 1) #[true, true, true, false, false, false] rfl (by kernel_rfl) (by rfl) (fun K hK => ?_)
  obtain ⟨s0, s1, s2⟩ := hHeld
  repeat go_step
  ((with_reducible refine (HN.out _ HB2.out.drew).mono ?_); rintro e w3 ⟨A3, c3, rfl, hel3, hb3⟩; have hbc3 : RBox (w.heap.size + 2) w3 := box_below (w := w2.drew) HBC2.out hb3; have hba3 : RBox (w.heap.size + 1) w3 := box_below (w := w2.drew) HBA2.out hb3; have hbw3 := below_next HB2.out.drew hb3)
  try dsimp only
  refine hK.out _ _ ?_ (fun hHeld => ?_)
  · exact ⟨keep_cell hb3 s2 s0, keep_cell hb3 s2 s1, keep_lt hb3 s2⟩
  clear hK K
  clear s0 s1 s2
  refine rg_one (i := 3) #[true, true, true, true, false, false] rfl (by kernel_rfl) (by rfl) (fun K hK => ?_)
  obtain ⟨s0, s1, s2⟩ := hHeld
  repeat go_step
  ((with_reducible refine (HWI.out _ _ _ hel3).mono ?_); rintro e w4 ⟨A4, c4, rfl, ho4, hb4⟩; have hbc4 : RBox (w.heap.size + 2) w4 := box_below hbc3 hb4; have hba4 : RBox (w.heap.size + 1) w4 := box_below hba3 hb4; have z3 : w4.cell? ⟨w.heap.size + 2, 3, none⟩ = some (.slice none 0 0) := (by rw [Lib.cell_of_heap hbc4]; rfl); have y3 := Lib.frozen_of_heap hbc4 3; have HRC := Lib.hid (setCell_row hbc4 3 (.slice A4 M.length c4)); have hfc : Fr (fun q => q = w.heap.size + 2) w4 (w4.setCell ⟨w.heap.size + 2, 3, none⟩ (.slice A4 M.length c4)) := (Fr.refl (fun q => q = w.heap.size + 2) w4).setCell (p := ⟨w.heap.size + 2, 3, none⟩) (fun _ => rfl) _; have HFC := Lib.hid hfc; have HBA4 := Lib.hid (hfc.row (by omega) hba4); have HBC4 := Lib.hid hbc4; have HO4 := Lib.hid ho4; have HBW4 := Lib.hid (below_next hbw3 hb4); have HS3 := Lib.hid hbw3.size; have HSX := Lib.hid s2)
  try dsimp only
  refine hK.out _ _ ?_ (fun hHeld => ?_)
  · exact ⟨keep_cell hb4 s2 s0, keep_cell hb4 s2 s1, keep_lt hb4 s2⟩
  clear hK K
  clear s0 s1 s2
  refine rg_take (i := 4) (N := (some 97)) (v := ?_) (a' := ?_) #[true, true, true, true, true, false] rfl rfl (by kernel_rfl) (fun _ _ _ h => h) (by rfl) ?_ hHeld ?_ ?_
  rotate_left 2
  · rintro w' ⟨s0, s1, s2⟩
    go_simp
    try with_reducible rfl
  · simp only [Act.put, List.setIfInBounds_toArray, List.set_cons_zero, List.set_cons_succ]
    rfl
  refine rg_one (i := 5) #[true, true, true, true, true, true] rfl (by kernel_rfl) (by rfl) (fun K hK => ?_)
  obtain ⟨s0, s1, s2⟩ := hHeld
  repeat go_step
  refine hK.out _ _ ?_ (fun hHeld => ?_)
  · exact ⟨hfc.cell s2 (by omega) s0, hfc.cell s2 (by omega) s1, Nat.lt_of_lt_of_le s2 hfc.size⟩
  clear hK K
  clear s0 s1 s2
  refine rg_done (by kernel_rfl) ?_
  clear hHeld hfc hbc3 hba3 hbc4 hba4 hbw3 hb3 hb4 ho4 hel3
  go_wp2_with (first
    | (refine wpList_load_mid rfl 76 (Operand.tmp 5) rfl (w.heap.size + 2) 0 rfl (refC 0 false ⟨#[]⟩ (.slice A4 M.length c4) 0 0) _ (row_range HRC.out) Tryz.underlying76 rfl HMS.out ?_)
    | (refine wpList_store_row rfl 76 (Operand.tmp 4) (Operand.tmp 108) rfl (w.heap.size + 1) _ (refC 0 false ⟨#[]⟩ (.slice A4 M.length c4) 0 0) _ rfl rfl HBA4.out rfl HMS.out (refans_all _ _ _ _ _ _ _ _) ?_; intro w9 hr9 hf9; have HR9 := Lib.hid hr9; have HF9 := Lib.hid hf9; clear hr9 hf9))
  refine bodyPost_ret (v := refV 0 false ⟨#[]⟩ (.slice A4 M.length c4) 0 0) (results_cell (a := 4) (t := 76) (ad := ⟨w.heap.size + 1, 0, none⟩) Tryz.results36 rfl (load_row _ HR9.out _ Tryz.underlying76 rfl HMS.out)) rfl ?_
  have hge := HSX.out
  refine refdo_done hbul HBW4.out (HRF.out.below HBW4.out) (Fr.refl _ _) (Nat.le_succ _) HBC4.out HFC.out HBA4.out HF9.out rfl ?_
  exact (((HO4.out.fr HFC.out (fun k hk e => by omega)).fr HF9.out (fun k hk e => by omega)).elems Itm.clen)
end Go.Proofs.YtdfgdnaejnngoaaGreat
namespace Go.Proofs.YtdfgdnaejnngoaaGreat
open Go.RowKit
theorem ref_only {w : World} {bu : Nat} {c : Int} {l : List Itm} {A : Option Addr} {cp : Nat} {sv : Value} (hrow : w.heap[bu]? = some (.cells #[.int .i64 c, sv] 83 (0, 0))) (hel : Elems w A 2 (l.map Itm.cells)) :
    RefAt ((w.setCell ⟨bu, 1, none⟩ (.slice (some ⟨w.heap.size, 0, none⟩) 1 1)).alloc (.cells #[.slice A l.length cp] 29)) bu c [l] := by
  have hf : Fr (fun k => k = bu) w (w.setCell ⟨bu, 1, none⟩ (.slice (some ⟨w.heap.size, 0, none⟩) 1 1)) := (Fr.refl (fun k => k = bu) w).setCell (p := ⟨bu, 1, none⟩) (fun _ => rfl) _
  have hr := setCell_row hrow 1 (.slice (some ⟨w.heap.size, 0, none⟩) 1 1)
  have hel2 := elems_other (cs := [.int .i64 c, sv]) hel hrow (fun i a b h1 h2 => by
      rcases i with _ | _ | i
      · simp at h1
      · simp at h2
      · simp at h2) hf
  have hsz : (w.setCell ⟨bu, 1, none⟩ (.slice (some ⟨w.heap.size, 0, none⟩) 1 1)).heap.size = w.heap.size := by simp
  generalize w.setCell ⟨bu, 1, none⟩ (.slice (some ⟨w.heap.size, 0, none⟩) 1 1) = W at *
  have hb : Below W.heap.size W (W.alloc (.cells #[.slice A l.length cp] 29)) := below_alloc (Below.refl _ W)
  have hg : (W.alloc (.cells #[.slice A l.length cp] 29)).heap[w.heap.size]? = some (.cells #[.slice A l.length cp] 29 (0, 0)) := by rw [← hsz]; exact heap_alloc_new W _
  refine ⟨⟨w.heap.size, 0, 1, [.slice A l.length cp], by simpa using box_below hr hb, rfl, Nat.le_refl _, ⟨_, hg⟩, fun j v hv => ?_, fun j v l' hv hl' => ?_⟩, by simp⟩
  · rcases j with _ | j
    · simp at hv
      subst hv
      rw [Lib.cell_of_heap hg]
      rfl
    · simp at hv
  · rcases j with _ | j
    · simp at hv hl'
      subst hv hl'
      exact ⟨_, _, rfl, hel2.below hb⟩
    · simp at hv
set_option maxHeartbeats 4000000 in
set_option maxRecDepth 100000 in
theorem refDo_safe (bu : Nat) (c : Int) (ls : List (List Itm)) (l : List Itm) (kind : Int) (key val : ByteArray) (n : Int) (lo hi : ByteArray) (w : World) (h : RefAt w bu c ls) (hl : ls[ls.length - 1]? = some l) (hn : ls.length ≤ 90000) (hln : l.length ≤ 60000) (ho : isOrd ⟨kind, key, val, n, lo, hi⟩ = true) (e1 : (kind == 1) = false) (e2 : (kind == 2) = false) (e3 : (kind == 3) = false) (e4 : (kind == 4) = false) (e5 : (kind == 5) = false) (e8 : (kind == 8) = false) :
    Calls Tryz.prog 36 #[.pointer (some ⟨bu, 0, none⟩), (Ord.mk kind key val n lo hi).v] w (RefDo bu c (0, false, ⟨#[]⟩, [], 0, 0) [l] w) := by
  have hia := fun W => refIs_any ⟨kind, key, val, n, lo, hi⟩ W
  rw [ho] at hia
  have hnow := fun W (hW : Below w.heap.size w W) => refNow_any bu c ls l W (h.below hW) hl hn
  rw [Ord.v_def] at hia ⊢
  dsimp only at hia ⊢
  have hbul := h.lt
  have HI := Lib.hid hia
  have HN := Lib.hid hnow
  have HRF := Lib.hid h
  have HMS := Lib.hid refans_size
  clear hia ho h hl hnow
  go_enter Tryz.func36, Tryz.ntmps36
  go_wp2_with (first
    | (go_at_call 64; (with_reducible refine (HI.out _).mono ?_); rintro e w1 ⟨rfl, hb1⟩; have hbo : QBox w.heap.size ⟨kind, key, val, n, lo, hi⟩ w1 := box_below (((Fr.refl (fun _ => False) _).alloc _).row id (((Fr.refl (fun _ => False) _).alloc _).row id (heap_alloc_new w _))) hb1; have hba : RBox (w.heap.size + 1) w1 := box_below (((Fr.refl (fun _ => False) _).alloc _).row id (heap_new_at (by simp))) hb1; have hbc : RBox (w.heap.size + 2) w1 := box_below (heap_new_at (by simp)) hb1; have d0 : w1.cell? ⟨w.heap.size, 0, none⟩ = some (.int .i64 kind) := (by rw [Lib.cell_of_heap hbo]; rfl); have d1 : w1.cell? ⟨w.heap.size, 1, none⟩ = some (.string key) := (by rw [Lib.cell_of_heap hbo]; rfl); have d2 : w1.cell? ⟨w.heap.size, 2, none⟩ = some (.string val) := (by rw [Lib.cell_of_heap hbo]; rfl); have d3 : w1.cell? ⟨w.heap.size, 3, none⟩ = some (.int .u64 n) := (by rw [Lib.cell_of_heap hbo]; rfl); have d4 : w1.cell? ⟨w.heap.size, 4, none⟩ = some (.string lo) := (by rw [Lib.cell_of_heap hbo]; rfl); have d5 : w1.cell? ⟨w.heap.size, 5, none⟩ = some (.string hi) := (by rw [Lib.cell_of_heap hbo]; rfl); have hxl := lt_of_row hbo; have HBO := Lib.hid hbo; have HBA := Lib.hid hba; have HBC := Lib.hid hbc; have HB1 := Lib.hid (below_next (below_alloc (below_alloc (below_alloc (Below.refl _ w)))) hb1); skip; clear hb1 hbo hba hbc)
    | (go_at_call 40; (with_reducible refine (HN.out _ HB1.out).mono ?_); rintro e w2 ⟨A2, c2, rfl, hel2, hb2⟩; have hbc2 : RBox (w.heap.size + 2) w2 := box_below HBC.out hb2; have hba2 : RBox (w.heap.size + 1) w2 := box_below HBA.out hb2; have hbw2 := below_next HB1.out hb2; obtain ⟨gr, off, cap, vs, r1, _⟩ := (HRF.out.below hbw2).row; have hbul2 := lt_of_row r1; have u1 : w2.cell? ⟨bu, 1, none⟩ = some (.slice (some ⟨gr, off, none⟩) vs.length cap) := (by rw [Lib.cell_of_heap r1]; rfl); have y1 := Lib.frozen_of_heap r1 1; have hrf := ref_only (cp := c2) r1 hel2; have hfa : Fr (fun q => q = bu) w2 ((w2.setCell ⟨bu, 1, none⟩ (.slice (some ⟨w2.heap.size, 0, none⟩) 1 1)).alloc (.cells #[.slice A2 l.length c2] 29)) := ((Fr.refl (fun q => q = bu) w2).setCell (p := ⟨bu, 1, none⟩) (fun _ => rfl) _).alloc _; have HRC := Lib.hid (hfa.row (by omega) hbc2); have HBA2 := Lib.hid (hfa.row (by omega) hba2); have HFA := Lib.hid hfa; have HRF2 := Lib.hid hrf; have HB2 := Lib.hid hbw2; have HBA3 := Lib.hid hba2; clear hbc2 hba2 hbw2 r1 hrf hfa hel2 hb2)
    | (refine wpList_load_mid rfl 76 (Operand.tmp 5) rfl (w.heap.size + 2) 0 rfl (refC 0 false ⟨#[]⟩ (.slice none 0 0) 0 0) _ (row_range HRC.out) Tryz.underlying76 rfl HMS.out ?_)
    | (refine wpList_store_row rfl 76 (Operand.tmp 4) (Operand.tmp 108) rfl (w.heap.size + 1) _ (refC 0 false ⟨#[]⟩ (.slice none 0 0) 0 0) _ rfl rfl HBA2.out rfl HMS.out (refans_all _ _ _ _ _ _ _ _) ?_; intro w9 hr9 hf9; have HR9 := Lib.hid hr9; have HF9 := Lib.hid hf9; clear hr9 hf9))
  refine bodyPost_ret (v := refV 0 false ⟨#[]⟩ (.slice none 0 0) 0 0) (results_cell (a := 4) (t := 76) (ad := ⟨w.heap.size + 1, 0, none⟩) Tryz.results36 rfl (load_row _ HR9.out _ Tryz.underlying76 rfl HMS.out)) rfl ?_
  exact refdo_done hbul HB2.out HRF2.out HFA.out (Nat.le_succ _) HRC.out (Fr.refl _ _) HBA2.out HF9.out rfl (elems_nil _ _)
theorem refDo_any (bu : Nat) (c : Int) (ls : List (List Itm)) (l : List Itm) (o : Ord) (w : World) (h : RefAt w bu c ls) (hl : ls[ls.length - 1]? = some l) (hn : ls.length ≤ 90000) (hln : l.length ≤ 60000) (hri : Rises l) (hok : ∀ y ∈ l, y.ok) (h0 : 0 ≤ o.n) (h1 : o.n < 18446744073709551616) :
    Calls Tryz.prog 36 #[.pointer (some ⟨bu, 0, none⟩), o.v] w (RefDo bu c (ansO c l o) (rowsO c ls l o) w) := by
  unfold ansO rowsO
  obtain ⟨kind, key, val, n, lo, hi⟩ := o
  by_cases ho : isOrd ⟨kind, key, val, n, lo, hi⟩ = true
  · rw [if_pos ho, if_pos ho]
    dsimp only at h0 h1 ⊢
    by_cases n1 : kind = 1
    · subst n1; exact refDo_put bu c ls l key val n lo hi w h hl hn hln hri hok ho
    by_cases n2 : kind = 2
    · subst n2; exact refDo_del bu c ls l key val n lo hi w h hl hn hln hri hok ho
    by_cases n3 : kind = 3
    · subst n3; exact refDo_add bu c ls l key val n lo hi w h hl hn hln hri hok h0 h1 ho
    have hm : msgO ⟨kind, key, val, n, lo, hi⟩ = none := by unfold msgO; rw [if_neg n1, if_neg n2, if_neg n3]
    rw [hm]
    dsimp only
    by_cases n4 : kind = 4
    · subst n4
      rw [if_pos rfl, if_pos (Or.inl rfl)]
      have hg := refDo_get bu c ls l key val n lo hi w h hl hn hln hri ho
      cases hk : isKey key with
      | true => rw [hk] at hg; exact hg
      | false =>
        have hgn : getL l key = none := getL_none (fun y hy e => by have := (hok y hy).1; rw [e, hk] at this; cases this)
        rw [hk, hgn] at hg
        exact hg
    by_cases n5 : kind = 5
    · subst n5
      rw [if_neg n4, if_pos rfl, if_pos (Or.inr (Or.inl rfl))]
      cases hk : isRng lo hi with
      | true => rw [if_pos rfl]; exact refDo_scan bu c ls l key val n lo hi w h hl hn hln hk ho
      | false => rw [if_neg (by decide)]; exact refDo_scanbad bu c ls l key val n lo hi w h hl hn hln hk ho
    by_cases n8 : kind = 8
    · subst n8
      rw [if_neg n4, if_neg n5, if_pos rfl, if_pos (Or.inr (Or.inr rfl))]
      exact refDo_stat bu c ls l key val n lo hi w h hl hn hln hok ho
    rw [if_neg n4, if_neg n5, if_neg n8, if_neg (by rintro (e | e | e); exact n4 e; exact n5 e; exact n8 e)]
    exact refDo_safe bu c ls l kind key val n lo hi w h hl hn hln ho (by simp [n1]) (by simp [n2]) (by simp [n3]) (by simp [n4]) (by simp [n5]) (by simp [n8])
  · rw [if_neg ho, if_neg ho]
    exact refDo_bad bu c ls kind key val n lo hi w h (by simpa using ho)
end Go.Proofs.YtdfgdnaejnngoaaGreat
namespace Go.Proofs.YtdfgdnaejnngoaaGreat
open Go.RowKit
/-! grangerref33.Plain. -/
theorem oks_fold : ∀ (os : List Ord) {l : List Itm}, (∀ y ∈ l, y.ok) → ∀ y ∈ os.foldl stepI l, y.ok
  | [], _, h => h
  | o :: os, l, h => by
    rw [List.foldl_cons]
    exact oks_fold os (oks_step h o)
theorem oks_items (os : List Ord) : ∀ y ∈ itemsO os, y.ok := oks_fold os (by simp)
set_option maxHeartbeats 2000000 in
set_option maxRecDepth 100000 in
theorem refPlain_any (c : Int) (A : Option Addr) (cap : Nat) (os : List Ord) (w : World) (hel : Elems w A 6 (os.map Ord.cells)) (hl : os.length ≤ 1000) (hn : okN os) :
    Calls Tryz.prog 27 #[.int .i64 c, .slice A os.length cap] w fun e w' => e = .returned (.bool (plainL c [] os)) ∧ Below w.heap.size w w' := by
  have hnw := fun W => refNew_any c W
  have HNW := Lib.hid hnw
  have HEL := Lib.hid hel
  have HN := Lib.hid hn
  have eF : ∀ (e : Int) (has : Bool) (vv : ByteArray) (A : Option Addr) (m c : Nat) (x y : Int) (W : World), (Instr.field 76 (refV e has vv (.slice A m c) x y) 0).run Tryz.prog W = .ok (.int .i64 e) W := fun e has vv A m c x y W => by kernel_rfl
  obtain ⟨R, hR⟩ : ∃ R, plainL c [] os = R := ⟨_, rfl⟩
  rw [hR]
  have HR := Lib.hid hR
  clear hnw hel hn hR
  go_enter Tryz.func27, Tryz.ntmps27
  go_wp2_with (go_at_call 33; (with_reducible refine (HNW.out _).mono ?_); rintro e w1 ⟨bu, rfl, hr1, hbu, hb1⟩; have HR1 := Lib.hid hr1; have HBU := Lib.hid hbu; have HB1 := Lib.hid hb1; clear hb1 hr1 hbu)
  have hbw := HBU.out
  go_loopw [6] (fun i wr => ∃ (k : Nat) (ls : List (List Itm)), i = .int .i64 k ∧ k ≤ os.length ∧ RefAt wr bu c ls ∧ ls[ls.length - 1]? = some (itemsO (os.take k)) ∧ ls.length ≤ k + 1 ∧ plainL c (itemsO (os.take k)) (os.drop k) = R ∧ Below w.heap.size w wr) (fun i _ => os.length + 1 - (intOf i).toNat)
  case atStart => exact ⟨0, [[]], rfl, Nat.zero_le _, HR1.out, rfl, Nat.le_refl _, HR.out, HB1.out⟩
  case round =>
    obtain ⟨k, ls, rfl, hk, hmo, hlast, hlsl, hpl, hbel⟩ := hrel
    by_cases hkl : k < os.length
    · have hkI : (k : Int) < (os.length : Int) := by omega
      obtain ⟨o, ho⟩ := get_lt hkl
      obtain ⟨b, off, rfl, hblt, d0, d1, d2, d3, d4, d5⟩ := ord_row (HEL.out.below hbel) ho
      obtain ⟨n0, n1⟩ := HN.out o (List.mem_of_getElem? ho)
      have hri : Rises (itemsO (os.take k)) := rises_items _
      have hok := oks_items (os.take k)
      have hln : (itemsO (os.take k)).length ≤ 1000 := by
        have := items_len (os.take k) (l := []) trivial
        rw [List.length_take] at this
        unfold itemsO
        simp at this
        omega
      have hdo : ∀ W, Below wr.heap.size wr W → Calls Tryz.prog 36 #[.pointer (some ⟨bu, 0, none⟩), o.v] W fun e w' => ∃ (has : Bool) (val : ByteArray) (A : Option Addr) (m cp : Nat) (x y : Int), e = .returned (refV (errO c (itemsO (os.take k)) o) has val (.slice A m cp) x y) ∧ RefAt w' bu c (rowsO c ls (itemsO (os.take k)) o) ∧ Below w.heap.size w w' := fun W hW => by
        refine (refDo_any bu c ls _ o W (hmo.below hW) hlast (by omega) (by omega) hri hok n0 n1).mono ?_
        rintro e w' ⟨A, m, cp, rfl, _, _, hm2, hf2⟩
        have hWw := below_next hbel hW
        exact ⟨_, _, A, m, cp, _, _, by rw [← ansO_err], hm2, hWw.trans (hf2.to_below hWw.size (fun i hi e => by omega))⟩
      obtain ⟨l', hl', hst, hlen', _⟩ := rowsO_last (c := c) (o := o) hri hlast
      rw [plain_drop _ ho] at hpl
      generalize rowsO c ls (itemsO (os.take k)) o = R2 at *
      have hit := items_take ho
      rw [← hit] at hst hpl
      generalize errO c (itemsO (os.take k)) o = E at *
      have HDO := Lib.hid hdo
      have HST := Lib.hid hst
      have HPL := Lib.hid hpl
      have HL2 := Lib.hid hl'
      have HLN := Lib.hid (show R2.length ≤ k + 1 + 1 by omega)
      clear hdo hst hpl hl' hit hri hok hln hmo hlast hbel ho n0 n1 hlsl hlen'
      obtain ⟨kind, key, val, n, lo, hi⟩ := o
      rw [Ord.v_def] at HDO
      dsimp only at d0 d1 d2 d3 d4 d5
      by_cases hE : E = 0
      · subst hE
        go_wp2_with (go_at_call 36; (with_reducible refine (HDO.out _ (Below.refl _ wr)).mono ?_); rintro e w3 ⟨has, vv, A3, m3, c3, x3, y3, rfl, hm3, hb3⟩; have HM3 := Lib.hid hm3; have HB3 := Lib.hid hb3; clear hm3 hb3)
        have hp := HPL.out
        rw [decide_true, Bool.true_and] at hp
        refine ⟨⟨k + 1, R2, by go_num, by omega, HM3.out, by rw [HL2.out, HST.out (by first | trivial | rfl)], HLN.out, hp, HB3.out⟩, ?_⟩
        simp [intOf]
        omega
      · have hE2 : (E != 0) = true := by simp [hE]
        have hRf : R = false := by rw [← HPL.out, decide_eq_false hE]; rfl
        subst hRf
        clear hE
        go_wp2_with (go_at_call 36; (with_reducible refine (HDO.out _ (Below.refl _ wr)).mono ?_); rintro e w3 ⟨has, vv, A3, m3, c3, x3, y3, rfl, hm3, hb3⟩; have HB3 := Lib.hid hb3; clear hm3 hb3)
        go_ret
        exact ⟨rfl, HB3.out⟩
    · obtain rfl : k = os.length := by omega
      rw [List.drop_length] at hpl
      have hRt : R = true := by rw [← hpl]; rfl
      subst hRt
      have HB := Lib.hid hbel
      clear hbel hmo hlast hlsl hpl
      go_wp2
      go_ret
      exact ⟨rfl, HB.out⟩
end Go.Proofs.YtdfgdnaejnngoaaGreat
