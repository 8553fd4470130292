import Derived.Test.YtdfgdnaejnngoaaGreatJa7
import Derived.Deep.WholeRow
import Derived.Deep.MidRow
import Derived.Test.YtdfgdnaejnngoaaGreatJa1
import Derived.Test.YtdfgdnaejnngoaaGreatJa6
namespace Go.Proofs.YtdfgdnaejnngoaaGreat
open Go.RowKit
/-! An order's message; model.get. -/
theorem results_cell {P : Program} {fn : Func} {tmps : Array Value} {a : Tmp} {t : TypeId} {ad : Addr} {v : Value} {w : World} (hf : fn.results = #[.cell a t]) (hp : tmps.getD a undef = .pointer (some ad)) (hl : (loadVar t ad).run P w = .ok v w) : (results fn tmps).run P w = .ok v w := by
  unfold results
  rw [hf]
  have hp2 : tmps[a]?.getD undef = .pointer (some ad) := by simpa using hp
  simp [hp2, hl, asAddr]
theorem results_cell2 {P : Program} {fn : Func} {tmps : Array Value} {a c : Tmp} {t : TypeId} {ad : Addr} {v x : Value} {w : World} (hf : fn.results = #[.cell a t, .tmp c]) (hp : tmps.getD a undef = .pointer (some ad)) (hl : (loadVar t ad).run P w = .ok v w) (hx : tmps.getD c undef = x) : (results fn tmps).run P w = .ok (.tuple #[v, x]) w := by
  unfold results
  rw [hf]
  have hp2 : tmps[a]?.getD undef = .pointer (some ad) := by simpa using hp
  have hx2 : tmps[c]?.getD undef = x := by simpa using hx
  simp [hp2, hl, hx2, asAddr]
theorem row_range {w : World} {b : Nat} {cs : List Value} {T : TypeId} {fz : Nat × Nat} (h : w.heap[b]? = some (.cells cs.toArray T fz)) : w.rangeAt b 0 cs := fun j v hv => by
  rw [Nat.zero_add, Lib.cell_of_heap h]
  simpa using hv
/-- a struct that is kept, read whole -/
theorem load_row {w : World} {b : Nat} {cs : List Value} {T : TypeId} {fz : Nat × Nat} (ty : TypeId) (h : w.heap[b]? = some (.cells cs.toArray T fz)) (d : TypeDesc) (hu : Tryz.prog.underlying ty = some d) (hd : d.isRow = true) (hi : (Tryz.prog.info? ty).map (·.size) = some cs.length) :
    (loadVar ty ⟨b, 0, none⟩).run Tryz.prog w = .ok (.agg cs.toArray) w := run_loadVar_mid w b 0 ty cs d (row_range h) hu hd hi
/-- a struct that is kept, written whole -/
theorem oper_store_row {op : Oper} {a : Act} {w : World} {K : Act → World → Prop} {Q : Exit → Act → World → Prop} (ty : TypeId) (x y : Operand) (ho : op.op = .store ty x y)
    (b : Nat) (zs : Array Value) (cs : List Value) (T : TypeId) (hx : a.eval x = .pointer (some ⟨b, 0, none⟩)) (hy : a.eval y = .agg cs.toArray) (hrow : w.heap[b]? = some (.cells zs T (0, 0))) (hz : zs.size = cs.length) (hi : (Tryz.prog.info? ty).map (·.size) = some cs.length) (h1 : cs.all (·.oneCell') = true)
    (h : ∀ w', w'.heap[b]? = some (.cells cs.toArray T (0, 0)) → Fr (fun k => k = b) w w' → K (a.put op.dst undef) w') : Oper.wp Tryz.prog op a w K Q := by
  have hr := run_storeVar_row (P := Tryz.prog) w b T ty zs cs.toArray hrow (by simpa using hi) (by simpa using hz) (by simpa using h1)
  unfold Oper.wp execOp
  simp only [ho, hx, hy, Instr.storeAt, Instr.sureAddr, Sem.run_bind, Sem.run_pure, Result.andThen_ok, hr]
  refine h _ ?_ ⟨rfl, rfl, rfl, by simp [World.setRow], fun k hk hn => ?_⟩
  · simp [World.setRow, Array.getElem?_modify, hrow]
  · have hn' : ¬ b = k := fun e => hn e.symm
    simp [World.setRow, Array.getElem?_modify, hn']
theorem wpList_store_row {ops : Array Oper} {rest : List Oper} {op : Oper} {a : Act} {w : World} {Q : Exit → Act → World → Prop} (hgd : op.guard = none) (ty : TypeId) (x y : Operand) (ho : op.op = .store ty x y)
    (b : Nat) (zs : Array Value) (cs : List Value) (T : TypeId) (hx : a.eval x = .pointer (some ⟨b, 0, none⟩)) (hy : a.eval y = .agg cs.toArray) (hrow : w.heap[b]? = some (.cells zs T (0, 0))) (hz : zs.size = cs.length) (hi : (Tryz.prog.info? ty).map (·.size) = some cs.length) (h1 : cs.all (·.oneCell') = true)
    (h : ∀ w', w'.heap[b]? = some (.cells cs.toArray T (0, 0)) → Fr (fun k => k = b) w w' → wpList Tryz.prog ops Q rest (a.put op.dst undef) w') : wpList Tryz.prog ops Q (op :: rest) a w :=
  wpList_plain hgd fun K hK => oper_store_row ty x y ho b zs cs T hx hy hrow hz hi h1 (fun w' hr hf => hK _ _ (h w' hr hf))
theorem mg_size : (Tryz.prog.info? 90).map (·.size) = some 3 := by kernel_rfl
theorem mg_all (x : Mg) : x.cells.all (·.oneCell') = true := rfl
set_option maxRecDepth 100000 in
theorem ofAdd_any (k : ByteArray) (n : Int) (w : World) (h0 : 0 ≤ n) (hn : n < 18446744073709551616) : Calls Tryz.prog 76 #[.string k, .int .u64 n] w fun e w' => e = .returned (Mg.mk 3 k (valB n.toNat)).v ∧ Below w.heap.size w w' := by
  rw [Mg.v_def]
  have hv := fun W => value_any n.toNat W (by omega)
  rw [Int.toNat_of_nonneg h0, ← show valB n.toNat = ⟨(valBytes n.toNat).toArray⟩ from rfl] at hv
  generalize valB n.toNat = V at *
  have HV := Lib.hid hv
  have HMS := Lib.hid mg_size
  clear hv h0 hn
  go_enter Tryz.func76, Tryz.ntmps76
  go_wp2_with (first
    | (go_at_call 106; (with_reducible refine (HV.out _).mono ?_); rintro e w1 ⟨rfl, hb1⟩; have HBX := Lib.hid (box_cells hb1); have HB1 := Lib.hid (below_next (below_alloc (Below.refl _ w)) hb1); clear hb1)
    | (refine wpList_store_row rfl 90 (Operand.tmp 4) (Operand.tmp 8) rfl w.heap.size _ (Mg.mk 3 k V).cells _ rfl rfl HBX.out rfl HMS.out (mg_all _) ?_; intro w2 hr2 hf2; have HR2 := Lib.hid hr2; have HF2 := Lib.hid hf2; clear hr2 hf2))
  refine bodyPost_ret (v := (Mg.mk 3 k V).v) (results_cell (a := 4) (t := 90) (ad := ⟨w.heap.size, 0, none⟩) Tryz.results76 rfl (load_row _ HR2.out _ Tryz.underlying90 rfl HMS.out)) rfl ⟨rfl, HB1.out.trans (HF2.out.to_below HB1.out.size (fun i hi e => by omega))⟩
def msgZ (o : Ord) : Mg := (msgO o).getD ⟨0, ⟨#[]⟩, ⟨#[]⟩⟩
set_option maxRecDepth 100000 in
theorem mdl_message (o : Ord) (w : World) (h0 : 0 ≤ o.n) (hn : o.n < 18446744073709551616) : Calls Tryz.prog 44 #[o.v] w fun e w' => e = .returned (.tuple #[(msgZ o).v, .bool (msgO o).isSome]) ∧ Below w.heap.size w w' := by
  have hp := fun k v W => ofPut_any k v W
  have hd := fun k W => ofDel_any k W
  have ha := fun W => ofAdd_any o.key o.n W h0 hn
  simp only [Mg.v_def] at hp hd ha
  have HP := Lib.hid hp
  have HD := Lib.hid hd
  have HA := Lib.hid ha
  have HMS := Lib.hid mg_size
  clear hp hd ha h0 hn
  obtain ⟨kind, key, val, n, lo, hi⟩ := o
  rw [Ord.v_def]
  unfold msgZ msgO
  dsimp only at HA ⊢
  generalize valB n.toNat = V at *
  by_cases h1 : kind = 1
  · subst h1
    rw [if_pos rfl]
    go_enter Tryz.func44, Tryz.ntmps44
    go_wp2_with (first
      | (go_at_call 74; (with_reducible refine (HP.out _ _ _).mono ?_); rintro e w1 ⟨rfl, hb1⟩; have hbx : w1.heap[w.heap.size + 1]? = some (.cells #[.int .i64 0, .string ⟨#[]⟩, .string ⟨#[]⟩] 90 (0, 0)) := ((Fr.of_below (S := fun _ => False) hb1).row id (heap_new_at (by simp))); have HBX := Lib.hid hbx; clear hbx; have HB1 := Lib.hid (below_next (below_alloc (below_alloc (Below.refl _ w))) hb1); clear hb1)
      | (refine wpList_store_row rfl 90 (Operand.tmp 2) (Operand.tmp 12) rfl (w.heap.size + 1) _ (Mg.mk 1 key val).cells _ rfl rfl HBX.out rfl HMS.out (mg_all _) ?_; intro w2 hr2 hf2; have HR2 := Lib.hid hr2; have HF2 := Lib.hid hf2; clear hr2 hf2))
    refine bodyPost_ret (v := .tuple #[(Mg.mk 1 key val).v, .bool true]) (results_cell2 (a := 2) (c := 3) (t := 90) (ad := ⟨w.heap.size + 1, 0, none⟩) Tryz.results44 rfl (load_row _ HR2.out _ Tryz.underlying90 rfl HMS.out) rfl) rfl ⟨rfl, HB1.out.trans (HF2.out.to_below HB1.out.size (fun i hi e => by omega))⟩
  by_cases h2 : kind = 2
  · subst h2
    rw [if_neg h1, if_pos rfl]
    clear h1
    go_enter Tryz.func44, Tryz.ntmps44
    go_wp2_with (first
      | (go_at_call 75; (with_reducible refine (HD.out _ _).mono ?_); rintro e w1 ⟨rfl, hb1⟩; have hbx : w1.heap[w.heap.size + 1]? = some (.cells #[.int .i64 0, .string ⟨#[]⟩, .string ⟨#[]⟩] 90 (0, 0)) := ((Fr.of_below (S := fun _ => False) hb1).row id (heap_new_at (by simp))); have HBX := Lib.hid hbx; clear hbx; have HB1 := Lib.hid (below_next (below_alloc (below_alloc (Below.refl _ w))) hb1); clear hb1)
      | (refine wpList_store_row rfl 90 (Operand.tmp 2) (Operand.tmp 17) rfl (w.heap.size + 1) _ (Mg.mk 2 key ⟨#[]⟩).cells _ rfl rfl HBX.out rfl HMS.out (mg_all _) ?_; intro w2 hr2 hf2; have HR2 := Lib.hid hr2; have HF2 := Lib.hid hf2; clear hr2 hf2))
    refine bodyPost_ret (v := .tuple #[(Mg.mk 2 key ⟨#[]⟩).v, .bool true]) (results_cell2 (a := 2) (c := 3) (t := 90) (ad := ⟨w.heap.size + 1, 0, none⟩) Tryz.results44 rfl (load_row _ HR2.out _ Tryz.underlying90 rfl HMS.out) rfl) rfl ⟨rfl, HB1.out.trans (HF2.out.to_below HB1.out.size (fun i hi e => by omega))⟩
  by_cases h3 : kind = 3
  · subst h3
    rw [if_neg h1, if_neg h2, if_pos rfl]
    clear h1 h2
    go_enter Tryz.func44, Tryz.ntmps44
    go_wp2_with (first
      | (go_at_call 76; (with_reducible refine (HA.out _).mono ?_); rintro e w1 ⟨rfl, hb1⟩; have hbx : w1.heap[w.heap.size + 1]? = some (.cells #[.int .i64 0, .string ⟨#[]⟩, .string ⟨#[]⟩] 90 (0, 0)) := ((Fr.of_below (S := fun _ => False) hb1).row id (heap_new_at (by simp))); have HBX := Lib.hid hbx; clear hbx; have HB1 := Lib.hid (below_next (below_alloc (below_alloc (Below.refl _ w))) hb1); clear hb1)
      | (refine wpList_store_row rfl 90 (Operand.tmp 2) (Operand.tmp 24) rfl (w.heap.size + 1) _ (Mg.mk 3 key V).cells _ rfl rfl HBX.out rfl HMS.out (mg_all _) ?_; intro w2 hr2 hf2; have HR2 := Lib.hid hr2; have HF2 := Lib.hid hf2; clear hr2 hf2))
    refine bodyPost_ret (v := .tuple #[(Mg.mk 3 key V).v, .bool true]) (results_cell2 (a := 2) (c := 3) (t := 90) (ad := ⟨w.heap.size + 1, 0, none⟩) Tryz.results44 rfl (load_row _ HR2.out _ Tryz.underlying90 rfl HMS.out) rfl) rfl ⟨rfl, HB1.out.trans (HF2.out.to_below HB1.out.size (fun i hi e => by omega))⟩
  · rw [if_neg h1, if_neg h2, if_neg h3]
    have e1 : (kind == 1) = false := by simp [h1]
    have e2 : (kind == 2) = false := by simp [h2]
    have e3 : (kind == 3) = false := by simp [h3]
    clear h1 h2 h3
    go_enter Tryz.func44, Tryz.ntmps44
    go_wp2
    refine bodyPost_ret (v := .tuple #[(Mg.mk 0 ⟨#[]⟩ ⟨#[]⟩).v, .bool false]) (results_cell2 (a := 2) (c := 3) (t := 90) (ad := ⟨w.heap.size + 1, 0, none⟩) Tryz.results44 rfl (load_row (cs := (Mg.mk 0 ⟨#[]⟩ ⟨#[]⟩).cells) _ (heap_new_at (by simp)) _ Tryz.underlying90 rfl HMS.out) rfl) rfl ⟨rfl, below_alloc (below_alloc (Below.refl _ w))⟩
set_option maxRecDepth 100000 in
theorem prn_message (o : Ord) (w : World) (h0 : 0 ≤ o.n) (hn : o.n < 18446744073709551616) : Calls Tryz.prog 57 #[o.v] w fun e w' => e = .returned (.tuple #[(msgZ o).v, .bool (msgO o).isSome]) ∧ Below w.heap.size w w' := by
  have hp := fun k v W => ofPut_any k v W
  have hd := fun k W => ofDel_any k W
  have ha := fun W => ofAdd_any o.key o.n W h0 hn
  simp only [Mg.v_def] at hp hd ha
  have HP := Lib.hid hp
  have HD := Lib.hid hd
  have HA := Lib.hid ha
  have HMS := Lib.hid mg_size
  clear hp hd ha h0 hn
  obtain ⟨kind, key, val, n, lo, hi⟩ := o
  rw [Ord.v_def]
  unfold msgZ msgO
  dsimp only at HA ⊢
  generalize valB n.toNat = V at *
  by_cases h1 : kind = 1
  · subst h1
    rw [if_pos rfl]
    go_enter Tryz.func57, Tryz.ntmps57
    go_wp2_with (first
      | (go_at_call 74; (with_reducible refine (HP.out _ _ _).mono ?_); rintro e w1 ⟨rfl, hb1⟩; have hbx : w1.heap[w.heap.size + 1]? = some (.cells #[.int .i64 0, .string ⟨#[]⟩, .string ⟨#[]⟩] 90 (0, 0)) := ((Fr.of_below (S := fun _ => False) hb1).row id (heap_new_at (by simp))); have HBX := Lib.hid hbx; clear hbx; have HB1 := Lib.hid (below_next (below_alloc (below_alloc (Below.refl _ w))) hb1); clear hb1)
      | (refine wpList_store_row rfl 90 (Operand.tmp 2) (Operand.tmp 12) rfl (w.heap.size + 1) _ (Mg.mk 1 key val).cells _ rfl rfl HBX.out rfl HMS.out (mg_all _) ?_; intro w2 hr2 hf2; have HR2 := Lib.hid hr2; have HF2 := Lib.hid hf2; clear hr2 hf2))
    refine bodyPost_ret (v := .tuple #[(Mg.mk 1 key val).v, .bool true]) (results_cell2 (a := 2) (c := 3) (t := 90) (ad := ⟨w.heap.size + 1, 0, none⟩) Tryz.results57 rfl (load_row _ HR2.out _ Tryz.underlying90 rfl HMS.out) rfl) rfl ⟨rfl, HB1.out.trans (HF2.out.to_below HB1.out.size (fun i hi e => by omega))⟩
  by_cases h2 : kind = 2
  · subst h2
    rw [if_neg h1, if_pos rfl]
    clear h1
    go_enter Tryz.func57, Tryz.ntmps57
    go_wp2_with (first
      | (go_at_call 75; (with_reducible refine (HD.out _ _).mono ?_); rintro e w1 ⟨rfl, hb1⟩; have hbx : w1.heap[w.heap.size + 1]? = some (.cells #[.int .i64 0, .string ⟨#[]⟩, .string ⟨#[]⟩] 90 (0, 0)) := ((Fr.of_below (S := fun _ => False) hb1).row id (heap_new_at (by simp))); have HBX := Lib.hid hbx; clear hbx; have HB1 := Lib.hid (below_next (below_alloc (below_alloc (Below.refl _ w))) hb1); clear hb1)
      | (refine wpList_store_row rfl 90 (Operand.tmp 2) (Operand.tmp 17) rfl (w.heap.size + 1) _ (Mg.mk 2 key ⟨#[]⟩).cells _ rfl rfl HBX.out rfl HMS.out (mg_all _) ?_; intro w2 hr2 hf2; have HR2 := Lib.hid hr2; have HF2 := Lib.hid hf2; clear hr2 hf2))
    refine bodyPost_ret (v := .tuple #[(Mg.mk 2 key ⟨#[]⟩).v, .bool true]) (results_cell2 (a := 2) (c := 3) (t := 90) (ad := ⟨w.heap.size + 1, 0, none⟩) Tryz.results57 rfl (load_row _ HR2.out _ Tryz.underlying90 rfl HMS.out) rfl) rfl ⟨rfl, HB1.out.trans (HF2.out.to_below HB1.out.size (fun i hi e => by omega))⟩
  by_cases h3 : kind = 3
  · subst h3
    rw [if_neg h1, if_neg h2, if_pos rfl]
    clear h1 h2
    go_enter Tryz.func57, Tryz.ntmps57
    go_wp2_with (first
      | (go_at_call 76; (with_reducible refine (HA.out _).mono ?_); rintro e w1 ⟨rfl, hb1⟩; have hbx : w1.heap[w.heap.size + 1]? = some (.cells #[.int .i64 0, .string ⟨#[]⟩, .string ⟨#[]⟩] 90 (0, 0)) := ((Fr.of_below (S := fun _ => False) hb1).row id (heap_new_at (by simp))); have HBX := Lib.hid hbx; clear hbx; have HB1 := Lib.hid (below_next (below_alloc (below_alloc (Below.refl _ w))) hb1); clear hb1)
      | (refine wpList_store_row rfl 90 (Operand.tmp 2) (Operand.tmp 24) rfl (w.heap.size + 1) _ (Mg.mk 3 key V).cells _ rfl rfl HBX.out rfl HMS.out (mg_all _) ?_; intro w2 hr2 hf2; have HR2 := Lib.hid hr2; have HF2 := Lib.hid hf2; clear hr2 hf2))
    refine bodyPost_ret (v := .tuple #[(Mg.mk 3 key V).v, .bool true]) (results_cell2 (a := 2) (c := 3) (t := 90) (ad := ⟨w.heap.size + 1, 0, none⟩) Tryz.results57 rfl (load_row _ HR2.out _ Tryz.underlying90 rfl HMS.out) rfl) rfl ⟨rfl, HB1.out.trans (HF2.out.to_below HB1.out.size (fun i hi e => by omega))⟩
  · rw [if_neg h1, if_neg h2, if_neg h3]
    have e1 : (kind == 1) = false := by simp [h1]
    have e2 : (kind == 2) = false := by simp [h2]
    have e3 : (kind == 3) = false := by simp [h3]
    clear h1 h2 h3
    go_enter Tryz.func57, Tryz.ntmps57
    go_wp2
    refine bodyPost_ret (v := .tuple #[(Mg.mk 0 ⟨#[]⟩ ⟨#[]⟩).v, .bool false]) (results_cell2 (a := 2) (c := 3) (t := 90) (ad := ⟨w.heap.size + 1, 0, none⟩) Tryz.results57 rfl (load_row (cs := (Mg.mk 0 ⟨#[]⟩ ⟨#[]⟩).cells) _ (heap_new_at (by simp)) _ Tryz.underlying90 rfl HMS.out) rfl) rfl ⟨rfl, below_alloc (below_alloc (Below.refl _ w))⟩
end Go.Proofs.YtdfgdnaejnngoaaGreat
namespace Go.Proofs.YtdfgdnaejnngoaaGreat
open Go.RowKit
/-! model.get, scan, safe. -/
/-- an answer's cells -/
def ansC (err : Int) (has : Bool) (val : ByteArray) (its : Value) (n wt : Int) : List Value := [.int .i64 err, .bool has, .string val, its, .int .i64 n, .int .i64 wt, .int .i64 0, .int .i64 0, .int .i64 0, .int .i64 0, .int .i64 0, .int .i64 0, .int .i64 0]
theorem ans_size : (Tryz.prog.info? 35).map (·.size) = some 13 := by kernel_rfl
theorem ans_all (err : Int) (has : Bool) (val : ByteArray) (A : Option Addr) (n c : Nat) (m wt : Int) : (ansC err has val (.slice A n c) m wt).all (·.oneCell') = true := rfl
def ansV (err : Int) (has : Bool) (val : ByteArray) (its : Value) (n wt : Int) : Value := .agg (ansC err has val its n wt).toArray
set_option maxRecDepth 100000 in
theorem get_bad (bm : Nat) (k : ByteArray) (w : World) (hk : isKey k = false) : Calls Tryz.prog 46 #[.pointer (some ⟨bm, 0, none⟩), .string k] w fun e w' => e = .returned (ansV 1 false ⟨#[]⟩ (.slice none 0 0) 0 0) ∧ Below w.heap.size w w' := by
  have hi := fun W => keyIs_any k W
  rw [hk] at hi
  have HI := Lib.hid hi
  have HMS := Lib.hid ans_size
  clear hi hk
  go_enter Tryz.func46, Tryz.ntmps46
  go_wp2_with (first
    | (go_at_call 31; (with_reducible refine (HI.out _).mono ?_); rintro e w1 ⟨rfl, hb1⟩; have HBX := Lib.hid (box_cells hb1); have HB1 := Lib.hid (below_next (below_alloc (Below.refl _ w)) hb1); clear hb1)
    | (refine wpList_store_row rfl 35 (Operand.tmp 4) (Operand.tmp 8) rfl w.heap.size _ (ansC 1 false ⟨#[]⟩ (.slice none 0 0) 0 0) _ rfl rfl HBX.out rfl HMS.out (ans_all _ _ _ _ _ _ _ _) ?_; intro w2 hr2 hf2; have HR2 := Lib.hid hr2; have HF2 := Lib.hid hf2; clear hr2 hf2))
  refine bodyPost_ret (v := ansV 1 false ⟨#[]⟩ (.slice none 0 0) 0 0) (results_cell (a := 4) (t := 35) (ad := ⟨w.heap.size, 0, none⟩) Tryz.results46 rfl (load_row _ HR2.out _ Tryz.underlying35 rfl HMS.out)) rfl ⟨rfl, HB1.out.trans (HF2.out.to_below HB1.out.size (fun i hi e => by omega))⟩
set_option maxRecDepth 100000 in
theorem get_ok (bm g : Nat) (N : Int) (ls : List (List Itm)) (l : List Itm) (k : ByteArray) (w : World) (h : ModelAt w bm g N ls) (hl : ls[ls.length - 1]? = some l) (hn : ls.length ≤ 90000) (hln : l.length ≤ 60000) (hk : isKey k = true) :
    Calls Tryz.prog 46 #[.pointer (some ⟨bm, 0, none⟩), .string k] w fun e w' => e = .returned (ansV 0 (getL l k).isSome (strO (getL l k)) (.slice none 0 0) 0 0) ∧ Below w.heap.size w w' := by
  have hri : Rises l := by
    obtain ⟨_, _, _, _, _, _, _, _, _, _, _, hla⟩ := h.last hl
    exact hla.rises
  have hnow : ∀ W, Below w.heap.size w W → Calls Tryz.prog 48 #[.pointer (some ⟨bm, 0, none⟩)] W (NowRes l W) := fun W hW => now_any bm g N ls l W (h.below hW) hl (by omega)
  have hfi := fun p A c W (hla : LeafAt W p A c l) => find_any p c A l k W hla (by omega)
  rw [find_get _ hri] at hfi
  generalize strO (getL l k) = fs at *
  generalize (getL l k).isSome = fb at *
  have hi := fun W => keyIs_any k W
  rw [hk] at hi
  have HI := Lib.hid hi
  have HN := Lib.hid hnow
  have HF := Lib.hid hfi
  have HMS := Lib.hid ans_size
  clear hi hk hnow hfi hri h hl
  go_enter Tryz.func46, Tryz.ntmps46
  go_wp2_with (first
    | (go_at_call 31; (with_reducible refine (HI.out _).mono ?_); rintro e w1 ⟨rfl, hb1⟩; have HBX := Lib.hid (box_cells hb1); have HB1 := Lib.hid (below_next (below_alloc (Below.refl _ w)) hb1); clear hb1)
    | (go_at_call 48; (with_reducible refine (HN.out _ HB1.out).mono ?_); rintro e w2 ⟨p, A, c, rfl, hla, hb2⟩; have HLA := Lib.hid hla; have HB2 := Lib.hid hb2; clear hla hb2)
    | (go_at_call 77; (with_reducible refine (HF.out _ _ _ _ HLA.out).mono ?_); rintro e w3 ⟨rfl, hb3⟩; have hbx := (Fr.of_below (S := fun _ => False) (below_next HB2.out hb3)).row id HBX.out; have hb13 := below_next HB1.out (below_next HB2.out hb3); have d1 : w3.cell? ⟨w.heap.size, 1, none⟩ = some (.bool false) := (by rw [Lib.cell_of_heap hbx]; rfl); have d2 : w3.cell? ⟨w.heap.size, 2, none⟩ = some (.string ⟨#[]⟩) := (by rw [Lib.cell_of_heap hbx]; rfl); have f1 := Lib.frozen_of_heap hbx 1; have f2 := Lib.frozen_of_heap hbx 2; have hr5 := setCell_row (setCell_row hbx 2 (.string fs)) 1 (.bool fb); have hf5 : Fr (fun q => q = w.heap.size) w3 ((w3.setCell ⟨w.heap.size, 2, none⟩ (.string fs)).setCell ⟨w.heap.size, 1, none⟩ (.bool fb)) := ((Fr.refl (fun q => q = w.heap.size) w3).setCell (p := ⟨w.heap.size, 2, none⟩) (fun _ => rfl) _).setCell (p := ⟨w.heap.size, 1, none⟩) (fun _ => rfl) _; have HR5 := Lib.hid hr5; have HF5 := Lib.hid hf5; have HB3 := Lib.hid hb13; clear hr5 hf5 hbx hb13 hb3)
    | (refine wpList_load_mid rfl 35 (Operand.tmp 4) rfl w.heap.size 0 rfl (ansC 0 fb fs (.slice none 0 0) 0 0) _ (row_range HR5.out) Tryz.underlying35 rfl HMS.out ?_)
    | (refine wpList_store_row rfl 35 (Operand.tmp 4) (Operand.tmp 18) rfl w.heap.size _ (ansC 0 fb fs (.slice none 0 0) 0 0) _ rfl rfl HR5.out rfl HMS.out (ans_all _ _ _ _ _ _ _ _) ?_; intro w6 hr6 hf6; have HR6 := Lib.hid hr6; have HF6 := Lib.hid hf6; clear hr6 hf6))
  refine bodyPost_ret (v := ansV 0 fb fs (.slice none 0 0) 0 0) (results_cell (a := 4) (t := 35) (ad := ⟨w.heap.size, 0, none⟩) Tryz.results46 rfl (load_row _ HR6.out _ Tryz.underlying35 rfl HMS.out)) rfl ⟨rfl, HB3.out.trans ((HF5.out.tr HF6.out).to_below HB3.out.size (fun i hi e => by omega))⟩
end Go.Proofs.YtdfgdnaejnngoaaGreat
namespace Go.Proofs.YtdfgdnaejnngoaaGreat
open Go.RowKit
/-! model.scan. -/
set_option maxRecDepth 100000 in
theorem scan_bad (bm : Nat) (lo hi : ByteArray) (w : World) (hk : isRng lo hi = false) : Calls Tryz.prog 47 #[.pointer (some ⟨bm, 0, none⟩), .agg #[.string lo, .string hi]] w fun e w' => e = .returned (ansV 1 false ⟨#[]⟩ (.slice none 0 0) 0 0) ∧ Below w.heap.size w w' := by
  have hri := fun W => rangeIs_any lo hi W
  rw [hk] at hri
  have HI := Lib.hid hri
  have HMS := Lib.hid ans_size
  clear hri hk
  go_enter Tryz.func47, Tryz.ntmps47
  go_wp2_with (first
    | (go_at_call 80; (with_reducible refine (HI.out _).mono ?_); rintro e w1 ⟨rfl, hb1⟩; have hbx : w1.heap[w.heap.size + 1]? = some (.cells (ansC 0 false ⟨#[]⟩ (.slice none 0 0) 0 0).toArray 35 (0, 0)) := ((Fr.of_below (S := fun _ => False) hb1).row id (heap_new_at (by simp))); have HBX := Lib.hid hbx; have HB1 := Lib.hid (below_next (below_alloc (below_alloc (Below.refl _ w))) hb1); clear hb1 hbx)
    | (refine wpList_store_row rfl 35 (Operand.tmp 4) (Operand.tmp 8) rfl (w.heap.size + 1) _ (ansC 1 false ⟨#[]⟩ (.slice none 0 0) 0 0) _ rfl rfl HBX.out rfl HMS.out (ans_all _ _ _ _ _ _ _ _) ?_; intro w2 hr2 hf2; have HR2 := Lib.hid hr2; have HF2 := Lib.hid hf2; clear hr2 hf2))
  refine bodyPost_ret (v := ansV 1 false ⟨#[]⟩ (.slice none 0 0) 0 0) (results_cell (a := 4) (t := 35) (ad := ⟨w.heap.size + 1, 0, none⟩) Tryz.results47 rfl (load_row _ HR2.out _ Tryz.underlying35 rfl HMS.out)) rfl ⟨rfl, HB1.out.trans (HF2.out.to_below HB1.out.size (fun i hi e => by omega))⟩
set_option maxHeartbeats 1000000 in
set_option maxRecDepth 100000 in
theorem scan_ok (bm g : Nat) (N : Int) (ls : List (List Itm)) (l : List Itm) (lo hi : ByteArray) (w : World) (h : ModelAt w bm g N ls) (hl : ls[ls.length - 1]? = some l) (hn : ls.length ≤ 90000) (hln : l.length ≤ 60000) (hk : isRng lo hi = true) :
    Calls Tryz.prog 47 #[.pointer (some ⟨bm, 0, none⟩), .agg #[.string lo, .string hi]] w fun e w' => ∃ A n c, e = .returned (ansV 0 false ⟨#[]⟩ (.slice A n c) 0 0) ∧ OwnsM w' w.heap.size (.slice A n c) (withinL lo hi l) ∧ Below w.heap.size w w' := by
  have hnow : ∀ W, Below w.heap.size w W → Calls Tryz.prog 48 #[.pointer (some ⟨bm, 0, none⟩)] W (NowRes l W) := fun W hW => now_any bm g N ls l W (h.below hW) hl (by omega)
  have hwi := fun p A c W (hla : LeafAt W p A c l) => within_any p c A lo hi l W hla (by omega)
  have hwl := within_len lo hi l
  have hit := fun p A c W (hla : LeafAt W p A c (withinL lo hi l)) => items_any p c A _ W hla (by omega)
  have hri := fun W => rangeIs_any lo hi W
  rw [hk] at hri
  have HI := Lib.hid hri
  have HN := Lib.hid hnow
  have HW := Lib.hid hwi
  have HT := Lib.hid hit
  have HMS := Lib.hid ans_size
  generalize hD : withinL lo hi l = D at *
  clear hri hk hnow hwi hit h hl hwl hD
  go_enter Tryz.func47, Tryz.ntmps47
  go_wp2_with (go_at_call 80; (with_reducible refine (HI.out _).mono ?_); rintro e w1 ⟨rfl, hb1⟩; have hbx : w1.heap[w.heap.size + 1]? = some (.cells (ansC 0 false ⟨#[]⟩ (.slice none 0 0) 0 0).toArray 35 (0, 0)) := ((Fr.of_below (S := fun _ => False) hb1).row id (heap_new_at (by simp))); have HBX := Lib.hid hbx; have hbc : w1.heap[w.heap.size]? = some (.cells #[.string lo, .string hi] 97 (0, 0)) := ((Fr.of_below (S := fun _ => False) hb1).row id (((Fr.refl (fun _ => False) _).alloc _).row id (heap_alloc_new w _))); have HBC := Lib.hid hbc; have HB1 := Lib.hid (below_next (below_alloc (below_alloc (Below.refl _ w))) hb1); clear hb1 hbx hbc)
  have B1 := HB1.out
  have hbx := HBX.out
  have c0 : w1.cell? ⟨w.heap.size, 0, none⟩ = some (.string lo) := by rw [Lib.cell_of_heap HBC.out]; rfl
  have c1 : w1.cell? ⟨w.heap.size, 1, none⟩ = some (.string hi) := by rw [Lib.cell_of_heap HBC.out]; rfl
  have hxl : w.heap.size < w1.heap.size := lt_of_row HBC.out
  refine rg_start (n := 7) (fun w' => Below w.heap.size w w' ∧ w'.cell? ⟨w.heap.size, 0, none⟩ = some (.string lo) ∧ w'.cell? ⟨w.heap.size, 1, none⟩ = some (.string hi) ∧ w.heap.size < w'.heap.size) #[false, false, false, false, false, false, false] (by kernel_rfl) rfl rfl ⟨B1.drew, c0, c1, hxl⟩ (fun hHeld => ?_)
  refine rg_take (i := 0) (N := (some 9)) (v := ?_) (a' := ?_) #[true, false, false, false, false, false, false] rfl rfl (by kernel_rfl) (fun _ _ _ h => h) (by rfl) ?_ hHeld ?_ ?_
  rotate_left 2
  · rintro w' ⟨s0, s1, s2, s3⟩
    go_simp
    try with_reducible rfl
  · simp only [Act.put, List.setIfInBounds_toArray, List.set_cons_zero, List.set_cons_succ]
    rfl
  refine rg_take (i := 2) (N := (some 11)) (v := ?_) (a' := ?_) #[true, false, true, false, false, false, false] rfl rfl (by kernel_rfl) (fun _ _ _ h => h) (by rfl) ?_ hHeld ?_ ?_
  rotate_left 2
  · rintro w' ⟨s0, s1, s2, s3⟩
    go_simp
    try with_reducible rfl
  · simp only [Act.put, List.setIfInBounds_toArray, List.set_cons_zero, List.set_cons_succ]
    rfl
  refine rg_one (i := 1) #[true, true, true, false, false, false, false] rfl (by kernel_rfl) (by rfl) (fun K hK => ?_)
  obtain ⟨s0, s1, s2, s3⟩ := hHeld
  repeat go_step
  ((with_reducible refine (HN.out _ s0).mono ?_); rintro e w2 ⟨p, A, c, rfl, hla, hb2⟩; have hbx := (Fr.of_below (S := fun _ => False) hb2).row id hbx)
  try dsimp only
  refine hK.out _ _ ?_ (fun hHeld => ?_)
  · (repeat (first | (with_reducible assumption) | (with_reducible apply And.intro) | (with_reducible refine keep_cell (w := ?_) ?_ ?_ ?_; rotate_left; with_reducible assumption) | (with_reducible refine keep_cell_alloc ?_ ?_) | (with_reducible refine keep_lt (w := ?_) ?_ ?_; rotate_left; with_reducible assumption) | (with_reducible refine keep_lt_alloc ?_) | (with_reducible refine below_next (w := ?_) ?_ ?_; rotate_left 2; with_reducible assumption) | (with_reducible refine below_alloc ?_) | (with_reducible refine Below.drew ?_) | (with_reducible refine keep_lt_drew ?_) | (with_reducible refine keep_cell_drew ?_)))
  clear hK K
  clear s0 s1 s2 s3
  refine rg_one (i := 3) #[true, true, true, true, false, false, false] rfl (by kernel_rfl) (by rfl) (fun K hK => ?_)
  obtain ⟨s0, s1, s2, s3⟩ := hHeld
  repeat go_step
  ((with_reducible refine (HW.out p A c _ hla).mono ?_); rintro e w3 ⟨p3, A3, c3, rfl, hla3, _, _, hb3⟩; have hbx := (Fr.of_below (S := fun _ => False) hb3).row id hbx)
  try dsimp only
  refine hK.out _ _ ?_ (fun hHeld => ?_)
  · (repeat (first | (with_reducible assumption) | (with_reducible apply And.intro) | (with_reducible refine keep_cell (w := ?_) ?_ ?_ ?_; rotate_left; with_reducible assumption) | (with_reducible refine keep_cell_alloc ?_ ?_) | (with_reducible refine keep_lt (w := ?_) ?_ ?_; rotate_left; with_reducible assumption) | (with_reducible refine keep_lt_alloc ?_) | (with_reducible refine below_next (w := ?_) ?_ ?_; rotate_left 2; with_reducible assumption) | (with_reducible refine below_alloc ?_) | (with_reducible refine Below.drew ?_) | (with_reducible refine keep_lt_drew ?_) | (with_reducible refine keep_cell_drew ?_)))
  clear hK K
  clear s0 s1 s2 s3
  refine rg_one (i := 4) #[true, true, true, true, true, false, false] rfl (by kernel_rfl) (by rfl) (fun K hK => ?_)
  obtain ⟨s0, s1, s2, s3⟩ := hHeld
  repeat go_step
  ((with_reducible refine (HT.out p3 A3 c3 _ hla3).mono ?_); rintro e w4 ⟨A4, c4, rfl, ho4, hb4⟩; have hs4 := lt_of_row hbx; have hbx := (Fr.of_below (S := fun _ => False) hb4).row id hbx)
  try dsimp only
  refine hK.out _ _ ?_ (fun hHeld => ?_)
  · (repeat (first | (with_reducible assumption) | (with_reducible apply And.intro) | (with_reducible refine keep_cell (w := ?_) ?_ ?_ ?_; rotate_left; with_reducible assumption) | (with_reducible refine keep_cell_alloc ?_ ?_) | (with_reducible refine keep_lt (w := ?_) ?_ ?_; rotate_left; with_reducible assumption) | (with_reducible refine keep_lt_alloc ?_) | (with_reducible refine below_next (w := ?_) ?_ ?_; rotate_left 2; with_reducible assumption) | (with_reducible refine below_alloc ?_) | (with_reducible refine Below.drew ?_) | (with_reducible refine keep_lt_drew ?_) | (with_reducible refine keep_cell_drew ?_)))
  clear hK K
  clear s0 s1 s2 s3
  refine rg_take (i := 5) (N := (some 14)) (v := ?_) (a' := ?_) #[true, true, true, true, true, true, false] rfl rfl (by kernel_rfl) (fun _ _ _ h => h) (by rfl) ?_ hHeld ?_ ?_
  rotate_left 2
  · rintro w' ⟨s0, s1, s2, s3⟩
    go_simp
    try with_reducible rfl
  · simp only [Act.put, List.setIfInBounds_toArray, List.set_cons_zero, List.set_cons_succ]
    rfl
  refine rg_one (i := 6) #[true, true, true, true, true, true, true] rfl (by kernel_rfl) (by rfl) (fun K hK => ?_)
  obtain ⟨s0, s1, s2, s3⟩ := hHeld
  (refine oper_store_row 35 (Operand.tmp 4) (Operand.tmp 14) rfl (w.heap.size + 1) _ (ansC 0 false ⟨#[]⟩ (.slice A4 D.length c4) 0 0) _ rfl rfl hbx rfl HMS.out (ans_all _ _ _ _ _ _ _ _) ?_; intro w6 hr6 hf6; simp only [Act.put])
  repeat go_step
  refine hK.out _ _ ?_ (fun hHeld => ?_)
  · exact ⟨s0.trans (hf6.to_below s0.size (fun i hi e => by omega)), hf6.cell s3 (by omega) s1, hf6.cell s3 (by omega) s2, Nat.lt_of_lt_of_le s3 hf6.size⟩
  clear hK K
  clear s0 s1 s2 s3
  refine rg_done (by kernel_rfl) ?_
  have ho6 := (ho4.fr hf6 (fun k hk e => by omega)).base (B' := w.heap.size) (by omega)
  have HR6 := Lib.hid hr6
  have HO6 := Lib.hid ho6
  have HB6 := Lib.hid hHeld.1
  clear hr6 ho6 hf6 hHeld
  go_wp2
  refine bodyPost_ret (v := ansV 0 false ⟨#[]⟩ (.slice A4 D.length c4) 0 0) (results_cell (a := 4) (t := 35) (ad := ⟨w.heap.size + 1, 0, none⟩) Tryz.results47 rfl (load_row _ HR6.out _ Tryz.underlying35 rfl HMS.out)) rfl ⟨A4, D.length, c4, rfl, HO6.out, HB6.out⟩
end Go.Proofs.YtdfgdnaejnngoaaGreat
namespace Go.Proofs.YtdfgdnaejnngoaaGreat
open Go.RowKit
/-! model.safe. -/
theorem model_safe {w : World} {bm g : Nat} {N : Int} {ls : List (List Itm)} {l : List Itm} (h : ModelAt w bm g N ls) (hl : ls[ls.length - 1]? = some l) {off n cap : Nat} (c7 : w.cell? ⟨bm, 7, none⟩ = some (.slice (some ⟨g, off, none⟩) (n + 1) cap)) (hn : n + 1 = ls.length) :
    ModelAt (w.setCell ⟨bm, 7, none⟩ (.slice (some ⟨g, off + n, none⟩) 1 (cap - n))) bm g N [l] ∧ Fr (fun k => k = bm) w (w.setCell ⟨bm, 7, none⟩ (.slice (some ⟨g, off + n, none⟩) 1 (cap - n))) := by
  have hF : Fr (fun k => k = bm) w (w.setCell ⟨bm, 7, none⟩ (.slice (some ⟨g, off + n, none⟩) 1 (cap - n))) := (Fr.refl (fun k => k = bm) w).setCell (p := ⟨bm, 7, none⟩) (fun _ => rfl) _
  obtain ⟨off', n', cap', ps, hrow, hra, hps, hlv⟩ := h.row
  have hd := (plan_cells hrow).2.2.2.2.2.2.2
  rw [hd] at c7
  simp only [Option.some.injEq, Value.slice.injEq, Addr.mk.injEq, true_and, and_true] at c7
  obtain ⟨rfl, rfl, rfl⟩ := c7
  have hle := hra.le
  have hcm := hra.cm
  obtain ⟨cur, hgr, hfit, hcur⟩ := hra.blk
  have hgb : ¬ g = bm := fun e => kinds_ne hgr hrow (by decide) e
  obtain ⟨p, hp⟩ := get_lt (l := ps) (i := ls.length - 1) (by omega)
  obtain ⟨A, c, hla, hap⟩ := hlv _ p l hp hl
  have h1 : ¬ p = bm := fun e => kinds_ne hla.cell hrow (by decide) e
  have hj : ls.length - 1 = n := by omega
  rw [hj] at hp
  refine ⟨⟨⟨off' + n, 1, cap' - n, [p], ?_, ⟨rfl, ⟨cur, hF.row hgb hgr, by omega, ?_⟩, by omega, by omega⟩, rfl, ?_⟩, by simp⟩, hF⟩
  · have hpa : (planA N ++ #[.slice (some ⟨g, off', none⟩) (n + 1) cap']) = ([.int .i64 N, .int .i64 (pLog N), .int .i64 (2 + pLog N), .int .i64 (pData N), .int .i64 (pHalf N), .int .i64 (pLeaves N), .int .i64 (pCap N), .slice (some ⟨g, off', none⟩) (n + 1) cap'] : List Value).toArray := rfl
    rw [hpa] at hrow
    exact setCell_row hrow 7 (.slice (some ⟨g, off' + n, none⟩) 1 (cap' - n))
  · intro j q hq
    rcases j with _ | j
    · simp at hq
      subst hq
      exact hcur n p hp
    · simp at hq
  · intro j q l' hq hl'
    rcases j with _ | j
    · simp at hq hl'
      subst hq hl'
      exact ⟨A, c, hla.fr hF h1 (fun hn' ad e => (hap hn' ad e).1), hap⟩
    · simp at hq
set_option maxHeartbeats 1000000 in
set_option maxRecDepth 100000 in
theorem safe_any (bm g : Nat) (N : Int) (ls : List (List Itm)) (l : List Itm) (w : World) (h : ModelAt w bm g N ls) (hl : ls[ls.length - 1]? = some l) (hn : ls.length ≤ 90000) :
    Calls Tryz.prog 51 #[.pointer (some ⟨bm, 0, none⟩)] w fun e w' => e = .returned (.tuple #[]) ∧ ModelAt w' bm g N [l] ∧ Fr (fun k => k = bm) w w' := by
  obtain ⟨off, n, cap, p, A, c, c7, hn1, hnc, hcm, cp, hla⟩ := h.last hl
  obtain ⟨off', n', cap', ps, hrow, hra, hps, hlv⟩ := h.row
  have f7 := Lib.frozen_of_heap hrow 7
  have hw1 : IntKind.i64.wrap ((n : Int) + 1 - 1) = (n : Int) := by rw [IntKind.wrap_i64]; omega
  have hw2 : IntKind.i64.wrap (n : Int) = (n : Int) := by rw [IntKind.wrap_i64]; omega
  have hsf := fun W (hW : Below w.heap.size w W) c7 => model_safe (h.below hW) hl (off := off) (n := n) (cap := cap) c7 hn1
  have HSF := Lib.hid hsf
  have hnn : n ≤ 90000 := by omega
  have hcn : ¬ cap = n := by omega
  have hnI : (n : Int) ≤ (n : Int) + 1 := by omega
  clear h hl hra hps hlv hrow cp hla hsf hn1 hcm
  have hd7 : w.drew.cell? ⟨bm, 7, none⟩ = some (.slice (some ⟨g, off, none⟩) (n + 1) cap) := c7
  have hf7 : w.drew.frozen? ⟨bm, 7, none⟩ = false := f7
  go_enter Tryz.func51, Tryz.ntmps51
  refine rg_start (n := 15) (fun w' => True) #[false, false, false, false, false, false, false, false, false, false, false, false, false, false, false] (by kernel_rfl) rfl rfl trivial (fun hHeld => ?_)
  refine rg_take (i := 0) (N := (some 2)) (v := ?_) (a' := ?_) #[true, false, false, false, false, false, false, false, false, false, false, false, false, false, false] rfl rfl (by kernel_rfl) (fun _ _ _ h => h) (by rfl) ?_ hHeld ?_ ?_
  rotate_left 2
  · rintro w' _s
    go_simp
    try with_reducible rfl
  · simp only [Act.put, List.setIfInBounds_toArray, List.set_cons_zero, List.set_cons_succ]
    rfl
  refine rg_take (i := 1) (N := (some 3)) (v := ?_) (a' := ?_) #[true, true, false, false, false, false, false, false, false, false, false, false, false, false, false] rfl rfl (by kernel_rfl) (fun _ _ _ h => h) (by rfl) ?_ hHeld ?_ ?_
  rotate_left 2
  · rintro w' _s
    go_simp
    try with_reducible rfl
  · simp only [Act.put, List.setIfInBounds_toArray, List.set_cons_zero, List.set_cons_succ]
    rfl
  refine rg_take (i := 2) (N := (some 4)) (v := ?_) (a' := ?_) #[true, true, true, false, false, false, false, false, false, false, false, false, false, false, false] rfl rfl (by kernel_rfl) (fun _ _ _ h => h) (by rfl) ?_ hHeld ?_ ?_
  rotate_left 2
  · rintro w' _s
    go_simp
    try with_reducible rfl
  · simp only [Act.put, List.setIfInBounds_toArray, List.set_cons_zero, List.set_cons_succ]
    rfl
  refine rg_take (i := 3) (N := (some 5)) (v := ?_) (a' := ?_) #[true, true, true, true, false, false, false, false, false, false, false, false, false, false, false] rfl rfl (by kernel_rfl) (fun _ _ _ h => h) (by rfl) ?_ hHeld ?_ ?_
  rotate_left 2
  · rintro w' _s
    go_simp
    try with_reducible rfl
  · simp only [Act.put, List.setIfInBounds_toArray, List.set_cons_zero, List.set_cons_succ]
    rfl
  refine rg_take (i := 5) (N := (some 7)) (v := ?_) (a' := ?_) #[true, true, true, true, false, true, false, false, false, false, false, false, false, false, false] rfl rfl (by kernel_rfl) (fun _ _ _ h => h) (by rfl) ?_ hHeld ?_ ?_
  rotate_left 2
  · rintro w' _s
    go_simp
    try with_reducible rfl
  · simp only [Act.put, List.setIfInBounds_toArray, List.set_cons_zero, List.set_cons_succ]
    rfl
  refine rg_take (i := 6) (N := (some 8)) (v := ?_) (a' := ?_) #[true, true, true, true, false, true, true, false, false, false, false, false, false, false, false] rfl rfl (by kernel_rfl) (fun _ _ _ h => h) (by rfl) ?_ hHeld ?_ ?_
  rotate_left 2
  · rintro w' _s
    go_simp
    try with_reducible rfl
  · simp only [Act.put, List.setIfInBounds_toArray, List.set_cons_zero, List.set_cons_succ]
    rfl
  refine rg_take (i := 7) (N := (some 9)) (v := ?_) (a' := ?_) #[true, true, true, true, false, true, true, true, false, false, false, false, false, false, false] rfl rfl (by kernel_rfl) (fun _ _ _ h => h) (by rfl) ?_ hHeld ?_ ?_
  rotate_left 2
  · rintro w' _s
    go_simp
    try with_reducible rfl
  · simp only [Act.put, List.setIfInBounds_toArray, List.set_cons_zero, List.set_cons_succ]
    rfl
  refine rg_two (i := 4) (j := 8) #[true, true, true, true, true, true, true, true, false, false, false, false, false, false, false] #[true, true, true, true, false, true, true, true, true, false, false, false, false, false, false] rfl rfl (by kernel_rfl) (by rfl) (by rfl) (fun K hK => ?_) (fun K hK => ?_)
  · skip
    repeat go_step
    (skip)
    try dsimp only
    refine hK.out _ _ ?_ (fun hHeld => ?_)
    · trivial
    clear hK K
    refine rg_one (i := 8) #[true, true, true, true, true, true, true, true, true, false, false, false, false, false, false] rfl (by kernel_rfl) (by rfl) (fun K hK => ?_)
    repeat go_step
    (skip)
    try dsimp only
    refine hK.out _ _ ?_ (fun hHeld => ?_)
    · trivial
    clear hK K
    refine rg_take (i := 9) (N := (some 11)) (v := ?_) (a' := ?_) #[true, true, true, true, true, true, true, true, true, true, false, false, false, false, false] rfl rfl (by kernel_rfl) (fun _ _ _ h => h) (by rfl) ?_ hHeld ?_ ?_
    rotate_left 2
    · rintro w' _s
      go_simp
      try with_reducible rfl
    · simp only [Act.put, List.setIfInBounds_toArray, List.set_cons_zero, List.set_cons_succ]
      rfl
    refine rg_take (i := 10) (N := (some 12)) (v := ?_) (a' := ?_) #[true, true, true, true, true, true, true, true, true, true, true, false, false, false, false] rfl rfl (by kernel_rfl) (fun _ _ _ h => h) (by rfl) ?_ hHeld ?_ ?_
    rotate_left 2
    · rintro w' _s
      go_simp
      try with_reducible rfl
    · simp only [Act.put, List.setIfInBounds_toArray, List.set_cons_zero, List.set_cons_succ]
      rfl
    refine rg_take (i := 11) (N := (some 13)) (v := ?_) (a' := ?_) #[true, true, true, true, true, true, true, true, true, true, true, true, false, false, false] rfl rfl (by kernel_rfl) (fun _ _ _ h => h) (by rfl) ?_ hHeld ?_ ?_
    rotate_left 2
    · rintro w' _s
      go_simp
      try with_reducible rfl
    · simp only [Act.put, List.setIfInBounds_toArray, List.set_cons_zero, List.set_cons_succ]
      rfl
    refine rg_take (i := 12) (N := (some 14)) (v := ?_) (a' := ?_) #[true, true, true, true, true, true, true, true, true, true, true, true, true, false, false] rfl rfl (by kernel_rfl) (fun _ _ _ h => h) (by rfl) ?_ hHeld ?_ ?_
    rotate_left 2
    · rintro w' _s
      go_simp
      try with_reducible rfl
    · simp only [Act.put, List.setIfInBounds_toArray, List.set_cons_zero, List.set_cons_succ]
      rfl
    refine rg_take (i := 13) (N := (some 15)) (v := ?_) (a' := ?_) #[true, true, true, true, true, true, true, true, true, true, true, true, true, true, false] rfl rfl (by kernel_rfl) (fun _ _ _ h => h) (by rfl) ?_ hHeld ?_ ?_
    rotate_left 2
    · rintro w' _s
      go_simp
      try with_reducible rfl
    · simp only [Act.put, List.setIfInBounds_toArray, List.set_cons_zero, List.set_cons_succ]
      rfl
    refine rg_one (i := 14) #[true, true, true, true, true, true, true, true, true, true, true, true, true, true, true] rfl (by kernel_rfl) (by rfl) (fun K hK => ?_)
    repeat go_step
    refine hK.out _ _ ?_ (fun hHeld => ?_)
    · trivial
    clear hK K
    refine rg_done (by kernel_rfl) ?_
    go_end0
    obtain ⟨hm, hf⟩ := HSF.out w.drew (Below.refl _ w).drew hd7
    exact ⟨rfl, hm, (Fr.refl (fun k => k = bm) w).drew.tr hf⟩
  · skip
    repeat go_step
    (skip)
    try dsimp only
    refine hK.out _ _ ?_ (fun hHeld => ?_)
    · trivial
    clear hK K
    refine rg_take (i := 9) (N := (some 11)) (v := ?_) (a' := ?_) #[true, true, true, true, false, true, true, true, true, true, false, false, false, false, false] rfl rfl (by kernel_rfl) (fun _ _ _ h => h) (by rfl) ?_ hHeld ?_ ?_
    rotate_left 2
    · rintro w' _s
      go_simp
      try with_reducible rfl
    · simp only [Act.put, List.setIfInBounds_toArray, List.set_cons_zero, List.set_cons_succ]
      rfl
    refine rg_take (i := 10) (N := (some 12)) (v := ?_) (a' := ?_) #[true, true, true, true, false, true, true, true, true, true, true, false, false, false, false] rfl rfl (by kernel_rfl) (fun _ _ _ h => h) (by rfl) ?_ hHeld ?_ ?_
    rotate_left 2
    · rintro w' _s
      go_simp
      try with_reducible rfl
    · simp only [Act.put, List.setIfInBounds_toArray, List.set_cons_zero, List.set_cons_succ]
      rfl
    refine rg_one (i := 4) #[true, true, true, true, true, true, true, true, true, true, true, false, false, false, false] rfl (by kernel_rfl) (by rfl) (fun K hK => ?_)
    repeat go_step
    (skip)
    try dsimp only
    refine hK.out _ _ ?_ (fun hHeld => ?_)
    · trivial
    clear hK K
    refine rg_take (i := 11) (N := (some 13)) (v := ?_) (a' := ?_) #[true, true, true, true, true, true, true, true, true, true, true, true, false, false, false] rfl rfl (by kernel_rfl) (fun _ _ _ h => h) (by rfl) ?_ hHeld ?_ ?_
    rotate_left 2
    · rintro w' _s
      go_simp
      try with_reducible rfl
    · simp only [Act.put, List.setIfInBounds_toArray, List.set_cons_zero, List.set_cons_succ]
      rfl
    refine rg_take (i := 12) (N := (some 14)) (v := ?_) (a' := ?_) #[true, true, true, true, true, true, true, true, true, true, true, true, true, false, false] rfl rfl (by kernel_rfl) (fun _ _ _ h => h) (by rfl) ?_ hHeld ?_ ?_
    rotate_left 2
    · rintro w' _s
      go_simp
      try with_reducible rfl
    · simp only [Act.put, List.setIfInBounds_toArray, List.set_cons_zero, List.set_cons_succ]
      rfl
    refine rg_take (i := 13) (N := (some 15)) (v := ?_) (a' := ?_) #[true, true, true, true, true, true, true, true, true, true, true, true, true, true, false] rfl rfl (by kernel_rfl) (fun _ _ _ h => h) (by rfl) ?_ hHeld ?_ ?_
    rotate_left 2
    · rintro w' _s
      go_simp
      try with_reducible rfl
    · simp only [Act.put, List.setIfInBounds_toArray, List.set_cons_zero, List.set_cons_succ]
      rfl
    refine rg_one (i := 14) #[true, true, true, true, true, true, true, true, true, true, true, true, true, true, true] rfl (by kernel_rfl) (by rfl) (fun K hK => ?_)
    repeat go_step
    refine hK.out _ _ ?_ (fun hHeld => ?_)
    · trivial
    clear hK K
    refine rg_done (by kernel_rfl) ?_
    go_end0
    obtain ⟨hm, hf⟩ := HSF.out w.drew (Below.refl _ w).drew hd7
    exact ⟨rfl, hm, (Fr.refl (fun k => k = bm) w).drew.tr hf⟩
end Go.Proofs.YtdfgdnaejnngoaaGreat
namespace Go.Proofs.YtdfgdnaejnngoaaGreat
open Go.RowKit
/-! model.Do. -/
/-- what is answered: error, whether, value, items, number, weight -/
def ansO (c : Int) (now : List Itm) (o : Ord) : Int × Bool × ByteArray × List Itm × Int × Int :=
  if isOrd o = true then
    (match msgO o with
     | some m => (errU c now m, false, ⟨#[]⟩, [], 0, 0)
     | none => if o.kind = 4 then (if isKey o.key = true then (0, (getL now o.key).isSome, strO (getL now o.key), [], 0, 0) else (1, false, ⟨#[]⟩, [], 0, 0))
       else if o.kind = 5 then (if isRng o.lo o.hi = true then (0, false, ⟨#[]⟩, withinL o.lo o.hi now, 0, 0) else (1, false, ⟨#[]⟩, [], 0, 0))
       else if o.kind = 8 then (0, false, ⟨#[]⟩, [], now.length, sumW now) else (0, false, ⟨#[]⟩, [], 0, 0))
  else (1, false, ⟨#[]⟩, [], 0, 0)
def rowsO (c : Int) (ls : List (List Itm)) (now : List Itm) (o : Ord) : List (List Itm) :=
  if isOrd o = true then
    (match msgO o with
     | some m => rowsU c ls now m
     | none => if o.kind = 4 ∨ o.kind = 5 ∨ o.kind = 8 then ls else [now])
  else ls
theorem ansO_err (c : Int) (now : List Itm) (o : Ord) : (ansO c now o).1 = errO c now o := by
  unfold ansO errO
  by_cases h : isOrd o = true
  · rw [if_pos h, if_pos h]
    cases msgO o with
    | some m => rfl
    | none =>
      dsimp only
      split
      · split <;> rfl
      · split
        · split <;> rfl
        · split <;> rfl
  · rw [if_neg h, if_neg h]
def DoRes2 (bm g : Nat) (N : Int) (a : Int × Bool × ByteArray × List Itm × Int × Int) (ls' : List (List Itm)) (w : World) (e : Ending) (w' : World) : Prop :=
  ∃ A k c, e = .returned (ansV a.1 a.2.1 a.2.2.1 (.slice A k c) a.2.2.2.2.1 a.2.2.2.2.2) ∧ OwnsM w' w.heap.size (.slice A k c) a.2.2.2.1 ∧ ∃ g', ModelAt w' bm g' N ls' ∧ (g' = g ∨ w.heap.size ≤ g') ∧ Fr (fun k => k = bm ∨ k = g) w w'
theorem do_keep {w w' : World} {bm g : Nat} {N : Int} {ls : List (List Itm)} (h : ModelAt w bm g N ls) (hb : Below w.heap.size w w') {err : Int} {has : Bool} {val : ByteArray} {n wt : Int} :
    DoRes2 bm g N (err, has, val, [], n, wt) ls w (.returned (ansV err has val (.slice none 0 0) n wt)) w' := ⟨none, 0, 0, rfl, OwnsG.nil _ _, g, h.below hb, .inl rfl, Fr.of_below hb⟩
/-- a block that is none of the model's -/
theorem model_other {w w' : World} {bm g q : Nat} {N : Int} {ls : List (List Itm)} {cs : List Value} {T : TypeId} (h : ModelAt w bm g N ls) (hq : w.heap[q]? = some (.cells cs.toArray T (0, 0))) (h1 : T ≠ 102) (h2 : T ≠ 98) (h3 : T ≠ 139)
    (hns : ∀ i a b, cs[i]? = some (.string a) → cs[i + 1]? = some (.string b) → False) (hf : Fr (fun k => k = q) w w') : ModelAt w' bm g N ls := by
  obtain ⟨off, n, cap, ps, hrow, hra, hps, hlv⟩ := h.row
  obtain ⟨cur, hgr, hfit, hcur⟩ := hra.blk
  refine ⟨⟨off, n, cap, ps, hf.row (fun e => kinds_ne hrow hq h1.symm e) hrow, hra.fr hf (fun e => kinds_ne hgr hq h2.symm e), hps, fun j p l hp hl => ?_⟩, h.pos⟩
  obtain ⟨A, c, hla, hap⟩ := hlv j p l hp hl
  refine ⟨A, c, hla.fr hf (fun e => kinds_ne hla.cell hq h3.symm e) (fun hn ad e hb => ?_), hap⟩
  obtain ⟨x, l', rfl⟩ := List.exists_cons_of_ne_nil hn
  obtain ⟨b, o, e2, hlt, hc⟩ := hla.els 0 x.cells rfl
  rw [e] at e2
  cases e2
  have hb : b = q := hb
  subst hb
  have c0 := hc 0 _ rfl
  have c1 := hc 1 _ rfl
  rw [Lib.cell_of_heap hq] at c0 c1
  refine hns (o + 0 * 2) x.key x.val ?_ ?_
  · simpa using c0
  · simpa using c1
theorem ans_nopair (err : Int) (has : Bool) (val : ByteArray) (A : Option Addr) (n c : Nat) (m wt : Int) : ∀ i a b, (ansC err has val (.slice A n c) m wt)[i]? = some (.string a) → (ansC err has val (.slice A n c) m wt)[i + 1]? = some (.string b) → False := by
  intro i a b h1 h2
  rcases i with _ | _ | _ | _ | _ | _ | _ | _ | _ | _ | _ | _ | _ | i <;> simp [ansC] at h1 h2
/-- an answer, written behind the deed -/
theorem do_done {w w2 w3 w9 : World} {bm g g3 s : Nat} {N : Int} {ls' : List (List Itm)} {a : Int × Bool × ByteArray × List Itm × Int × Int} {A : Option Addr} {k c : Nat} (hbl : bm < w.heap.size) (hb2 : Below w.heap.size w w2) (hm3 : ModelAt w3 bm g3 N ls') (hg3 : g3 = g ∨ w2.heap.size ≤ g3) (hf3 : Fr (fun k => k = bm ∨ k = g) w2 w3)
    (hq : w3.heap[s]? = some (.cells (ansC 0 false ⟨#[]⟩ (.slice none 0 0) 0 0).toArray 35 (0, 0))) (hs : w.heap.size ≤ s) (hf9 : Fr (fun k => k = s) w3 w9) (hown : OwnsM w9 w.heap.size (.slice A k c) a.2.2.2.1) :
    DoRes2 bm g N a ls' w (.returned (ansV a.1 a.2.1 a.2.2.1 (.slice A k c) a.2.2.2.2.1 a.2.2.2.2.2)) w9 := by
  have hsz := hb2.size
  refine ⟨A, k, c, rfl, hown, g3, model_other hm3 hq (by decide) (by decide) (by decide) (ans_nopair _ _ _ _ _ _ _ _) hf9, ?_, ?_⟩
  · rcases hg3 with e | e
    · exact .inl e
    · exact .inr (by omega)
  · exact ((Fr.of_below hb2).tr hf3).trans (hf9) (fun i hi e => by omega)
abbrev zeroC : List Value := ansC 0 false ⟨#[]⟩ (.slice none 0 0) 0 0
abbrev OBox (s : Nat) (o : Ord) (w : World) : Prop := w.heap[s]? = some (.cells o.cells.toArray 39 (0, 0))
abbrev ABox (s : Nat) (w : World) : Prop := w.heap[s]? = some (.cells zeroC.toArray 35 (0, 0))
theorem ord_size : (Tryz.prog.info? 39).map (·.size) = some 6 := by kernel_rfl
theorem box_below {w w' : World} {s : Nat} {o : Obj} (h : w.heap[s]? = some o) (hb : Below w.heap.size w w') : w'.heap[s]? = some o := (Fr.of_below (S := fun _ => False) hb).row id h
set_option maxRecDepth 100000 in
theorem do_bad (bm g : Nat) (N : Int) (ls : List (List Itm)) (o : Ord) (w : World) (h : ModelAt w bm g N ls) (ho : isOrd o = false) :
    Calls Tryz.prog 12 #[.pointer (some ⟨bm, 0, none⟩), o.v] w (DoRes2 bm g N (1, false, ⟨#[]⟩, [], 0, 0) ls w) := by
  have hia := fun W => is_any o W
  rw [ho] at hia
  obtain ⟨kind, key, val, n, lo, hi⟩ := o
  rw [Ord.v_def] at hia ⊢
  have HI := Lib.hid hia
  have HMO := Lib.hid h
  have HMS := Lib.hid ans_size
  clear hia ho h
  go_enter Tryz.func12, Tryz.ntmps12
  go_wp2_with (first
    | (go_at_call 43; (with_reducible refine (HI.out _).mono ?_); rintro e w1 ⟨rfl, hb1⟩; have hbo : OBox w.heap.size ⟨kind, key, val, n, lo, hi⟩ w1 := box_below (((Fr.refl (fun _ => False) _).alloc _).row id (heap_alloc_new w _)) hb1; have hba : ABox (w.heap.size + 1) w1 := box_below (heap_new_at (by simp)) hb1; have HBO := Lib.hid hbo; have HBA := Lib.hid hba; have HB1 := Lib.hid (below_next (below_alloc (below_alloc (Below.refl _ w))) hb1); clear hb1 hbo hba)
    | (refine wpList_store_row rfl 35 (Operand.tmp 4) (Operand.tmp 15) rfl (w.heap.size + 1) _ (ansC 1 false ⟨#[]⟩ (.slice none 0 0) 0 0) _ rfl rfl HBA.out rfl HMS.out (ans_all _ _ _ _ _ _ _ _) ?_; intro w9 hr9 hf9; have HR9 := Lib.hid hr9; have HF9 := Lib.hid hf9; clear hr9 hf9))
  refine bodyPost_ret (v := ansV 1 false ⟨#[]⟩ (.slice none 0 0) 0 0) (results_cell (a := 4) (t := 35) (ad := ⟨w.heap.size + 1, 0, none⟩) Tryz.results12 rfl (load_row _ HR9.out _ Tryz.underlying35 rfl HMS.out)) rfl (do_keep HMO.out (HB1.out.trans (HF9.out.to_below HB1.out.size (fun i hi e => by omega))))
set_option maxHeartbeats 1000000 in
set_option maxRecDepth 100000 in
theorem do_msg (bm g : Nat) (N : Int) (ls : List (List Itm)) (l : List Itm) (o : Ord) (m : Mg) (w : World) (h : ModelAt w bm g N ls) (hl : ls[ls.length - 1]? = some l) (hn : ls.length ≤ 90000) (hln : l.length ≤ 60000) (h0 : 0 ≤ o.n) (h1 : o.n < 18446744073709551616) (ho : isOrd o = true) (hm : msgO o = some m) :
    Calls Tryz.prog 12 #[.pointer (some ⟨bm, 0, none⟩), o.v] w (DoRes2 bm g N (errU (pCap N) l m, false, ⟨#[]⟩, [], 0, 0) (rowsU (pCap N) ls l m) w) := by
  have hia := fun W => is_any o W
  rw [ho] at hia
  have hma := fun W => mdl_message o W h0 h1
  rw [show msgZ o = m by unfold msgZ; rw [hm]; rfl, hm] at hma
  have hup := fun W (hW : Below w.heap.size w W) => update_any bm g N ls l m W (h.below hW) hl hn hln
  generalize errU (pCap N) l m = E at *
  generalize rowsU (pCap N) ls l m = R at *
  have hbl := h.lt
  have hgl := h.glt
  obtain ⟨kind, key, val, n, lo, hi⟩ := o
  obtain ⟨mk, mkey, mval⟩ := m
  rw [Ord.v_def] at hia hma ⊢
  rw [Mg.v_def] at hma hup
  have HI := Lib.hid hia
  have HM := Lib.hid hma
  have HU := Lib.hid hup
  have HMS := Lib.hid ans_size
  have HOS := Lib.hid ord_size
  clear hia hma hup ho h hl h0 h1 hm
  go_enter Tryz.func12, Tryz.ntmps12
  go_wp2_with (first
    | (go_at_call 43; (with_reducible refine (HI.out _).mono ?_); rintro e w1 ⟨rfl, hb1⟩; have hbo : OBox w.heap.size ⟨kind, key, val, n, lo, hi⟩ w1 := box_below (((Fr.refl (fun _ => False) _).alloc _).row id (heap_alloc_new w _)) hb1; have hba : ABox (w.heap.size + 1) w1 := box_below (heap_new_at (by simp)) hb1; have HBO := Lib.hid hbo; have HBA := Lib.hid hba; have HB1 := Lib.hid (below_next (below_alloc (below_alloc (Below.refl _ w))) hb1); clear hb1 hbo hba)
    | (refine wpList_load_mid rfl 39 (Operand.tmp 3) rfl w.heap.size 0 rfl [.int .i64 kind, .string key, .string val, .int .u64 n, .string lo, .string hi] _ (row_range HBO.out) Tryz.underlying39 rfl HOS.out ?_)
    | (go_at_call 44; (with_reducible refine (HM.out _).mono ?_); rintro e w2 ⟨rfl, hb2⟩; have hbo2 : OBox w.heap.size ⟨kind, key, val, n, lo, hi⟩ w2 := box_below HBO.out hb2; have hba2 : ABox (w.heap.size + 1) w2 := box_below HBA.out hb2; have HBO2 := Lib.hid hbo2; have HBA2 := Lib.hid hba2; have HB2 := Lib.hid (below_next HB1.out hb2); clear hb2 hbo2 hba2)
    | (go_at_call 45; (with_reducible refine (HU.out _ (below_alloc HB2.out)).mono ?_); rintro e w3 ⟨rfl, g3, hm3, hg3, hf3⟩; have hba3 : ABox (w.heap.size + 1) w3 := hf3.row (by omega) (((Fr.refl (fun _ => False) _).alloc _).row id HBA2.out); have HBA3 := Lib.hid hba3; have HM3 := Lib.hid hm3; have HG3 := Lib.hid hg3; have HF3 := Lib.hid hf3; clear hm3 hg3 hf3 hba3)
    | (refine wpList_store_row rfl 35 (Operand.tmp 4) (Operand.tmp 25) rfl (w.heap.size + 1) _ (ansC E false ⟨#[]⟩ (.slice none 0 0) 0 0) _ rfl rfl HBA3.out rfl HMS.out (ans_all _ _ _ _ _ _ _ _) ?_; intro w9 hr9 hf9; have HR9 := Lib.hid hr9; have HF9 := Lib.hid hf9; clear hr9 hf9))
  refine bodyPost_ret (v := ansV E false ⟨#[]⟩ (.slice none 0 0) 0 0) (results_cell (a := 4) (t := 35) (ad := ⟨w.heap.size + 1, 0, none⟩) Tryz.results12 rfl (load_row _ HR9.out _ Tryz.underlying35 rfl HMS.out)) rfl ?_
  exact do_done hbl (below_alloc HB2.out) HM3.out HG3.out HF3.out HBA3.out (Nat.le_succ _) HF9.out (OwnsG.nil _ _)
end Go.Proofs.YtdfgdnaejnngoaaGreat
namespace Go.Proofs.YtdfgdnaejnngoaaGreat
open Go.RowKit
set_option maxHeartbeats 1000000 in
set_option maxRecDepth 100000 in
theorem do_get_bad (bm g : Nat) (N : Int) (ls : List (List Itm)) (l : List Itm) (key val : ByteArray) (n : Int) (lo hi : ByteArray) (w : World) (h : ModelAt w bm g N ls) (hl : ls[ls.length - 1]? = some l) (hn : ls.length ≤ 90000) (hln : l.length ≤ 60000) (h0 : 0 ≤ n) (h1 : n < 18446744073709551616) (ho : isOrd ⟨4, key, val, n, lo, hi⟩ = true) (hk : isKey key = false) :
    Calls Tryz.prog 12 #[.pointer (some ⟨bm, 0, none⟩), (Ord.mk 4 key val n lo hi).v] w (DoRes2 bm g N (1, false, ⟨#[]⟩, [], 0, 0) ls w) := by
  have hia := fun W => is_any ⟨4, key, val, n, lo, hi⟩ W
  rw [ho] at hia
  have hma := fun W => mdl_message ⟨4, key, val, n, lo, hi⟩ W h0 h1
  have hmz : msgO ⟨4, key, val, n, lo, hi⟩ = none := rfl
  rw [show msgZ ⟨4, key, val, n, lo, hi⟩ = ⟨0, ⟨#[]⟩, ⟨#[]⟩⟩ by unfold msgZ; rw [hmz]; rfl, hmz] at hma
  have hbl := h.lt
  have HG := Lib.hid (fun W => get_bad bm key W hk)
  clear hk
  rw [Ord.v_def] at hia hma ⊢
  rw [Mg.v_def] at hma
  have HI := Lib.hid hia
  have HM := Lib.hid hma
  have HMO := Lib.hid h
  have HMS := Lib.hid ans_size
  have HOS := Lib.hid ord_size
  clear hia hma ho hmz h hl h0 h1
  go_enter Tryz.func12, Tryz.ntmps12
  go_wp2_with (first
    | (go_at_call 43; (with_reducible refine (HI.out _).mono ?_); rintro e w1 ⟨rfl, hb1⟩; have hbo : OBox w.heap.size ⟨4, key, val, n, lo, hi⟩ w1 := box_below (((Fr.refl (fun _ => False) _).alloc _).row id (heap_alloc_new w _)) hb1; have hba : ABox (w.heap.size + 1) w1 := box_below (heap_new_at (by simp)) hb1; have HBO := Lib.hid hbo; have HBA := Lib.hid hba; have HB1 := Lib.hid (below_next (below_alloc (below_alloc (Below.refl _ w))) hb1); clear hb1 hbo hba)
    | (refine wpList_load_mid rfl 39 (Operand.tmp 3) rfl w.heap.size 0 rfl [.int .i64 4, .string key, .string val, .int .u64 n, .string lo, .string hi] _ (row_range HBO.out) Tryz.underlying39 rfl HOS.out ?_)
    | (go_at_call 44; (with_reducible refine (HM.out _).mono ?_); rintro e w2 ⟨rfl, hb2⟩; have hbo2 : OBox w.heap.size ⟨4, key, val, n, lo, hi⟩ w2 := box_below HBO.out hb2; have hba2 : ABox (w.heap.size + 1) w2 := box_below HBA.out hb2; have HBA2 := Lib.hid hba2; have d0 : w2.cell? ⟨w.heap.size, 0, none⟩ = some (.int .i64 4) := (by rw [Lib.cell_of_heap hbo2]; rfl); have d1 : w2.cell? ⟨w.heap.size, 1, none⟩ = some (.string key) := (by rw [Lib.cell_of_heap hbo2]; rfl); have d4 : w2.cell? ⟨w.heap.size, 4, none⟩ = some (.string lo) := (by rw [Lib.cell_of_heap hbo2]; rfl); have d5 : w2.cell? ⟨w.heap.size, 5, none⟩ = some (.string hi) := (by rw [Lib.cell_of_heap hbo2]; rfl); have hx2 := lt_of_row hbo2; have HB2 := Lib.hid (below_next HB1.out hb2); clear hb2 hbo2 hba2)
    | (go_at_call 46; (with_reducible refine (HG.out _).mono ?_); rintro e w4 ⟨rfl, hb4⟩; have hba4 : ABox (w.heap.size + 1) w4 := box_below (((Fr.refl (fun _ => False) _).alloc _).row id HBA2.out) hb4; have HBA4 := Lib.hid hba4; have HB4 := Lib.hid (below_next (below_alloc HB2.out) hb4); clear hb4 hba4)
    | (refine wpList_store_row rfl 35 (Operand.tmp 4) (Operand.tmp 33) rfl (w.heap.size + 1) _ (ansC 1 false ⟨#[]⟩ (.slice none 0 0) 0 0) _ rfl rfl HBA4.out rfl HMS.out (ans_all _ _ _ _ _ _ _ _) ?_; intro w9 hr9 hf9; have HR9 := Lib.hid hr9; have HF9 := Lib.hid hf9; clear hr9 hf9))
  refine bodyPost_ret (v := ansV 1 false ⟨#[]⟩ (.slice none 0 0) 0 0) (results_cell (a := 4) (t := 35) (ad := ⟨w.heap.size + 1, 0, none⟩) Tryz.results12 rfl (load_row _ HR9.out _ Tryz.underlying35 rfl HMS.out)) rfl (do_keep HMO.out (HB4.out.trans (HF9.out.to_below HB4.out.size (fun i hi e => by omega))))
set_option maxHeartbeats 1000000 in
set_option maxRecDepth 100000 in
theorem do_get_ok (bm g : Nat) (N : Int) (ls : List (List Itm)) (l : List Itm) (key val : ByteArray) (n : Int) (lo hi : ByteArray) (w : World) (h : ModelAt w bm g N ls) (hl : ls[ls.length - 1]? = some l) (hn : ls.length ≤ 90000) (hln : l.length ≤ 60000) (h0 : 0 ≤ n) (h1 : n < 18446744073709551616) (ho : isOrd ⟨4, key, val, n, lo, hi⟩ = true) (hk : isKey key = true) :
    Calls Tryz.prog 12 #[.pointer (some ⟨bm, 0, none⟩), (Ord.mk 4 key val n lo hi).v] w (DoRes2 bm g N (0, (getL l key).isSome, strO (getL l key), [], 0, 0) ls w) := by
  have hia := fun W => is_any ⟨4, key, val, n, lo, hi⟩ W
  rw [ho] at hia
  have hma := fun W => mdl_message ⟨4, key, val, n, lo, hi⟩ W h0 h1
  have hmz : msgO ⟨4, key, val, n, lo, hi⟩ = none := rfl
  rw [show msgZ ⟨4, key, val, n, lo, hi⟩ = ⟨0, ⟨#[]⟩, ⟨#[]⟩⟩ by unfold msgZ; rw [hmz]; rfl, hmz] at hma
  have hbl := h.lt
  have hge := fun W (hW : Below w.heap.size w W) => get_ok bm g N ls l key W (h.below hW) hl hn hln hk
  generalize strO (getL l key) = fs at *
  generalize (getL l key).isSome = fb at *
  have HG := Lib.hid hge
  clear hk hge
  rw [Ord.v_def] at hia hma ⊢
  rw [Mg.v_def] at hma
  have HI := Lib.hid hia
  have HM := Lib.hid hma
  have HMO := Lib.hid h
  have HMS := Lib.hid ans_size
  have HOS := Lib.hid ord_size
  clear hia hma ho hmz h hl h0 h1
  go_enter Tryz.func12, Tryz.ntmps12
  go_wp2_with (first
    | (go_at_call 43; (with_reducible refine (HI.out _).mono ?_); rintro e w1 ⟨rfl, hb1⟩; have hbo : OBox w.heap.size ⟨4, key, val, n, lo, hi⟩ w1 := box_below (((Fr.refl (fun _ => False) _).alloc _).row id (heap_alloc_new w _)) hb1; have hba : ABox (w.heap.size + 1) w1 := box_below (heap_new_at (by simp)) hb1; have HBO := Lib.hid hbo; have HBA := Lib.hid hba; have HB1 := Lib.hid (below_next (below_alloc (below_alloc (Below.refl _ w))) hb1); clear hb1 hbo hba)
    | (refine wpList_load_mid rfl 39 (Operand.tmp 3) rfl w.heap.size 0 rfl [.int .i64 4, .string key, .string val, .int .u64 n, .string lo, .string hi] _ (row_range HBO.out) Tryz.underlying39 rfl HOS.out ?_)
    | (go_at_call 44; (with_reducible refine (HM.out _).mono ?_); rintro e w2 ⟨rfl, hb2⟩; have hbo2 : OBox w.heap.size ⟨4, key, val, n, lo, hi⟩ w2 := box_below HBO.out hb2; have hba2 : ABox (w.heap.size + 1) w2 := box_below HBA.out hb2; have HBA2 := Lib.hid hba2; have d0 : w2.cell? ⟨w.heap.size, 0, none⟩ = some (.int .i64 4) := (by rw [Lib.cell_of_heap hbo2]; rfl); have d1 : w2.cell? ⟨w.heap.size, 1, none⟩ = some (.string key) := (by rw [Lib.cell_of_heap hbo2]; rfl); have d4 : w2.cell? ⟨w.heap.size, 4, none⟩ = some (.string lo) := (by rw [Lib.cell_of_heap hbo2]; rfl); have d5 : w2.cell? ⟨w.heap.size, 5, none⟩ = some (.string hi) := (by rw [Lib.cell_of_heap hbo2]; rfl); have hx2 := lt_of_row hbo2; have HB2 := Lib.hid (below_next HB1.out hb2); clear hb2 hbo2 hba2)
    | (go_at_call 46; (with_reducible refine (HG.out _ (below_alloc HB2.out)).mono ?_); rintro e w4 ⟨rfl, hb4⟩; have hba4 : ABox (w.heap.size + 1) w4 := box_below (((Fr.refl (fun _ => False) _).alloc _).row id HBA2.out) hb4; have HBA4 := Lib.hid hba4; have HB4 := Lib.hid (below_next (below_alloc HB2.out) hb4); clear hb4 hba4)
    | (refine wpList_store_row rfl 35 (Operand.tmp 4) (Operand.tmp 33) rfl (w.heap.size + 1) _ (ansC 0 fb fs (.slice none 0 0) 0 0) _ rfl rfl HBA4.out rfl HMS.out (ans_all _ _ _ _ _ _ _ _) ?_; intro w9 hr9 hf9; have HR9 := Lib.hid hr9; have HF9 := Lib.hid hf9; clear hr9 hf9))
  refine bodyPost_ret (v := ansV 0 fb fs (.slice none 0 0) 0 0) (results_cell (a := 4) (t := 35) (ad := ⟨w.heap.size + 1, 0, none⟩) Tryz.results12 rfl (load_row _ HR9.out _ Tryz.underlying35 rfl HMS.out)) rfl (do_keep HMO.out (HB4.out.trans (HF9.out.to_below HB4.out.size (fun i hi e => by omega))))
set_option maxHeartbeats 1000000 in
set_option maxRecDepth 100000 in
theorem do_scan_bad (bm g : Nat) (N : Int) (ls : List (List Itm)) (l : List Itm) (key val : ByteArray) (n : Int) (lo hi : ByteArray) (w : World) (h : ModelAt w bm g N ls) (hl : ls[ls.length - 1]? = some l) (hn : ls.length ≤ 90000) (hln : l.length ≤ 60000) (h0 : 0 ≤ n) (h1 : n < 18446744073709551616) (ho : isOrd ⟨5, key, val, n, lo, hi⟩ = true) (hk : isRng lo hi = false) :
    Calls Tryz.prog 12 #[.pointer (some ⟨bm, 0, none⟩), (Ord.mk 5 key val n lo hi).v] w (DoRes2 bm g N (1, false, ⟨#[]⟩, [], 0, 0) ls w) := by
  have hia := fun W => is_any ⟨5, key, val, n, lo, hi⟩ W
  rw [ho] at hia
  have hma := fun W => mdl_message ⟨5, key, val, n, lo, hi⟩ W h0 h1
  have hmz : msgO ⟨5, key, val, n, lo, hi⟩ = none := rfl
  rw [show msgZ ⟨5, key, val, n, lo, hi⟩ = ⟨0, ⟨#[]⟩, ⟨#[]⟩⟩ by unfold msgZ; rw [hmz]; rfl, hmz] at hma
  have hbl := h.lt
  have HG := Lib.hid (fun W => scan_bad bm lo hi W hk)
  clear hk
  rw [Ord.v_def] at hia hma ⊢
  rw [Mg.v_def] at hma
  have HI := Lib.hid hia
  have HM := Lib.hid hma
  have HMO := Lib.hid h
  have HMS := Lib.hid ans_size
  have HOS := Lib.hid ord_size
  clear hia hma ho hmz h hl h0 h1
  go_enter Tryz.func12, Tryz.ntmps12
  go_wp2_with (first
    | (go_at_call 43; (with_reducible refine (HI.out _).mono ?_); rintro e w1 ⟨rfl, hb1⟩; have hbo : OBox w.heap.size ⟨5, key, val, n, lo, hi⟩ w1 := box_below (((Fr.refl (fun _ => False) _).alloc _).row id (heap_alloc_new w _)) hb1; have hba : ABox (w.heap.size + 1) w1 := box_below (heap_new_at (by simp)) hb1; have HBO := Lib.hid hbo; have HBA := Lib.hid hba; have HB1 := Lib.hid (below_next (below_alloc (below_alloc (Below.refl _ w))) hb1); clear hb1 hbo hba)
    | (refine wpList_load_mid rfl 39 (Operand.tmp 3) rfl w.heap.size 0 rfl [.int .i64 5, .string key, .string val, .int .u64 n, .string lo, .string hi] _ (row_range HBO.out) Tryz.underlying39 rfl HOS.out ?_)
    | (go_at_call 44; (with_reducible refine (HM.out _).mono ?_); rintro e w2 ⟨rfl, hb2⟩; have hbo2 : OBox w.heap.size ⟨5, key, val, n, lo, hi⟩ w2 := box_below HBO.out hb2; have hba2 : ABox (w.heap.size + 1) w2 := box_below HBA.out hb2; have HBA2 := Lib.hid hba2; have d0 : w2.cell? ⟨w.heap.size, 0, none⟩ = some (.int .i64 5) := (by rw [Lib.cell_of_heap hbo2]; rfl); have d1 : w2.cell? ⟨w.heap.size, 1, none⟩ = some (.string key) := (by rw [Lib.cell_of_heap hbo2]; rfl); have d4 : w2.cell? ⟨w.heap.size, 4, none⟩ = some (.string lo) := (by rw [Lib.cell_of_heap hbo2]; rfl); have d5 : w2.cell? ⟨w.heap.size, 5, none⟩ = some (.string hi) := (by rw [Lib.cell_of_heap hbo2]; rfl); have hx2 := lt_of_row hbo2; have HB2 := Lib.hid (below_next HB1.out hb2); clear hb2 hbo2 hba2)
    | (go_at_call 47; (with_reducible refine (HG.out _).mono ?_); rintro e w4 ⟨rfl, hb4⟩; have hba4 : ABox (w.heap.size + 1) w4 := box_below (((Fr.refl (fun _ => False) _).alloc _).row id HBA2.out) hb4; have HBA4 := Lib.hid hba4; have HB4 := Lib.hid (below_next (below_alloc HB2.out) hb4); clear hb4 hba4)
    | (refine wpList_store_row rfl 35 (Operand.tmp 4) (Operand.tmp 42) rfl (w.heap.size + 1) _ (ansC 1 false ⟨#[]⟩ (.slice none 0 0) 0 0) _ rfl rfl HBA4.out rfl HMS.out (ans_all _ _ _ _ _ _ _ _) ?_; intro w9 hr9 hf9; have HR9 := Lib.hid hr9; have HF9 := Lib.hid hf9; clear hr9 hf9))
  refine bodyPost_ret (v := ansV 1 false ⟨#[]⟩ (.slice none 0 0) 0 0) (results_cell (a := 4) (t := 35) (ad := ⟨w.heap.size + 1, 0, none⟩) Tryz.results12 rfl (load_row _ HR9.out _ Tryz.underlying35 rfl HMS.out)) rfl (do_keep HMO.out (HB4.out.trans (HF9.out.to_below HB4.out.size (fun i hi e => by omega))))
set_option maxHeartbeats 1000000 in
set_option maxRecDepth 100000 in
theorem do_scan_ok (bm g : Nat) (N : Int) (ls : List (List Itm)) (l : List Itm) (key val : ByteArray) (n : Int) (lo hi : ByteArray) (w : World) (h : ModelAt w bm g N ls) (hl : ls[ls.length - 1]? = some l) (hn : ls.length ≤ 90000) (hln : l.length ≤ 60000) (h0 : 0 ≤ n) (h1 : n < 18446744073709551616) (ho : isOrd ⟨5, key, val, n, lo, hi⟩ = true) (hk : isRng lo hi = true) :
    Calls Tryz.prog 12 #[.pointer (some ⟨bm, 0, none⟩), (Ord.mk 5 key val n lo hi).v] w (DoRes2 bm g N (0, false, ⟨#[]⟩, withinL lo hi l, 0, 0) ls w) := by
  have hia := fun W => is_any ⟨5, key, val, n, lo, hi⟩ W
  rw [ho] at hia
  have hma := fun W => mdl_message ⟨5, key, val, n, lo, hi⟩ W h0 h1
  have hmz : msgO ⟨5, key, val, n, lo, hi⟩ = none := rfl
  rw [show msgZ ⟨5, key, val, n, lo, hi⟩ = ⟨0, ⟨#[]⟩, ⟨#[]⟩⟩ by unfold msgZ; rw [hmz]; rfl, hmz] at hma
  have hbl := h.lt
  have hge := fun W (hW : Below w.heap.size w W) => scan_ok bm g N ls l lo hi W (h.below hW) hl hn hln hk
  generalize withinL lo hi l = D at *
  have HG := Lib.hid hge
  clear hk hge
  rw [Ord.v_def] at hia hma ⊢
  rw [Mg.v_def] at hma
  have HI := Lib.hid hia
  have HM := Lib.hid hma
  have HMO := Lib.hid h
  have HMS := Lib.hid ans_size
  have HOS := Lib.hid ord_size
  clear hia hma ho hmz h hl h0 h1
  go_enter Tryz.func12, Tryz.ntmps12
  go_wp2_with (first
    | (go_at_call 43; (with_reducible refine (HI.out _).mono ?_); rintro e w1 ⟨rfl, hb1⟩; have hbo : OBox w.heap.size ⟨5, key, val, n, lo, hi⟩ w1 := box_below (((Fr.refl (fun _ => False) _).alloc _).row id (heap_alloc_new w _)) hb1; have hba : ABox (w.heap.size + 1) w1 := box_below (heap_new_at (by simp)) hb1; have HBO := Lib.hid hbo; have HBA := Lib.hid hba; have HB1 := Lib.hid (below_next (below_alloc (below_alloc (Below.refl _ w))) hb1); clear hb1 hbo hba)
    | (refine wpList_load_mid rfl 39 (Operand.tmp 3) rfl w.heap.size 0 rfl [.int .i64 5, .string key, .string val, .int .u64 n, .string lo, .string hi] _ (row_range HBO.out) Tryz.underlying39 rfl HOS.out ?_)
    | (go_at_call 44; (with_reducible refine (HM.out _).mono ?_); rintro e w2 ⟨rfl, hb2⟩; have hbo2 : OBox w.heap.size ⟨5, key, val, n, lo, hi⟩ w2 := box_below HBO.out hb2; have hba2 : ABox (w.heap.size + 1) w2 := box_below HBA.out hb2; have HBA2 := Lib.hid hba2; have d0 : w2.cell? ⟨w.heap.size, 0, none⟩ = some (.int .i64 5) := (by rw [Lib.cell_of_heap hbo2]; rfl); have d1 : w2.cell? ⟨w.heap.size, 1, none⟩ = some (.string key) := (by rw [Lib.cell_of_heap hbo2]; rfl); have d4 : w2.cell? ⟨w.heap.size, 4, none⟩ = some (.string lo) := (by rw [Lib.cell_of_heap hbo2]; rfl); have d5 : w2.cell? ⟨w.heap.size, 5, none⟩ = some (.string hi) := (by rw [Lib.cell_of_heap hbo2]; rfl); have hx2 := lt_of_row hbo2; have HB2 := Lib.hid (below_next HB1.out hb2); clear hb2 hbo2 hba2)
    | (go_at_call 47; (with_reducible refine (HG.out _ (below_alloc HB2.out)).mono ?_); rintro e w4 ⟨A4, k4, c4, rfl, ho4, hb4⟩; have hba4 : ABox (w.heap.size + 1) w4 := box_below (((Fr.refl (fun _ => False) _).alloc _).row id HBA2.out) hb4; have HBA4 := Lib.hid hba4; have HO4 := Lib.hid ho4; have HB4 := Lib.hid (below_next (below_alloc HB2.out) hb4); clear hb4 hba4 ho4)
    | (refine wpList_store_row rfl 35 (Operand.tmp 4) (Operand.tmp 42) rfl (w.heap.size + 1) _ (ansC 0 false ⟨#[]⟩ (.slice A4 k4 c4) 0 0) _ rfl rfl HBA4.out rfl HMS.out (ans_all _ _ _ _ _ _ _ _) ?_; intro w9 hr9 hf9; have HR9 := Lib.hid hr9; have HF9 := Lib.hid hf9; clear hr9 hf9))
  have hs2 := lt_of_row HBA2.out
  refine bodyPost_ret (v := ansV 0 false ⟨#[]⟩ (.slice A4 k4 c4) 0 0) (results_cell (a := 4) (t := 35) (ad := ⟨w.heap.size + 1, 0, none⟩) Tryz.results12 rfl (load_row _ HR9.out _ Tryz.underlying35 rfl HMS.out)) rfl (do_done hbl HB4.out (HMO.out.below HB4.out) (.inl rfl) (Fr.refl _ _) HBA4.out (Nat.le_succ _) HF9.out ((HO4.out.fr HF9.out (fun k hk e => by simp at hk; omega)).base (by have := HB2.out.size; simp; omega)))
set_option maxHeartbeats 1000000 in
set_option maxRecDepth 100000 in
theorem do_stat (bm g : Nat) (N : Int) (ls : List (List Itm)) (l : List Itm) (key val : ByteArray) (n : Int) (lo hi : ByteArray) (w : World) (h : ModelAt w bm g N ls) (hl : ls[ls.length - 1]? = some l) (hn : ls.length ≤ 90000) (hln : l.length ≤ 60000) (h0 : 0 ≤ n) (h1 : n < 18446744073709551616) (ho : isOrd ⟨8, key, val, n, lo, hi⟩ = true) :
    Calls Tryz.prog 12 #[.pointer (some ⟨bm, 0, none⟩), (Ord.mk 8 key val n lo hi).v] w (DoRes2 bm g N (0, false, ⟨#[]⟩, [], l.length, sumW l) ls w) := by
  have hia := fun W => is_any ⟨8, key, val, n, lo, hi⟩ W
  rw [ho] at hia
  have hma := fun W => mdl_message ⟨8, key, val, n, lo, hi⟩ W h0 h1
  have hmz : msgO ⟨8, key, val, n, lo, hi⟩ = none := rfl
  rw [show msgZ ⟨8, key, val, n, lo, hi⟩ = ⟨0, ⟨#[]⟩, ⟨#[]⟩⟩ by unfold msgZ; rw [hmz]; rfl, hmz] at hma
  have hbl := h.lt
  have hnow : ∀ W, Below w.heap.size w W → Calls Tryz.prog 48 #[.pointer (some ⟨bm, 0, none⟩)] W (NowRes l W) := fun W hW => now_any bm g N ls l W (h.below hW) hl (by omega)
  have HN := Lib.hid hnow
  have HLN := Lib.hid (fun b c A W h => leafLen_any b c A l W h)
  have HWT := Lib.hid (fun b c A W h => leafWeight_any b c A l W h)
  clear hnow
  rw [Ord.v_def] at hia hma ⊢
  rw [Mg.v_def] at hma
  have HI := Lib.hid hia
  have HM := Lib.hid hma
  have HMO := Lib.hid h
  have HMS := Lib.hid ans_size
  have HOS := Lib.hid ord_size
  clear hia hma ho hmz h hl h0 h1
  go_enter Tryz.func12, Tryz.ntmps12
  go_wp2_with (first
    | (go_at_call 43; (with_reducible refine (HI.out _).mono ?_); rintro e w1 ⟨rfl, hb1⟩; have hbo : OBox w.heap.size ⟨8, key, val, n, lo, hi⟩ w1 := box_below (((Fr.refl (fun _ => False) _).alloc _).row id (heap_alloc_new w _)) hb1; have hba : ABox (w.heap.size + 1) w1 := box_below (heap_new_at (by simp)) hb1; have HBO := Lib.hid hbo; have HBA := Lib.hid hba; have HB1 := Lib.hid (below_next (below_alloc (below_alloc (Below.refl _ w))) hb1); clear hb1 hbo hba)
    | (refine wpList_load_mid rfl 39 (Operand.tmp 3) rfl w.heap.size 0 rfl [.int .i64 8, .string key, .string val, .int .u64 n, .string lo, .string hi] _ (row_range HBO.out) Tryz.underlying39 rfl HOS.out ?_)
    | (go_at_call 44; (with_reducible refine (HM.out _).mono ?_); rintro e w2 ⟨rfl, hb2⟩; have hbo2 : OBox w.heap.size ⟨8, key, val, n, lo, hi⟩ w2 := box_below HBO.out hb2; have hba2 : ABox (w.heap.size + 1) w2 := box_below HBA.out hb2; have HBA2 := Lib.hid hba2; have d0 : w2.cell? ⟨w.heap.size, 0, none⟩ = some (.int .i64 8) := (by rw [Lib.cell_of_heap hbo2]; rfl); have d1 : w2.cell? ⟨w.heap.size, 1, none⟩ = some (.string key) := (by rw [Lib.cell_of_heap hbo2]; rfl); have d4 : w2.cell? ⟨w.heap.size, 4, none⟩ = some (.string lo) := (by rw [Lib.cell_of_heap hbo2]; rfl); have d5 : w2.cell? ⟨w.heap.size, 5, none⟩ = some (.string hi) := (by rw [Lib.cell_of_heap hbo2]; rfl); have hx2 := lt_of_row hbo2; have HB2 := Lib.hid (below_next HB1.out hb2); clear hb2 hbo2 hba2)
    | (go_at_call 49; (with_reducible refine (HLN.out _ _ _ _ HLA3.out).mono ?_); rintro e w4 ⟨rfl, hb4⟩; have HB4 := Lib.hid (below_next HB3.out hb4); clear hb4)
    | (go_at_call 50; (with_reducible refine (HWT.out _ _ _ _ HLA5.out).mono ?_); rintro e w6 ⟨rfl, hb6⟩; have hb36 := below_next HB5.out hb6; have hba6 : ABox (w.heap.size + 1) w6 := box_below (((Fr.refl (fun _ => False) _).alloc _).row id HBA2.out) hb36; have HBA6 := Lib.hid hba6; have HB6 := Lib.hid (below_next (below_alloc HB2.out) hb36); clear hb6 hb36 hba6)
    | (go_at_call 48; (with_reducible refine (HN.out _ (below_next (below_alloc HB2.out) HB4.out)).mono ?_); rintro e w5 ⟨p5, A5, c5, rfl, hla5, hb5⟩; have HLA5 := Lib.hid hla5; have HB5 := Lib.hid (below_next HB4.out hb5); clear hb5 hla5)
    | (go_at_call 48; (with_reducible refine (HN.out _ (below_alloc HB2.out)).mono ?_); rintro e w3 ⟨p3, A3, c3, rfl, hla3, hb3⟩; have HLA3 := Lib.hid hla3; have HB3 := Lib.hid hb3; clear hb3 hla3)
    | (refine wpList_store_row rfl 35 (Operand.tmp 4) (Operand.tmp 52) rfl (w.heap.size + 1) _ (ansC 0 false ⟨#[]⟩ (.slice none 0 0) l.length (sumW l)) _ rfl rfl HBA6.out rfl HMS.out (ans_all _ _ _ _ _ _ _ _) ?_; intro w9 hr9 hf9; have HR9 := Lib.hid hr9; have HF9 := Lib.hid hf9; clear hr9 hf9))
  refine bodyPost_ret (v := ansV 0 false ⟨#[]⟩ (.slice none 0 0) l.length (sumW l)) (results_cell (a := 4) (t := 35) (ad := ⟨w.heap.size + 1, 0, none⟩) Tryz.results12 rfl (load_row _ HR9.out _ Tryz.underlying35 rfl HMS.out)) rfl (do_keep HMO.out (HB6.out.trans (HF9.out.to_below HB6.out.size (fun i hi e => by omega))))
set_option maxHeartbeats 1000000 in
set_option maxRecDepth 100000 in
theorem do_safe (bm g : Nat) (N : Int) (ls : List (List Itm)) (l : List Itm) (kind : Int) (key val : ByteArray) (n : Int) (lo hi : ByteArray) (w : World) (h : ModelAt w bm g N ls) (hl : ls[ls.length - 1]? = some l) (hn : ls.length ≤ 90000) (hln : l.length ≤ 60000) (h0 : 0 ≤ n) (h1 : n < 18446744073709551616) (ho : isOrd ⟨kind, key, val, n, lo, hi⟩ = true) (n1 : ¬ kind = 1) (n2 : ¬ kind = 2) (n3 : ¬ kind = 3) (n4 : ¬ kind = 4) (n5 : ¬ kind = 5) (n8 : ¬ kind = 8) :
    Calls Tryz.prog 12 #[.pointer (some ⟨bm, 0, none⟩), (Ord.mk kind key val n lo hi).v] w (DoRes2 bm g N (0, false, ⟨#[]⟩, [], 0, 0) [l] w) := by
  have hia := fun W => is_any ⟨kind, key, val, n, lo, hi⟩ W
  rw [ho] at hia
  have hma := fun W => mdl_message ⟨kind, key, val, n, lo, hi⟩ W h0 h1
  have hmz : msgO ⟨kind, key, val, n, lo, hi⟩ = none := by unfold msgO; simp [n1, n2, n3]
  rw [show msgZ ⟨kind, key, val, n, lo, hi⟩ = ⟨0, ⟨#[]⟩, ⟨#[]⟩⟩ by unfold msgZ; rw [hmz]; rfl, hmz] at hma
  have hbl := h.lt
  have hsa := fun W (hW : Below w.heap.size w W) => safe_any bm g N ls l W (h.below hW) hl hn
  have HG := Lib.hid hsa
  clear hsa
  rw [Ord.v_def] at hia hma ⊢
  rw [Mg.v_def] at hma
  have HI := Lib.hid hia
  have HM := Lib.hid hma
  have HMO := Lib.hid h
  have HMS := Lib.hid ans_size
  have HOS := Lib.hid ord_size
  clear hia hma ho hmz h hl h0 h1
  have e4 : (kind == 4) = false := by simp [n4]
  have e5 : (kind == 5) = false := by simp [n5]
  have e8 : (kind == 8) = false := by simp [n8]
  go_enter Tryz.func12, Tryz.ntmps12
  go_wp2_with (first
    | (go_at_call 43; (with_reducible refine (HI.out _).mono ?_); rintro e w1 ⟨rfl, hb1⟩; have hbo : OBox w.heap.size ⟨kind, key, val, n, lo, hi⟩ w1 := box_below (((Fr.refl (fun _ => False) _).alloc _).row id (heap_alloc_new w _)) hb1; have hba : ABox (w.heap.size + 1) w1 := box_below (heap_new_at (by simp)) hb1; have HBO := Lib.hid hbo; have HBA := Lib.hid hba; have HB1 := Lib.hid (below_next (below_alloc (below_alloc (Below.refl _ w))) hb1); clear hb1 hbo hba)
    | (refine wpList_load_mid rfl 39 (Operand.tmp 3) rfl w.heap.size 0 rfl [.int .i64 kind, .string key, .string val, .int .u64 n, .string lo, .string hi] _ (row_range HBO.out) Tryz.underlying39 rfl HOS.out ?_)
    | (go_at_call 44; (with_reducible refine (HM.out _).mono ?_); rintro e w2 ⟨rfl, hb2⟩; have hbo2 : OBox w.heap.size ⟨kind, key, val, n, lo, hi⟩ w2 := box_below HBO.out hb2; have hba2 : ABox (w.heap.size + 1) w2 := box_below HBA.out hb2; have HBA2 := Lib.hid hba2; have d0 : w2.cell? ⟨w.heap.size, 0, none⟩ = some (.int .i64 kind) := (by rw [Lib.cell_of_heap hbo2]; rfl); have d1 : w2.cell? ⟨w.heap.size, 1, none⟩ = some (.string key) := (by rw [Lib.cell_of_heap hbo2]; rfl); have d4 : w2.cell? ⟨w.heap.size, 4, none⟩ = some (.string lo) := (by rw [Lib.cell_of_heap hbo2]; rfl); have d5 : w2.cell? ⟨w.heap.size, 5, none⟩ = some (.string hi) := (by rw [Lib.cell_of_heap hbo2]; rfl); have hx2 := lt_of_row hbo2; have HB2 := Lib.hid (below_next HB1.out hb2); clear hb2 hbo2 hba2)
    | (go_at_call 51; (with_reducible refine (HG.out _ (below_alloc HB2.out)).mono ?_); rintro e w4 ⟨rfl, hm4, hf4⟩; have hba4 : ABox (w.heap.size + 1) w4 := hf4.row (by omega) (((Fr.refl (fun _ => False) _).alloc _).row id HBA2.out); have HBA4 := Lib.hid hba4; have HM4 := Lib.hid hm4; have HF4 := Lib.hid hf4; clear hm4 hf4 hba4)
    | (refine wpList_store_row rfl 35 (Operand.tmp 4) (Operand.tmp 55) rfl (w.heap.size + 1) _ (ansC 0 false ⟨#[]⟩ (.slice none 0 0) 0 0) _ rfl rfl HBA4.out rfl HMS.out (ans_all _ _ _ _ _ _ _ _) ?_; intro w9 hr9 hf9; have HR9 := Lib.hid hr9; have HF9 := Lib.hid hf9; clear hr9 hf9))
  refine bodyPost_ret (v := ansV 0 false ⟨#[]⟩ (.slice none 0 0) 0 0) (results_cell (a := 4) (t := 35) (ad := ⟨w.heap.size + 1, 0, none⟩) Tryz.results12 rfl (load_row _ HR9.out _ Tryz.underlying35 rfl HMS.out)) rfl (do_done hbl (below_alloc HB2.out) HM4.out (.inl rfl) (HF4.out.mono (fun k _ e => .inl e)) HBA4.out (Nat.le_succ _) HF9.out (OwnsG.nil _ _))
end Go.Proofs.YtdfgdnaejnngoaaGreat
namespace Go.Proofs.YtdfgdnaejnngoaaGreat
open Go.RowKit
theorem mdlDo_any (bm g : Nat) (N : Int) (ls : List (List Itm)) (l : List Itm) (o : Ord) (w : World) (h : ModelAt w bm g N ls) (hl : ls[ls.length - 1]? = some l) (hn : ls.length ≤ 90000) (hln : l.length ≤ 60000) (h0 : 0 ≤ o.n) (h1 : o.n < 18446744073709551616) :
    Calls Tryz.prog 12 #[.pointer (some ⟨bm, 0, none⟩), o.v] w (DoRes2 bm g N (ansO (pCap N) l o) (rowsO (pCap N) ls l o) w) := by
  unfold ansO rowsO
  by_cases ho : isOrd o = true
  · rw [if_pos ho, if_pos ho]
    cases hm : msgO o with
    | some m => exact do_msg bm g N ls l o m w h hl hn hln h0 h1 ho hm
    | none =>
      have n1 : ¬ o.kind = 1 := fun e => by unfold msgO at hm; simp [e] at hm
      have n2 : ¬ o.kind = 2 := fun e => by unfold msgO at hm; simp [e] at hm
      have n3 : ¬ o.kind = 3 := fun e => by unfold msgO at hm; simp [e] at hm
      clear hm
      obtain ⟨kind, key, val, n, lo, hi⟩ := o
      dsimp only at n1 n2 n3 h0 h1 ⊢
      by_cases n4 : kind = 4
      · subst n4
        rw [if_pos rfl, if_pos (Or.inl rfl)]
        cases hk : isKey key with
        | true => rw [if_pos rfl]; exact do_get_ok bm g N ls l key val n lo hi w h hl hn hln h0 h1 ho hk
        | false => rw [if_neg (by decide)]; exact do_get_bad bm g N ls l key val n lo hi w h hl hn hln h0 h1 ho hk
      · by_cases n5 : kind = 5
        · subst n5
          rw [if_neg n4, if_pos rfl, if_pos (Or.inr (Or.inl rfl))]
          cases hk : isRng lo hi with
          | true => rw [if_pos rfl]; exact do_scan_ok bm g N ls l key val n lo hi w h hl hn hln h0 h1 ho hk
          | false => rw [if_neg (by decide)]; exact do_scan_bad bm g N ls l key val n lo hi w h hl hn hln h0 h1 ho hk
        · by_cases n8 : kind = 8
          · subst n8
            rw [if_neg n4, if_neg n5, if_pos rfl, if_pos (Or.inr (Or.inr rfl))]
            exact do_stat bm g N ls l key val n lo hi w h hl hn hln h0 h1 ho
          · rw [if_neg n4, if_neg n5, if_neg n8, if_neg (by rintro (e | e | e); exact n4 e; exact n5 e; exact n8 e)]
            exact do_safe bm g N ls l kind key val n lo hi w h hl hn hln h0 h1 ho n1 n2 n3 n4 n5 n8
  · rw [if_neg ho, if_neg ho]
    exact do_bad bm g N ls o w h (by simpa using ho)
/-! model.New. -/
/-- a plan, raw ones too -/
structure Pl where
  a0 : Int
  a1 : Int
  a2 : Int
  a3 : Int
  a4 : Int
  a5 : Int
  a6 : Int
  deriving DecidableEq
def Pl.v (p : Pl) : Value := .agg #[.int .i64 p.a0, .int .i64 p.a1, .int .i64 p.a2, .int .i64 p.a3, .int .i64 p.a4, .int .i64 p.a5, .int .i64 p.a6]
theorem Pl.v_def (p : Pl) : p.v = .agg #[.int .i64 p.a0, .int .i64 p.a1, .int .i64 p.a2, .int .i64 p.a3, .int .i64 p.a4, .int .i64 p.a5, .int .i64 p.a6] := rfl
def planP (N : Int) : Pl := ⟨N, pLog N, 2 + pLog N, pData N, pHalf N, pLeaves N, pCap N⟩
theorem planP_v (N : Int) : (planP N).v = .agg (planA N) := rfl
theorem neq_plan (a b : Pl) (w : World) : (binOp .neq 26 a.v b.v).run Tryz.prog w = .ok (.bool (!decide (a = b))) w := by
  have u3 := Tryz.underlying3
  have a3 := Tryz.isAgg3
  have z3 := Tryz.sizeOf3
  have hS : Tryz.prog.underlying 26 = some (.struct (Tryz.prog.fieldsOf 26)) := by kernel_rfl
  have hp : Tryz.prog.stoodInHeld 26 = false := by kernel_rfl
  rw [Pl.v_def, Pl.v_def]
  rw [run_neq_struct, show (10000 : Nat) = 9999 + 1 from rfl, run_equalIn_agg w 9999 26 _ _ hS hp]
  simp only [Program.fieldsOf, Tryz.underlying26]
  go_simp
  obtain ⟨x0, x1, x2, x3, x4, x5, x6⟩ := a
  obtain ⟨y0, y1, y2, y3, y4, y5, y6⟩ := b
  by_cases h0 : x0 = y0
  rotate_left
  · simp [h0]
  subst h0
  by_cases h1 : x1 = y1
  rotate_left
  · simp [h1]
  subst h1
  by_cases h2 : x2 = y2
  rotate_left
  · simp [h2]
  subst h2
  by_cases h3 : x3 = y3
  rotate_left
  · simp [h3]
  subst h3
  by_cases h4 : x4 = y4
  rotate_left
  · simp [h4]
  subst h4
  by_cases h5 : x5 = y5
  rotate_left
  · simp [h5]
  subst h5
  by_cases h6 : x6 = y6
  rotate_left
  · simp [h6]
  subst h6
  simp
theorem eql_plan (a b : Pl) (w : World) : (binOp .eql 26 a.v b.v).run Tryz.prog w = .ok (.bool (decide (a = b))) w := by
  have u3 := Tryz.underlying3
  have a3 := Tryz.isAgg3
  have z3 := Tryz.sizeOf3
  have hS : Tryz.prog.underlying 26 = some (.struct (Tryz.prog.fieldsOf 26)) := by kernel_rfl
  have hp : Tryz.prog.stoodInHeld 26 = false := by kernel_rfl
  rw [Pl.v_def, Pl.v_def]
  rw [run_eql_struct, show (10000 : Nat) = 9999 + 1 from rfl, run_equalIn_agg w 9999 26 _ _ hS hp]
  simp only [Program.fieldsOf, Tryz.underlying26]
  go_simp
  obtain ⟨x0, x1, x2, x3, x4, x5, x6⟩ := a
  obtain ⟨y0, y1, y2, y3, y4, y5, y6⟩ := b
  by_cases h0 : x0 = y0
  rotate_left
  · simp [h0]
  subst h0
  by_cases h1 : x1 = y1
  rotate_left
  · simp [h1]
  subst h1
  by_cases h2 : x2 = y2
  rotate_left
  · simp [h2]
  subst h2
  by_cases h3 : x3 = y3
  rotate_left
  · simp [h3]
  subst h3
  by_cases h4 : x4 = y4
  rotate_left
  · simp [h4]
  subst h4
  by_cases h5 : x5 = y5
  rotate_left
  · simp [h5]
  subst h5
  by_cases h6 : x6 = y6
  rotate_left
  · simp [h6]
  subst h6
  simp
theorem new_model {w2 : World} {b2 k2 : Nat} {A2 : Option Addr} (N : Int) (hla : LeafAt w2 b2 A2 k2 []) :
    ModelAt ((w2.alloc (.cells #[.pointer (some ⟨b2, 0, none⟩)] 98)).alloc (.cells #[.int .i64 N, .int .i64 (pLog N), .int .i64 (2 + pLog N), .int .i64 (pData N), .int .i64 (pHalf N), .int .i64 (pLeaves N), .int .i64 (pCap N), .slice (some ⟨w2.heap.size, 0, none⟩) 1 1] 102)) (w2.heap.size + 1) w2.heap.size N [[]] := by
  have hb : Below w2.heap.size w2 ((w2.alloc (.cells #[.pointer (some ⟨b2, 0, none⟩)] 98)).alloc (.cells #[.int .i64 N, .int .i64 (pLog N), .int .i64 (2 + pLog N), .int .i64 (pData N), .int .i64 (pHalf N), .int .i64 (pLeaves N), .int .i64 (pCap N), .slice (some ⟨w2.heap.size, 0, none⟩) 1 1] 102)) := below_alloc (below_alloc (Below.refl _ w2))
  refine ⟨⟨0, 1, 1, [b2], heap_new_at (by simp), ⟨rfl, ⟨[.pointer (some ⟨b2, 0, none⟩)], ((Fr.refl (fun _ => False) _).alloc _).row id (heap_alloc_new w2 _), by simp, ?_⟩, by omega, by decide⟩, rfl, ?_⟩, by simp⟩
  · intro j p hp
    rcases j with _ | j
    · simp at hp
      subst hp
      rfl
    · simp at hp
  · intro j p l hp hl
    rcases j with _ | j
    · simp at hp hl
      subst hp hl
      exact ⟨A2, k2, hla.below hb, fun hn => absurd rfl hn⟩
    · simp at hp
set_option maxRecDepth 100000 in
theorem new_ok (N : Int) (w : World) (h1 : 64 ≤ N) (h2 : N ≤ 512) : Calls Tryz.prog 42 #[.agg (planA N)] w fun e w' => ∃ bm g, e = .returned (.pointer (some ⟨bm, 0, none⟩)) ∧ ModelAt w' bm g N [[]] ∧ w.heap.size ≤ bm ∧ w.heap.size ≤ g ∧ Below w.heap.size w w' := by
  have hc := fun W => capaOf_ok N W (by omega) (by omega)
  have hq := fun W => neq_plan (planP N) (planP N) W
  simp only [planP_v, decide_true, Bool.not_true] at hq
  rw [planA_def] at hc hq ⊢
  have hlf : ∀ W, Calls Tryz.prog 52 #[.slice none 0 0] W (OfRes W []) := fun W => leafOf_any none 0 [] W (by intro i r hr; simp at hr) (by simp)
  have HC := Lib.hid hc
  have HLF := Lib.hid hlf
  have hgu : Tryz.prog.eqGuardType Tryz.prog.depth 26 = false := by kernel_rfl
  clear hc hlf
  go_enter Tryz.func42, Tryz.ntmps42
  go_wp2_with (first
    | (go_at_call 21; (with_reducible refine (HC.out _).mono ?_); rintro e w1 ⟨rfl, hb1⟩; obtain ⟨c0, c1, c2, c3, c4, c5, c6⟩ : w1.cell? ⟨w.heap.size, 0, none⟩ = some (.int .i64 N) ∧ w1.cell? ⟨w.heap.size, 1, none⟩ = some (.int .i64 (pLog N)) ∧ w1.cell? ⟨w.heap.size, 2, none⟩ = some (.int .i64 (2 + pLog N)) ∧ w1.cell? ⟨w.heap.size, 3, none⟩ = some (.int .i64 (pData N)) ∧ w1.cell? ⟨w.heap.size, 4, none⟩ = some (.int .i64 (pHalf N)) ∧ w1.cell? ⟨w.heap.size, 5, none⟩ = some (.int .i64 (pLeaves N)) ∧ w1.cell? ⟨w.heap.size, 6, none⟩ = some (.int .i64 (pCap N)) := (by have hbx := box_cells hb1; refine ⟨?_, ?_, ?_, ?_, ?_, ?_, ?_⟩ <;> (rw [Lib.cell_of_heap hbx]; rfl)); have HB1 := Lib.hid (below_next (below_alloc (Below.refl _ w)) hb1); have HBX := Lib.hid (box_cells hb1); have hl1 := lt_of_row (box_cells hb1); clear hb1)
    | (go_at_call 52; (with_reducible refine (HLF.out _).mono ?_); rintro e w2 ⟨hb2, h2⟩; rcases h2 with ⟨h2, _⟩ | ⟨_, b2, A2, k2, rfl, hla2, hle2⟩; exact absurd rfl h2; have HB2 := Lib.hid hb2; have HLA2 := Lib.hid hla2; have HLE2 := Lib.hid hle2; have hbx2 := box_below (((Fr.refl (fun _ => False) _).alloc _).row id HBX.out) hb2; obtain ⟨z0, z1, z2, z3, z4, z5, z6⟩ : w2.cell? ⟨w.heap.size, 0, none⟩ = some (.int .i64 N) ∧ w2.cell? ⟨w.heap.size, 1, none⟩ = some (.int .i64 (pLog N)) ∧ w2.cell? ⟨w.heap.size, 2, none⟩ = some (.int .i64 (2 + pLog N)) ∧ w2.cell? ⟨w.heap.size, 3, none⟩ = some (.int .i64 (pData N)) ∧ w2.cell? ⟨w.heap.size, 4, none⟩ = some (.int .i64 (pHalf N)) ∧ w2.cell? ⟨w.heap.size, 5, none⟩ = some (.int .i64 (pLeaves N)) ∧ w2.cell? ⟨w.heap.size, 6, none⟩ = some (.int .i64 (pCap N)) := (by refine ⟨?_, ?_, ?_, ?_, ?_, ?_, ?_⟩ <;> (rw [Lib.cell_of_heap hbx2]; rfl)); clear hb2 hla2 hle2 hbx2))
  go_ret
  have hb2 := below_next (below_alloc HB1.out) HB2.out
  have hs2 := hb2.size
  exact ⟨w2.heap.size + 1, w2.heap.size, by simp, new_model N HLA2.out, by omega, hs2, below_alloc (below_alloc hb2)⟩
/-- a raw plan that is none -/
def okPlan (p : Pl) : Bool := decide (64 ≤ p.a0) && (decide (p.a0 ≤ 512) && decide (planP p.a0 = p))
set_option maxRecDepth 100000 in
theorem new_bad (p : Pl) (w : World) (hp : okPlan p = false) : Calls Tryz.prog 42 #[p.v] w fun e w' => e = .returned (.pointer none) ∧ Below w.heap.size w w' := by
  have hgu : Tryz.prog.eqGuardType Tryz.prog.depth 26 = false := by kernel_rfl
  by_cases hr : p.a0 < 64 ∨ 512 < p.a0
  · have hc := fun W => capaOf_bad p.a0 W hr
    simp only [plan0] at hc
    have HC := Lib.hid hc
    clear hc hr hp
    rw [Pl.v_def]
    obtain ⟨x0, x1, x2, x3, x4, x5, x6⟩ := p
    dsimp only at HC ⊢
    go_enter Tryz.func42, Tryz.ntmps42
    go_wp2_with (go_at_call 21; (with_reducible refine (HC.out _).mono ?_); rintro e w1 ⟨rfl, hb1⟩; have HB1 := Lib.hid (below_next (below_alloc (Below.refl _ w)) hb1); clear hb1)
    go_ret
    exact ⟨rfl, below_alloc HB1.out⟩
  · have hc := fun W => capaOf_ok p.a0 W (by omega) (by omega)
    have hne : planP p.a0 ≠ p := fun e => by
      unfold okPlan at hp
      rw [decide_eq_true e, decide_eq_true (by omega : 64 ≤ p.a0), decide_eq_true (by omega : p.a0 ≤ 512)] at hp
      cases hp
    have hq := fun W => neq_plan (planP p.a0) p W
    simp only [planP_v, decide_eq_false hne, Bool.not_false] at hq
    rw [planA_def] at hc hq
    rw [Pl.v_def] at hq ⊢
    have HC := Lib.hid hc
    clear hc hr hp hne
    obtain ⟨x0, x1, x2, x3, x4, x5, x6⟩ := p
    dsimp only at HC hq ⊢
    go_enter Tryz.func42, Tryz.ntmps42
    go_wp2_with (go_at_call 21; (with_reducible refine (HC.out _).mono ?_); rintro e w1 ⟨rfl, hb1⟩; have hbx1 := box_cells hb1; obtain ⟨z0, z1, z2, z3, z4, z5, z6⟩ : w1.cell? ⟨w.heap.size, 0, none⟩ = some (.int .i64 x0) ∧ w1.cell? ⟨w.heap.size, 1, none⟩ = some (.int .i64 x1) ∧ w1.cell? ⟨w.heap.size, 2, none⟩ = some (.int .i64 x2) ∧ w1.cell? ⟨w.heap.size, 3, none⟩ = some (.int .i64 x3) ∧ w1.cell? ⟨w.heap.size, 4, none⟩ = some (.int .i64 x4) ∧ w1.cell? ⟨w.heap.size, 5, none⟩ = some (.int .i64 x5) ∧ w1.cell? ⟨w.heap.size, 6, none⟩ = some (.int .i64 x6) := (by refine ⟨?_, ?_, ?_, ?_, ?_, ?_, ?_⟩ <;> (rw [Lib.cell_of_heap hbx1]; rfl)); have hl1 := lt_of_row hbx1; have HB1 := Lib.hid (below_next (below_alloc (Below.refl _ w)) hb1); clear hb1 hbx1)
    go_ret
    exact ⟨rfl, below_alloc HB1.out⟩
end Go.Proofs.YtdfgdnaejnngoaaGreat
namespace Go.Proofs.YtdfgdnaejnngoaaGreat
open Go.RowKit
/-! prune.Items. -/
def okN (os : List Ord) : Prop := ∀ o ∈ os, 0 ≤ o.n ∧ o.n < 18446744073709551616
theorem items_take {os : List Ord} {k : Nat} {o : Ord} (h : os[k]? = some o) : itemsO (os.take (k + 1)) = stepI (itemsO (os.take k)) o := by
  rw [take_snocR h]
  unfold itemsO
  rw [List.foldl_append]
  rfl
theorem items_len : ∀ (os : List Ord) {l : List Itm}, Rises l → (os.foldl stepI l).length ≤ l.length + os.length
  | [], l, _ => by simp
  | o :: os, l, h => by
    rw [List.foldl_cons]
    have h1 := items_len os (rises_step h o)
    have h2 := step_len h o
    simp only [List.length_cons]
    omega
theorem ord_row {w : World} {A : Option Addr} {os : List Ord} (hel : Elems w A 6 (os.map Ord.cells)) {k : Nat} {o : Ord} (ho : os[k]? = some o) : ∃ b off, A = some ⟨b, off, none⟩ ∧ b < w.heap.size ∧ w.cell? ⟨b, off + k * 6, none⟩ = some (.int .i64 o.kind) ∧ w.cell? ⟨b, off + k * 6 + 1, none⟩ = some (.string o.key) ∧ w.cell? ⟨b, off + k * 6 + 2, none⟩ = some (.string o.val) ∧ w.cell? ⟨b, off + k * 6 + 3, none⟩ = some (.int .u64 o.n) ∧ w.cell? ⟨b, off + k * 6 + 4, none⟩ = some (.string o.lo) ∧ w.cell? ⟨b, off + k * 6 + 5, none⟩ = some (.string o.hi) := by
  obtain ⟨b, off, rfl, hlt, hc⟩ := hel k o.cells (by simp [ho])
  exact ⟨b, off, rfl, hlt, by simpa using hc 0 _ rfl, hc 1 _ rfl, hc 2 _ rfl, hc 3 _ rfl, hc 4 _ rfl, hc 5 _ rfl⟩
theorem msgZ_some {o : Ord} {m : Mg} (h : msgO o = some m) : msgZ o = m := by unfold msgZ; rw [h]; rfl
set_option maxHeartbeats 2000000 in
set_option maxRecDepth 100000 in
theorem pruneItems_any (A : Option Addr) (cap : Nat) (os : List Ord) (w : World) (hel : Elems w A 6 (os.map Ord.cells)) (hl : os.length ≤ 1000) (hn : okN os) :
    Calls Tryz.prog 29 #[.slice A os.length cap] w fun e w' => ∃ A' cap', e = .returned (.slice A' (itemsO os).length cap') ∧ OwnsM w' w.heap.size (.slice A' (itemsO os).length cap') (itemsO os) ∧ Below w.heap.size w w' := by
  have hlf : ∀ W, Calls Tryz.prog 52 #[.slice none 0 0] W (OfRes W []) := fun W => leafOf_any none 0 [] W (by intro i r hr; simp at hr) (by simp)
  have HLF := Lib.hid hlf
  have HEL := Lib.hid hel
  have HN := Lib.hid hn
  clear hlf hel hn
  go_enter Tryz.func29, Tryz.ntmps29
  go_wp2_with (go_at_call 52; (with_reducible refine (HLF.out _).mono ?_); rintro e w2 ⟨hb2, h2⟩; rcases h2 with ⟨h2, _⟩ | ⟨_, b2, A2, k2, rfl, hla2, hle2⟩; exact absurd rfl h2; have HB2 := Lib.hid hb2; have HLA2 := Lib.hid hla2; clear hb2 hla2 hle2)
  go_loopw [17, 3, 6, 7, 8, 9, 10] (fun i v _ _ _ _ _ wr => ∃ (k p c : Nat) (A2 : Option Addr), i = .int .i64 k ∧ k ≤ os.length ∧ v = .pointer (some ⟨p, 0, none⟩) ∧ LeafAt wr p A2 c (itemsO (os.take k)) ∧ Below w.heap.size w wr) (fun i _ _ _ _ _ _ _ => os.length + 1 - (intOf i).toNat)
  case atStart => exact ⟨0, b2, k2, A2, rfl, Nat.zero_le _, rfl, HLA2.out, HB2.out⟩
  case round =>
    obtain ⟨k, p, c, A3, rfl, hk, rfl, hla, hbel⟩ := hrel
    have hln : (itemsO (os.take k)).length ≤ 1000 := by
      have := items_len (os.take k) (l := []) trivial
      rw [List.length_take] at this
      unfold itemsO
      simp at this
      omega
    by_cases hkl : k < os.length
    · have hkI : (k : Int) < (os.length : Int) := by omega
      obtain ⟨o, ho⟩ := get_lt hkl
      obtain ⟨b, off, rfl, hblt, d0, d1, d2, d3, d4, d5⟩ := ord_row (HEL.out.below hbel) ho
      obtain ⟨n0, n1⟩ := HN.out o (List.mem_of_getElem? ho)
      have hmsg := fun W => prn_message o W n0 n1
      have hit := items_take ho
      have hme : msgO o = some (msgZ o) ∨ (msgO o = none) := by
        cases hm : msgO o with
        | none => exact .inr rfl
        | some m => rw [msgZ_some hm]; exact .inl rfl
      have hst : stepI (itemsO (os.take k)) o = if (msgO o).isSome = true ∧ isMsg (msgZ o) = true then doL (itemsO (os.take k)) (msgZ o) else itemsO (os.take k) := by
        unfold stepI
        rcases hme with h | h
        · rw [h]
          simp
        · rw [h]
          simp
      rw [hst] at hit
      have hwi := fun W p A c vb (hla : LeafAt W p A c (itemsO (os.take k))) hx hv => with_one p c vb A (itemsO (os.take k)) (msgZ o) W hla (by omega) hx hv
      generalize msgZ o = x at *
      generalize (msgO o).isSome = is at *
      generalize itemsO (os.take k) = L at *
      rw [Ord.v_def, Mg.v_def] at hmsg
      have hcl : x.cells = [.int .i64 x.kind, .string x.key, .string x.val] := Mg.cells_def x
      have HMSG := Lib.hid hmsg
      have HIT := Lib.hid hit
      have HW := Lib.hid hwi
      have HLA := Lib.hid hla
      have HB := Lib.hid hbel
      have HCL := Lib.hid hcl
      clear hmsg hit hst hme hwi hla hbel n0 n1 ho hcl hln
      obtain ⟨kind, key, val, n, lo, hi⟩ := o
      dsimp only at d0 d1 d2 d3 d4 d5 HMSG
      generalize hxk : x.kind = xk at *
      generalize hxy : x.key = xy at *
      generalize hxv : x.val = xv at *
      clear hxk hxy hxv
      cases hm : isMsg x with
      | false =>
        have hw2 : ∀ W p A c vb, LeafAt W p A c L → (∀ j u, x.cells[j]? = some u → W.cell? ⟨vb, j, none⟩ = some u) → vb < W.heap.size → Calls Tryz.prog 58 #[.pointer (some ⟨p, 0, none⟩), .slice (some ⟨vb, 0, none⟩) 1 1] W fun e w' => ∃ q, e = .returned (.tuple #[q, .int .i64 1]) ∧ Below W.heap.size W w' := fun W p A c vb h1 h2 h3 => by
          refine (HW.out W p A c vb h1 h2 h3).mono ?_
          rintro e w' ⟨hb, q, r, rfl, ⟨_, rfl⟩ | ⟨h, _⟩⟩
          · exact ⟨q, rfl, hb⟩
          · rw [hm] at h; cases h
        rw [hm, if_neg (by rintro ⟨_, h⟩; cases h)] at HIT
        have HW2 := Lib.hid hw2
        clear hw2 hm HW
        cases is <;>
        · go_wp2_with (first
            | (go_at_call 57; (with_reducible refine (HMSG.out _).mono ?_); rintro e w3 ⟨rfl, hb3⟩; have HB3 := Lib.hid (below_next (below_alloc (Below.refl _ wr)) hb3); clear hb3)
            | (go_at_call 58; (with_reducible refine (HW2.out _ _ _ _ _ (HLA.out.below (below_alloc (below_alloc HB3.out))) (fun j u hu => by rw [HCL.out] at hu; rw [Lib.cell_of_heap (heap_new_at (by simp))]; simpa using hu) (by simp)).mono ?_); rintro e w5 ⟨q, rfl, hb5⟩; have HB5 := Lib.hid (below_next (below_alloc (below_alloc HB3.out)) hb5); clear hb5))
          refine ⟨⟨k + 1, p, c, A3, by go_num, by omega, rfl, by rw [HIT.out]; exact HLA.out.below HB5.out, below_next HB.out HB5.out⟩, ?_⟩
          simp [intOf]
          omega
      | true =>
        have hw2 : ∀ W p A c vb, LeafAt W p A c L → (∀ j u, x.cells[j]? = some u → W.cell? ⟨vb, j, none⟩ = some u) → vb < W.heap.size → Calls Tryz.prog 58 #[.pointer (some ⟨p, 0, none⟩), .slice (some ⟨vb, 0, none⟩) 1 1] W fun e w' => ∃ b' A' c', e = .returned (.tuple #[.pointer (some ⟨b', 0, none⟩), .int .i64 0]) ∧ LeafAt w' b' A' c' (doL L x) ∧ Below W.heap.size W w' := fun W p A c vb h1 h2 h3 => by
          refine (HW.out W p A c vb h1 h2 h3).mono ?_
          rintro e w' ⟨hb, q, r, rfl, ⟨h, _⟩ | ⟨_, rfl, b', A', c', rfl, hla, _⟩⟩
          · rw [hm] at h; cases h
          · exact ⟨b', A', c', rfl, hla, hb⟩
        have HW2 := Lib.hid hw2
        cases is with
        | false =>
          rw [if_neg (by rintro ⟨h, _⟩; cases h)] at HIT
          clear hw2 hm HW
          go_wp2_with (first
            | (go_at_call 57; (with_reducible refine (HMSG.out _).mono ?_); rintro e w3 ⟨rfl, hb3⟩; have HB3 := Lib.hid (below_next (below_alloc (Below.refl _ wr)) hb3); clear hb3)
            | (go_at_call 58; (with_reducible refine (HW2.out _ _ _ _ _ (HLA.out.below (below_alloc (below_alloc HB3.out))) (fun j u hu => by rw [HCL.out] at hu; rw [Lib.cell_of_heap (heap_new_at (by simp))]; simpa using hu) (by simp)).mono ?_); rintro e w5 ⟨b', A', c', rfl, _, hb5⟩; have HB5 := Lib.hid (below_next (below_alloc (below_alloc HB3.out)) hb5); clear hb5))
          refine ⟨⟨k + 1, p, c, A3, by go_num, by omega, rfl, by rw [HIT.out]; exact HLA.out.below HB5.out, below_next HB.out HB5.out⟩, ?_⟩
          simp [intOf]
          omega
        | true =>
          rw [hm, if_pos ⟨rfl, rfl⟩] at HIT
          clear hw2 hm HW
          go_wp2_with (first
            | (go_at_call 57; (with_reducible refine (HMSG.out _).mono ?_); rintro e w3 ⟨rfl, hb3⟩; have HB3 := Lib.hid (below_next (below_alloc (Below.refl _ wr)) hb3); clear hb3)
            | (go_at_call 58; (with_reducible refine (HW2.out _ _ _ _ _ (HLA.out.below (below_alloc (below_alloc HB3.out))) (fun j u hu => by rw [HCL.out] at hu; rw [Lib.cell_of_heap (heap_new_at (by simp))]; simpa using hu) (by simp)).mono ?_); rintro e w5 ⟨b', A', c', rfl, hla5, hb5⟩; have HLA5 := Lib.hid hla5; clear hla5; have HB5 := Lib.hid (below_next (below_alloc (below_alloc HB3.out)) hb5); clear hb5))
          refine ⟨⟨k + 1, b', c', A', by go_num, by omega, rfl, by rw [HIT.out]; exact HLA5.out, below_next HB.out HB5.out⟩, ?_⟩
          simp [intOf]
          omega
    · obtain rfl : k = os.length := by omega
      rw [List.take_length] at hla hln
      have hit := items_any p c A3 _ wr hla (by omega)
      generalize hD : itemsO os = D at *
      have HIT := Lib.hid hit
      have HD := Lib.hid hD
      have HB := Lib.hid hbel
      clear hit hD hla hbel
      go_wp2_with (go_at_call 54; (with_reducible refine HIT.out.mono ?_); rintro e w3 ⟨A4, c4, rfl, ho4, hb4⟩)
      go_ret
      rw [HD.out]
      exact ⟨A4, c4, rfl, ho4.base HB.out.size, below_next HB.out hb4⟩
end Go.Proofs.YtdfgdnaejnngoaaGreat
