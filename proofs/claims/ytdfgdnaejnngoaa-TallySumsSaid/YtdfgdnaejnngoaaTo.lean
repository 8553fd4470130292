import Derived.Test.YtdfgdnaejnngoaaTs
import Derived.Deep.WholeRow
namespace Go.Proofs.Ytdfgdnaejnngoaa
open Go.RowKit
/-! tally.Of. -/
theorem Ev.v_eq (e : Ev) : e.v = .agg e.cells.toArray := rfl
theorem Ev.clen (e : Ev) : e.cells.length = 22 := rfl
theorem Ev.one (e : Ev) : e.cells.toArray.all (·.oneCell') = true := by
  simp [Ev.cells, Ev.keep, Value.oneCell']
theorem ev_store (e : Ev) (W : World) (zs : Array Value) (hz : zs.size = 22) : (storeCells ⟨W.heap.size, 0, none⟩ e.cells).run Try.prog (W.alloc (.cells zs 67)) = .ok () (W.alloc (.cells e.cells.toArray 67)) :=
  run_storeCells_new W 67 zs e.cells.toArray (by kernel_rfl) (by rw [hz]; rfl) e.one
theorem nv_len (n : Nat) (v : Nat → Int) : (nv n v).toList.length = n := by simp [nv]
theorem nv_one (n : Nat) (v : Nat → Int) : (nv n v).all (·.oneCell') = true := by
  rw [Array.all_eq_true_iff_forall_mem]
  intro x hx
  simp [nv] at hx
  obtain ⟨i, _, rfl⟩ := hx
  rfl
theorem tally_size : (Try.prog.info? 71).map (·.size) = some 25 := by kernel_rfl
theorem VAt.range {T : TypeId} {n : Nat} {w : World} {b : Nat} {v : Nat → Int} (h : VAt T n w b v) : w.rangeAt b 0 (nv n v).toList := fun j u hj => by
  rw [Nat.zero_add, Lib.cell_of_heap h]
  simpa using hj
theorem VAt.there {T : TypeId} {n : Nat} {w : World} {b : Nat} {v : Nat → Int} (h : VAt T n w b v) : w.there b 0 n := fun j hj => by
  rw [Nat.zero_add]
  exact ⟨by rw [h.cell hj]; rfl, h.f j⟩
theorem setCells_fr (b : Nat) : ∀ (vs : List Value) (o : Nat) (w : World), Fr (fun k => k = b) w (w.setCells b o vs)
  | [], _, w => Fr.refl _ _
  | v :: r, o, w => by
    rw [World.setCells]
    exact ((Fr.refl (fun k => k = b) w).setCell (p := ⟨b, o, none⟩) (fun _ => rfl) v).tr (setCells_fr b r (o + 1) _)
theorem results_cell {P : Program} {fn : Func} {tmps : Array Value} {a : Tmp} {t : TypeId} {ad : Addr} {v : Value} {w : World} (hf : fn.results = #[.cell a t]) (hp : tmps.getD a undef = .pointer (some ad)) (hl : (loadVar t ad).run P w = .ok v w) : (results fn tmps).run P w = .ok v w := by
  unfold results
  rw [hf]
  have hp2 : tmps[a]?.getD undef = .pointer (some ad) := by simpa using hp
  simp [hp2, hl, asAddr]
/-- a load of a whole struct, guarded or not -/
theorem wpList_load_w {P : Program} {ops : Array Oper} {rest : List Oper} {op : Oper} {a : Act} {w : World} {Q : Exit → Act → World → Prop} (hgd : Region.wanted op (yielded ops a.tmps) = true) (ty : TypeId) (x : Operand) (ho : op.op = .load ty x)
    (b o : Nat) (hx : a.eval x = .pointer (some ⟨b, o, none⟩)) (cs : List Value) (d : TypeDesc) (hc : w.rangeAt b o cs)
    (hu : P.underlying ty = some d) (hd : d.isRow = true) (hi : (P.info? ty).map (·.size) = some cs.length)
    (h : wpList P ops Q rest (a.put op.dst (.agg cs.toArray)) w) : wpList P ops Q (op :: rest) a w :=
  BigFrame.wpList_want hgd fun _ hK => wp_load_mid ty x ho b o hx cs d hc hu hd hi (hK _ _ h)
/-- what events count -/
def sumE : List Ev → Nat → Int
  | [], _ => 0
  | e :: l, i => inc e i + sumE l i
theorem sumE_append (l m : List Ev) (i : Nat) : sumE (l ++ m) i = sumE l i + sumE m i := by
  induction l with
  | nil => simp [sumE]
  | cons e l ih => simp [sumE, ih]; omega
theorem sumE_take (l : List Ev) (k : Nat) (e : Ev) (h : l[k]? = some e) (i : Nat) : sumE (l.take (k + 1)) i = sumE (l.take k) i + inc e i := by
  rw [List.take_add_one, h, Option.toList_some, sumE_append]
  simp [sumE]
theorem incA_range (o : Ord) (err : Int) (has : Bool) (il : Nat) (i : Nat) (h1 : o.key.size ≤ 512) (h2 : o.val.size ≤ 512) (h3 : il ≤ 512) : 0 ≤ incA o err has il i ∧ incA o err has il i ≤ 1025 := by
  unfold incA
  constructor <;> (repeat' split) <;> omega
theorem inc_range (e : Ev) (hg : e.good) (i : Nat) : 0 ≤ inc e i ∧ inc e i ≤ 1025 := by
  unfold inc
  split
  · exact incA_range _ _ _ _ _ hg.1 hg.2.1 hg.2.2.2.2
  · constructor <;> (repeat' split) <;> omega
theorem sumE_range : ∀ (l : List Ev), (∀ e ∈ l, e.good) → ∀ i, 0 ≤ sumE l i ∧ sumE l i ≤ 1025 * l.length
  | [], _, i => by simp [sumE]
  | e :: l, h, i => by
    have h1 := inc_range e (h e (by simp)) i
    have h2 := sumE_range l (fun x hx => h x (by simp [hx])) i
    rw [sumE, List.length_cons]
    omega
theorem sumE_small (l : List Ev) (h : ∀ e ∈ l, e.good) (hl : l.length ≤ 1000) : Small (sumE l) := fun i _ => by
  have := sumE_range l h i
  omega

set_option maxHeartbeats 1000000 in
set_option maxRecDepth 100000 in
theorem of_any (A : Option Addr) (cap : Nat) (l : List Ev) (w : World) (hel : Elems w A 22 (l.map Ev.cells)) (hg : ∀ e ∈ l, e.good) (hl : l.length ≤ 1000) : Calls Try.prog 24 #[.slice A l.length cap] w
    fun e' w' => e' = .returned (.agg (nv 25 (sumE l))) ∧ Below w.heap.size w w' := by
  have e0 : ∀ args w, (callFunc 51 args).run Try.prog w = .ok (.enter 51 args) w := enters_of Try.func51 (by kernel_rfl) rfl
  have HE := Lib.hid hel
  have HG := Lib.hid hg
  clear hel hg
  go_enter Try.func24, Try.ntmps24
  go_wp2
  go_loopw [10] (fun i wr => ∃ k : Nat, i = .int .i64 k ∧ k ≤ l.length ∧ VAt 71 25 wr (w.heap.size + 1) (sumE (l.take k)) ∧ VAt 71 25 wr w.heap.size (fun _ => 0) ∧ Below w.heap.size w wr) (fun i _ => l.length + 1 - (intOf i).toNat)
  case atStart =>
    refine ⟨0, rfl, Nat.zero_le _, ?_, ?_, (by repeat (first | assumption | exact Below.refl _ _ | (refine below_step (w := ?_) ?_ ?_ ?_; rotate_left 2; assumption) | refine Below.drew ?_ | refine below_drewN ?_ _ | refine Below.alloc ?_ ?_ _ | refine Below.setCell ?_ ?_ _ | (focus (simp; done)) | (focus (simp; omega)) | omega))⟩
    · rw [List.take_zero]
      exact heap_new_at (by simp)
    · exact (Below.heap_alloc _ _ _ (by simp)).trans (heap_alloc_new _ _)
  case round =>
    obtain ⟨k, rfl, hk, hva, hv0, hbel⟩ := hrel
    by_cases hkl : k < l.length
    · have hkI : (k : Int) < (l.length : Int) := by omega
      obtain ⟨e, he⟩ := get_lt hkl
      obtain ⟨b, off, rfl, hblt, hcells⟩ := HE.out k e.cells (by simp [he])
      have hge := HG.out e (List.mem_of_getElem? he)
      have hR : wr.rangeAt b (off + k * 22) e.cells := fun j u hj => (hbel.cell (p := ⟨b, _, none⟩) hblt).trans (hcells j u hj)
      have hsm := sumE_small (l.take k) (fun x hx => HG.out x (List.mem_of_mem_take hx)) (by simp [List.length_take]; omega)
      have hsee := fun W h => see_any (w.heap.size + 1) _ e W h hsm hge
      have hst := ev_store e
      have hnx := sumE_take l k e he
      have hr2 : (wr.alloc (.cells e.cells.toArray 67)).rangeAt wr.heap.size 0 e.cells := fun j u hj => by rw [Nat.zero_add]; exact box_cells wr _ _ j u (by simpa using hj)
      have hlt1 := hva.lt
      have hcl := Ev.clen e
      rw [Ev.v_eq] at hsee
      generalize e.cells = cs at hR hsee hr2 hcl hst
      generalize sumE (l.take k) = v at hva hsee hnx
      have HR := Lib.hid hR
      have HS := Lib.hid hsee
      have HN := Lib.hid hnx
      have HR2 := Lib.hid hr2
      have HVA := Lib.hid hva
      have HV0 := Lib.hid hv0
      clear hR hsee hnx hr2 hva hv0
      go_wp2_with (first | (refine wpList_load_mid rfl 67 (Operand.tmp 12) rfl b (off + k * 22) rfl cs _ HR.out Try.underlying67 rfl (by rw [hcl]; kernel_rfl) ?_) | (refine wpList_load_mid rfl 67 (Operand.tmp 6) rfl wr.heap.size 0 rfl cs _ HR2.out Try.underlying67 rfl (by rw [hcl]; kernel_rfl) ?_))
      refine (HS.out _ (HVA.out.fr ((Fr.refl (fun _ => False) wr).alloc _) id)).mono ?_
      rintro e' w1 ⟨rfl, hv1, hf1⟩
      have hf2 : Fr (fun i => i = w.heap.size + 1) wr w1 := ((Fr.refl _ wr).alloc _).tr hf1
      have hv2 := hv1.eq (fun i => (HN.out i).symm)
      have hv3 := HV0.out.fr hf2 (by omega)
      have hb2 := hbel.trans (hf2.to_below hbel.size (fun i hi e => by omega))
      have HV2 := Lib.hid hv2
      have HV3 := Lib.hid hv3
      clear hv1 hf1 hf2 hv2 hv3
      go_wp2
      refine ⟨⟨k + 1, by go_num, by omega, HV2.out, HV3.out, hb2⟩, ?_⟩
      simp [intOf]
      omega
    · obtain rfl : k = l.length := by omega
      rw [List.take_length] at hva
      have hR := hva.range
      have hT := hv0.there
      have hS := nv_one 25 (sumE l)
      have hL : (Try.prog.info? 71).map (·.size) = some (nv 25 (sumE l)).toList.length := by rw [nv_len]; exact tally_size
      have hL2 : (Try.prog.info? 71).map (·.size) = some (nv 25 (sumE l)).size := by rw [nv_size]; exact tally_size
      have hT2 : wr.there w.heap.size 0 (nv 25 (sumE l)).size := by rw [nv_size]; exact hT
      have hR2 := World.rangeAt_setCells_same wr w.heap.size 0 (nv 25 (sumE l)).toList (by rw [nv_len]; exact hT)
      have hf2 := setCells_fr w.heap.size (nv 25 (sumE l)).toList 0 wr
      generalize hcs : nv 25 (sumE l) = cs at *
      have HCS := Lib.hid hcs
      clear hcs
      have HT := Lib.hid hT2
      have HS := Lib.hid hS
      have HL := Lib.hid hL
      have HL2 := Lib.hid hL2
      have HR2 := Lib.hid hR2
      have HF2 := Lib.hid hf2
      clear hT hS hL hL2 hT2 hR2 hf2
      have HR := Lib.hid hR
      have HV0 := Lib.hid hv0
      have HVA := Lib.hid hva
      clear hR hva hv0
      go_wp2_with (first | (refine wpList_load_mid rfl 71 (Operand.tmp 3) rfl (w.heap.size + 1) 0 rfl _ _ HR.out Try.underlying71 rfl HL.out ?_) | (refine wpList_store_mid rfl 71 (Operand.tmp 2) (Operand.tmp 18) rfl w.heap.size 0 cs rfl (by simp [Act.eval, Act.put]) HT.out HL2.out HS.out ?_))
      refine bodyPost_ret (v := .agg cs.toList.toArray) (results_cell (a := 2) (t := 71) (ad := ⟨w.heap.size, 0, none⟩) Try.results24 rfl (run_loadVar_mid _ _ _ _ _ _ HR2.out Try.underlying71 rfl HL.out)) rfl ⟨by rw [HCS.out], hbel.trans (HF2.out.to_below hbel.size (fun i hi e => by omega))⟩
end Go.Proofs.Ytdfgdnaejnngoaa
