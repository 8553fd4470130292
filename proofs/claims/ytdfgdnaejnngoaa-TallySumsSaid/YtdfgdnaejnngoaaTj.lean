import Derived.Test.YtdfgdnaejnngoaaTq
namespace Go.Proofs.Ytdfgdnaejnngoaa
open Go.RowKit
/-! tally.Join, tally.Less. -/
def tC (v : Nat → Int) : List Value := (nv 25 v).toList
theorem tC_len (v : Nat → Int) : (tC v).length = 25 := nv_len 25 v
def sumT : List (Nat → Int) → Nat → Int
  | [], _ => 0
  | v :: l, i => v i + sumT l i
theorem sumT_append (l m : List (Nat → Int)) (i : Nat) : sumT (l ++ m) i = sumT l i + sumT m i := by
  induction l with
  | nil => simp [sumT]
  | cons e l ih => simp [sumT, ih]; omega
theorem sumT_take (l : List (Nat → Int)) (k : Nat) (e : Nat → Int) (h : l[k]? = some e) (i : Nat) : sumT (l.take (k + 1)) i = sumT (l.take k) i + e i := by
  rw [List.take_add_one, h, Option.toList_some, sumT_append]
  simp [sumT]
/-- numbers up to 2^40 -/
def TGood (v : Nat → Int) : Prop := ∀ i, i < 25 → 0 ≤ v i ∧ v i ≤ 1099511627776
theorem sumT_range : ∀ (l : List (Nat → Int)), (∀ v ∈ l, TGood v) → ∀ i, i < 25 → 0 ≤ sumT l i ∧ sumT l i ≤ 1099511627776 * l.length
  | [], _, i, _ => by simp [sumT]
  | v :: l, h, i, hi => by
    have h1 := h v (by simp) i hi
    have h2 := sumT_range l (fun x hx => h x (by simp [hx])) i hi
    rw [sumT, List.length_cons]
    omega
theorem tally_store' (v : Nat → Int) (W : World) (zs : Array Value) (hz : zs.size = 25) : (storeCells ⟨W.heap.size, 0, none⟩ (tC v)).run Try.prog (W.alloc (.cells zs 71)) = .ok () (W.alloc (.cells (tC v).toArray 71)) := by
  have := any_store 71 v W zs tally_size hz
  simpa [tC] using this
set_option maxHeartbeats 2000000 in
set_option maxRecDepth 100000 in
theorem join_any (A : Option Addr) (cap : Nat) (l : List (Nat → Int)) (w : World) (hel : Elems w A 25 (l.map tC)) (hg : ∀ v ∈ l, TGood v) (hl : l.length ≤ 20) : Calls Try.prog 31 #[.slice A l.length cap] w
    fun e' w' => e' = .returned (.agg (nv 25 (sumT l))) ∧ Below w.heap.size w w' := by
  have HE := Lib.hid hel
  have HG := Lib.hid hg
  clear hel hg
  go_enter Try.func31, Try.ntmps31
  go_wp2
  go_loopw [8] (fun i wr => ∃ k : Nat, i = .int .i64 k ∧ k ≤ l.length ∧ VAt 71 25 wr (w.heap.size + 1) (sumT (l.take k)) ∧ VAt 71 25 wr w.heap.size (fun _ => 0) ∧ Below w.heap.size w wr) (fun i _ => l.length + 1 - (intOf i).toNat)
  case atStart =>
    refine ⟨0, rfl, Nat.zero_le _, ?_, ?_, (by repeat (first | assumption | exact Below.refl _ _ | (refine below_step (w := ?_) ?_ ?_ ?_; rotate_left 2; assumption) | refine Below.drew ?_ | refine below_drewN ?_ _ | refine Below.alloc ?_ ?_ _ | refine Below.setCell ?_ ?_ _ | (focus (simp; done)) | (focus (simp; omega)) | omega))⟩
    · rw [List.take_zero]
      exact heap_new_at (by simp)
    · exact (Below.heap_alloc _ _ _ (by simp)).trans (heap_alloc_new _ _)
  case round =>
    obtain ⟨k, rfl, hk, hva, hv0, hbel⟩ := hrel
    by_cases hkl : k < l.length
    · have hkI : (k : Int) < (l.length : Int) := by omega
      obtain ⟨e, he⟩ := get_lt hkl
      obtain ⟨b, off, rfl, hblt, hcells⟩ := HE.out k (tC e) (by simp [he])
      have hge := HG.out e (List.mem_of_getElem? he)
      have hR : wr.rangeAt b (off + k * 25) (tC e) := fun j u hj => (hbel.cell (p := ⟨b, _, none⟩) hblt).trans (hcells j u hj)
      have hsm := sumT_range (l.take k) (fun x hx => HG.out x (List.mem_of_mem_take hx))
      have hsee := fun W h => with_p (w.heap.size + 1) (sumT (l.take k)) e W h (fun i hi => by have := hsm i hi; have h20 : (l.take k).length ≤ 20 := (by rw [List.length_take]; omega); omega) (fun i hi => by have := hge i hi; omega)
      have hst := tally_store' e
      have hnx := sumT_take l k e he
      have hr2 : (wr.alloc (.cells (tC e).toArray 71)).rangeAt wr.heap.size 0 (tC e) := fun j u hj => by rw [Nat.zero_add]; exact box_cells wr _ _ j u (by simpa using hj)
      have hlt1 := hva.lt
      have hcl := tC_len e
      have hL : (Try.prog.info? 71).map (·.size) = some (tC e).length := by rw [hcl]; exact tally_size
      have hnvt : nv 25 e = (tC e).toArray := by simp [tC]
      rw [hnvt] at hsee
      generalize tC e = cs at hR hsee hr2 hcl hst hL
      generalize okW (sumT (l.take k)) e 1 (plL 21) = okr at hsee
      generalize sumT (l.take k) = v at hva hsee hnx
      have HR := Lib.hid hR
      have HS := Lib.hid hsee
      have HN := Lib.hid hnx
      have HR2 := Lib.hid hr2
      have HVA := Lib.hid hva
      have HV0 := Lib.hid hv0
      have HL := Lib.hid hL
      clear hR hsee hnx hr2 hva hv0 hnvt hL
      go_wp2_with (first | (refine wpList_load_mid rfl 71 (Operand.tmp 10) rfl b (off + k * 25) rfl cs _ HR.out Try.underlying71 rfl HL.out ?_) | (refine wpList_load_mid rfl 71 (Operand.tmp 5) rfl wr.heap.size 0 rfl cs _ HR2.out Try.underlying71 rfl HL.out ?_))
      refine (HS.out _ (HVA.out.fr ((Fr.refl (fun _ => False) wr).alloc _) id)).mono ?_
      rintro e' w1 ⟨rfl, hv1, hf1⟩
      have hf2 : Fr (fun i => i = w.heap.size + 1) wr w1 := ((Fr.refl _ wr).alloc _).tr hf1
      have hv2 := hv1.eq (v' := sumT (l.take (k + 1))) (fun i => by rw [HN.out]; omega)
      have hv3 := HV0.out.fr hf2 (by omega)
      have hb2 := hbel.trans (hf2.to_below hbel.size (fun i hi e => by omega))
      have HV2 := Lib.hid hv2
      have HV3 := Lib.hid hv3
      clear hv1 hf1 hf2 hv2 hv3
      go_wp2
      refine ⟨⟨k + 1, by go_num, by omega, HV2.out, HV3.out, hb2⟩, ?_⟩
      simp [intOf]
      omega
    · obtain rfl : k = l.length := by omega
      rw [List.take_length] at hva
      have hR := hva.range
      have hT := hv0.there
      have hS := nv_one 25 (sumT l)
      have hL : (Try.prog.info? 71).map (·.size) = some (nv 25 (sumT l)).toList.length := by rw [nv_len]; exact tally_size
      have hL2 : (Try.prog.info? 71).map (·.size) = some (nv 25 (sumT l)).size := by rw [nv_size]; exact tally_size
      have hT2 : wr.there w.heap.size 0 (nv 25 (sumT l)).size := by rw [nv_size]; exact hT
      have hR2 := World.rangeAt_setCells_same wr w.heap.size 0 (nv 25 (sumT l)).toList (by rw [nv_len]; exact hT)
      have hf2 := setCells_fr w.heap.size (nv 25 (sumT l)).toList 0 wr
      generalize hcs : nv 25 (sumT l) = cs at *
      have HCS := Lib.hid hcs
      clear hcs
      have HT := Lib.hid hT2
      have HS := Lib.hid hS
      have HL := Lib.hid hL
      have HL2 := Lib.hid hL2
      have HR2 := Lib.hid hR2
      have HF2 := Lib.hid hf2
      clear hT hS hL hL2 hT2 hR2 hf2
      have HR := Lib.hid hR
      have HV0 := Lib.hid hv0
      have HVA := Lib.hid hva
      clear hR hva hv0
      go_wp2_with (first | (refine wpList_load_mid rfl 71 (Operand.tmp 3) rfl (w.heap.size + 1) 0 rfl _ _ HR.out Try.underlying71 rfl HL.out ?_) | (refine wpList_store_mid rfl 71 (Operand.tmp 2) (Operand.tmp 15) rfl w.heap.size 0 cs rfl (by simp [Act.eval, Act.put]) HT.out HL2.out HS.out ?_))
      refine bodyPost_ret (v := .agg cs.toList.toArray) (results_cell (a := 2) (t := 71) (ad := ⟨w.heap.size, 0, none⟩) Try.results31 rfl (run_loadVar_mid _ _ _ _ _ _ HR2.out Try.underlying71 rfl HL.out)) rfl ⟨by rw [HCS.out], hbel.trans (HF2.out.to_below hbel.size (fun i hi e => by omega))⟩
theorem results_cell2 {P : Program} {fn : Func} {tmps : Array Value} {a c : Tmp} {t : TypeId} {ad : Addr} {v x : Value} {w : World} (hf : fn.results = #[.cell a t, .tmp c]) (hp : tmps.getD a undef = .pointer (some ad)) (hl : (loadVar t ad).run P w = .ok v w) (hx : tmps.getD c undef = x) : (results fn tmps).run P w = .ok (.tuple #[v, x]) w := by
  unfold results
  rw [hf]
  have hp2 : tmps[a]?.getD undef = .pointer (some ad) := by simpa using hp
  have hx2 : tmps[c]?.getD undef = x := by simpa using hx
  simp [hp2, hl, hx2, asAddr]
def lessV (v u : Nat → Int) : Nat → Int := if okW v u (-1) (plL 21) then (fun i => v i + -1 * u i) else (fun _ => 0)
/-- what is stored whole, and read again -/
theorem store_facts {w : World} {b : Nat} {v : Nat → Int} (r : Nat → Int) (h : VAt 71 25 w b v) : w.there b 0 (nv 25 r).size ∧ (Try.prog.info? 71).map (·.size) = some (nv 25 r).size ∧ (nv 25 r).all (·.oneCell') = true ∧ (loadVar 71 ⟨b, 0, none⟩).run Try.prog (w.setCells b 0 (nv 25 r).toList) = .ok (.agg (nv 25 r)) (w.setCells b 0 (nv 25 r).toList) ∧ Fr (fun k => k = b) w (w.setCells b 0 (nv 25 r).toList) := by
  refine ⟨by rw [nv_size]; exact h.there, by rw [nv_size]; exact tally_size, nv_one 25 r, ?_, setCells_fr b _ 0 w⟩
  have hR2 := World.rangeAt_setCells_same w b 0 (nv 25 r).toList (by rw [nv_len]; exact h.there)
  have hL : (Try.prog.info? 71).map (·.size) = some (nv 25 r).toList.length := by rw [nv_len]; exact tally_size
  have := run_loadVar_mid _ _ _ _ _ _ hR2 Try.underlying71 rfl hL
  rw [Array.toArray_toList] at this
  exact this
set_option maxHeartbeats 2000000 in
set_option maxRecDepth 100000 in
theorem less_any (v u : Nat → Int) (w : World) (hv : ∀ i, i < 25 → -1125899906842624 ≤ v i ∧ v i ≤ 1125899906842624) (hu : ∀ i, i < 25 → -1125899906842624 ≤ u i ∧ u i ≤ 1125899906842624) : Calls Try.prog 32 #[.agg (nv 25 v), .agg (nv 25 u)] w
    fun e' w' => e' = .returned (.tuple #[.agg (nv 25 (lessV v u)), .bool (okW v u (-1) (plL 21))]) ∧ Below w.heap.size w w' := by
  have hwm := fun W h => with_m w.heap.size v u W h hv hu
  have hlv : lessV v u = if okW v u (-1) (plL 21) then (fun i => v i + -1 * u i) else (fun _ => 0) := rfl
  generalize okW v u (-1) (plL 21) = ok at hwm hlv ⊢
  generalize lessV v u = r at hlv ⊢
  have hz : nv 25 (fun _ => 0) = #[.int .i64 0, .int .i64 0, .int .i64 0, .int .i64 0, .int .i64 0, .int .i64 0, .int .i64 0, .int .i64 0, .int .i64 0, .int .i64 0, .int .i64 0, .int .i64 0, .int .i64 0, .int .i64 0, .int .i64 0, .int .i64 0, .int .i64 0, .int .i64 0, .int .i64 0, .int .i64 0, .int .i64 0, .int .i64 0, .int .i64 0, .int .i64 0, .int .i64 0] := rfl
  have h0 : ∀ (x : Obj), VAt 71 25 (((w.alloc (.cells (nv 25 v) 71)).alloc (.cells (nv 25 u) 71)).alloc x) w.heap.size v := fun x => (VAt.new w v).fr (((Fr.refl (fun _ => False) _).alloc _).alloc x) id
  have h1 : ∀ (x : Obj), VAt 71 25 (((w.alloc (.cells (nv 25 v) 71)).alloc (.cells (nv 25 u) 71)).alloc x) (w.heap.size + 1) u := fun x => by
    have := VAt.new (T := 71) (n := 25) (w.alloc (.cells (nv 25 v) 71)) u
    rw [show (w.alloc (.cells (nv 25 v) 71)).heap.size = w.heap.size + 1 by simp] at this
    exact this.fr ((Fr.refl (fun _ => False) _).alloc x) id
  have h2 : VAt 71 25 (((w.alloc (.cells (nv 25 v) 71)).alloc (.cells (nv 25 u) 71)).alloc (.cells (nv 25 (fun _ => 0)) 71)) (w.heap.size + 2) (fun _ => 0) := by
    have := VAt.new (T := 71) (n := 25) ((w.alloc (.cells (nv 25 v) 71)).alloc (.cells (nv 25 u) 71)) (fun _ => 0)
    rw [show ((w.alloc (.cells (nv 25 v) 71)).alloc (.cells (nv 25 u) 71)).heap.size = w.heap.size + 2 by simp] at this
    exact this
  have hb0 : ∀ (x : Obj), Below w.heap.size w (((w.alloc (.cells (nv 25 v) 71)).alloc (.cells (nv 25 u) 71)).alloc x) := fun x => Below.alloc (Below.alloc (Below.alloc (Below.refl _ _) (Nat.le_refl _) _) (by first | (simp; done) | (simp; omega)) _) (by first | (simp; done) | (simp; omega)) _
  have hrg := fun W b (h : VAt 71 25 W b u) => h.range
  have hrs := fun W b (h : VAt 71 25 W b (fun i => v i + -1 * u i)) => h.range
  have hsf := fun W (h : VAt 71 25 W (w.heap.size + 2) (fun _ => 0)) => store_facts (fun i => v i + -1 * u i) h
  have hsz := fun W (h : VAt 71 25 W (w.heap.size + 2) (fun _ => 0)) => store_facts (fun _ => 0) h
  have hL : (Try.prog.info? 71).map (·.size) = some (nv 25 u).toList.length := by rw [nv_len]; exact tally_size
  have hL2 : (Try.prog.info? 71).map (·.size) = some (nv 25 (fun i => v i + -1 * u i)).toList.length := by rw [nv_len]; exact tally_size
  rw [hz] at h2
  generalize hcv : nv 25 v = cv at *
  generalize hcu : nv 25 u = cu at *
  generalize hcd : nv 25 (fun i => v i + -1 * u i) = cd at *
  have HWM := Lib.hid hwm
  have HLV := Lib.hid hlv
  have HCD := Lib.hid hcd
  have HZ := Lib.hid hz
  have H0 := Lib.hid h0
  have H1 := Lib.hid h1
  have H2 := Lib.hid h2
  have HB0 := Lib.hid hb0
  have HRG := Lib.hid hrg
  have HRS := Lib.hid hrs
  have HSF := Lib.hid hsf
  have HSZ := Lib.hid hsz
  have HL := Lib.hid hL
  have HL2 := Lib.hid hL2
  clear hwm hlv h0 h1 h2 hb0 hrg hrs hsf hsz hL hL2 hcv hcu hcd hz hv hu
  cases ok
  · go_enter Try.func32, Try.ntmps32
    go_wp2_with (first | (refine wpList_load_w (by rfl) 71 (Operand.tmp 3) rfl (w.heap.size + 1) 0 rfl cu.toList _ (HRG.out _ _ (H1.out _)) Try.underlying71 rfl HL.out ?_) | (go_at_call 56; (with_reducible refine (HWM.out _ (H0.out _)).mono ?_); rintro e w1 ⟨rfl, hv1, hf1⟩; have HV1 := Lib.hid hv1; have HF1 := Lib.hid hf1; have HV2 := Lib.hid (H2.out.fr hf1 (by omega)); have HB1 := Lib.hid ((HB0.out _).trans (hf1.to_below (B := w.heap.size) (by simp; omega) (fun i hi e => by omega))); clear hv1 hf1) | (refine wpList_store_mid rfl 71 (Operand.tmp 4) (Operand.tmp 9) rfl (w.heap.size + 2) 0 (nv 25 (fun _ => 0)) rfl rfl (HSZ.out _ HV2.out).1 (HSZ.out _ HV2.out).2.1 (HSZ.out _ HV2.out).2.2.1 ?_))
    have hf := HSZ.out _ HV2.out
    have hr : r = fun _ => 0 := by rw [HLV.out]; rfl
    refine bodyPost_ret (v := .tuple #[.agg (nv 25 (fun _ => 0)), .bool false]) (results_cell2 (a := 4) (c := 5) (t := 71) (ad := ⟨w.heap.size + 2, 0, none⟩) Try.results32 rfl hf.2.2.2.1 rfl) rfl ⟨by rw [hr], HB1.out.trans (hf.2.2.2.2.to_below HB1.out.size (fun i hi e => by omega))⟩
  · go_enter Try.func32, Try.ntmps32
    go_wp2_with (first | (refine wpList_load_w (by rfl) 71 (Operand.tmp 3) rfl (w.heap.size + 1) 0 rfl cu.toList _ (HRG.out _ _ (H1.out _)) Try.underlying71 rfl HL.out ?_) | (go_at_call 56; (with_reducible refine (HWM.out _ (H0.out _)).mono ?_); rintro e w1 ⟨rfl, hv1, hf1⟩; have HV1 := Lib.hid hv1; have HF1 := Lib.hid hf1; have HV2 := Lib.hid (H2.out.fr hf1 (by omega)); have HB1 := Lib.hid ((HB0.out _).trans (hf1.to_below (B := w.heap.size) (by simp; omega) (fun i hi e => by omega))); clear hv1 hf1) | (refine wpList_load_w (by rfl) 71 (Operand.tmp 2) rfl w.heap.size 0 rfl cd.toList _ (HRS.out _ _ HV1.out) Try.underlying71 rfl HL2.out ?_) | (refine wpList_store_mid rfl 71 (Operand.tmp 4) (Operand.tmp 10) rfl (w.heap.size + 2) 0 cd rfl (by simp [Act.eval, Act.put]) (HSF.out _ HV2.out).1 (HSF.out _ HV2.out).2.1 (HSF.out _ HV2.out).2.2.1 ?_))
    have hf := HSF.out _ HV2.out
    have hr : r = fun i => v i + -1 * u i := by rw [HLV.out]; rfl
    refine bodyPost_ret (v := .tuple #[.agg cd, .bool true]) (results_cell2 (a := 4) (c := 5) (t := 71) (ad := ⟨w.heap.size + 2, 0, none⟩) Try.results32 rfl hf.2.2.2.1 rfl) rfl ⟨by rw [hr, HCD.out], HB1.out.trans (hf.2.2.2.2.to_below HB1.out.size (fun i hi e => by omega))⟩
end Go.Proofs.Ytdfgdnaejnngoaa
