import Derived.Test.YtdfgdnaejnngoaaTa
namespace Go.Proofs.Ytdfgdnaejnngoaa
open Go.RowKit
/-! grangerlaw32.awake. -/
def ev1 : Ev := ⟨1, ⟨1, ⟨#[97]⟩, ⟨#[98, 99]⟩, 0, ⟨#[]⟩, ⟨#[]⟩⟩, 0, none, 0, 0, 0, false, ⟨#[]⟩, none, 0, 0, fun _ => 0⟩
def ev2 : Ev := ⟨1, ⟨4, ⟨#[97]⟩, ⟨#[]⟩, 0, ⟨#[]⟩, ⟨#[]⟩⟩, 0, none, 0, 0, 0, true, ⟨#[]⟩, none, 0, 0, fun _ => 0⟩
def ev3 : Ev := ⟨2, ⟨0, ⟨#[]⟩, ⟨#[]⟩, 0, ⟨#[]⟩, ⟨#[]⟩⟩, 0, none, 0, 0, 0, false, ⟨#[]⟩, none, 0, 0, fun _ => 0⟩
def awS (i : Nat) : Int := sumE [ev1, ev2, ev3] i
theorem aw_of (w : World) : Calls Try.prog 24 #[.slice (some ⟨w.heap.size, 0, none⟩) 3 3] (w.alloc (.cells (ev1.cells ++ (ev2.cells ++ ev3.cells)).toArray 67)) fun e' w' => e' = .returned (.agg (nv 25 awS)) ∧ Below (w.alloc (.cells (ev1.cells ++ (ev2.cells ++ ev3.cells)).toArray 67)).heap.size (w.alloc (.cells (ev1.cells ++ (ev2.cells ++ ev3.cells)).toArray 67)) w' := by
  refine of_any (some ⟨w.heap.size, 0, none⟩) 3 [ev1, ev2, ev3] _ (Elems.of_block (heap_alloc_new _ _) (by simp [Ev.clen]) (by simp)) ?_ (by decide)
  intro e he
  simp at he
  rcases he with rfl | rfl | rfl <;> (unfold Ev.good; decide)
theorem tally_store (v : Nat → Int) (W : World) (zs : Array Value) (hz : zs.size = 25) : (storeCells ⟨W.heap.size, 0, none⟩ (nv 25 v).toList).run Try.prog (W.alloc (.cells zs 71)) = .ok () (W.alloc (.cells (nv 25 v) 71)) :=
  run_storeCells_new W 71 zs (nv 25 v) (by rw [nv_size]; kernel_rfl) (by rw [hz, nv_size]) (nv_one 25 v)
theorem awS_range (i : Nat) : 0 ≤ awS i ∧ awS i ≤ 72057594037927936 := by
  have := sumE_range [ev1, ev2, ev3] (by
    intro e he
    simp at he
    rcases he with rfl | rfl | rfl <;> (unfold Ev.good; decide)) i
  unfold awS
  simp at this
  omega
set_option maxHeartbeats 1000000 in
set_option maxRecDepth 100000 in
theorem awake_any (w : World) : Calls Try.prog 20 #[] w fun e w' => e = .returned (.bool true) ∧ Below w.heap.size w w' := by
  have hof := fun W => aw_of W
  simp only [ev1, ev2, ev3, Ev.cells, Ev.keep, List.cons_append, List.nil_append] at hof
  have hst := fun W zs hz => tally_store awS W zs hz
  have hva := fun W => VAt.new (T := 71) (n := 25) W awS
  have hbz := fun W => tBz_any awS W
  have htt := fun W => tTotal_any awS W awS_range
  have hte := fun W => tErrors_any awS W awS_range
  rw [show sumV awS 0 9 = 2 by decide +kernel] at htt
  rw [show sumV awS 9 12 = 0 by decide +kernel] at hte
  rw [show bz awS = [1, 4] by decide +kernel] at hbz
  have hsz := nv_size 25 awS
  have hrg := fun W b (h : VAt 71 25 W b awS) => h.range
  have hL : (Try.prog.info? 71).map (·.size) = some (nv 25 awS).toList.length := by rw [nv_len]; exact tally_size
  have v0 : awS 21 = 3 := by decide +kernel
  have v1 : awS 22 = 1 := by decide +kernel
  have v2 : awS 23 = 1 := by decide +kernel
  have v3 : awS 24 = 0 := by decide +kernel
  have hcl : ∀ W b, VAt 71 25 W b awS → W.cell? ⟨b, 21, none⟩ = some (.int .i64 3) ∧ W.cell? ⟨b, 22, none⟩ = some (.int .i64 1) ∧ W.cell? ⟨b, 23, none⟩ = some (.int .i64 1) ∧ W.cell? ⟨b, 24, none⟩ = some (.int .i64 0) := fun W b h => by
    have h0 := h.cell (i := 21) (by omega)
    have h1 := h.cell (i := 22) (by omega)
    have h2 := h.cell (i := 23) (by omega)
    have h3 := h.cell (i := 24) (by omega)
    rw [v0] at h0
    rw [v1] at h1
    rw [v2] at h2
    rw [v3] at h3
    exact ⟨h0, h1, h2, h3⟩
  clear v0 v1 v2 v3
  generalize nv 25 awS = cs at hof hst hbz htt hte hsz hva hrg hL
  have HRG := Lib.hid hrg
  have HL := Lib.hid hL
  have HC := Lib.hid hcl
  clear hrg hL hcl
  have HO := Lib.hid hof
  have HB := Lib.hid hbz
  have HT := Lib.hid htt
  have HE := Lib.hid hte
  have HV := Lib.hid hva
  clear hof hbz htt hte hva
  go_enter Try.func20, Try.ntmps20
  go_wp2_with (first | (go_at_call 24; (with_reducible refine (HO.out _).mono ?_); rintro e w1 ⟨rfl, hb1⟩; have HV1 := Lib.hid (HV.out w1)) | (refine wpList_load_w (by rfl) 71 (Operand.tmp 1) rfl w1.heap.size 0 rfl cs.toList _ (HRG.out _ _ HV1.out) Try.underlying71 rfl HL.out ?_) | (go_at_call 28; (with_reducible refine (HB.out _).mono ?_); rintro e w2 ⟨u, rfl, ho2, hb2⟩; obtain ⟨A2, cap2, rfl⟩ := ho2.slice; have hv2 := HV1.out.below hb2; obtain ⟨c0, c1, c2, c3⟩ := HC.out _ _ hv2; have HV2 := Lib.hid hv2; clear hv2; have HO2 := Lib.hid ho2; clear ho2) | (refine wpList_load_w (by rfl) 71 (Operand.tmp 1) rfl w1.heap.size 0 rfl cs.toList _ (HRG.out _ _ HV2.out) Try.underlying71 rfl HL.out ?_) | (go_at_call 25; (with_reducible refine (HT.out _).mono ?_); rintro e w3 ⟨rfl, hb3⟩; have HV3 := Lib.hid (HV2.out.below hb3)) | (refine wpList_load_w (by rfl) 71 (Operand.tmp 1) rfl w1.heap.size 0 rfl cs.toList _ (HRG.out _ _ HV3.out) Try.underlying71 rfl HL.out ?_) | (go_at_call 26; (with_reducible refine (HE.out _).mono ?_); rintro e w4 ⟨rfl, hb4⟩; have ho4 := (HO2.out.below hb3).below hb4; obtain ⟨g, rfl, _, _, _, q0⟩ := ho4.row intC_len (j := 0) (p := 1) rfl; obtain ⟨g', e', _, _, _, q1⟩ := ho4.row intC_len (j := 1) (p := 4) rfl; cases e'; have r0 : w4.cell? ⟨g, 0, none⟩ = some (.int .i64 1) := q0 0 _ rfl; have r1 : w4.cell? ⟨g, 1, none⟩ = some (.int .i64 4) := q1 0 _ rfl; clear q0 q1 ho4))
  go_ret
  have hb := below_next (Below.alloc (Below.refl w.heap.size w) (Nat.le_refl _) _) hb1
  exact ⟨rfl, below_next (below_next (below_next (below_alloc hb) hb2) hb3) hb4⟩
end Go.Proofs.Ytdfgdnaejnngoaa
