import Derived.Test.YtdfgdnaejnngoaaGreatJc11
import Derived.Test.YtdfgdnaejnngoaaGreatRows
import Derived.Test.YtdfgdnaejnngoaaGreatJc1
import Derived.WalkKit
import Derived.ProofKit
import Derived.OpenShut
import Derived.ShutString
import Derived.ChangeOld
import Derived.Below
import Derived.Deep.Slices
import Derived.Deep.Fields
import Derived.ChangeSame
import Derived.Test.YtdfgdnaejnngoaaGreatJc8
set_option linter.unusedVariables false
set_option linter.unusedSimpArgs false
namespace Go.Proofs.YtdfgdnaejnngoaaGreat
open Go.RowKit
/-! What of nil is answered; grangerlaw26.ModelNil. -/
set_option maxHeartbeats 1000000 in
set_option maxRecDepth 100000 in
theorem do_nil (o : Ord) (w : World) : Calls Tryz.prog 12 #[.pointer none, o.v] w fun e w' => e = .returned (ansV 2 false ⟨#[]⟩ (.slice none 0 0) 0 0) ∧ Below w.heap.size w w' := by
  rw [Ord.v_def]
  obtain ⟨kind, key, val, n, lo, hi⟩ := o
  dsimp only
  have HMS := Lib.hid ans_size
  go_enter Tryz.func12, Tryz.ntmps12
  go_wp2_with (refine wpList_store_row rfl 35 (Operand.tmp 4) (Operand.tmp 10) rfl (w.heap.size + 1) _ (ansC 2 false ⟨#[]⟩ (.slice none 0 0) 0 0) _ rfl rfl (heap_new_at (by simp)) rfl HMS.out (ans_all _ _ _ _ _ _ _ _) ?_; intro w2 hr2 hf2; have HR2 := Lib.hid hr2; have HF2 := Lib.hid hf2; clear hr2 hf2)
  have hb := below_alloc (o := .cells #[.int .i64 0, .bool false, .string ⟨#[]⟩, .slice none 0 0, .int .i64 0, .int .i64 0, .int .i64 0, .int .i64 0, .int .i64 0, .int .i64 0, .int .i64 0, .int .i64 0, .int .i64 0] 35) (below_alloc (o := .cells #[.int .i64 kind, .string key, .string val, .int .u64 n, .string lo, .string hi] 39) (Below.refl _ w))
  refine bodyPost_ret (v := ansV 2 false ⟨#[]⟩ (.slice none 0 0) 0 0) (results_cell (a := 4) (t := 35) (ad := ⟨w.heap.size + 1, 0, none⟩) Tryz.results12 rfl (load_row _ HR2.out _ Tryz.underlying35 rfl HMS.out)) rfl ⟨rfl, hb.trans (HF2.out.to_below hb.size (fun i hi e => by omega))⟩
set_option maxRecDepth 100000 in
theorem see_nil (o : Ord) (a : An) (A : Option Addr) (c : Nat) (w : World) : Calls Tryz.prog 34 #[.pointer none, o.v, a.v A c] w fun e w' => e = .returned (.bool false) ∧ Below w.heap.size w w' := by
  rw [Ord.v_def, An.v_def]
  go_enter Tryz.func34, Tryz.ntmps34
  go_wp2
  go_ret
  exact ⟨rfl, (by repeat (first | assumption | exact Below.refl _ _ | (refine below_step (w := ?_) ?_ ?_ ?_; rotate_left 2; assumption) | refine Below.drew ?_ | refine below_drewN ?_ _ | refine Below.alloc ?_ ?_ _ | refine Below.setCell ?_ ?_ _ | (focus (simp; done)) | (focus (simp; omega)) | omega))⟩
set_option maxRecDepth 100000 in
theorem lost_nil (w : World) : Calls Tryz.prog 14 #[.pointer none, .slice none 0 0] w fun e w' => e = .returned (.bool false) ∧ Below w.heap.size w w' := by
  have hlf : ∀ W, Calls Tryz.prog 52 #[.slice none 0 0] W (OfRes W []) := fun W => leafOf_any none 0 [] W (by intro i r hr; simp at hr) (by simp)
  have HLF := Lib.hid hlf
  clear hlf
  go_enter Tryz.func14, Tryz.ntmps14
  go_wp2_with (go_at_call 52; (with_reducible refine (HLF.out _).mono ?_); rintro e w2 ⟨hb2, h2⟩; rcases h2 with ⟨h2, _⟩ | ⟨_, b2, A2, k2, rfl, hla2, hle2⟩; exact absurd rfl h2; have HB2 := Lib.hid hb2; clear hb2 hla2 hle2)
  go_ret
  exact ⟨rfl, HB2.out⟩
set_option maxHeartbeats 8000000 in
set_option maxRecDepth 100000 in
theorem nil_any (p : Pl) (o : Ord) (w : World) : Calls Tryz.prog 9 #[p.v, o.v] w fun e w' => e = .returned (.bool true) ∧ Below w.heap.size w w' := by
  have haw := fun W => awake26_any W
  have hlo := fun W => long_any o W
  obtain ⟨lb, hlb⟩ : ∃ lb, longB o = lb := ⟨_, rfl⟩
  rw [hlb] at hlo
  have hdn : ∀ W, Calls Tryz.prog 12 #[.pointer none, o.v] W fun e w' => e = .returned (.agg #[.int .i64 2, .bool false, .string ⟨#[]⟩, .slice none 0 0, .int .i64 0, .int .i64 0, .int .i64 0, .int .i64 0, .int .i64 0, .int .i64 0, .int .i64 0, .int .i64 0, .int .i64 0]) ∧ Below W.heap.size W w' := fun W => do_nil o W
  have hsn := fun W => see_nil o (⟨0, false, ⟨#[]⟩, [], ⟨0, 0, 0, 0, 0, 0, 0, 0, 0⟩⟩ : An) none 0 W
  have hln := fun W => lost_nil W
  have hin := fun W => mitems_nil W
  have hwn := fun W => mweight_nil W
  have hat := fun W => late_nil W
  have hsm := fun W => orderSame_any (⟨2, false, ⟨#[]⟩, [], ⟨0, 0, 0, 0, 0, 0, 0, 0, 0⟩⟩ : An) (⟨2, false, ⟨#[]⟩, [], ⟨0, 0, 0, 0, 0, 0, 0, 0, 0⟩⟩ : An) none none 0 0 W (by intro i r hr; simp at hr) (by intro i r hr; simp at hr) (by decide) (by decide)
  rw [An.v_def] at hsn hsm
  simp only [decide_true] at hsm
  dsimp only [List.length_nil] at hsn hsm
  have hgu : Tryz.prog.eqGuardType Tryz.prog.depth 26 = false := by kernel_rfl
  rw [Ord.v_def] at hlo hdn hsn ⊢
  rw [Pl.v_def]
  have hbad := fun (h : okPlan p = false) W => new_bad p W h
  have hgood : okPlan p = true → p = planP p.a0 ∧ 64 ≤ p.a0 ∧ p.a0 ≤ 512 := fun h => by
    unfold okPlan at h
    simp at h
    exact ⟨h.2.2.symm, h.1, h.2.1⟩
  have hcb := fun (h : p.a0 < 64 ∨ 512 < p.a0) W => capaOf_bad p.a0 W h
  simp only [plan0] at hcb
  have hco := fun (h1 : ¬ p.a0 < 64) (h2 : ¬ 512 < p.a0) W => capaOf_ok p.a0 W h1 h2
  simp only [planA_def] at hco
  have hnok := fun (h1 : 64 ≤ p.a0) (h2 : p.a0 ≤ 512) W => new_ok p.a0 W h1 h2
  have heqT : p = planP p.a0 → ∀ W, (binOp .eql 26 p.v (planP p.a0).v).run Tryz.prog W = .ok (.bool true) W := fun h W => by
    rw [eql_plan, decide_eq_true h]
  have heqF : ¬ p = planP p.a0 → ∀ W, (binOp .eql 26 p.v (planP p.a0).v).run Tryz.prog W = .ok (.bool false) W := fun h W => by
    rw [eql_plan, decide_eq_false h]
  have hne : okPlan p = false → ¬ (p.a0 < 64 ∨ 512 < p.a0) → ¬ p = planP p.a0 := fun h h2 e => by
    unfold okPlan at h
    rw [decide_eq_true e.symm, decide_eq_true (show 64 ≤ p.a0 by omega), decide_eq_true (show p.a0 ≤ 512 by omega)] at h
    cases h
  simp only [Pl.v_def] at heqT heqF hbad
  obtain ⟨ok, hok⟩ : ∃ ok, okPlan p = ok := ⟨_, rfl⟩
  rw [hok] at hbad hgood hne
  obtain ⟨x0, x1, x2, x3, x4, x5, x6⟩ := p
  obtain ⟨kind, key, val, n, lo, hi⟩ := o
  simp only [planP, planA_def] at heqT heqF hgood hne hco hnok hcb
  dsimp only at hbad hlo hdn hsn heqT heqF hgood hne hco hnok hcb ⊢
  have HAW := Lib.hid haw
  have HLO := Lib.hid hlo
  have HDN := Lib.hid hdn
  have HSN := Lib.hid hsn
  have HLN := Lib.hid hln
  have HIN := Lib.hid hin
  have HWN := Lib.hid hwn
  have HAT := Lib.hid hat
  have HSM := Lib.hid hsm
  have HBAD := Lib.hid hbad
  have HGOOD := Lib.hid hgood
  have HCB := Lib.hid hcb
  have HCO := Lib.hid hco
  have HNOK := Lib.hid hnok
  have HEQT := Lib.hid heqT
  have HEQF := Lib.hid heqF
  have HNE := Lib.hid hne
  have HPB : Hid (∀ W, Below ((w.alloc (.cells #[.int .i64 x0, .int .i64 x1, .int .i64 x2, .int .i64 x3, .int .i64 x4, .int .i64 x5, .int .i64 x6] 26)).alloc (.cells #[.int .i64 kind, .string key, .string val, .int .u64 n, .string lo, .string hi] 39)).heap.size ((w.alloc (.cells #[.int .i64 x0, .int .i64 x1, .int .i64 x2, .int .i64 x3, .int .i64 x4, .int .i64 x5, .int .i64 x6] 26)).alloc (.cells #[.int .i64 kind, .string key, .string val, .int .u64 n, .string lo, .string hi] 39)) W → W.heap[w.heap.size]? = some (.cells #[.int .i64 x0, .int .i64 x1, .int .i64 x2, .int .i64 x3, .int .i64 x4, .int .i64 x5, .int .i64 x6] 26 (0, 0))) := Lib.hid (fun W hW => box_below (((Fr.refl (fun _ => False) _).alloc _).row id (heap_alloc_new w _)) hW)
  have HOB : Hid (∀ W, Below ((w.alloc (.cells #[.int .i64 x0, .int .i64 x1, .int .i64 x2, .int .i64 x3, .int .i64 x4, .int .i64 x5, .int .i64 x6] 26)).alloc (.cells #[.int .i64 kind, .string key, .string val, .int .u64 n, .string lo, .string hi] 39)).heap.size ((w.alloc (.cells #[.int .i64 x0, .int .i64 x1, .int .i64 x2, .int .i64 x3, .int .i64 x4, .int .i64 x5, .int .i64 x6] 26)).alloc (.cells #[.int .i64 kind, .string key, .string val, .int .u64 n, .string lo, .string hi] 39)) W → W.heap[w.heap.size + 1]? = some (.cells #[.int .i64 kind, .string key, .string val, .int .u64 n, .string lo, .string hi] 39 (0, 0))) := Lib.hid (fun W hW => box_below (heap_new_at (by simp)) hW)
  have HW0 := Lib.hid (below_alloc (o := .cells #[.int .i64 kind, .string key, .string val, .int .u64 n, .string lo, .string hi] 39) (below_alloc (o := .cells #[.int .i64 x0, .int .i64 x1, .int .i64 x2, .int .i64 x3, .int .i64 x4, .int .i64 x5, .int .i64 x6] 26) (Below.refl _ w)))
  clear haw hlb hlo hdn hsn hln hin hwn hat hsm hbad hgood hcb hco hnok heqT heqF hne hok
  cases lb with
  | true =>
    go_enter Tryz.func9, Tryz.ntmps9
    go_wp2_with (first
      | (go_at_call 10; (with_reducible refine (HAW.out _).mono ?_); rintro e w1 ⟨rfl, hb1⟩; have HB1 := Lib.hid hb1; obtain ⟨d0, d1, d2, d3, d4, d5⟩ : w1.cell? ⟨w.heap.size + 1, 0, none⟩ = some (.int .i64 kind) ∧ w1.cell? ⟨w.heap.size + 1, 1, none⟩ = some (.string key) ∧ w1.cell? ⟨w.heap.size + 1, 2, none⟩ = some (.string val) ∧ w1.cell? ⟨w.heap.size + 1, 3, none⟩ = some (.int .u64 n) ∧ w1.cell? ⟨w.heap.size + 1, 4, none⟩ = some (.string lo) ∧ w1.cell? ⟨w.heap.size + 1, 5, none⟩ = some (.string hi) := (by have hh := HOB.out _ HB1.out; refine ⟨?_, ?_, ?_, ?_, ?_, ?_⟩ <;> (rw [Lib.cell_of_heap hh]; rfl)); have dl1 := lt_of_row (HOB.out _ HB1.out); clear hb1)
      | (go_at_call 16; (with_reducible refine (HLO.out _).mono ?_); rintro e w2 ⟨rfl, hb2⟩; have HB2 := Lib.hid (below_next HB1.out hb2); clear hb2))
    go_ret
    exact ⟨rfl, below_next HW0.out HB2.out⟩
  | false =>
    by_cases hr : x0 < 64 ∨ 512 < x0
    · have hokf : ok = false := by
        cases ok with
        | false => rfl
        | true => have := HGOOD.out rfl; omega
      have hnew := HBAD.out hokf
      have hcap := HCB.out hr
      have HNEW := Lib.hid hnew
      have HCAP := Lib.hid hcap
      clear hnew hcap hokf hr HNOK HEQT HEQF HCO
      go_enter Tryz.func9, Tryz.ntmps9
      go_wp2_with (first
        | (go_at_call 10; (with_reducible refine (HAW.out _).mono ?_); rintro e w1 ⟨rfl, hb1⟩; have HB1 := Lib.hid hb1; obtain ⟨d0, d1, d2, d3, d4, d5⟩ : w1.cell? ⟨w.heap.size + 1, 0, none⟩ = some (.int .i64 kind) ∧ w1.cell? ⟨w.heap.size + 1, 1, none⟩ = some (.string key) ∧ w1.cell? ⟨w.heap.size + 1, 2, none⟩ = some (.string val) ∧ w1.cell? ⟨w.heap.size + 1, 3, none⟩ = some (.int .u64 n) ∧ w1.cell? ⟨w.heap.size + 1, 4, none⟩ = some (.string lo) ∧ w1.cell? ⟨w.heap.size + 1, 5, none⟩ = some (.string hi) := (by have hh := HOB.out _ HB1.out; refine ⟨?_, ?_, ?_, ?_, ?_, ?_⟩ <;> (rw [Lib.cell_of_heap hh]; rfl)); have dl1 := lt_of_row (HOB.out _ HB1.out); clear hb1)
        | (go_at_call 16; (with_reducible refine (HLO.out _).mono ?_); rintro e w2 ⟨rfl, hb2⟩; have HB2 := Lib.hid (below_next HB1.out hb2); obtain ⟨p0, p1, p2, p3, p4, p5, p6⟩ : w2.cell? ⟨w.heap.size, 0, none⟩ = some (.int .i64 x0) ∧ w2.cell? ⟨w.heap.size, 1, none⟩ = some (.int .i64 x1) ∧ w2.cell? ⟨w.heap.size, 2, none⟩ = some (.int .i64 x2) ∧ w2.cell? ⟨w.heap.size, 3, none⟩ = some (.int .i64 x3) ∧ w2.cell? ⟨w.heap.size, 4, none⟩ = some (.int .i64 x4) ∧ w2.cell? ⟨w.heap.size, 5, none⟩ = some (.int .i64 x5) ∧ w2.cell? ⟨w.heap.size, 6, none⟩ = some (.int .i64 x6) := (by have hh := HPB.out _ HB2.out; refine ⟨?_, ?_, ?_, ?_, ?_, ?_, ?_⟩ <;> (rw [Lib.cell_of_heap hh]; rfl)); have pl2 := lt_of_row (HPB.out _ HB2.out); clear hb2)
        | (go_at_call 12; (with_reducible refine (HDN.out _).mono ?_); rintro e w5 ⟨rfl, hb5⟩; have HB5 := Lib.hid (below_next HB4.out hb5); clear hb5)
        | (go_at_call 35; (with_reducible refine (HSM.out _).mono ?_); rintro e w6 ⟨rfl, hb6⟩; have HB6 := Lib.hid (below_next HB5.out hb6); obtain ⟨f0, f1, f2, f3, f4, f5⟩ : w6.cell? ⟨w.heap.size + 1, 0, none⟩ = some (.int .i64 kind) ∧ w6.cell? ⟨w.heap.size + 1, 1, none⟩ = some (.string key) ∧ w6.cell? ⟨w.heap.size + 1, 2, none⟩ = some (.string val) ∧ w6.cell? ⟨w.heap.size + 1, 3, none⟩ = some (.int .u64 n) ∧ w6.cell? ⟨w.heap.size + 1, 4, none⟩ = some (.string lo) ∧ w6.cell? ⟨w.heap.size + 1, 5, none⟩ = some (.string hi) := (by have hh := HOB.out _ HB6.out; refine ⟨?_, ?_, ?_, ?_, ?_, ?_⟩ <;> (rw [Lib.cell_of_heap hh]; rfl)); have dl6 := lt_of_row (HOB.out _ HB6.out); clear hb6)
        | (go_at_call 34; (with_reducible refine (HSN.out _).mono ?_); rintro e w7 ⟨rfl, hb7⟩; have HB7 := Lib.hid (below_next HB6.out hb7); clear hb7)
        | (go_at_call 14; (with_reducible refine (HLN.out _).mono ?_); rintro e w8 ⟨rfl, hb8⟩; have HB8 := Lib.hid (below_next HB7.out hb8); clear hb8)
        | (go_at_call 15; (with_reducible refine (HIN.out _).mono ?_); rintro e w9 ⟨rfl, hb9⟩; have HB9 := Lib.hid (below_next HB8.out hb9); clear hb9)
        | (go_at_call 17; (with_reducible refine (HWN.out _).mono ?_); rintro e w10 ⟨rfl, hb10⟩; have HB10 := Lib.hid (below_next HB9.out hb10); clear hb10)
        | (go_at_call 13; (with_reducible refine (HAT.out _).mono ?_); rintro e w11 ⟨rfl, hb11⟩; have HB11 := Lib.hid (below_next HB10.out hb11); clear hb11)
        | (go_at_call 21; (with_reducible refine (HCAP.out _).mono ?_); rintro e w3 ⟨rfl, hb3⟩; have HB3 := Lib.hid (below_next HB2.out hb3); obtain ⟨q0, q1, q2, q3, q4, q5, q6⟩ : w3.cell? ⟨w.heap.size, 0, none⟩ = some (.int .i64 x0) ∧ w3.cell? ⟨w.heap.size, 1, none⟩ = some (.int .i64 x1) ∧ w3.cell? ⟨w.heap.size, 2, none⟩ = some (.int .i64 x2) ∧ w3.cell? ⟨w.heap.size, 3, none⟩ = some (.int .i64 x3) ∧ w3.cell? ⟨w.heap.size, 4, none⟩ = some (.int .i64 x4) ∧ w3.cell? ⟨w.heap.size, 5, none⟩ = some (.int .i64 x5) ∧ w3.cell? ⟨w.heap.size, 6, none⟩ = some (.int .i64 x6) := (by have hh := HPB.out _ HB3.out; refine ⟨?_, ?_, ?_, ?_, ?_, ?_, ?_⟩ <;> (rw [Lib.cell_of_heap hh]; rfl)); have pl3 := lt_of_row (HPB.out _ HB3.out); clear hb3)
        | (go_at_call 42; (with_reducible refine (HNEW.out _).mono ?_); rintro e w4 ⟨rfl, hb4⟩; have HB4 := Lib.hid (below_next (below_alloc HB3.out) hb4); obtain ⟨r0, r1, r2, r3, r4, r5, r6⟩ : w4.cell? ⟨w.heap.size, 0, none⟩ = some (.int .i64 x0) ∧ w4.cell? ⟨w.heap.size, 1, none⟩ = some (.int .i64 x1) ∧ w4.cell? ⟨w.heap.size, 2, none⟩ = some (.int .i64 x2) ∧ w4.cell? ⟨w.heap.size, 3, none⟩ = some (.int .i64 x3) ∧ w4.cell? ⟨w.heap.size, 4, none⟩ = some (.int .i64 x4) ∧ w4.cell? ⟨w.heap.size, 5, none⟩ = some (.int .i64 x5) ∧ w4.cell? ⟨w.heap.size, 6, none⟩ = some (.int .i64 x6) := (by have hh := HPB.out _ HB4.out; refine ⟨?_, ?_, ?_, ?_, ?_, ?_, ?_⟩ <;> (rw [Lib.cell_of_heap hh]; rfl)); obtain ⟨e0, e1, e2, e3, e4, e5⟩ : w4.cell? ⟨w.heap.size + 1, 0, none⟩ = some (.int .i64 kind) ∧ w4.cell? ⟨w.heap.size + 1, 1, none⟩ = some (.string key) ∧ w4.cell? ⟨w.heap.size + 1, 2, none⟩ = some (.string val) ∧ w4.cell? ⟨w.heap.size + 1, 3, none⟩ = some (.int .u64 n) ∧ w4.cell? ⟨w.heap.size + 1, 4, none⟩ = some (.string lo) ∧ w4.cell? ⟨w.heap.size + 1, 5, none⟩ = some (.string hi) := (by have hh := HOB.out _ HB4.out; refine ⟨?_, ?_, ?_, ?_, ?_, ?_⟩ <;> (rw [Lib.cell_of_heap hh]; rfl)); have dl4 := lt_of_row (HOB.out _ HB4.out); have pl4 := lt_of_row (HPB.out _ HB4.out); clear hb4))
      go_ret
      exact ⟨rfl, below_next HW0.out HB11.out⟩
    · have h1 : ¬ x0 < 64 := fun h => hr (.inl h)
      have h2 : ¬ 512 < x0 := fun h => hr (.inr h)
      have hcap := HCO.out h1 h2
      have HCAP := Lib.hid hcap
      cases ok with
      | true =>
        have hnew := HNOK.out (by omega) (by omega)
        obtain ⟨hpp, _, _⟩ := HGOOD.out rfl
        have heq := HEQT.out hpp
        simp only [Pl.mk.injEq] at hpp
        obtain ⟨_, q1, q2, q3, q4, q5, q6⟩ := hpp
        rw [← q2, ← q1, ← q3, ← q4, ← q5, ← q6] at hnew hcap heq
        have HNEW := Lib.hid hnew
        have HCAP := Lib.hid hcap
        have HEQ2 := Lib.hid heq
        clear hnew hcap hr h1 h2 q1 q2 q3 q4 q5 q6 HEQT HEQF HNE heq
        go_enter Tryz.func9, Tryz.ntmps9
        go_wp2_with (first
        | (go_at_call 10; (with_reducible refine (HAW.out _).mono ?_); rintro e w1 ⟨rfl, hb1⟩; have HB1 := Lib.hid hb1; obtain ⟨d0, d1, d2, d3, d4, d5⟩ : w1.cell? ⟨w.heap.size + 1, 0, none⟩ = some (.int .i64 kind) ∧ w1.cell? ⟨w.heap.size + 1, 1, none⟩ = some (.string key) ∧ w1.cell? ⟨w.heap.size + 1, 2, none⟩ = some (.string val) ∧ w1.cell? ⟨w.heap.size + 1, 3, none⟩ = some (.int .u64 n) ∧ w1.cell? ⟨w.heap.size + 1, 4, none⟩ = some (.string lo) ∧ w1.cell? ⟨w.heap.size + 1, 5, none⟩ = some (.string hi) := (by have hh := HOB.out _ HB1.out; refine ⟨?_, ?_, ?_, ?_, ?_, ?_⟩ <;> (rw [Lib.cell_of_heap hh]; rfl)); have dl1 := lt_of_row (HOB.out _ HB1.out); clear hb1)
        | (go_at_call 16; (with_reducible refine (HLO.out _).mono ?_); rintro e w2 ⟨rfl, hb2⟩; have HB2 := Lib.hid (below_next HB1.out hb2); obtain ⟨p0, p1, p2, p3, p4, p5, p6⟩ : w2.cell? ⟨w.heap.size, 0, none⟩ = some (.int .i64 x0) ∧ w2.cell? ⟨w.heap.size, 1, none⟩ = some (.int .i64 x1) ∧ w2.cell? ⟨w.heap.size, 2, none⟩ = some (.int .i64 x2) ∧ w2.cell? ⟨w.heap.size, 3, none⟩ = some (.int .i64 x3) ∧ w2.cell? ⟨w.heap.size, 4, none⟩ = some (.int .i64 x4) ∧ w2.cell? ⟨w.heap.size, 5, none⟩ = some (.int .i64 x5) ∧ w2.cell? ⟨w.heap.size, 6, none⟩ = some (.int .i64 x6) := (by have hh := HPB.out _ HB2.out; refine ⟨?_, ?_, ?_, ?_, ?_, ?_, ?_⟩ <;> (rw [Lib.cell_of_heap hh]; rfl)); have pl2 := lt_of_row (HPB.out _ HB2.out); clear hb2)
        | (go_at_call 12; (with_reducible refine (HDN.out _).mono ?_); rintro e w5 ⟨rfl, hb5⟩; have HB5 := Lib.hid (below_next HB4.out hb5); clear hb5)
        | (go_at_call 35; (with_reducible refine (HSM.out _).mono ?_); rintro e w6 ⟨rfl, hb6⟩; have HB6 := Lib.hid (below_next HB5.out hb6); obtain ⟨f0, f1, f2, f3, f4, f5⟩ : w6.cell? ⟨w.heap.size + 1, 0, none⟩ = some (.int .i64 kind) ∧ w6.cell? ⟨w.heap.size + 1, 1, none⟩ = some (.string key) ∧ w6.cell? ⟨w.heap.size + 1, 2, none⟩ = some (.string val) ∧ w6.cell? ⟨w.heap.size + 1, 3, none⟩ = some (.int .u64 n) ∧ w6.cell? ⟨w.heap.size + 1, 4, none⟩ = some (.string lo) ∧ w6.cell? ⟨w.heap.size + 1, 5, none⟩ = some (.string hi) := (by have hh := HOB.out _ HB6.out; refine ⟨?_, ?_, ?_, ?_, ?_, ?_⟩ <;> (rw [Lib.cell_of_heap hh]; rfl)); have dl6 := lt_of_row (HOB.out _ HB6.out); clear hb6)
        | (go_at_call 34; (with_reducible refine (HSN.out _).mono ?_); rintro e w7 ⟨rfl, hb7⟩; have HB7 := Lib.hid (below_next HB6.out hb7); clear hb7)
        | (go_at_call 14; (with_reducible refine (HLN.out _).mono ?_); rintro e w8 ⟨rfl, hb8⟩; have HB8 := Lib.hid (below_next HB7.out hb8); clear hb8)
        | (go_at_call 15; (with_reducible refine (HIN.out _).mono ?_); rintro e w9 ⟨rfl, hb9⟩; have HB9 := Lib.hid (below_next HB8.out hb9); clear hb9)
        | (go_at_call 17; (with_reducible refine (HWN.out _).mono ?_); rintro e w10 ⟨rfl, hb10⟩; have HB10 := Lib.hid (below_next HB9.out hb10); clear hb10)
        | (go_at_call 13; (with_reducible refine (HAT.out _).mono ?_); rintro e w11 ⟨rfl, hb11⟩; have HB11 := Lib.hid (below_next HB10.out hb11); clear hb11)
          | (go_at_call 21; (with_reducible refine (HCAP.out _).mono ?_); rintro e w3 ⟨rfl, hb3⟩; have HB3 := Lib.hid (below_next HB2.out hb3); obtain ⟨q0, q1, q2, q3, q4, q5, q6⟩ : w3.cell? ⟨w.heap.size, 0, none⟩ = some (.int .i64 x0) ∧ w3.cell? ⟨w.heap.size, 1, none⟩ = some (.int .i64 x1) ∧ w3.cell? ⟨w.heap.size, 2, none⟩ = some (.int .i64 x2) ∧ w3.cell? ⟨w.heap.size, 3, none⟩ = some (.int .i64 x3) ∧ w3.cell? ⟨w.heap.size, 4, none⟩ = some (.int .i64 x4) ∧ w3.cell? ⟨w.heap.size, 5, none⟩ = some (.int .i64 x5) ∧ w3.cell? ⟨w.heap.size, 6, none⟩ = some (.int .i64 x6) := (by have hh := HPB.out _ HB3.out; refine ⟨?_, ?_, ?_, ?_, ?_, ?_, ?_⟩ <;> (rw [Lib.cell_of_heap hh]; rfl)); have pl3 := lt_of_row (HPB.out _ HB3.out); clear hb3)
          | (go_at_call 42; (with_reducible refine (HNEW.out _).mono ?_); rintro e w4 ⟨bm, g, rfl, _, _, _, hb4⟩; have HB4 := Lib.hid (below_next (below_alloc HB3.out) hb4); have ql4 := lt_of_row (box_cells hb4); obtain ⟨r0, r1, r2, r3, r4, r5, r6⟩ : w4.cell? ⟨w.heap.size, 0, none⟩ = some (.int .i64 x0) ∧ w4.cell? ⟨w.heap.size, 1, none⟩ = some (.int .i64 x1) ∧ w4.cell? ⟨w.heap.size, 2, none⟩ = some (.int .i64 x2) ∧ w4.cell? ⟨w.heap.size, 3, none⟩ = some (.int .i64 x3) ∧ w4.cell? ⟨w.heap.size, 4, none⟩ = some (.int .i64 x4) ∧ w4.cell? ⟨w.heap.size, 5, none⟩ = some (.int .i64 x5) ∧ w4.cell? ⟨w.heap.size, 6, none⟩ = some (.int .i64 x6) := (by have hh := HPB.out _ HB4.out; refine ⟨?_, ?_, ?_, ?_, ?_, ?_, ?_⟩ <;> (rw [Lib.cell_of_heap hh]; rfl)); obtain ⟨s0, s1, s2, s3, s4, s5, s6⟩ : w4.cell? ⟨w3.heap.size, 0, none⟩ = some (.int .i64 x0) ∧ w4.cell? ⟨w3.heap.size, 1, none⟩ = some (.int .i64 x1) ∧ w4.cell? ⟨w3.heap.size, 2, none⟩ = some (.int .i64 x2) ∧ w4.cell? ⟨w3.heap.size, 3, none⟩ = some (.int .i64 x3) ∧ w4.cell? ⟨w3.heap.size, 4, none⟩ = some (.int .i64 x4) ∧ w4.cell? ⟨w3.heap.size, 5, none⟩ = some (.int .i64 x5) ∧ w4.cell? ⟨w3.heap.size, 6, none⟩ = some (.int .i64 x6) := (by have hh : w4.heap[w3.heap.size]? = some (.cells #[.int .i64 x0, .int .i64 x1, .int .i64 x2, .int .i64 x3, .int .i64 x4, .int .i64 x5, .int .i64 x6] 26 (0, 0)) := box_cells hb4; refine ⟨?_, ?_, ?_, ?_, ?_, ?_, ?_⟩ <;> (rw [Lib.cell_of_heap hh]; rfl)); obtain ⟨e0, e1, e2, e3, e4, e5⟩ : w4.cell? ⟨w.heap.size + 1, 0, none⟩ = some (.int .i64 kind) ∧ w4.cell? ⟨w.heap.size + 1, 1, none⟩ = some (.string key) ∧ w4.cell? ⟨w.heap.size + 1, 2, none⟩ = some (.string val) ∧ w4.cell? ⟨w.heap.size + 1, 3, none⟩ = some (.int .u64 n) ∧ w4.cell? ⟨w.heap.size + 1, 4, none⟩ = some (.string lo) ∧ w4.cell? ⟨w.heap.size + 1, 5, none⟩ = some (.string hi) := (by have hh := HOB.out _ HB4.out; refine ⟨?_, ?_, ?_, ?_, ?_, ?_⟩ <;> (rw [Lib.cell_of_heap hh]; rfl)); have dl4 := lt_of_row (HOB.out _ HB4.out); have pl4 := lt_of_row (HPB.out _ HB4.out); have heq := HEQ2.out; clear hb4))
        go_ret
        exact ⟨rfl, below_next HW0.out HB11.out⟩
      | false =>
        have hnew := HBAD.out rfl
        have heq := HEQF.out (HNE.out rfl hr)
        have HNEW := Lib.hid hnew
        have HEQ2 := Lib.hid heq
        clear hnew hcap hr h1 h2 HEQT HEQF HNE heq
        go_enter Tryz.func9, Tryz.ntmps9
        go_wp2_with (first
        | (go_at_call 10; (with_reducible refine (HAW.out _).mono ?_); rintro e w1 ⟨rfl, hb1⟩; have HB1 := Lib.hid hb1; obtain ⟨d0, d1, d2, d3, d4, d5⟩ : w1.cell? ⟨w.heap.size + 1, 0, none⟩ = some (.int .i64 kind) ∧ w1.cell? ⟨w.heap.size + 1, 1, none⟩ = some (.string key) ∧ w1.cell? ⟨w.heap.size + 1, 2, none⟩ = some (.string val) ∧ w1.cell? ⟨w.heap.size + 1, 3, none⟩ = some (.int .u64 n) ∧ w1.cell? ⟨w.heap.size + 1, 4, none⟩ = some (.string lo) ∧ w1.cell? ⟨w.heap.size + 1, 5, none⟩ = some (.string hi) := (by have hh := HOB.out _ HB1.out; refine ⟨?_, ?_, ?_, ?_, ?_, ?_⟩ <;> (rw [Lib.cell_of_heap hh]; rfl)); have dl1 := lt_of_row (HOB.out _ HB1.out); clear hb1)
        | (go_at_call 16; (with_reducible refine (HLO.out _).mono ?_); rintro e w2 ⟨rfl, hb2⟩; have HB2 := Lib.hid (below_next HB1.out hb2); obtain ⟨p0, p1, p2, p3, p4, p5, p6⟩ : w2.cell? ⟨w.heap.size, 0, none⟩ = some (.int .i64 x0) ∧ w2.cell? ⟨w.heap.size, 1, none⟩ = some (.int .i64 x1) ∧ w2.cell? ⟨w.heap.size, 2, none⟩ = some (.int .i64 x2) ∧ w2.cell? ⟨w.heap.size, 3, none⟩ = some (.int .i64 x3) ∧ w2.cell? ⟨w.heap.size, 4, none⟩ = some (.int .i64 x4) ∧ w2.cell? ⟨w.heap.size, 5, none⟩ = some (.int .i64 x5) ∧ w2.cell? ⟨w.heap.size, 6, none⟩ = some (.int .i64 x6) := (by have hh := HPB.out _ HB2.out; refine ⟨?_, ?_, ?_, ?_, ?_, ?_, ?_⟩ <;> (rw [Lib.cell_of_heap hh]; rfl)); have pl2 := lt_of_row (HPB.out _ HB2.out); clear hb2)
        | (go_at_call 12; (with_reducible refine (HDN.out _).mono ?_); rintro e w5 ⟨rfl, hb5⟩; have HB5 := Lib.hid (below_next HB4.out hb5); clear hb5)
        | (go_at_call 35; (with_reducible refine (HSM.out _).mono ?_); rintro e w6 ⟨rfl, hb6⟩; have HB6 := Lib.hid (below_next HB5.out hb6); obtain ⟨f0, f1, f2, f3, f4, f5⟩ : w6.cell? ⟨w.heap.size + 1, 0, none⟩ = some (.int .i64 kind) ∧ w6.cell? ⟨w.heap.size + 1, 1, none⟩ = some (.string key) ∧ w6.cell? ⟨w.heap.size + 1, 2, none⟩ = some (.string val) ∧ w6.cell? ⟨w.heap.size + 1, 3, none⟩ = some (.int .u64 n) ∧ w6.cell? ⟨w.heap.size + 1, 4, none⟩ = some (.string lo) ∧ w6.cell? ⟨w.heap.size + 1, 5, none⟩ = some (.string hi) := (by have hh := HOB.out _ HB6.out; refine ⟨?_, ?_, ?_, ?_, ?_, ?_⟩ <;> (rw [Lib.cell_of_heap hh]; rfl)); have dl6 := lt_of_row (HOB.out _ HB6.out); clear hb6)
        | (go_at_call 34; (with_reducible refine (HSN.out _).mono ?_); rintro e w7 ⟨rfl, hb7⟩; have HB7 := Lib.hid (below_next HB6.out hb7); clear hb7)
        | (go_at_call 14; (with_reducible refine (HLN.out _).mono ?_); rintro e w8 ⟨rfl, hb8⟩; have HB8 := Lib.hid (below_next HB7.out hb8); clear hb8)
        | (go_at_call 15; (with_reducible refine (HIN.out _).mono ?_); rintro e w9 ⟨rfl, hb9⟩; have HB9 := Lib.hid (below_next HB8.out hb9); clear hb9)
        | (go_at_call 17; (with_reducible refine (HWN.out _).mono ?_); rintro e w10 ⟨rfl, hb10⟩; have HB10 := Lib.hid (below_next HB9.out hb10); clear hb10)
        | (go_at_call 13; (with_reducible refine (HAT.out _).mono ?_); rintro e w11 ⟨rfl, hb11⟩; have HB11 := Lib.hid (below_next HB10.out hb11); clear hb11)
          | (go_at_call 21; (with_reducible refine (HCAP.out _).mono ?_); rintro e w3 ⟨rfl, hb3⟩; have HB3 := Lib.hid (below_next HB2.out hb3); obtain ⟨q0, q1, q2, q3, q4, q5, q6⟩ : w3.cell? ⟨w.heap.size, 0, none⟩ = some (.int .i64 x0) ∧ w3.cell? ⟨w.heap.size, 1, none⟩ = some (.int .i64 x1) ∧ w3.cell? ⟨w.heap.size, 2, none⟩ = some (.int .i64 x2) ∧ w3.cell? ⟨w.heap.size, 3, none⟩ = some (.int .i64 x3) ∧ w3.cell? ⟨w.heap.size, 4, none⟩ = some (.int .i64 x4) ∧ w3.cell? ⟨w.heap.size, 5, none⟩ = some (.int .i64 x5) ∧ w3.cell? ⟨w.heap.size, 6, none⟩ = some (.int .i64 x6) := (by have hh := HPB.out _ HB3.out; refine ⟨?_, ?_, ?_, ?_, ?_, ?_, ?_⟩ <;> (rw [Lib.cell_of_heap hh]; rfl)); have pl3 := lt_of_row (HPB.out _ HB3.out); clear hb3)
          | (go_at_call 42; (with_reducible refine (HNEW.out _).mono ?_); rintro e w4 ⟨rfl, hb4⟩; have HB4 := Lib.hid (below_next (below_alloc HB3.out) hb4); have ql4 := lt_of_row (box_cells hb4); obtain ⟨r0, r1, r2, r3, r4, r5, r6⟩ : w4.cell? ⟨w.heap.size, 0, none⟩ = some (.int .i64 x0) ∧ w4.cell? ⟨w.heap.size, 1, none⟩ = some (.int .i64 x1) ∧ w4.cell? ⟨w.heap.size, 2, none⟩ = some (.int .i64 x2) ∧ w4.cell? ⟨w.heap.size, 3, none⟩ = some (.int .i64 x3) ∧ w4.cell? ⟨w.heap.size, 4, none⟩ = some (.int .i64 x4) ∧ w4.cell? ⟨w.heap.size, 5, none⟩ = some (.int .i64 x5) ∧ w4.cell? ⟨w.heap.size, 6, none⟩ = some (.int .i64 x6) := (by have hh := HPB.out _ HB4.out; refine ⟨?_, ?_, ?_, ?_, ?_, ?_, ?_⟩ <;> (rw [Lib.cell_of_heap hh]; rfl)); obtain ⟨s0, s1, s2, s3, s4, s5, s6⟩ : w4.cell? ⟨w3.heap.size, 0, none⟩ = some (.int .i64 x0) ∧ w4.cell? ⟨w3.heap.size, 1, none⟩ = some (.int .i64 (pLog x0)) ∧ w4.cell? ⟨w3.heap.size, 2, none⟩ = some (.int .i64 (2 + pLog x0)) ∧ w4.cell? ⟨w3.heap.size, 3, none⟩ = some (.int .i64 (pData x0)) ∧ w4.cell? ⟨w3.heap.size, 4, none⟩ = some (.int .i64 (pHalf x0)) ∧ w4.cell? ⟨w3.heap.size, 5, none⟩ = some (.int .i64 (pLeaves x0)) ∧ w4.cell? ⟨w3.heap.size, 6, none⟩ = some (.int .i64 (pCap x0)) := (by have hh : w4.heap[w3.heap.size]? = some (.cells #[.int .i64 x0, .int .i64 (pLog x0), .int .i64 (2 + pLog x0), .int .i64 (pData x0), .int .i64 (pHalf x0), .int .i64 (pLeaves x0), .int .i64 (pCap x0)] 26 (0, 0)) := box_cells hb4; refine ⟨?_, ?_, ?_, ?_, ?_, ?_, ?_⟩ <;> (rw [Lib.cell_of_heap hh]; rfl)); obtain ⟨e0, e1, e2, e3, e4, e5⟩ : w4.cell? ⟨w.heap.size + 1, 0, none⟩ = some (.int .i64 kind) ∧ w4.cell? ⟨w.heap.size + 1, 1, none⟩ = some (.string key) ∧ w4.cell? ⟨w.heap.size + 1, 2, none⟩ = some (.string val) ∧ w4.cell? ⟨w.heap.size + 1, 3, none⟩ = some (.int .u64 n) ∧ w4.cell? ⟨w.heap.size + 1, 4, none⟩ = some (.string lo) ∧ w4.cell? ⟨w.heap.size + 1, 5, none⟩ = some (.string hi) := (by have hh := HOB.out _ HB4.out; refine ⟨?_, ?_, ?_, ?_, ?_, ?_⟩ <;> (rw [Lib.cell_of_heap hh]; rfl)); have dl4 := lt_of_row (HOB.out _ HB4.out); have pl4 := lt_of_row (HPB.out _ HB4.out); have heq := HEQ2.out; clear hb4))
        go_ret
        exact ⟨rfl, below_next HW0.out HB11.out⟩
end Go.Proofs.YtdfgdnaejnngoaaGreat
namespace Go.Proofs.YtdfgdnaejnngoaaGreat
open Go.ChangeShapes Go.WideShapes Go.ChangeAt Go.RowKit Go.Deep
/-! What comes in: rows. -/

theorem own : ownKnob Tryz.prog.godebug = none := by kernel_rfl
theorem laidOut : laidOutB Tryz.prog = true := by kernel_rfl
theorem add_none (b off n : Nat) : (⟨b, off, none⟩ : Addr).add n = ⟨b, off + n, none⟩ := by unfold Addr.add; split <;> simp_all
theorem cell_lt {w : World} {a : Addr} {v : Value} (h : w.cell? a = some v) : a.block < w.heap.size := by
  rcases Nat.lt_or_ge a.block w.heap.size with hl | hl
  · exact hl
  · exfalso
    rw [World.cell?] at h
    simp [Array.getElem?_eq_none hl] at h
theorem list_of {α : Type} {P : Nat → α → Prop} : ∀ n : Nat, (∀ i, i < n → ∃ a, P i a) → ∃ l : List α, l.length = n ∧ ∀ i a, l[i]? = some a → P i a
  | 0, _ => ⟨[], rfl, fun i a h => by simp at h⟩
  | n + 1, h => by
    obtain ⟨l, hl, hp⟩ := list_of n (fun i hi => h i (by omega))
    obtain ⟨a, ha⟩ := h n (by omega)
    refine ⟨l ++ [a], by simp [hl], fun i b hb => ?_⟩
    rcases Nat.lt_or_ge i l.length with hi | hi
    · rw [List.getElem?_append_left hi] at hb
      exact hp i b hb
    · rw [List.getElem?_append_right hi] at hb
      have e : i - l.length = 0 := by
        have := (List.getElem?_eq_some_iff.1 hb).1
        simp at this
        omega
      rw [e] at hb
      simp at hb
      subst hb
      obtain rfl : i = n := by omega
      exact ha
section
variable {H : Type} {enc : TypeId × Value → H} {w : World} {base : Nat} {sp : Nat → Bool} {held : Bool}
set_option maxRecDepth 100000 in
/-- an argument that is a row -/
theorem rows_in {α : Type} {T e : TypeId} {k : Nat} (f : α → List Value) (Q : α → Prop) (hs : Tryz.prog.underlying T = some (.slice e)) (hk : Tryz.prog.cellsOf e = k) (h0 : 0 < k) (hlen : ∀ a, (f a).length = k)
    (hread : ∀ (fuel : Nat) (cs : List Value) (x : DataW H × List MemPlace), DataW.trod enc Tryz.prog w base sp held fuel e cs = some x → ∃ a, cs = f a ∧ Q a)
    {r : Reach} {b0 : Nat} {v : Value} {d : DataW H} {p : List MemPlace} (hv : Value.okWide Tryz.prog w r b0 T v) (h : DataW.Trod enc Tryz.prog w base sp held T v d p) :
    ∃ (A : Option Addr) (cap : Nat) (l : List α), v = .slice A l.length cap ∧ Elems w A k (l.map f) ∧ ∀ a ∈ l, Q a := by
  obtain ⟨A, len, cap, rfl⟩ := okWide_slice hs hv
  obtain ⟨fuel, hf⟩ := h
  rcases open_slice hs hf with ⟨hc, _⟩ | ⟨ad, len', cap', m, n, D, Pl, hc, _, hlc, _, hm, _, hat⟩
  · simp [Value.cells] at hc
    obtain ⟨rfl, rfl, rfl⟩ := hc
    exact ⟨none, 0, [], rfl, Elems.nil _ _ _, by simp⟩
  · simp [Value.cells] at hc
    obtain ⟨rfl, rfl, rfl⟩ := hc
    have hle : len ≤ m := by rw [hm]; split <;> omega
    obtain ⟨l, hl, hp⟩ := list_of (P := fun i (a : α) => (∀ j u, (f a)[j]? = some u → w.cell? (ad.add (i * k + j)) = some u) ∧ Q a) len (fun i hi => by
      obtain ⟨cs, hcs, htr⟩ := hat i (by omega)
      obtain ⟨a, rfl, hq⟩ := hread n cs _ htr
      obtain ⟨_, hcl, hcell⟩ := World.cells?_some hcs
      refine ⟨a, fun j u hu => ?_, hq⟩
      have hj := (List.getElem?_eq_some_iff.1 hu).1
      have := hcell j (by rw [← hcl]; exact hj)
      rw [add_add, hk] at this
      rw [this, hu])
    refine ⟨some ad, cap, l, by rw [hl], ?_, fun a ha => ?_⟩
    · intro i r hr
      rw [List.getElem?_map, Option.map_eq_some_iff] at hr
      obtain ⟨a, ha, rfl⟩ := hr
      have hi := (hp i a ha).1
      have hz := hi 0 _ (List.getElem?_eq_getElem (by rw [hlen]; exact h0))
      have hl0 : 0 < l.length := by have := (List.getElem?_eq_some_iff.1 ha).1; omega
      have hz0 := (hp 0 l[0] (List.getElem?_eq_getElem hl0)).1 0 _ (List.getElem?_eq_getElem (by rw [hlen]; exact h0))
      have hsp : ad.spot = none := by simpa [Addr.add] using World.cell?_spot hz0
      obtain ⟨b, off, spot⟩ := ad
      obtain rfl : spot = none := hsp
      refine ⟨b, off, rfl, ?_, fun j u hu => ?_⟩
      · have := cell_lt hz
        rw [add_none] at this
        exact this
      · have := hi j u hu
        rw [add_none, ← Nat.add_assoc] at this
        exact this
    · obtain ⟨i, hi⟩ := List.getElem?_of_mem ha
      exact (hp i a hi).2
end
end Go.Proofs.YtdfgdnaejnngoaaGreat
namespace Go.Proofs.YtdfgdnaejnngoaaGreat
open Go.ChangeShapes Go.WideShapes Go.ChangeAt Go.RowKit Go.Deep
/-! What comes in: orders. -/
def Ord.fits (o : Ord) : Prop := 0 ≤ o.n ∧ o.n.toNat < 18446744073709551616
theorem list_six {α : Type} {l : List α} (h : l.length = 6) : ∃ a b c d e f, l = [a, b, c, d, e, f] := by
  match l, h with
  | [a, b, c, d, e, f], _ => exact ⟨a, b, c, d, e, f, rfl⟩
theorem fits_of {n : Int} (h : (Lit.int .u64 n).wf = true) : 0 ≤ n ∧ n.toNat < 18446744073709551616 := by
  simp [Lit.wf, IntKind.min, IntKind.max, IntKind.signed, IntKind.bits] at h
  omega
theorem ord_type : ∃ fs : Array Field, Tryz.prog.underlying 39 = some (.struct fs) ∧ oneCellFields Tryz.prog fs = true ∧ fs.size = 6 ∧ fs[0]?.map (·.type) = some 3 ∧ fs[1]?.map (·.type) = some 9 ∧ fs[2]?.map (·.type) = some 9 ∧ fs[3]?.map (·.type) = some 37 ∧ fs[4]?.map (·.type) = some 9 ∧ fs[5]?.map (·.type) = some 9 :=
  ⟨_, Tryz.underlying39, by kernel_rfl, by kernel_rfl, by kernel_rfl, by kernel_rfl, by kernel_rfl, by kernel_rfl, by kernel_rfl, by kernel_rfl⟩
theorem ord_cells_of : Tryz.prog.cellsOf 39 = 6 := by kernel_rfl
section
variable {H : Type} {enc : TypeId × Value → H} {w : World} {base : Nat} {sp : Nat → Bool} {held : Bool}
/-- cells that read as an order are an order's -/
theorem ord_cells {fuel : Nat} {cs : List Value} {x : DataW H × List MemPlace} (h : DataW.trod enc Tryz.prog w base sp held fuel 39 cs = some x) : ∃ o : Ord, cs = o.cells ∧ o.fits := by
  obtain ⟨fs, hs, hone, hsz, t0, t1, t2, t3, t4, t5⟩ := ord_type
  obtain ⟨xs, n, _, _, hl, hx, hf⟩ := DataW.trod_struct hs h
  obtain ⟨c0, c1, c2, c3, c4, c5, rfl⟩ := list_six (hl.trans ord_cells_of)
  obtain ⟨x0, x1, x2, x3, x4, x5, rfl⟩ := list_six (hx.trans hsz)
  obtain ⟨g0, m0, u0⟩ := Option.map_eq_some_iff.1 t0
  obtain ⟨o0, k0⟩ := hone_of hone 0 g0 m0
  have f0 := hf 0 g0 m0
  rw [o0, k0, u0] at f0
  have f0 : DataW.trod enc Tryz.prog w base sp held n 3 [c0] = some x0 := f0
  obtain ⟨g1, m1, u1⟩ := Option.map_eq_some_iff.1 t1
  obtain ⟨o1, k1⟩ := hone_of hone 1 g1 m1
  have f1 := hf 1 g1 m1
  rw [o1, k1, u1] at f1
  have f1 : DataW.trod enc Tryz.prog w base sp held n 9 [c1] = some x1 := f1
  obtain ⟨g2, m2, u2⟩ := Option.map_eq_some_iff.1 t2
  obtain ⟨o2, k2⟩ := hone_of hone 2 g2 m2
  have f2 := hf 2 g2 m2
  rw [o2, k2, u2] at f2
  have f2 : DataW.trod enc Tryz.prog w base sp held n 9 [c2] = some x2 := f2
  obtain ⟨g3, m3, u3⟩ := Option.map_eq_some_iff.1 t3
  obtain ⟨o3, k3⟩ := hone_of hone 3 g3 m3
  have f3 := hf 3 g3 m3
  rw [o3, k3, u3] at f3
  have f3 : DataW.trod enc Tryz.prog w base sp held n 37 [c3] = some x3 := f3
  obtain ⟨g4, m4, u4⟩ := Option.map_eq_some_iff.1 t4
  obtain ⟨o4, k4⟩ := hone_of hone 4 g4 m4
  have f4 := hf 4 g4 m4
  rw [o4, k4, u4] at f4
  have f4 : DataW.trod enc Tryz.prog w base sp held n 9 [c4] = some x4 := f4
  obtain ⟨g5, m5, u5⟩ := Option.map_eq_some_iff.1 t5
  obtain ⟨o5, k5⟩ := hone_of hone 5 g5 m5
  have f5 := hf 5 g5 m5
  rw [o5, k5, u5] at f5
  have f5 : DataW.trod enc Tryz.prog w base sp held n 9 [c5] = some x5 := f5
  obtain ⟨k, h0, _, _⟩ := DataW.trod_int Tryz.underlying3 f0
  obtain ⟨s1, h1, _, _⟩ := DataW.trod_string Tryz.underlying9 f1
  obtain ⟨s2, h2, _, _⟩ := DataW.trod_string Tryz.underlying9 f2
  obtain ⟨n3, h3, _, hw⟩ := DataW.trod_int Tryz.underlying37 f3
  obtain ⟨s4, h4, _, _⟩ := DataW.trod_string Tryz.underlying9 f4
  obtain ⟨s5, h5, _, _⟩ := DataW.trod_string Tryz.underlying9 f5
  simp only [List.cons.injEq, and_true] at h0 h1 h2 h3 h4 h5
  subst h0 h1 h2 h3 h4 h5
  exact ⟨⟨k, s1, s2, n3, s4, s5⟩, by rw [Ord.cells_def], fits_of hw⟩
set_option maxRecDepth 100000 in
/-- an argument that is an order -/
theorem ord_in {r : Reach} {b0 : Nat} {v : Value} {d : DataW H} {p : List MemPlace} (hv : Value.okWide Tryz.prog w r b0 39 v) (h : DataW.Trod enc Tryz.prog w base sp held 39 v d p) : ∃ o : Ord, v = o.v ∧ o.fits := by
  obtain ⟨fs, hs, _⟩ := ord_type
  obtain ⟨cs, rfl, _⟩ := okWide_struct hs hv
  obtain ⟨fuel, hf⟩ := h
  obtain ⟨o, ho, hfit⟩ := ord_cells hf
  refine ⟨o, ?_, hfit⟩
  simp only [Value.cells] at ho
  obtain ⟨l⟩ := cs
  simp only at ho
  rw [ho, Ord.cells_def, Ord.v_def]
set_option maxRecDepth 100000 in
theorem ords_in {r : Reach} {b0 : Nat} {v : Value} {d : DataW H} {p : List MemPlace} (hv : Value.okWide Tryz.prog w r b0 47 v) (h : DataW.Trod enc Tryz.prog w base sp held 47 v d p) :
    ∃ (A : Option Addr) (cap : Nat) (l : List Ord), v = .slice A l.length cap ∧ Elems w A 6 (l.map Ord.cells) ∧ ∀ o ∈ l, o.fits :=
  rows_in Ord.cells Ord.fits Tryz.underlying47 (by kernel_rfl) (by decide) (fun _ => rfl) (fun _ _ _ h => ord_cells h) hv h
end
end Go.Proofs.YtdfgdnaejnngoaaGreat
namespace Go.Proofs.YtdfgdnaejnngoaaGreat
open Go.ChangeShapes Go.WideShapes Go.ChangeAt Go.RowKit Go.Deep
/-! What comes in: plans, bools. -/
section
variable {H : Type} {enc : TypeId × Value → H} {w : World} {base : Nat} {sp : Nat → Bool} {held : Bool}
theorem list_seven {α : Type} {l : List α} (h : l.length = 7) : ∃ a b c d e f g, l = [a, b, c, d, e, f, g] := by
  match l, h with
  | [a, b, c, d, e, f, g], _ => exact ⟨a, b, c, d, e, f, g, rfl⟩
theorem plan_type : ∃ fs : Array Field, Tryz.prog.underlying 26 = some (.struct fs) ∧ oneCellFields Tryz.prog fs = true ∧ fs.size = 7 ∧ fs[0]?.map (·.type) = some 3 ∧ fs[1]?.map (·.type) = some 3 ∧ fs[2]?.map (·.type) = some 3 ∧ fs[3]?.map (·.type) = some 3 ∧ fs[4]?.map (·.type) = some 3 ∧ fs[5]?.map (·.type) = some 3 ∧ fs[6]?.map (·.type) = some 3 :=
  ⟨_, Tryz.underlying26, by kernel_rfl, by kernel_rfl, by kernel_rfl, by kernel_rfl, by kernel_rfl, by kernel_rfl, by kernel_rfl, by kernel_rfl, by kernel_rfl⟩
theorem plan_cells_of : Tryz.prog.cellsOf 26 = 7 := by kernel_rfl
theorem planarg_cells {fuel : Nat} {cs : List Value} {x : DataW H × List MemPlace} (h : DataW.trod enc Tryz.prog w base sp held fuel 26 cs = some x) : ∃ p : Pl, cs = [.int .i64 p.a0, .int .i64 p.a1, .int .i64 p.a2, .int .i64 p.a3, .int .i64 p.a4, .int .i64 p.a5, .int .i64 p.a6] := by
  obtain ⟨fs, hs, hone, hsz, t0, t1, t2, t3, t4, t5, t6⟩ := plan_type
  obtain ⟨xs, n, _, _, hl, hx, hf⟩ := DataW.trod_struct hs h
  obtain ⟨c0, c1, c2, c3, c4, c5, c6, rfl⟩ := list_seven (hl.trans plan_cells_of)
  obtain ⟨x0, x1, x2, x3, x4, x5, x6, rfl⟩ := list_seven (hx.trans hsz)
  obtain ⟨g0, m0, u0⟩ := Option.map_eq_some_iff.1 t0
  obtain ⟨o0, k0⟩ := hone_of hone 0 g0 m0
  have f0 := hf 0 g0 m0
  rw [o0, k0, u0] at f0
  have f0 : DataW.trod enc Tryz.prog w base sp held n 3 [c0] = some x0 := f0
  obtain ⟨i0, h0, _, _⟩ := DataW.trod_int Tryz.underlying3 f0
  simp only [List.cons.injEq, and_true] at h0
  subst h0
  obtain ⟨g1, m1, u1⟩ := Option.map_eq_some_iff.1 t1
  obtain ⟨o1, k1⟩ := hone_of hone 1 g1 m1
  have f1 := hf 1 g1 m1
  rw [o1, k1, u1] at f1
  have f1 : DataW.trod enc Tryz.prog w base sp held n 3 [c1] = some x1 := f1
  obtain ⟨i1, h1, _, _⟩ := DataW.trod_int Tryz.underlying3 f1
  simp only [List.cons.injEq, and_true] at h1
  subst h1
  obtain ⟨g2, m2, u2⟩ := Option.map_eq_some_iff.1 t2
  obtain ⟨o2, k2⟩ := hone_of hone 2 g2 m2
  have f2 := hf 2 g2 m2
  rw [o2, k2, u2] at f2
  have f2 : DataW.trod enc Tryz.prog w base sp held n 3 [c2] = some x2 := f2
  obtain ⟨i2, h2, _, _⟩ := DataW.trod_int Tryz.underlying3 f2
  simp only [List.cons.injEq, and_true] at h2
  subst h2
  obtain ⟨g3, m3, u3⟩ := Option.map_eq_some_iff.1 t3
  obtain ⟨o3, k3⟩ := hone_of hone 3 g3 m3
  have f3 := hf 3 g3 m3
  rw [o3, k3, u3] at f3
  have f3 : DataW.trod enc Tryz.prog w base sp held n 3 [c3] = some x3 := f3
  obtain ⟨i3, h3, _, _⟩ := DataW.trod_int Tryz.underlying3 f3
  simp only [List.cons.injEq, and_true] at h3
  subst h3
  obtain ⟨g4, m4, u4⟩ := Option.map_eq_some_iff.1 t4
  obtain ⟨o4, k4⟩ := hone_of hone 4 g4 m4
  have f4 := hf 4 g4 m4
  rw [o4, k4, u4] at f4
  have f4 : DataW.trod enc Tryz.prog w base sp held n 3 [c4] = some x4 := f4
  obtain ⟨i4, h4, _, _⟩ := DataW.trod_int Tryz.underlying3 f4
  simp only [List.cons.injEq, and_true] at h4
  subst h4
  obtain ⟨g5, m5, u5⟩ := Option.map_eq_some_iff.1 t5
  obtain ⟨o5, k5⟩ := hone_of hone 5 g5 m5
  have f5 := hf 5 g5 m5
  rw [o5, k5, u5] at f5
  have f5 : DataW.trod enc Tryz.prog w base sp held n 3 [c5] = some x5 := f5
  obtain ⟨i5, h5, _, _⟩ := DataW.trod_int Tryz.underlying3 f5
  simp only [List.cons.injEq, and_true] at h5
  subst h5
  obtain ⟨g6, m6, u6⟩ := Option.map_eq_some_iff.1 t6
  obtain ⟨o6, k6⟩ := hone_of hone 6 g6 m6
  have f6 := hf 6 g6 m6
  rw [o6, k6, u6] at f6
  have f6 : DataW.trod enc Tryz.prog w base sp held n 3 [c6] = some x6 := f6
  obtain ⟨i6, h6, _, _⟩ := DataW.trod_int Tryz.underlying3 f6
  simp only [List.cons.injEq, and_true] at h6
  subst h6
  exact ⟨⟨i0, i1, i2, i3, i4, i5, i6⟩, rfl⟩
set_option maxRecDepth 100000 in
/-- an argument that is a plan -/
theorem plan_in {r : Reach} {b0 : Nat} {v : Value} {d : DataW H} {p : List MemPlace} (hv : Value.okWide Tryz.prog w r b0 26 v) (h : DataW.Trod enc Tryz.prog w base sp held 26 v d p) : ∃ o : Pl, v = o.v := by
  obtain ⟨fs, hs, _⟩ := plan_type
  obtain ⟨cs, rfl, _⟩ := okWide_struct hs hv
  obtain ⟨fuel, hf⟩ := h
  obtain ⟨o, ho⟩ := planarg_cells hf
  refine ⟨o, ?_⟩
  simp only [Value.cells] at ho
  obtain ⟨l⟩ := cs
  simp only at ho
  rw [ho, Pl.v_def]
def boolC (b : Bool) : List Value := [.bool b]
set_option maxRecDepth 100000 in
theorem bools_in {r : Reach} {b0 : Nat} {v : Value} {d : DataW H} {p : List MemPlace} (hv : Value.okWide Tryz.prog w r b0 22 v) (h : DataW.Trod enc Tryz.prog w base sp held 22 v d p) :
    ∃ (A : Option Addr) (cap : Nat) (l : List Bool), v = .slice A l.length cap ∧ Elems w A 1 (l.map boolC) ∧ ∀ o ∈ l, True :=
  rows_in boolC (fun _ => True) Tryz.underlying22 (by kernel_rfl) (by decide) (fun _ => rfl) (fun _ _ _ h => by
    obtain ⟨b, hb, _⟩ := DataW.trod_bool Tryz.underlying4 h
    exact ⟨b, hb, trivial⟩) hv h
end
end Go.Proofs.YtdfgdnaejnngoaaGreat
