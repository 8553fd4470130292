import Derived.Test.YtdfgdnaejnngoaaGreatJa10
import Derived.Test.YtdfgdnaejnngoaaGreatRows
import Derived.Test.YtdfgdnaejnngoaaGreatJa1
import Derived.WalkKit
import Derived.ProofKit
import Derived.OpenShut
import Derived.ShutString
import Derived.ChangeOld
import Derived.Below
import Derived.Deep.Slices
import Derived.Deep.Fields
import Derived.ChangeSame
namespace Go.Proofs.YtdfgdnaejnngoaaGreat
open Go.RowKit
/-! grangerref33.Items. -/
def rmsg (o : Ord) : Mg := ⟨o.kind, o.key, if o.kind = 1 then o.val else if o.kind = 3 then valB o.n.toNat else ⟨#[]⟩⟩
theorem rmsg_step (l : List Itm) (o : Ord) : stepI l o = if isMsg (rmsg o) = true then doL l (rmsg o) else l := by
  obtain ⟨kind, key, val, n, lo, hi⟩ := o
  unfold stepI msgO rmsg
  dsimp only
  by_cases h1 : kind = 1
  · subst h1; rfl
  by_cases h2 : kind = 2
  · subst h2; rfl
  by_cases h3 : kind = 3
  · subst h3; rfl
  rw [if_neg h1, if_neg h2, if_neg h3, if_neg h1, if_neg h3]
  dsimp only
  rw [if_neg]
  unfold isMsg
  simp [h1, h2, h3]
set_option maxHeartbeats 4000000 in
set_option maxRecDepth 100000 in
theorem refItems_any (A : Option Addr) (cap : Nat) (os : List Ord) (w : World) (hel : Elems w A 6 (os.map Ord.cells)) (hl : os.length ≤ 1000) (hn : okN os) :
    Calls Tryz.prog 30 #[.slice A os.length cap] w fun e w' => ∃ A' c', e = .returned (.slice A' (itemsO os).length c') ∧ OwnsM w' w.heap.size (.slice A' (itemsO os).length c') (itemsO os) ∧ Below w.heap.size w w' := by
  have HEL := Lib.hid hel
  have HN := Lib.hid hn
  clear hel hn
  go_enter Tryz.func30, Tryz.ntmps30
  go_wp2
  have HO0 := Lib.hid (show OwnsM (w.alloc (.cells #[] 41)) w.heap.size (.slice (some ⟨w.heap.size, 0, none⟩) 0 0) [] from OwnsG.empty (heap_alloc_new w _) (Nat.le_refl _))
  go_loopw [4, 3, 5] (fun i v _ wr => ∃ (k c2 : Nat) (A2 : Option Addr), i = .int .i64 k ∧ k ≤ os.length ∧ v = .slice A2 (itemsO (os.take k)).length c2 ∧ OwnsM wr w.heap.size (.slice A2 (itemsO (os.take k)).length c2) (itemsO (os.take k)) ∧ Below w.heap.size w wr) (fun i _ _ _ => os.length + 1 - (intOf i).toNat)
  case atStart => exact ⟨0, 0, _, rfl, Nat.zero_le _, rfl, HO0.out, below_alloc (Below.refl _ w)⟩
  case round =>
    obtain ⟨k, c2, A2, rfl, hk, rfl, how, hbel⟩ := hrel
    by_cases hkl : k < os.length
    · have hkI : (k : Int) < (os.length : Int) := by omega
      obtain ⟨o, ho⟩ := get_lt hkl
      obtain ⟨b, off, rfl, hblt, d0, d1, d2, d3, d4, d5⟩ := ord_row (HEL.out.below hbel) ho
      obtain ⟨n0, n1⟩ := HN.out o (List.mem_of_getElem? ho)
      have hri : Rises (itemsO (os.take k)) := rises_items _
      have hok := oks_items (os.take k)
      have hln : (itemsO (os.take k)).length ≤ 1000 := by
        have := items_len (os.take k) (l := []) trivial
        rw [List.length_take] at this
        unfold itemsO
        simp at this
        omega
      have hit := items_take ho
      rw [rmsg_step] at hit
      generalize itemsO (os.take k) = I at *
      have his := fun W => ref08Is_any (rmsg o) W
      have hwi : isMsg (rmsg o) = true → ∀ (W : World) A cp vb, Elems W A 2 (I.map Itm.cells) → W.heap[vb]? = some (.cells #[.int .i64 (rmsg o).kind, .string (rmsg o).key, .string (rmsg o).val] 90 (0, 0)) → Calls Tryz.prog 61 #[.slice A I.length cp, .slice (some ⟨vb, 0, none⟩) 1 1] W (RefWith I (rmsg o) W) := fun hm W A cp vb h1 h2 =>
        refWith_any A cp vb 0 1 I (rmsg o) W h1 hri hok (by omega) hm (lt_of_row h2) (by rw [Lib.cell_of_heap h2]; rfl) (by rw [Lib.cell_of_heap h2]; rfl) (by rw [Lib.cell_of_heap h2]; rfl)
      have hv := fun W => refValue_any o.n.toNat W (by omega)
      rw [Int.toNat_of_nonneg n0, ← show valB o.n.toNat = ⟨(valBytes o.n.toNat).toArray⟩ from rfl] at hv
      obtain ⟨V, hV⟩ : ∃ V, (if o.kind = 1 then o.val else if o.kind = 3 then valB o.n.toNat else ⟨#[]⟩) = V := ⟨_, rfl⟩
      have hrm : rmsg o = ⟨o.kind, o.key, V⟩ := by rw [← hV]; rfl
      rw [hrm] at his hwi hit
      rw [Mg.v_def] at his
      have HEI := Lib.hid (how.elems Itm.clen)
      have HV := Lib.hid hv
      have HOW := Lib.hid how
      have HB := Lib.hid hbel
      have HIS := Lib.hid his
      have HWI := Lib.hid hwi
      have HIT := Lib.hid hit
      have HVV := Lib.hid hV
      clear how hbel his hwi hit hv hri hok hrm hV ho n0 n1
      obtain ⟨kind, key, val, n, lo, hi⟩ := o
      dsimp only at d0 d1 d2 d3 d4 d5 HIS HWI HIT HV HVV
      have hkc : (kind = 1 ∧ Hid (V = val)) ∨ (kind = 3 ∧ Hid (V = valB n.toNat)) ∨ ((kind == 1) = false ∧ (kind == 3) = false ∧ Hid (V = ⟨#[]⟩)) := by
        have := HVV.out
        by_cases h1 : kind = 1
        · rw [if_pos h1] at this; exact .inl ⟨h1, Lib.hid this.symm⟩
        · by_cases h3 : kind = 3
          · rw [if_neg h1, if_pos h3] at this; exact .inr (.inl ⟨h3, Lib.hid this.symm⟩)
          · rw [if_neg h1, if_neg h3] at this; exact .inr (.inr ⟨by simp [h1], by simp [h3], Lib.hid this.symm⟩)
      clear HVV
      go_wp2
      refine rg_start (n := 13) (fun w' => w'.cell? ⟨b, off + k * 6, none⟩ = some (.int .i64 kind) ∧ w'.cell? ⟨b, off + k * 6 + 1, none⟩ = some (.string key) ∧ b < w'.heap.size) #[false, false, false, false, false, false, false, false, false, false, false, false, false] (by kernel_rfl) rfl rfl ⟨d0, d1, hblt⟩ (fun hHeld => ?_)
      refine rg_take (i := 0) (N := (some 13)) (v := ?_) (a' := ?_) #[true, false, false, false, false, false, false, false, false, false, false, false, false] rfl rfl (by kernel_rfl) (fun _ _ _ h => h) (by rfl) ?_ hHeld ?_ ?_
      rotate_left 2
      · rintro w' ⟨s0, s1, s2⟩
        go_simp
        try with_reducible rfl
      · simp only [Act.put, List.setIfInBounds_toArray, List.set_cons_zero, List.set_cons_succ]
        rfl
      refine rg_take (i := 1) (N := (some 14)) (v := ?_) (a' := ?_) #[true, true, false, false, false, false, false, false, false, false, false, false, false] rfl rfl (by kernel_rfl) (fun _ _ _ h => h) (by rfl) ?_ hHeld ?_ ?_
      rotate_left 2
      · rintro w' ⟨s0, s1, s2⟩
        go_simp
        try with_reducible rfl
      · simp only [Act.put, List.setIfInBounds_toArray, List.set_cons_zero, List.set_cons_succ]
        rfl
      refine rg_take (i := 2) (N := (some 15)) (v := ?_) (a' := ?_) #[true, true, true, false, false, false, false, false, false, false, false, false, false] rfl rfl (by kernel_rfl) (fun _ _ _ h => h) (by rfl) ?_ hHeld ?_ ?_
      rotate_left 2
      · rintro w' ⟨s0, s1, s2⟩
        go_simp
        try with_reducible rfl
      · simp only [Act.put, List.setIfInBounds_toArray, List.set_cons_zero, List.set_cons_succ]
        rfl
      refine rg_take (i := 3) (N := (some 16)) (v := ?_) (a' := ?_) #[true, true, true, true, false, false, false, false, false, false, false, false, false] rfl rfl (by kernel_rfl) (fun _ _ _ h => h) (by rfl) ?_ hHeld ?_ ?_
      rotate_left 2
      · rintro w' ⟨s0, s1, s2⟩
        go_simp
        try with_reducible rfl
      · simp only [Act.put, List.setIfInBounds_toArray, List.set_cons_zero, List.set_cons_succ]
        rfl
      refine rg_take (i := 4) (N := (some 17)) (v := ?_) (a' := ?_) #[true, true, true, true, true, false, false, false, false, false, false, false, false] rfl rfl (by kernel_rfl) (fun _ _ _ h => h) (by rfl) ?_ hHeld ?_ ?_
      rotate_left 2
      · rintro w' ⟨s0, s1, s2⟩
        go_simp
        try with_reducible rfl
      · simp only [Act.put, List.setIfInBounds_toArray, List.set_cons_zero, List.set_cons_succ]
        rfl
      refine rg_take (i := 5) (N := (some 18)) (v := ?_) (a' := ?_) #[true, true, true, true, true, true, false, false, false, false, false, false, false] rfl rfl (by kernel_rfl) (fun _ _ _ h => h) (by rfl) ?_ hHeld ?_ ?_
      rotate_left 2
      · rintro w' ⟨s0, s1, s2⟩
        go_simp
        try with_reducible rfl
      · simp only [Act.put, List.setIfInBounds_toArray, List.set_cons_zero, List.set_cons_succ]
        rfl
      refine rg_take (i := 6) (N := (some 19)) (v := ?_) (a' := ?_) #[true, true, true, true, true, true, true, false, false, false, false, false, false] rfl rfl (by kernel_rfl) (fun _ _ _ h => h) (by rfl) ?_ hHeld ?_ ?_
      rotate_left 2
      · rintro w' ⟨s0, s1, s2⟩
        go_simp
        try with_reducible rfl
      · simp only [Act.put, List.setIfInBounds_toArray, List.set_cons_zero, List.set_cons_succ]
        rfl
      refine rg_take (i := 7) (N := (some 20)) (v := ?_) (a' := ?_) #[true, true, true, true, true, true, true, true, false, false, false, false, false] rfl rfl (by kernel_rfl) (fun _ _ _ h => h) (by rfl) ?_ hHeld ?_ ?_
      rotate_left 2
      · rintro w' ⟨s0, s1, s2⟩
        go_simp
        try with_reducible rfl
      · simp only [Act.put, List.setIfInBounds_toArray, List.set_cons_zero, List.set_cons_succ]
        rfl
      refine rg_take (i := 8) (N := (some 21)) (v := ?_) (a' := ?_) #[true, true, true, true, true, true, true, true, true, false, false, false, false] rfl rfl (by kernel_rfl) (fun _ _ _ h => h) (by rfl) ?_ hHeld ?_ ?_
      rotate_left 2
      · rintro w' ⟨s0, s1, s2⟩
        go_simp
        try with_reducible rfl
      · simp only [Act.put, List.setIfInBounds_toArray, List.set_cons_zero, List.set_cons_succ]
        rfl
      refine rg_take (i := 9) (N := (some 22)) (v := ?_) (a' := ?_) #[true, true, true, true, true, true, true, true, true, true, false, false, false] rfl rfl (by kernel_rfl) (fun _ _ _ h => h) (by rfl) ?_ hHeld ?_ ?_
      rotate_left 2
      · rintro w' ⟨s0, s1, s2⟩
        go_simp
        try with_reducible rfl
      · simp only [Act.put, List.setIfInBounds_toArray, List.set_cons_zero, List.set_cons_succ]
        rfl
      refine rg_take (i := 10) (N := (some 23)) (v := ?_) (a' := ?_) #[true, true, true, true, true, true, true, true, true, true, true, false, false] rfl rfl (by kernel_rfl) (fun _ _ _ h => h) (by rfl) ?_ hHeld ?_ ?_
      rotate_left 2
      · rintro w' ⟨s0, s1, s2⟩
        go_simp
        try with_reducible rfl
      · simp only [Act.put, List.setIfInBounds_toArray, List.set_cons_zero, List.set_cons_succ]
        rfl
      refine rg_one (i := 11) #[true, true, true, true, true, true, true, true, true, true, true, true, false] rfl (by kernel_rfl) (by rfl) (fun K hK => ?_)
      obtain ⟨s0, s1, s2⟩ := hHeld
      repeat go_step
      refine hK.out _ _ ?_ (fun hHeld => ?_)
      · (repeat (first | (with_reducible assumption) | (with_reducible apply And.intro) | (with_reducible refine keep_cell (w := ?_) ?_ ?_ ?_; rotate_left; with_reducible assumption) | (with_reducible refine keep_cell_alloc ?_ ?_) | (with_reducible refine keep_lt (w := ?_) ?_ ?_; rotate_left; with_reducible assumption) | (with_reducible refine keep_lt_alloc ?_) | (with_reducible refine below_next (w := ?_) ?_ ?_; rotate_left 2; with_reducible assumption) | (with_reducible refine below_alloc ?_) | (with_reducible refine Below.drew ?_) | (with_reducible refine keep_lt_drew ?_) | (with_reducible refine keep_cell_drew ?_)))
      clear hK K
      clear s0 s1 s2
      refine rg_one (i := 12) #[true, true, true, true, true, true, true, true, true, true, true, true, true] rfl (by kernel_rfl) (by rfl) (fun K hK => ?_)
      obtain ⟨s0, s1, s2⟩ := hHeld
      repeat go_step
      refine hK.out _ _ ?_ (fun hHeld => ?_)
      · (repeat (first | (with_reducible assumption) | (with_reducible apply And.intro) | (with_reducible refine keep_cell (w := ?_) ?_ ?_ ?_; rotate_left; with_reducible assumption) | (with_reducible refine keep_cell_alloc ?_ ?_) | (with_reducible refine keep_lt (w := ?_) ?_ ?_; rotate_left; with_reducible assumption) | (with_reducible refine keep_lt_alloc ?_) | (with_reducible refine below_next (w := ?_) ?_ ?_; rotate_left 2; with_reducible assumption) | (with_reducible refine below_alloc ?_) | (with_reducible refine Below.drew ?_) | (with_reducible refine keep_lt_drew ?_) | (with_reducible refine keep_cell_drew ?_)))
      clear hK K
      clear s0 s1 s2
      refine rg_done (by kernel_rfl) ?_
      clear hHeld
      have hbx : (wr.alloc (.cells #[.int .i64 kind, .string key, .string ⟨#[]⟩] 90)).drew.heap[wr.heap.size]? = some (.cells #[.int .i64 kind, .string key, .string ⟨#[]⟩] 90 (0, 0)) := heap_alloc_new wr _
      have g2 : (wr.alloc (.cells #[.int .i64 kind, .string key, .string ⟨#[]⟩] 90)).drew.cell? ⟨b, off + k * 6 + 2, none⟩ = some (.string val) := keep_cell_drew (keep_cell_alloc hblt d2)
      have g3 : (wr.alloc (.cells #[.int .i64 kind, .string key, .string ⟨#[]⟩] 90)).drew.cell? ⟨b, off + k * 6 + 3, none⟩ = some (.int .u64 n) := keep_cell_drew (keep_cell_alloc hblt d3)
      have hbl0 : b < (wr.alloc (.cells #[.int .i64 kind, .string key, .string ⟨#[]⟩] 90)).drew.heap.size := keep_lt_drew (keep_lt_alloc hblt)
      have hb0 : Below wr.heap.size wr (wr.alloc (.cells #[.int .i64 kind, .string key, .string ⟨#[]⟩] 90)).drew := (below_alloc (Below.refl _ wr)).drew
      generalize (wr.alloc (.cells #[.int .i64 kind, .string key, .string ⟨#[]⟩] 90)).drew = W0 at *
      have x0 : W0.cell? ⟨wr.heap.size, 0, none⟩ = some (.int .i64 kind) := by rw [Lib.cell_of_heap hbx]; rfl
      have x1 : W0.cell? ⟨wr.heap.size, 1, none⟩ = some (.string key) := by rw [Lib.cell_of_heap hbx]; rfl
      have x2 : W0.cell? ⟨wr.heap.size, 2, none⟩ = some (.string ⟨#[]⟩) := by rw [Lib.cell_of_heap hbx]; rfl
      have y2 := Lib.frozen_of_heap hbx 2
      have hxl := lt_of_row hbx
      have HX0 := Lib.hid hbx
      have HB0 := Lib.hid hb0
      have hbq : ¬ b = wr.heap.size := by omega
      clear hbx hb0 d0 d1 d2 d3 d4 d5
      rcases hkc with ⟨rfl, HVE⟩ | ⟨rfl, HVE⟩ | ⟨e1, e3, HVE⟩
      · have hve := HVE.out
        subst hve
        cases hm : isMsg ⟨1, key, V⟩ with
        | true =>
          rw [hm] at HIS HIT
          rw [if_pos rfl] at HIT
          go_wp2_with (first
            | (go_at_call 60; (with_reducible refine (HIS.out _).mono ?_); rintro e w2 ⟨rfl, hb2⟩; have hx2 : w2.heap[wr.heap.size]? = some (.cells #[.int .i64 1, .string key, .string V] 90 (0, 0)) := box_below (setCell_row HX0.out 2 (.string V)) hb2; have z0 : w2.cell? ⟨wr.heap.size, 0, none⟩ = some (.int .i64 1) := (by rw [Lib.cell_of_heap hx2]; rfl); have z1 : w2.cell? ⟨wr.heap.size, 1, none⟩ = some (.string key) := (by rw [Lib.cell_of_heap hx2]; rfl); have z2 : w2.cell? ⟨wr.heap.size, 2, none⟩ = some (.string V) := (by rw [Lib.cell_of_heap hx2]; rfl); have hlx := lt_of_row hx2; have HB2 := Lib.hid (below_next (HB0.out.trans (((Fr.refl (fun q => q = wr.heap.size) W0).setCell (p := ⟨wr.heap.size, 2, none⟩) (fun _ => rfl) _).to_below HB0.out.size (fun i hi e => by omega))) hb2); clear hb2 hx2)
            | (go_at_call 61; (with_reducible refine (HWI.out hm _ _ _ _ (HEI.out.below (below_alloc HB2.out)) (heap_alloc_new w2 _)).mono ?_); rintro e w5 ⟨hb5, A5, c5, rfl, ho5⟩; have HO5 := Lib.hid ho5; have HB5 := Lib.hid (below_next (below_alloc HB2.out) hb5); clear hb5 ho5))
          refine ⟨⟨k + 1, c5, A5, by go_num, by omega, by rw [HIT.out], by rw [HIT.out]; exact HO5.out.base (Nat.le_trans HB.out.size (below_alloc HB2.out).size), below_next HB.out HB5.out⟩, ?_⟩
          simp [intOf]
          omega
        | false =>
          rw [hm] at HIS HIT
          rw [if_neg (by decide)] at HIT
          go_wp2_with (first
            | (go_at_call 60; (with_reducible refine (HIS.out _).mono ?_); rintro e w2 ⟨rfl, hb2⟩; have hx2 : w2.heap[wr.heap.size]? = some (.cells #[.int .i64 1, .string key, .string V] 90 (0, 0)) := box_below (setCell_row HX0.out 2 (.string V)) hb2; have z0 : w2.cell? ⟨wr.heap.size, 0, none⟩ = some (.int .i64 1) := (by rw [Lib.cell_of_heap hx2]; rfl); have z1 : w2.cell? ⟨wr.heap.size, 1, none⟩ = some (.string key) := (by rw [Lib.cell_of_heap hx2]; rfl); have z2 : w2.cell? ⟨wr.heap.size, 2, none⟩ = some (.string V) := (by rw [Lib.cell_of_heap hx2]; rfl); have hlx := lt_of_row hx2; have HB2 := Lib.hid (below_next (HB0.out.trans (((Fr.refl (fun q => q = wr.heap.size) W0).setCell (p := ⟨wr.heap.size, 2, none⟩) (fun _ => rfl) _).to_below HB0.out.size (fun i hi e => by omega))) hb2); clear hb2 hx2))
          refine ⟨⟨k + 1, c2, A2, by go_num, by omega, by rw [HIT.out], by rw [HIT.out]; exact HOW.out.below HB2.out, below_next HB.out HB2.out⟩, ?_⟩
          simp [intOf]
          omega
      · rw [← HVE.out] at HV
        clear HVE
        cases hm : isMsg ⟨3, key, V⟩ with
        | true =>
          rw [hm] at HIS HIT
          rw [if_pos rfl] at HIT
          go_wp2_with (first
            | (go_at_call 59; (with_reducible refine (HV.out _).mono ?_); rintro e w1 ⟨rfl, hb1⟩; have hx1 : w1.heap[wr.heap.size]? = some (.cells #[.int .i64 3, .string key, .string ⟨#[]⟩] 90 (0, 0)) := box_below HX0.out hb1; have u0 : w1.cell? ⟨wr.heap.size, 0, none⟩ = some (.int .i64 3) := (by rw [Lib.cell_of_heap hx1]; rfl); have u1 : w1.cell? ⟨wr.heap.size, 1, none⟩ = some (.string key) := (by rw [Lib.cell_of_heap hx1]; rfl); have u2 : w1.cell? ⟨wr.heap.size, 2, none⟩ = some (.string ⟨#[]⟩) := (by rw [Lib.cell_of_heap hx1]; rfl); have v2 := Lib.frozen_of_heap hx1 2; have hl1 := lt_of_row hx1; have HX1 := Lib.hid hx1; have HB1 := Lib.hid (below_next HB0.out hb1); clear hb1 hx1)
            | (go_at_call 60; (with_reducible refine (HIS.out _).mono ?_); rintro e w2 ⟨rfl, hb2⟩; have hx2 : w2.heap[wr.heap.size]? = some (.cells #[.int .i64 3, .string key, .string V] 90 (0, 0)) := box_below (setCell_row HX1.out 2 (.string V)) hb2; have z0 : w2.cell? ⟨wr.heap.size, 0, none⟩ = some (.int .i64 3) := (by rw [Lib.cell_of_heap hx2]; rfl); have z1 : w2.cell? ⟨wr.heap.size, 1, none⟩ = some (.string key) := (by rw [Lib.cell_of_heap hx2]; rfl); have z2 : w2.cell? ⟨wr.heap.size, 2, none⟩ = some (.string V) := (by rw [Lib.cell_of_heap hx2]; rfl); have hlx := lt_of_row hx2; have HB2 := Lib.hid (below_next (HB1.out.trans (((Fr.refl (fun q => q = wr.heap.size) w1).setCell (p := ⟨wr.heap.size, 2, none⟩) (fun _ => rfl) _).to_below HB1.out.size (fun i hi e => by omega))) hb2); clear hb2 hx2)
            | (go_at_call 61; (with_reducible refine (HWI.out hm _ _ _ _ (HEI.out.below (below_alloc HB2.out)) (heap_alloc_new w2 _)).mono ?_); rintro e w5 ⟨hb5, A5, c5, rfl, ho5⟩; have HO5 := Lib.hid ho5; have HB5 := Lib.hid (below_next (below_alloc HB2.out) hb5); clear hb5 ho5))
          refine ⟨⟨k + 1, c5, A5, by go_num, by omega, by rw [HIT.out], by rw [HIT.out]; exact HO5.out.base (Nat.le_trans HB.out.size (below_alloc HB2.out).size), below_next HB.out HB5.out⟩, ?_⟩
          simp [intOf]
          omega
        | false =>
          rw [hm] at HIS HIT
          rw [if_neg (by decide)] at HIT
          go_wp2_with (first
            | (go_at_call 59; (with_reducible refine (HV.out _).mono ?_); rintro e w1 ⟨rfl, hb1⟩; have hx1 : w1.heap[wr.heap.size]? = some (.cells #[.int .i64 3, .string key, .string ⟨#[]⟩] 90 (0, 0)) := box_below HX0.out hb1; have u0 : w1.cell? ⟨wr.heap.size, 0, none⟩ = some (.int .i64 3) := (by rw [Lib.cell_of_heap hx1]; rfl); have u1 : w1.cell? ⟨wr.heap.size, 1, none⟩ = some (.string key) := (by rw [Lib.cell_of_heap hx1]; rfl); have u2 : w1.cell? ⟨wr.heap.size, 2, none⟩ = some (.string ⟨#[]⟩) := (by rw [Lib.cell_of_heap hx1]; rfl); have v2 := Lib.frozen_of_heap hx1 2; have hl1 := lt_of_row hx1; have HX1 := Lib.hid hx1; have HB1 := Lib.hid (below_next HB0.out hb1); clear hb1 hx1)
            | (go_at_call 60; (with_reducible refine (HIS.out _).mono ?_); rintro e w2 ⟨rfl, hb2⟩; have hx2 : w2.heap[wr.heap.size]? = some (.cells #[.int .i64 3, .string key, .string V] 90 (0, 0)) := box_below (setCell_row HX1.out 2 (.string V)) hb2; have z0 : w2.cell? ⟨wr.heap.size, 0, none⟩ = some (.int .i64 3) := (by rw [Lib.cell_of_heap hx2]; rfl); have z1 : w2.cell? ⟨wr.heap.size, 1, none⟩ = some (.string key) := (by rw [Lib.cell_of_heap hx2]; rfl); have z2 : w2.cell? ⟨wr.heap.size, 2, none⟩ = some (.string V) := (by rw [Lib.cell_of_heap hx2]; rfl); have hlx := lt_of_row hx2; have HB2 := Lib.hid (below_next (HB1.out.trans (((Fr.refl (fun q => q = wr.heap.size) w1).setCell (p := ⟨wr.heap.size, 2, none⟩) (fun _ => rfl) _).to_below HB1.out.size (fun i hi e => by omega))) hb2); clear hb2 hx2))
          refine ⟨⟨k + 1, c2, A2, by go_num, by omega, by rw [HIT.out], by rw [HIT.out]; exact HOW.out.below HB2.out, below_next HB.out HB2.out⟩, ?_⟩
          simp [intOf]
          omega
      · have hve := HVE.out
        subst hve
        cases hm : isMsg ⟨kind, key, ⟨#[]⟩⟩ with
        | true =>
          rw [hm] at HIS HIT
          rw [if_pos rfl] at HIT
          go_wp2_with (first
            | (go_at_call 60; (with_reducible refine (HIS.out _).mono ?_); rintro e w2 ⟨rfl, hb2⟩; have hx2 : w2.heap[wr.heap.size]? = some (.cells #[.int .i64 kind, .string key, .string ⟨#[]⟩] 90 (0, 0)) := box_below HX0.out hb2; have z0 : w2.cell? ⟨wr.heap.size, 0, none⟩ = some (.int .i64 kind) := (by rw [Lib.cell_of_heap hx2]; rfl); have z1 : w2.cell? ⟨wr.heap.size, 1, none⟩ = some (.string key) := (by rw [Lib.cell_of_heap hx2]; rfl); have z2 : w2.cell? ⟨wr.heap.size, 2, none⟩ = some (.string ⟨#[]⟩) := (by rw [Lib.cell_of_heap hx2]; rfl); have hlx := lt_of_row hx2; have HB2 := Lib.hid (below_next HB0.out hb2); clear hb2 hx2)
            | (go_at_call 61; (with_reducible refine (HWI.out hm _ _ _ _ (HEI.out.below (below_alloc HB2.out)) (heap_alloc_new w2 _)).mono ?_); rintro e w5 ⟨hb5, A5, c5, rfl, ho5⟩; have HO5 := Lib.hid ho5; have HB5 := Lib.hid (below_next (below_alloc HB2.out) hb5); clear hb5 ho5))
          refine ⟨⟨k + 1, c5, A5, by go_num, by omega, by rw [HIT.out], by rw [HIT.out]; exact HO5.out.base (Nat.le_trans HB.out.size (below_alloc HB2.out).size), below_next HB.out HB5.out⟩, ?_⟩
          simp [intOf]
          omega
        | false =>
          rw [hm] at HIS HIT
          rw [if_neg (by decide)] at HIT
          go_wp2_with (first
            | (go_at_call 60; (with_reducible refine (HIS.out _).mono ?_); rintro e w2 ⟨rfl, hb2⟩; have hx2 : w2.heap[wr.heap.size]? = some (.cells #[.int .i64 kind, .string key, .string ⟨#[]⟩] 90 (0, 0)) := box_below HX0.out hb2; have z0 : w2.cell? ⟨wr.heap.size, 0, none⟩ = some (.int .i64 kind) := (by rw [Lib.cell_of_heap hx2]; rfl); have z1 : w2.cell? ⟨wr.heap.size, 1, none⟩ = some (.string key) := (by rw [Lib.cell_of_heap hx2]; rfl); have z2 : w2.cell? ⟨wr.heap.size, 2, none⟩ = some (.string ⟨#[]⟩) := (by rw [Lib.cell_of_heap hx2]; rfl); have hlx := lt_of_row hx2; have HB2 := Lib.hid (below_next HB0.out hb2); clear hb2 hx2))
          refine ⟨⟨k + 1, c2, A2, by go_num, by omega, by rw [HIT.out], by rw [HIT.out]; exact HOW.out.below HB2.out, below_next HB.out HB2.out⟩, ?_⟩
          simp [intOf]
          omega
    · obtain rfl : k = os.length := by omega
      rw [List.take_length] at how
      rw [List.take_length]
      have HOW := Lib.hid how
      have HB := Lib.hid hbel
      clear how hbel
      go_wp2
      go_ret
      exact ⟨A2, c2, rfl, HOW.out, HB.out⟩
end Go.Proofs.YtdfgdnaejnngoaaGreat
namespace Go.Proofs.YtdfgdnaejnngoaaGreat
open Go.RowKit
/-! grangerlaw33.forms. -/
theorem ownG_ge {α : Type} {f : α → List Value} {k : Nat} {e : TypeId} {w : World} {B q : Nat} {v : Value} {l : List α} (h : OwnsG f k e w B v l) (hq : q < B) (e : v.ownBlock = some q) : False := by
  rcases h.2 with ⟨he, _⟩ | ⟨g, cap', cur, he, hb, _⟩
  · rw [he] at e; cases e
  · rw [he] at e
    simp only [Value.ownBlock, Option.some.injEq] at e
    omega
theorem rordInfo : (Tryz.prog.info? 78).map (fun i => (i.zero, i.size, i.bytes)) = some (some (.agg #[.int .i64 0, .string ⟨#[]⟩, .string ⟨#[]⟩, .int .u64 0, .string ⟨#[]⟩, .string ⟨#[]⟩]), 6, 80) := by kernel_rfl
abbrev OwnsR := OwnsG Ord.cells 6 78
theorem rord_append {ops : Array Oper} {rest : List Oper} {o : Oper} {a : Act} {w : World} {Q : Exit → Act → World → Prop} (hgd : o.guard = none) (N : Option Tmp) (hN : o.dst = N) (s x : Operand) (ho : o.op = .call { callee := .builtin .append, args := #[s, x], argTypes := #[54, 54] })
    (B : Nat) (v : Value) (l m : List Ord) (n : Nat) (ad : Addr) (c : Nat) (hn : m.length = n) (hs : a.eval s = v) (hx : a.eval x = .slice (some ad) n c) (hown : OwnsR w B v l) (hel : ∀ j u, ((m.map Ord.cells).flatten)[j]? = some u → w.cell? (ad.add j) = some u) (hl : l.length + m.length ≤ 100000) (hB : B ≤ w.heap.size) (n2 : Nat) (hn2 : (l ++ m).length = n2)
    (h : ∀ A' c' w', OwnsR w' B (.slice A' n2 c') (l ++ m) → Fr (fun k => v.ownBlock = some k) w w' → wpList Tryz.prog ops Q rest (a.put N (.slice A' n2 c')) w') : wpList Tryz.prog ops Q (o :: rest) a w := by
  subst hn hN hn2
  obtain ⟨i0, hi0, hz0, hz1, hz2⟩ := info_parts rordInfo
  refine wpList_append_own w hgd s x 54 ho B 78 i0 _ 6 80 Tryz.underlying54 hi0 hz0 hz1 hz2 rfl (by decide) v l.length _ hs hown ad m.length c ((m.map Ord.cells).flatten) hx (flatten_length ordLen m) hel ?_ ?_ ?_ hB ?_
  · intro u hu
    obtain ⟨r, hr, hu⟩ := List.mem_flatten.1 hu
    obtain ⟨e, _, rfl⟩ := List.mem_map.1 hr
    exact ordOne e u hu
  · unfold maxLen; omega
  · omega
  · intro v' w' h1 h2 _
    have ho : OwnsR w' B v' (l ++ m) := by
      unfold OwnsR OwnsG
      rw [List.map_append, List.flatten_append, List.length_append]
      exact h1
    obtain ⟨A', c', rfl⟩ := ho.slice
    exact h A' c' w' ho ((Fr.refl _ w).grown h2 (fun i hi e => e))
set_option maxHeartbeats 2000000 in
set_option maxRecDepth 100000 in
theorem forms_any (A : Option Addr) (cap : Nat) (os : List Ord) (w : World) (hel : Elems w A 6 (os.map Ord.cells)) (hl : os.length ≤ 1000) :
    Calls Tryz.prog 22 #[.slice A os.length cap] w fun e w' => ∃ A' c', e = .returned (.slice A' os.length c') ∧ OwnsR w' w.heap.size (.slice A' os.length c') os ∧ Below w.heap.size w w' := by
  have HEL := Lib.hid hel
  clear hel
  go_enter Tryz.func22, Tryz.ntmps22
  go_wp2
  have HO0 := Lib.hid (show OwnsR (w.alloc (.cells #[] 78)) w.heap.size (.slice (some ⟨w.heap.size, 0, none⟩) 0 0) [] from OwnsG.empty (heap_alloc_new w _) (Nat.le_refl _))
  go_loopw [4, 3, 5] (fun i v _ wr => ∃ (k c2 : Nat) (A2 : Option Addr), i = .int .i64 k ∧ k ≤ os.length ∧ v = .slice A2 (os.take k).length c2 ∧ OwnsR wr w.heap.size (.slice A2 (os.take k).length c2) (os.take k) ∧ Below w.heap.size w wr) (fun i _ _ _ => os.length + 1 - (intOf i).toNat)
  case atStart => exact ⟨0, 0, _, rfl, Nat.zero_le _, rfl, HO0.out, below_alloc (Below.refl _ w)⟩
  case round =>
    obtain ⟨k, c2, A2, rfl, hk, rfl, how, hbel⟩ := hrel
    by_cases hkl : k < os.length
    · have hkI : (k : Int) < (os.length : Int) := by omega
      obtain ⟨o, ho⟩ := get_lt hkl
      obtain ⟨b, off, rfl, hblt, d0, d1, d2, d3, d4, d5⟩ := ord_row (HEL.out.below hbel) ho
      have htk := take_snocR ho
      have hpl : (os.take k).length ≤ 1000 := by rw [List.length_take]; omega
      have HOW := Lib.hid how
      have HB := Lib.hid hbel
      have HTK := Lib.hid htk
      clear how hbel htk ho
      generalize os.take k = P at *
      obtain ⟨kind, key, val, n, lo, hi⟩ := o
      dsimp only at d0 d1 d2 d3 d4 d5
      go_wp2_with (at_builtin; go_loud (refine rord_append rfl (some 32) rfl _ _ rfl w.heap.size (.slice A2 P.length c2) P [⟨kind, key, val, n, lo, hi⟩] 1 ⟨wr.heap.size + 1, 0, none⟩ 1 rfl rfl (by simp [Act.eval]) ((HOW.out.alloc _).alloc _) (ord_news (o := ⟨kind, key, val, n, lo, hi⟩) (heap_new_at (by simp))) (by simp; omega) (by have := HB.out.size; simp; omega) (P.length + 1) (by simp) ?_; intro A3 c3 w3 ho3 hf3; have HO3 := Lib.hid ho3; have HF3 := Lib.hid hf3; clear ho3 hf3))
      have hb3 := fun o1 o2 : Obj => below_alloc (o := o2) (below_alloc (o := o1) HB.out)
      refine ⟨⟨k + 1, c3, A3, by go_num, by omega, by rw [HTK.out, List.length_append]; rfl, by rw [HTK.out, List.length_append]; exact HO3.out, (hb3 _ _).trans (HF3.out.to_below (hb3 _ _).size (fun i hi e => ownG_ge HOW.out hi e))⟩, ?_⟩
      simp [intOf]
      omega
    · obtain rfl : k = os.length := by omega
      rw [List.take_length] at how
      rw [List.take_length]
      have HOW := Lib.hid how
      have HB := Lib.hid hbel
      clear how hbel
      go_wp2
      go_ret
      exact ⟨A2, c2, rfl, HOW.out, HB.out⟩
end Go.Proofs.YtdfgdnaejnngoaaGreat
namespace Go.Proofs.YtdfgdnaejnngoaaGreat
open Go.RowKit
/-! grangerlaw33.PruneSame. -/
theorem at_mod (x : Int) (n : Nat) (hn : n ≤ 1000) : ∃ k : Nat, k ≤ n ∧ wrap64 ((IntKind.u64.wrap x).tmod ((n : Int) + 1)) = (k : Int) := by
  have h0 : 0 ≤ IntKind.u64.wrap x := by
    simp [IntKind.wrap, IntKind.bits, IntKind.signed]
    omega
  have e : (IntKind.u64.wrap x).tmod ((n : Int) + 1) = (IntKind.u64.wrap x) % ((n : Int) + 1) := Int.tmod_eq_emod_of_nonneg h0
  have h1 := Int.emod_nonneg (IntKind.u64.wrap x) (show ((n : Int) + 1) ≠ 0 by omega)
  have h2 := Int.emod_lt_of_pos (IntKind.u64.wrap x) (show (0 : Int) < (n : Int) + 1 by omega)
  rw [e]
  generalize IntKind.u64.wrap x % ((n : Int) + 1) = y at *
  obtain ⟨k, rfl⟩ := Int.eq_ofNat_of_zero_le h1
  refine ⟨k, by omega, ?_⟩
  unfold wrap64
  omega
theorem okN_prune {os : List Ord} (h : okN os) : okN (pruneL os) := fun o ho => h o ((prune_sub os).subset ho)
theorem okK_prune {os : List Ord} (h : okK os) : okK (pruneL os) := fun o ho => h o ((prune_sub os).subset ho)
set_option maxHeartbeats 4000000 in
set_option maxRecDepth 100000 in
theorem same_any (at_ : Int) (A : Option Addr) (cap : Nat) (os : List Ord) (w : World) (hel : Elems w A 6 (os.map Ord.cells)) (hn : okN os) :
    Calls Tryz.prog 6 #[.int .i64 at_, .slice A os.length cap] w fun e w' => e = .returned (.bool true) ∧ Below w.heap.size w w' := by
  have haw := fun W => awake33_any W
  have hgr := fun W (hW : Below w.heap.size w W) => great_any A cap os W (hel.below hW)
  obtain ⟨k, hk, hK⟩ := at_mod at_ 448 (by decide)
  rw [show (((448 : Nat) : Int) + 1) = 449 from rfl] at hK
  have hw1 : wrap64 (64 + (k : Int)) = 64 + (k : Int) := by unfold wrap64; omega
  have HAW := Lib.hid haw
  have HGR := Lib.hid hgr
  have HEL := Lib.hid hel
  have HN := Lib.hid hn
  clear haw hgr hel hn
  go_enter Tryz.func6, Tryz.ntmps6
  go_wp2_with (first
    | (go_at_call 19; (with_reducible refine (HAW.out _).mono ?_); rintro e w1 ⟨rfl, hb1⟩; have HB1 := Lib.hid hb1; clear hb1)
    | (go_at_call 20; (with_reducible refine (HGR.out _ HB1.out).mono ?_); rintro e w2 ⟨b2, rfl, hsm, hb2⟩; have HB2 := Lib.hid (below_next HB1.out hb2); have HSM := Lib.hid hsm; clear hsm hb2))
  · go_ret
    exact ⟨rfl, HB2.out⟩
  · have hbf : b2 = false := by assumption
    obtain ⟨hl150, hsmall⟩ := HSM.out hbf
    have hks : okK os := fun o ho => (hsmall o ho).1
    generalize hNN : (64 : Int) + (k : Int) = N at *
    have hc := fun W => capaOf_ok N W (by omega) (by omega)
    have hpr := fun W (hW : Below w.heap.size w W) => prune_any A cap os W (HEL.out.below hW) (by omega) hks
    have hplen := (prune_sub os).length_le
    have hle : ¬ (os.length : Int) < ((pruneL os).length : Int) := by omega
    have hal : ∀ W A' c', Elems W A' 6 ((pruneL os).map Ord.cells) → Calls Tryz.prog 23 #[.slice A' (pruneL os).length c'] W fun e w' => ∃ A2 c2, e = .returned (.slice A2 (pruneL os).length c2) ∧ Below W.heap.size W w' := fun W A' c' h => by
      refine (alive_any A' c' (pruneL os) W h (by omega) (okK_prune hks)).mono ?_
      rintro e w' ⟨A2, c2, rfl, _, hb⟩
      exact ⟨A2, c2, by rw [alive_len, prune_twice], hb⟩
    have hpl := fun W (hW : Below w.heap.size w W) => isPlain_ok N A cap os W (by omega) (by omega) (HEL.out.below hW) (by omega) HN.out
    rw [planA_def] at hc hpl
    cases hR : plainL (pCap N) [] os with
    | false =>
      rw [hR] at hpl
      generalize pruneL os = P at *
      have HC := Lib.hid hc
      have HPR := Lib.hid hpr
      have HAL := Lib.hid hal
      have HPL := Lib.hid hpl
      clear hc hpr hal hpl hR hks hsmall hbf hplen hNN hK
      go_wp2_with (first
        | (go_at_call 21; (with_reducible refine (HC.out _).mono ?_); rintro e w3 ⟨rfl, hb3⟩; have HB3 := Lib.hid (below_next HB2.out hb3); clear hb3)
        | (go_at_call 25; (with_reducible refine (HPR.out _ (below_alloc HB3.out)).mono ?_); rintro e w4 ⟨A4, c4, rfl, ho4, hb4⟩; have hp4 : w4.heap[w3.heap.size]? = some (.cells #[.int .i64 N, .int .i64 (pLog N), .int .i64 (2 + pLog N), .int .i64 (pData N), .int .i64 (pHalf N), .int .i64 (pLeaves N), .int .i64 (pCap N)] 26 (0, 0)) := box_below (heap_alloc_new w3 _) hb4; have HP4 := Lib.hid hp4; have HO4 := Lib.hid ho4; have HB4 := Lib.hid (below_next (below_alloc HB3.out) hb4); clear hp4 ho4 hb4)
        | (go_at_call 23; (with_reducible refine (HAL.out _ _ _ (HO4.out.elems ordLen)).mono ?_); rintro e w5 ⟨A5, c5, rfl, hb5⟩; have hp5 : w5.heap[w3.heap.size]? = some (.cells #[.int .i64 N, .int .i64 (pLog N), .int .i64 (2 + pLog N), .int .i64 (pData N), .int .i64 (pHalf N), .int .i64 (pLeaves N), .int .i64 (pCap N)] 26 (0, 0)) := box_below HP4.out hb5; have HP5 := Lib.hid hp5; clear hp5; have hel5 := (HO4.out.elems ordLen).below hb5; have HE5 := Lib.hid hel5; have HB5 := Lib.hid (below_next HB4.out hb5); clear hb5 hel5; obtain ⟨z0, z1, z2, z3, z4, z5, z6⟩ : w5.cell? ⟨w3.heap.size, 0, none⟩ = some (.int .i64 N) ∧ w5.cell? ⟨w3.heap.size, 1, none⟩ = some (.int .i64 (pLog N)) ∧ w5.cell? ⟨w3.heap.size, 2, none⟩ = some (.int .i64 (2 + pLog N)) ∧ w5.cell? ⟨w3.heap.size, 3, none⟩ = some (.int .i64 (pData N)) ∧ w5.cell? ⟨w3.heap.size, 4, none⟩ = some (.int .i64 (pHalf N)) ∧ w5.cell? ⟨w3.heap.size, 5, none⟩ = some (.int .i64 (pLeaves N)) ∧ w5.cell? ⟨w3.heap.size, 6, none⟩ = some (.int .i64 (pCap N)) := (by have hh := HP5.out; refine ⟨?_, ?_, ?_, ?_, ?_, ?_, ?_⟩ <;> (rw [Lib.cell_of_heap hh]; rfl)))
        | (go_at_call 26; (with_reducible refine (HPL.out _ HB5.out).mono ?_); rintro e w6 ⟨rfl, hb6⟩; have hp6 : w6.heap[w3.heap.size]? = some (.cells #[.int .i64 N, .int .i64 (pLog N), .int .i64 (2 + pLog N), .int .i64 (pData N), .int .i64 (pHalf N), .int .i64 (pLeaves N), .int .i64 (pCap N)] 26 (0, 0)) := box_below HP5.out hb6; have HP6 := Lib.hid hp6; clear hp6; have HE6 := Lib.hid (HE5.out.below hb6); have HB6 := Lib.hid (below_next HB5.out hb6); clear hb6; obtain ⟨y0, y1, y2, y3, y4, y5, y6⟩ : w6.cell? ⟨w3.heap.size, 0, none⟩ = some (.int .i64 N) ∧ w6.cell? ⟨w3.heap.size, 1, none⟩ = some (.int .i64 (pLog N)) ∧ w6.cell? ⟨w3.heap.size, 2, none⟩ = some (.int .i64 (2 + pLog N)) ∧ w6.cell? ⟨w3.heap.size, 3, none⟩ = some (.int .i64 (pData N)) ∧ w6.cell? ⟨w3.heap.size, 4, none⟩ = some (.int .i64 (pHalf N)) ∧ w6.cell? ⟨w3.heap.size, 5, none⟩ = some (.int .i64 (pLeaves N)) ∧ w6.cell? ⟨w3.heap.size, 6, none⟩ = some (.int .i64 (pCap N)) := (by have hh := HP6.out; refine ⟨?_, ?_, ?_, ?_, ?_, ?_, ?_⟩ <;> (rw [Lib.cell_of_heap hh]; rfl))))
      go_ret
      exact ⟨rfl, HB6.out⟩
    | true =>
      rw [hR] at hpl
      obtain ⟨hp1, hp2⟩ := prune_same (pCap N) os hR
      have hpl2 := fun W A' c' (h : Elems W A' 6 ((pruneL os).map Ord.cells)) => isPlain_ok N A' c' (pruneL os) W (by omega) (by omega) h (by omega) (okN_prune HN.out)
      rw [hp1, planA_def] at hpl2
      have hi1 := fun W A' c' (h : Elems W A' 6 ((pruneL os).map Ord.cells)) => pruneItems_any A' c' (pruneL os) W h (by omega) (okN_prune HN.out)
      rw [hp2] at hi1
      have hi2 := fun W (hW : Below w.heap.size w W) => pruneItems_any A cap os W (HEL.out.below hW) (by omega) HN.out
      have hil : (itemsO os).length ≤ 1000 := by
        have := items_len os (l := []) trivial
        unfold itemsO
        simp at this
        omega
      have hs := fun W A' c' A2 c2 h1 h2 => refSame_any A' A2 c' c2 (itemsO os) (itemsO os) W h1 h2 (by omega) (by omega)
      simp only [decide_true] at hs
      generalize itemsO os = I at *
      generalize pruneL os = P at *
      have HC := Lib.hid hc
      have HPR := Lib.hid hpr
      have HAL := Lib.hid hal
      have HPL := Lib.hid hpl
      have HPL2 := Lib.hid hpl2
      have HI1 := Lib.hid hi1
      have HI2 := Lib.hid hi2
      have HS := Lib.hid hs
      clear hc hpr hal hpl hpl2 hi1 hi2 hs hR hp1 hp2 hks hsmall hbf hplen hNN hK hil
      go_wp2_with (first
        | (go_at_call 21; (with_reducible refine (HC.out _).mono ?_); rintro e w3 ⟨rfl, hb3⟩; have HB3 := Lib.hid (below_next HB2.out hb3); clear hb3)
        | (go_at_call 25; (with_reducible refine (HPR.out _ (below_alloc HB3.out)).mono ?_); rintro e w4 ⟨A4, c4, rfl, ho4, hb4⟩; have hp4 : w4.heap[w3.heap.size]? = some (.cells #[.int .i64 N, .int .i64 (pLog N), .int .i64 (2 + pLog N), .int .i64 (pData N), .int .i64 (pHalf N), .int .i64 (pLeaves N), .int .i64 (pCap N)] 26 (0, 0)) := box_below (heap_alloc_new w3 _) hb4; have HP4 := Lib.hid hp4; have HO4 := Lib.hid ho4; have HB4 := Lib.hid (below_next (below_alloc HB3.out) hb4); clear hp4 ho4 hb4)
        | (go_at_call 23; (with_reducible refine (HAL.out _ _ _ (HO4.out.elems ordLen)).mono ?_); rintro e w5 ⟨A5, c5, rfl, hb5⟩; have hp5 : w5.heap[w3.heap.size]? = some (.cells #[.int .i64 N, .int .i64 (pLog N), .int .i64 (2 + pLog N), .int .i64 (pData N), .int .i64 (pHalf N), .int .i64 (pLeaves N), .int .i64 (pCap N)] 26 (0, 0)) := box_below HP4.out hb5; have HP5 := Lib.hid hp5; clear hp5; have hel5 := (HO4.out.elems ordLen).below hb5; have HE5 := Lib.hid hel5; have HB5 := Lib.hid (below_next HB4.out hb5); clear hb5 hel5; obtain ⟨z0, z1, z2, z3, z4, z5, z6⟩ : w5.cell? ⟨w3.heap.size, 0, none⟩ = some (.int .i64 N) ∧ w5.cell? ⟨w3.heap.size, 1, none⟩ = some (.int .i64 (pLog N)) ∧ w5.cell? ⟨w3.heap.size, 2, none⟩ = some (.int .i64 (2 + pLog N)) ∧ w5.cell? ⟨w3.heap.size, 3, none⟩ = some (.int .i64 (pData N)) ∧ w5.cell? ⟨w3.heap.size, 4, none⟩ = some (.int .i64 (pHalf N)) ∧ w5.cell? ⟨w3.heap.size, 5, none⟩ = some (.int .i64 (pLeaves N)) ∧ w5.cell? ⟨w3.heap.size, 6, none⟩ = some (.int .i64 (pCap N)) := (by have hh := HP5.out; refine ⟨?_, ?_, ?_, ?_, ?_, ?_, ?_⟩ <;> (rw [Lib.cell_of_heap hh]; rfl)))
        | (go_at_call 26; (with_reducible refine (HPL2.out _ _ _ HE6.out).mono ?_); rintro e w7 ⟨rfl, hb7⟩; have HE7 := Lib.hid (HE6.out.below hb7); have HB7 := Lib.hid (below_next HB6.out hb7); clear hb7)
        | (go_at_call 26; (with_reducible refine (HPL.out _ HB5.out).mono ?_); rintro e w6 ⟨rfl, hb6⟩; have hp6 : w6.heap[w3.heap.size]? = some (.cells #[.int .i64 N, .int .i64 (pLog N), .int .i64 (2 + pLog N), .int .i64 (pData N), .int .i64 (pHalf N), .int .i64 (pLeaves N), .int .i64 (pCap N)] 26 (0, 0)) := box_below HP5.out hb6; have HP6 := Lib.hid hp6; clear hp6; have HE6 := Lib.hid (HE5.out.below hb6); have HB6 := Lib.hid (below_next HB5.out hb6); clear hb6; obtain ⟨y0, y1, y2, y3, y4, y5, y6⟩ : w6.cell? ⟨w3.heap.size, 0, none⟩ = some (.int .i64 N) ∧ w6.cell? ⟨w3.heap.size, 1, none⟩ = some (.int .i64 (pLog N)) ∧ w6.cell? ⟨w3.heap.size, 2, none⟩ = some (.int .i64 (2 + pLog N)) ∧ w6.cell? ⟨w3.heap.size, 3, none⟩ = some (.int .i64 (pData N)) ∧ w6.cell? ⟨w3.heap.size, 4, none⟩ = some (.int .i64 (pHalf N)) ∧ w6.cell? ⟨w3.heap.size, 5, none⟩ = some (.int .i64 (pLeaves N)) ∧ w6.cell? ⟨w3.heap.size, 6, none⟩ = some (.int .i64 (pCap N)) := (by have hh := HP6.out; refine ⟨?_, ?_, ?_, ?_, ?_, ?_, ?_⟩ <;> (rw [Lib.cell_of_heap hh]; rfl)))
        | (go_at_call 29; (with_reducible refine (HI1.out _ _ _ HE7.out).mono ?_); rintro e w8 ⟨A8, c8, rfl, ho8, hb8⟩; have HO8 := Lib.hid ho8; have HB8 := Lib.hid (below_next HB7.out hb8); clear ho8 hb8)
        | (go_at_call 29; (with_reducible refine (HI2.out _ HB8.out).mono ?_); rintro e w9 ⟨A9, c9, rfl, ho9, hb9⟩; have HO9 := Lib.hid ho9; have HE8 := Lib.hid ((HO8.out.below hb9).elems Itm.clen); have HB9 := Lib.hid (below_next HB8.out hb9); clear ho9 hb9)
        | (go_at_call 28; (with_reducible refine (HS.out _ _ _ _ _ HE8.out (HO9.out.elems Itm.clen)).mono ?_); rintro e w10 ⟨rfl, hb10⟩; have HB10 := Lib.hid (below_next HB9.out hb10); clear hb10))
      go_ret
      exact ⟨rfl, HB10.out⟩
end Go.Proofs.YtdfgdnaejnngoaaGreat
namespace Go.Proofs.YtdfgdnaejnngoaaGreat
open Go.RowKit
/-! grangerlaw33.PruneExact. -/
theorem neq_ord (a b : Ord) (w : World) : (binOp .neq 39 a.v b.v).run Tryz.prog w = .ok (.bool (!decide (a = b))) w := by
  have u3 := Tryz.underlying3
  have a3 := Tryz.isAgg3
  have z3 := Tryz.sizeOf3
  have u9 := Tryz.underlying9
  have a9 := Tryz.isAgg9
  have z9 := Tryz.sizeOf9
  have u22 := Tryz.underlying37
  have a22 := Tryz.isAgg37
  have z22 := Tryz.sizeOf37
  have hS : Tryz.prog.underlying 39 = some (.struct (Tryz.prog.fieldsOf 39)) := by kernel_rfl
  have hp : Tryz.prog.stoodInHeld 39 = false := by kernel_rfl
  rw [Ord.v_def, Ord.v_def]
  rw [run_neq_struct, show (10000 : Nat) = 9999 + 1 from rfl, run_equalIn_agg w 9999 39 _ _ hS hp]
  simp only [Program.fieldsOf, Tryz.underlying39]
  go_simp
  obtain ⟨k, key, val, n, lo, hi⟩ := a
  obtain ⟨k', key', val', n', lo', hi'⟩ := b
  by_cases h1 : k = k' <;> by_cases h2 : key = key' <;> by_cases h3 : val = val' <;> by_cases h4 : n = n' <;> by_cases h5 : lo = lo' <;> by_cases h6 : hi = hi' <;> simp [h1, h2, h3, h4, h5, h6, bytes_inj]
set_option maxHeartbeats 8000000 in
set_option maxRecDepth 100000 in
theorem exact33_any (at_ : Int) (A : Option Addr) (cap : Nat) (os : List Ord) (w : World) (hel : Elems w A 6 (os.map Ord.cells)) (hn : okN os) :
    Calls Tryz.prog 5 #[.int .i64 at_, .slice A os.length cap] w fun e w' => e = .returned (.bool true) ∧ Below w.heap.size w w' := by
  have haw := fun W => awake33_any W
  have hgr := fun W (hW : Below w.heap.size w W) => great_any A cap os W (hel.below hW)
  obtain ⟨k, hk, hK⟩ := at_mod at_ 448 (by decide)
  rw [show (((448 : Nat) : Int) + 1) = 449 from rfl] at hK
  have hw1 : wrap64 (64 + (k : Int)) = 64 + (k : Int) := by unfold wrap64; omega
  have HAW := Lib.hid haw
  have HGR := Lib.hid hgr
  have HEL := Lib.hid hel
  have HN := Lib.hid hn
  clear haw hgr hel hn
  go_enter Tryz.func5, Tryz.ntmps5
  go_wp2_with (first
    | (go_at_call 19; (with_reducible refine (HAW.out _).mono ?_); rintro e w1 ⟨rfl, hb1⟩; have HB1 := Lib.hid hb1; clear hb1)
    | (go_at_call 20; (with_reducible refine (HGR.out _ HB1.out).mono ?_); rintro e w2 ⟨b2, rfl, hsm, hb2⟩; have HB2 := Lib.hid (below_next HB1.out hb2); have HSM := Lib.hid hsm; clear hsm hb2))
  · go_ret
    exact ⟨rfl, HB2.out⟩
  · have hbf : b2 = false := by assumption
    obtain ⟨hl150, hsmall⟩ := HSM.out hbf
    have hks : okK os := fun o ho => (hsmall o ho).1
    generalize hNN : (64 : Int) + (k : Int) = N at *
    have hc := fun W => capaOf_ok N W (by omega) (by omega)
    have hfo := fun W (hW : Below w.heap.size w W) => forms_any A cap os W (HEL.out.below hW) (by omega)
    have hal := fun W (hW : Below w.heap.size w W) => alive_any A cap os W (HEL.out.below hW) (by omega) hks
    have har := fun W A' c' (h : Elems W A' 6 (os.map Ord.cells)) => refAlive_any A' c' os W h (by omega)
    have hpr := fun W (hW : Below w.heap.size w W) => prune_any A cap os W (HEL.out.below hW) (by omega) hks
    have hpl := fun W (hW : Below w.heap.size w W) => isPlain_ok N A cap os W (by omega) (by omega) (HEL.out.below hW) (by omega) HN.out
    have hpf := fun W A' c' (h : Elems W A' 6 (os.map Ord.cells)) => refPlain_any (pCap N) A' c' os W h (by omega) HN.out
    have hi1 := fun W (hW : Below w.heap.size w W) => pruneItems_any A cap os W (HEL.out.below hW) (by omega) HN.out
    have hi2 := fun W A' c' (h : Elems W A' 6 (os.map Ord.cells)) => refItems_any A' c' os W h (by omega) HN.out
    have hil : (itemsO os).length ≤ 1000 := by
      have := items_len os (l := []) trivial
      unfold itemsO
      simp at this
      omega
    have hs := fun W A' c' A2 c2 h1 h2 => refSame_any A' A2 c' c2 (itemsO os) (itemsO os) W h1 h2 (by omega) (by omega)
    simp only [decide_true] at hs
    rw [planA_def] at hc hpl
    have hlen : (pruneL os).length = (aliveL 0 os).length := (alive_len os 0).symm
    have hat := fun k j (h : (aliveL 0 os)[k]? = some j) => alive_at h
    rw [hlen] at hpr
    have hll : (aliveL 0 os).length ≤ 1000 := by
      have := (prune_sub os).length_le
      omega
    generalize plainL (pCap N) [] os = R at *
    generalize itemsO os = I at *
    generalize aliveL 0 os = L at *
    generalize pruneL os = P at *
    have HC := Lib.hid hc
    have HFO := Lib.hid hfo
    have HAL := Lib.hid hal
    have HAR := Lib.hid har
    have HPR := Lib.hid hpr
    have HPL := Lib.hid hpl
    have HPF := Lib.hid hpf
    have HI1 := Lib.hid hi1
    have HI2 := Lib.hid hi2
    have HS := Lib.hid hs
    have HAT := Lib.hid hat
    have HLEN := Lib.hid hlen
    clear hc hfo hal har hpr hpl hpf hi1 hi2 hs hat hks hsmall hbf hNN hK hil hlen
    go_wp2_with (first
      | (go_at_call 21; (with_reducible refine (HC.out _).mono ?_); rintro e w3 ⟨rfl, hb3⟩; have HB3 := Lib.hid (below_next HB2.out hb3); clear hb3)
      | (go_at_call 22; (with_reducible refine (HFO.out _ (below_alloc HB3.out)).mono ?_); rintro e w4 ⟨A4, c4, rfl, ho4, hb4⟩; have hp4 : w4.heap[w3.heap.size]? = some (.cells #[.int .i64 N, .int .i64 (pLog N), .int .i64 (2 + pLog N), .int .i64 (pData N), .int .i64 (pHalf N), .int .i64 (pLeaves N), .int .i64 (pCap N)] 26 (0, 0)) := box_below (heap_alloc_new w3 _) hb4; have HP4 := Lib.hid hp4; have HE4 := Lib.hid (ho4.elems ordLen); have HB4 := Lib.hid (below_next (below_alloc HB3.out) hb4); clear hp4 ho4 hb4)
      | (go_at_call 23; (with_reducible refine (HAL.out _ HB4.out).mono ?_); rintro e w5 ⟨A5, c5, rfl, ho5, hb5⟩; have hp5 : w5.heap[w3.heap.size]? = some (.cells #[.int .i64 N, .int .i64 (pLog N), .int .i64 (2 + pLog N), .int .i64 (pData N), .int .i64 (pHalf N), .int .i64 (pLeaves N), .int .i64 (pCap N)] 26 (0, 0)) := box_below HP4.out hb5; have HP5 := Lib.hid hp5; clear hp5; have HO5 := Lib.hid ho5; have HE5 := Lib.hid (HE4.out.below hb5); have HB5 := Lib.hid (below_next HB4.out hb5); clear hb5 ho5)
      | (go_at_call 24; (with_reducible refine (HAR.out _ _ _ HE5.out).mono ?_); rintro e w6 ⟨A6, c6, rfl, ho6, hb6⟩; have hp6 : w6.heap[w3.heap.size]? = some (.cells #[.int .i64 N, .int .i64 (pLog N), .int .i64 (2 + pLog N), .int .i64 (pData N), .int .i64 (pHalf N), .int .i64 (pLeaves N), .int .i64 (pCap N)] 26 (0, 0)) := box_below HP5.out hb6; have HP6 := Lib.hid hp6; clear hp6; have HO6 := Lib.hid ho6; have HO56 := Lib.hid (HO5.out.below hb6); have HE6 := Lib.hid (HE5.out.below hb6); have HB6 := Lib.hid (below_next HB5.out hb6); clear hb6 ho6)
      | (go_at_call 25; (with_reducible refine (HPR.out _ HB6.out).mono ?_); rintro e w7 ⟨A7, c7, rfl, ho7, hb7⟩; have hp7 : w7.heap[w3.heap.size]? = some (.cells #[.int .i64 N, .int .i64 (pLog N), .int .i64 (2 + pLog N), .int .i64 (pData N), .int .i64 (pHalf N), .int .i64 (pLeaves N), .int .i64 (pCap N)] 26 (0, 0)) := box_below HP6.out hb7; have HP7 := Lib.hid hp7; clear hp7; have HO7 := Lib.hid ho7; have HO57 := Lib.hid (HO56.out.below hb7); have HO67 := Lib.hid (HO6.out.below hb7); have HE7 := Lib.hid (HE6.out.below hb7); have HB7 := Lib.hid (below_next HB6.out hb7); clear hb7 ho7))
    go_loopw [11] (fun i wr => ∃ k : Nat, i = .int .i64 k ∧ k ≤ L.length ∧ Below w7.heap.size w7 wr) (fun i _ => L.length + 1 - (intOf i).toNat)
    case atStart => exact ⟨0, rfl, Nat.zero_le _, Below.refl _ _⟩
    case round =>
      obtain ⟨k, rfl, hk, hbel⟩ := hrel
      by_cases hkl : k < L.length
      · have hkI : (k : Int) < (L.length : Int) := by omega
        obtain ⟨j, hj⟩ := get_lt hkl
        obtain ⟨o, hp, ho⟩ := HAT.out k j hj
        have hjl := (List.getElem?_eq_some_iff.1 ho).1
        have hjI : (j : Int) < (os.length : Int) := by omega
        obtain ⟨g5, rfl, _, hg5l, _, hc5⟩ := (HO57.out.below hbel).row natLen hj
        have a0 := hc5 0 _ rfl
        obtain ⟨g6, rfl, _, hg6l, _, hc6⟩ := (HO67.out.below hbel).row natLen hj
        have b0 := hc6 0 _ rfl
        simp only [Nat.mul_one, Nat.add_zero] at a0 b0
        obtain ⟨g7, rfl, _, hg7l, _, hc7⟩ := (HO7.out.below hbel).row ordLen hp
        have p0 := hc7 0 _ rfl
        have p1 := hc7 1 _ rfl
        have p2 := hc7 2 _ rfl
        have p3 := hc7 3 _ rfl
        have p4 := hc7 4 _ rfl
        have p5 := hc7 5 _ rfl
        simp only [Nat.add_zero] at p0
        obtain ⟨b, off, rfl, hblt, d0, d1, d2, d3, d4, d5⟩ := ord_row (HEL.out.below (below_next HB7.out hbel)) ho
        have hno := fun W => (neq_ord o o W).trans (by simp only [decide_true]; rfl : _ = Result.ok (Value.bool false) W)
        rw [Ord.v_def] at hno
        have HBL := Lib.hid hbel
        clear hbel hp ho hj hc5 hc6 hc7
        obtain ⟨kind, key, val, n, lo, hi⟩ := o
        dsimp only at d0 d1 d2 d3 d4 d5 hno
        go_wp2
        go_quiet (fail)
        go_wp2
        refine ⟨⟨k + 1, by go_num, by omega, below_drewN HBL.out _⟩, ?_⟩
        simp [intOf]
        omega
      · obtain rfl : k = L.length := by omega
        have hpx := box_below HP7.out hbel
        have hxl := lt_of_row hpx
        have hbw := below_next HB7.out hbel
        have hew := HE7.out.below hbel
        obtain ⟨z0, z1, z2, z3, z4, z5, z6⟩ : wr.cell? ⟨w3.heap.size, 0, none⟩ = some (.int .i64 N) ∧ wr.cell? ⟨w3.heap.size, 1, none⟩ = some (.int .i64 (pLog N)) ∧ wr.cell? ⟨w3.heap.size, 2, none⟩ = some (.int .i64 (2 + pLog N)) ∧ wr.cell? ⟨w3.heap.size, 3, none⟩ = some (.int .i64 (pData N)) ∧ wr.cell? ⟨w3.heap.size, 4, none⟩ = some (.int .i64 (pHalf N)) ∧ wr.cell? ⟨w3.heap.size, 5, none⟩ = some (.int .i64 (pLeaves N)) ∧ wr.cell? ⟨w3.heap.size, 6, none⟩ = some (.int .i64 (pCap N)) := by refine ⟨?_, ?_, ?_, ?_, ?_, ?_, ?_⟩ <;> (rw [Lib.cell_of_heap hpx]; rfl)
        clear hpx hbel
        go_wp2
        refine rg_start (n := 16) (fun w' => w'.cell? ⟨w3.heap.size, 0, none⟩ = some (.int .i64 N) ∧ w'.cell? ⟨w3.heap.size, 1, none⟩ = some (.int .i64 (pLog N)) ∧ w'.cell? ⟨w3.heap.size, 2, none⟩ = some (.int .i64 (2 + pLog N)) ∧ w'.cell? ⟨w3.heap.size, 3, none⟩ = some (.int .i64 (pData N)) ∧ w'.cell? ⟨w3.heap.size, 4, none⟩ = some (.int .i64 (pHalf N)) ∧ w'.cell? ⟨w3.heap.size, 5, none⟩ = some (.int .i64 (pLeaves N)) ∧ w'.cell? ⟨w3.heap.size, 6, none⟩ = some (.int .i64 (pCap N)) ∧ w3.heap.size < w'.heap.size ∧ Below w.heap.size w w' ∧ Elems w' A4 6 (os.map Ord.cells)) #[false, false, false, false, false, false, false, false, false, false, false, false, false, false, false, false] (by kernel_rfl) rfl rfl ⟨keep_cell_drew z0, keep_cell_drew z1, keep_cell_drew z2, keep_cell_drew z3, keep_cell_drew z4, keep_cell_drew z5, keep_cell_drew z6, hxl, hbw.drew, hew⟩ (fun hHeld => ?_)
        refine rg_take (i := 0) (N := (some 74)) (v := ?_) (a' := ?_) #[true, false, false, false, false, false, false, false, false, false, false, false, false, false, false, false] rfl rfl (by kernel_rfl) (fun _ _ _ h => h) (by rfl) ?_ hHeld ?_ ?_
        rotate_left 2
        · rintro w' ⟨s0, s1, s2, s3, s4, s5, s6, s7, s8, s9⟩
          go_simp
          try with_reducible rfl
        · simp only [Act.put, List.setIfInBounds_toArray, List.set_cons_zero, List.set_cons_succ]
          rfl
        refine rg_take (i := 1) (N := (some 75)) (v := ?_) (a' := ?_) #[true, true, false, false, false, false, false, false, false, false, false, false, false, false, false, false] rfl rfl (by kernel_rfl) (fun _ _ _ h => h) (by rfl) ?_ hHeld ?_ ?_
        rotate_left 2
        · rintro w' ⟨s0, s1, s2, s3, s4, s5, s6, s7, s8, s9⟩
          go_simp
          try with_reducible rfl
        · simp only [Act.put, List.setIfInBounds_toArray, List.set_cons_zero, List.set_cons_succ]
          rfl
        refine rg_take (i := 3) (N := (some 77)) (v := ?_) (a' := ?_) #[true, true, false, true, false, false, false, false, false, false, false, false, false, false, false, false] rfl rfl (by kernel_rfl) (fun _ _ _ h => h) (by rfl) ?_ hHeld ?_ ?_
        rotate_left 2
        · rintro w' ⟨s0, s1, s2, s3, s4, s5, s6, s7, s8, s9⟩
          go_simp
          try with_reducible rfl
        · simp only [Act.put, List.setIfInBounds_toArray, List.set_cons_zero, List.set_cons_succ]
          rfl
        refine rg_take (i := 4) (N := (some 78)) (v := ?_) (a' := ?_) #[true, true, false, true, true, false, false, false, false, false, false, false, false, false, false, false] rfl rfl (by kernel_rfl) (fun _ _ _ h => h) (by rfl) ?_ hHeld ?_ ?_
        rotate_left 2
        · rintro w' ⟨s0, s1, s2, s3, s4, s5, s6, s7, s8, s9⟩
          go_simp
          try with_reducible rfl
        · simp only [Act.put, List.setIfInBounds_toArray, List.set_cons_zero, List.set_cons_succ]
          rfl
        refine rg_take (i := 5) (N := (some 79)) (v := ?_) (a' := ?_) #[true, true, false, true, true, true, false, false, false, false, false, false, false, false, false, false] rfl rfl (by kernel_rfl) (fun _ _ _ h => h) (by rfl) ?_ hHeld ?_ ?_
        rotate_left 2
        · rintro w' ⟨s0, s1, s2, s3, s4, s5, s6, s7, s8, s9⟩
          go_simp
          try with_reducible rfl
        · simp only [Act.put, List.setIfInBounds_toArray, List.set_cons_zero, List.set_cons_succ]
          rfl
        refine rg_one (i := 2) #[true, true, true, true, true, true, false, false, false, false, false, false, false, false, false, false] rfl (by kernel_rfl) (by rfl) (fun K hK => ?_)
        obtain ⟨s0, s1, s2, s3, s4, s5, s6, s7, s8, s9⟩ := hHeld
        repeat go_step
        ((with_reducible refine (HPL.out _ s8).mono ?_); rintro e w8 ⟨rfl, hb8⟩)
        try dsimp only
        refine hK.out _ _ ?_ (fun hHeld => ?_)
        · exact ⟨keep_cell hb8 s7 s0, keep_cell hb8 s7 s1, keep_cell hb8 s7 s2, keep_cell hb8 s7 s3, keep_cell hb8 s7 s4, keep_cell hb8 s7 s5, keep_cell hb8 s7 s6, keep_lt hb8 s7, below_next s8 hb8, s9.below hb8⟩
        clear hK K
        clear s0 s1 s2 s3 s4 s5 s6 s7 s8 s9
        refine rg_one (i := 6) #[true, true, true, true, true, true, true, false, false, false, false, false, false, false, false, false] rfl (by kernel_rfl) (by rfl) (fun K hK => ?_)
        obtain ⟨s0, s1, s2, s3, s4, s5, s6, s7, s8, s9⟩ := hHeld
        repeat go_step
        ((with_reducible refine (HPF.out _ _ _ s9).mono ?_); rintro e w9 ⟨rfl, hb9⟩)
        try dsimp only
        refine hK.out _ _ ?_ (fun hHeld => ?_)
        · exact ⟨keep_cell hb9 s7 s0, keep_cell hb9 s7 s1, keep_cell hb9 s7 s2, keep_cell hb9 s7 s3, keep_cell hb9 s7 s4, keep_cell hb9 s7 s5, keep_cell hb9 s7 s6, keep_lt hb9 s7, below_next s8 hb9, s9.below hb9⟩
        clear hK K
        clear s0 s1 s2 s3 s4 s5 s6 s7 s8 s9
        refine rg_take (i := 7) (N := (some 81)) (v := ?_) (a' := ?_) #[true, true, true, true, true, true, true, true, false, false, false, false, false, false, false, false] rfl rfl (by kernel_rfl) (fun _ _ _ h => h) (by rfl) ?_ hHeld ?_ ?_
        rotate_left 2
        · rintro w' ⟨s0, s1, s2, s3, s4, s5, s6, s7, s8, s9⟩
          go_simp
          try with_reducible rfl
        · simp only [Act.put, List.setIfInBounds_toArray, List.set_cons_zero, List.set_cons_succ]
          rfl
        refine rg_take (i := 8) (N := (some 82)) (v := ?_) (a' := ?_) #[true, true, true, true, true, true, true, true, true, false, false, false, false, false, false, false] rfl rfl (by kernel_rfl) (fun _ _ _ h => h) (by rfl) ?_ hHeld ?_ ?_
        rotate_left 2
        · rintro w' ⟨s0, s1, s2, s3, s4, s5, s6, s7, s8, s9⟩
          go_simp
          try with_reducible rfl
        · simp only [Act.put, List.setIfInBounds_toArray, List.set_cons_zero, List.set_cons_succ]
          rfl
        refine rg_take (i := 9) (N := (some 83)) (v := ?_) (a' := ?_) #[true, true, true, true, true, true, true, true, true, true, false, false, false, false, false, false] rfl rfl (by kernel_rfl) (fun _ _ _ h => h) (by rfl) ?_ hHeld ?_ ?_
        rotate_left 2
        · rintro w' ⟨s0, s1, s2, s3, s4, s5, s6, s7, s8, s9⟩
          go_simp
          try with_reducible rfl
        · simp only [Act.put, List.setIfInBounds_toArray, List.set_cons_zero, List.set_cons_succ]
          rfl
        refine rg_take (i := 11) (N := (some 85)) (v := ?_) (a' := ?_) #[true, true, true, true, true, true, true, true, true, true, false, true, false, false, false, false] rfl rfl (by kernel_rfl) (fun _ _ _ h => h) (by rfl) ?_ hHeld ?_ ?_
        rotate_left 2
        · rintro w' ⟨s0, s1, s2, s3, s4, s5, s6, s7, s8, s9⟩
          go_simp
          try with_reducible rfl
        · simp only [Act.put, List.setIfInBounds_toArray, List.set_cons_zero, List.set_cons_succ]
          rfl
        refine rg_one (i := 10) #[true, true, true, true, true, true, true, true, true, true, true, true, false, false, false, false] rfl (by kernel_rfl) (by rfl) (fun K hK => ?_)
        obtain ⟨s0, s1, s2, s3, s4, s5, s6, s7, s8, s9⟩ := hHeld
        repeat go_step
        ((with_reducible refine (HI1.out _ s8).mono ?_); rintro e w10 ⟨A10, c10, rfl, ho10, hb10⟩)
        try dsimp only
        refine hK.out _ _ ?_ (fun hHeld => ?_)
        · exact ⟨keep_cell hb10 s7 s0, keep_cell hb10 s7 s1, keep_cell hb10 s7 s2, keep_cell hb10 s7 s3, keep_cell hb10 s7 s4, keep_cell hb10 s7 s5, keep_cell hb10 s7 s6, keep_lt hb10 s7, below_next s8 hb10, s9.below hb10⟩
        clear hK K
        clear s0 s1 s2 s3 s4 s5 s6 s7 s8 s9
        refine rg_one (i := 12) #[true, true, true, true, true, true, true, true, true, true, true, true, true, false, false, false] rfl (by kernel_rfl) (by rfl) (fun K hK => ?_)
        obtain ⟨s0, s1, s2, s3, s4, s5, s6, s7, s8, s9⟩ := hHeld
        repeat go_step
        ((with_reducible refine (HI2.out _ _ _ s9).mono ?_); rintro e w11 ⟨A11, c11, rfl, ho11, hb11⟩)
        try dsimp only
        refine hK.out _ _ ?_ (fun hHeld => ?_)
        · exact ⟨keep_cell hb11 s7 s0, keep_cell hb11 s7 s1, keep_cell hb11 s7 s2, keep_cell hb11 s7 s3, keep_cell hb11 s7 s4, keep_cell hb11 s7 s5, keep_cell hb11 s7 s6, keep_lt hb11 s7, below_next s8 hb11, s9.below hb11⟩
        clear hK K
        clear s0 s1 s2 s3 s4 s5 s6 s7 s8 s9
        refine rg_one (i := 13) #[true, true, true, true, true, true, true, true, true, true, true, true, true, true, false, false] rfl (by kernel_rfl) (by rfl) (fun K hK => ?_)
        obtain ⟨s0, s1, s2, s3, s4, s5, s6, s7, s8, s9⟩ := hHeld
        repeat go_step
        ((first | (with_reducible refine (HS.out _ _ _ _ _ ((ho10.below hb11).elems Itm.clen) (ho11.elems Itm.clen)).mono ?_) | (with_reducible refine (HS.out _ _ _ _ _ (ho10.elems Itm.clen) ((ho11.below hb10).elems Itm.clen)).mono ?_)); rintro e w12 ⟨rfl, hb12⟩)
        try dsimp only
        refine hK.out _ _ ?_ (fun hHeld => ?_)
        · exact ⟨keep_cell hb12 s7 s0, keep_cell hb12 s7 s1, keep_cell hb12 s7 s2, keep_cell hb12 s7 s3, keep_cell hb12 s7 s4, keep_cell hb12 s7 s5, keep_cell hb12 s7 s6, keep_lt hb12 s7, below_next s8 hb12, s9.below hb12⟩
        clear hK K
        clear s0 s1 s2 s3 s4 s5 s6 s7 s8 s9
        refine rg_take (i := 14) (N := (some 88)) (v := ?_) (a' := ?_) #[true, true, true, true, true, true, true, true, true, true, true, true, true, true, true, false] rfl rfl (by kernel_rfl) (fun _ _ _ h => h) (by rfl) ?_ hHeld ?_ ?_
        rotate_left 2
        · rintro w' ⟨s0, s1, s2, s3, s4, s5, s6, s7, s8, s9⟩
          go_simp
          try with_reducible rfl
        · simp only [Act.put, List.setIfInBounds_toArray, List.set_cons_zero, List.set_cons_succ]
          rfl
        refine rg_take (i := 15) (N := (some 4)) (v := ?_) (a' := ?_) #[true, true, true, true, true, true, true, true, true, true, true, true, true, true, true, true] rfl rfl (by kernel_rfl) (fun _ _ _ h => h) (by rfl) ?_ hHeld ?_ ?_
        rotate_left 2
        · rintro w' ⟨s0, s1, s2, s3, s4, s5, s6, s7, s8, s9⟩
          go_simp
          try with_reducible rfl
        · simp only [Act.put, List.setIfInBounds_toArray, List.set_cons_zero, List.set_cons_succ]
          rfl
        refine rg_done (by kernel_rfl) ?_
        go_wp2
        go_ret
        exact ⟨rfl, hHeld.2.2.2.2.2.2.2.2.1⟩
end Go.Proofs.YtdfgdnaejnngoaaGreat
namespace Go.Proofs.YtdfgdnaejnngoaaGreat
open Go.ChangeShapes Go.WideShapes Go.ChangeAt Go.RowKit Go.Deep
/-! What comes in: rows. -/

theorem own : ownKnob Tryz.prog.godebug = none := by kernel_rfl
theorem laidOut : laidOutB Tryz.prog = true := by kernel_rfl
theorem add_none (b off n : Nat) : (⟨b, off, none⟩ : Addr).add n = ⟨b, off + n, none⟩ := by unfold Addr.add; split <;> simp_all
theorem cell_lt {w : World} {a : Addr} {v : Value} (h : w.cell? a = some v) : a.block < w.heap.size := by
  rcases Nat.lt_or_ge a.block w.heap.size with hl | hl
  · exact hl
  · exfalso
    rw [World.cell?] at h
    simp [Array.getElem?_eq_none hl] at h
theorem list_of {α : Type} {P : Nat → α → Prop} : ∀ n : Nat, (∀ i, i < n → ∃ a, P i a) → ∃ l : List α, l.length = n ∧ ∀ i a, l[i]? = some a → P i a
  | 0, _ => ⟨[], rfl, fun i a h => by simp at h⟩
  | n + 1, h => by
    obtain ⟨l, hl, hp⟩ := list_of n (fun i hi => h i (by omega))
    obtain ⟨a, ha⟩ := h n (by omega)
    refine ⟨l ++ [a], by simp [hl], fun i b hb => ?_⟩
    rcases Nat.lt_or_ge i l.length with hi | hi
    · rw [List.getElem?_append_left hi] at hb
      exact hp i b hb
    · rw [List.getElem?_append_right hi] at hb
      have e : i - l.length = 0 := by
        have := (List.getElem?_eq_some_iff.1 hb).1
        simp at this
        omega
      rw [e] at hb
      simp at hb
      subst hb
      obtain rfl : i = n := by omega
      exact ha
section
variable {H : Type} {enc : TypeId × Value → H} {w : World} {base : Nat} {sp : Nat → Bool} {held : Bool}
set_option maxRecDepth 100000 in
/-- an argument that is a row -/
theorem rows_in {α : Type} {T e : TypeId} {k : Nat} (f : α → List Value) (Q : α → Prop) (hs : Tryz.prog.underlying T = some (.slice e)) (hk : Tryz.prog.cellsOf e = k) (h0 : 0 < k) (hlen : ∀ a, (f a).length = k)
    (hread : ∀ (fuel : Nat) (cs : List Value) (x : DataW H × List MemPlace), DataW.trod enc Tryz.prog w base sp held fuel e cs = some x → ∃ a, cs = f a ∧ Q a)
    {r : Reach} {b0 : Nat} {v : Value} {d : DataW H} {p : List MemPlace} (hv : Value.okWide Tryz.prog w r b0 T v) (h : DataW.Trod enc Tryz.prog w base sp held T v d p) :
    ∃ (A : Option Addr) (cap : Nat) (l : List α), v = .slice A l.length cap ∧ Elems w A k (l.map f) ∧ ∀ a ∈ l, Q a := by
  obtain ⟨A, len, cap, rfl⟩ := okWide_slice hs hv
  obtain ⟨fuel, hf⟩ := h
  rcases open_slice hs hf with ⟨hc, _⟩ | ⟨ad, len', cap', m, n, D, Pl, hc, _, hlc, _, hm, _, hat⟩
  · simp [Value.cells] at hc
    obtain ⟨rfl, rfl, rfl⟩ := hc
    exact ⟨none, 0, [], rfl, Elems.nil _ _ _, by simp⟩
  · simp [Value.cells] at hc
    obtain ⟨rfl, rfl, rfl⟩ := hc
    have hle : len ≤ m := by rw [hm]; split <;> omega
    obtain ⟨l, hl, hp⟩ := list_of (P := fun i (a : α) => (∀ j u, (f a)[j]? = some u → w.cell? (ad.add (i * k + j)) = some u) ∧ Q a) len (fun i hi => by
      obtain ⟨cs, hcs, htr⟩ := hat i (by omega)
      obtain ⟨a, rfl, hq⟩ := hread n cs _ htr
      obtain ⟨_, hcl, hcell⟩ := World.cells?_some hcs
      refine ⟨a, fun j u hu => ?_, hq⟩
      have hj := (List.getElem?_eq_some_iff.1 hu).1
      have := hcell j (by rw [← hcl]; exact hj)
      rw [add_add, hk] at this
      rw [this, hu])
    refine ⟨some ad, cap, l, by rw [hl], ?_, fun a ha => ?_⟩
    · intro i r hr
      rw [List.getElem?_map, Option.map_eq_some_iff] at hr
      obtain ⟨a, ha, rfl⟩ := hr
      have hi := (hp i a ha).1
      have hz := hi 0 _ (List.getElem?_eq_getElem (by rw [hlen]; exact h0))
      have hl0 : 0 < l.length := by have := (List.getElem?_eq_some_iff.1 ha).1; omega
      have hz0 := (hp 0 l[0] (List.getElem?_eq_getElem hl0)).1 0 _ (List.getElem?_eq_getElem (by rw [hlen]; exact h0))
      have hsp : ad.spot = none := by simpa [Addr.add] using World.cell?_spot hz0
      obtain ⟨b, off, spot⟩ := ad
      obtain rfl : spot = none := hsp
      refine ⟨b, off, rfl, ?_, fun j u hu => ?_⟩
      · have := cell_lt hz
        rw [add_none] at this
        exact this
      · have := hi j u hu
        rw [add_none, ← Nat.add_assoc] at this
        exact this
    · obtain ⟨i, hi⟩ := List.getElem?_of_mem ha
      exact (hp i a hi).2
end
end Go.Proofs.YtdfgdnaejnngoaaGreat
namespace Go.Proofs.YtdfgdnaejnngoaaGreat
open Go.ChangeShapes Go.WideShapes Go.ChangeAt Go.RowKit Go.Deep
/-! What comes in: orders. -/
def Ord.fits (o : Ord) : Prop := 0 ≤ o.n ∧ o.n.toNat < 18446744073709551616
theorem list_six {α : Type} {l : List α} (h : l.length = 6) : ∃ a b c d e f, l = [a, b, c, d, e, f] := by
  match l, h with
  | [a, b, c, d, e, f], _ => exact ⟨a, b, c, d, e, f, rfl⟩
theorem fits_of {n : Int} (h : (Lit.int .u64 n).wf = true) : 0 ≤ n ∧ n.toNat < 18446744073709551616 := by
  simp [Lit.wf, IntKind.min, IntKind.max, IntKind.signed, IntKind.bits] at h
  omega
theorem ord_type : ∃ fs : Array Field, Tryz.prog.underlying 39 = some (.struct fs) ∧ oneCellFields Tryz.prog fs = true ∧ fs.size = 6 ∧ fs[0]?.map (·.type) = some 3 ∧ fs[1]?.map (·.type) = some 9 ∧ fs[2]?.map (·.type) = some 9 ∧ fs[3]?.map (·.type) = some 37 ∧ fs[4]?.map (·.type) = some 9 ∧ fs[5]?.map (·.type) = some 9 :=
  ⟨_, Tryz.underlying39, by kernel_rfl, by kernel_rfl, by kernel_rfl, by kernel_rfl, by kernel_rfl, by kernel_rfl, by kernel_rfl, by kernel_rfl⟩
theorem ord_cells_of : Tryz.prog.cellsOf 39 = 6 := by kernel_rfl
section
variable {H : Type} {enc : TypeId × Value → H} {w : World} {base : Nat} {sp : Nat → Bool} {held : Bool}
/-- cells that read as an order are an order's -/
theorem ord_cells {fuel : Nat} {cs : List Value} {x : DataW H × List MemPlace} (h : DataW.trod enc Tryz.prog w base sp held fuel 39 cs = some x) : ∃ o : Ord, cs = o.cells ∧ o.fits := by
  obtain ⟨fs, hs, hone, hsz, t0, t1, t2, t3, t4, t5⟩ := ord_type
  obtain ⟨xs, n, _, _, hl, hx, hf⟩ := DataW.trod_struct hs h
  obtain ⟨c0, c1, c2, c3, c4, c5, rfl⟩ := list_six (hl.trans ord_cells_of)
  obtain ⟨x0, x1, x2, x3, x4, x5, rfl⟩ := list_six (hx.trans hsz)
  obtain ⟨g0, m0, u0⟩ := Option.map_eq_some_iff.1 t0
  obtain ⟨o0, k0⟩ := hone_of hone 0 g0 m0
  have f0 := hf 0 g0 m0
  rw [o0, k0, u0] at f0
  have f0 : DataW.trod enc Tryz.prog w base sp held n 3 [c0] = some x0 := f0
  obtain ⟨g1, m1, u1⟩ := Option.map_eq_some_iff.1 t1
  obtain ⟨o1, k1⟩ := hone_of hone 1 g1 m1
  have f1 := hf 1 g1 m1
  rw [o1, k1, u1] at f1
  have f1 : DataW.trod enc Tryz.prog w base sp held n 9 [c1] = some x1 := f1
  obtain ⟨g2, m2, u2⟩ := Option.map_eq_some_iff.1 t2
  obtain ⟨o2, k2⟩ := hone_of hone 2 g2 m2
  have f2 := hf 2 g2 m2
  rw [o2, k2, u2] at f2
  have f2 : DataW.trod enc Tryz.prog w base sp held n 9 [c2] = some x2 := f2
  obtain ⟨g3, m3, u3⟩ := Option.map_eq_some_iff.1 t3
  obtain ⟨o3, k3⟩ := hone_of hone 3 g3 m3
  have f3 := hf 3 g3 m3
  rw [o3, k3, u3] at f3
  have f3 : DataW.trod enc Tryz.prog w base sp held n 37 [c3] = some x3 := f3
  obtain ⟨g4, m4, u4⟩ := Option.map_eq_some_iff.1 t4
  obtain ⟨o4, k4⟩ := hone_of hone 4 g4 m4
  have f4 := hf 4 g4 m4
  rw [o4, k4, u4] at f4
  have f4 : DataW.trod enc Tryz.prog w base sp held n 9 [c4] = some x4 := f4
  obtain ⟨g5, m5, u5⟩ := Option.map_eq_some_iff.1 t5
  obtain ⟨o5, k5⟩ := hone_of hone 5 g5 m5
  have f5 := hf 5 g5 m5
  rw [o5, k5, u5] at f5
  have f5 : DataW.trod enc Tryz.prog w base sp held n 9 [c5] = some x5 := f5
  obtain ⟨k, h0, _, _⟩ := DataW.trod_int Tryz.underlying3 f0
  obtain ⟨s1, h1, _, _⟩ := DataW.trod_string Tryz.underlying9 f1
  obtain ⟨s2, h2, _, _⟩ := DataW.trod_string Tryz.underlying9 f2
  obtain ⟨n3, h3, _, hw⟩ := DataW.trod_int Tryz.underlying37 f3
  obtain ⟨s4, h4, _, _⟩ := DataW.trod_string Tryz.underlying9 f4
  obtain ⟨s5, h5, _, _⟩ := DataW.trod_string Tryz.underlying9 f5
  simp only [List.cons.injEq, and_true] at h0 h1 h2 h3 h4 h5
  subst h0 h1 h2 h3 h4 h5
  exact ⟨⟨k, s1, s2, n3, s4, s5⟩, by rw [Ord.cells_def], fits_of hw⟩
set_option maxRecDepth 100000 in
/-- an argument that is an order -/
theorem ord_in {r : Reach} {b0 : Nat} {v : Value} {d : DataW H} {p : List MemPlace} (hv : Value.okWide Tryz.prog w r b0 39 v) (h : DataW.Trod enc Tryz.prog w base sp held 39 v d p) : ∃ o : Ord, v = o.v ∧ o.fits := by
  obtain ⟨fs, hs, _⟩ := ord_type
  obtain ⟨cs, rfl, _⟩ := okWide_struct hs hv
  obtain ⟨fuel, hf⟩ := h
  obtain ⟨o, ho, hfit⟩ := ord_cells hf
  refine ⟨o, ?_, hfit⟩
  simp only [Value.cells] at ho
  obtain ⟨l⟩ := cs
  simp only at ho
  rw [ho, Ord.cells_def, Ord.v_def]
set_option maxRecDepth 100000 in
theorem ords_in {r : Reach} {b0 : Nat} {v : Value} {d : DataW H} {p : List MemPlace} (hv : Value.okWide Tryz.prog w r b0 47 v) (h : DataW.Trod enc Tryz.prog w base sp held 47 v d p) :
    ∃ (A : Option Addr) (cap : Nat) (l : List Ord), v = .slice A l.length cap ∧ Elems w A 6 (l.map Ord.cells) ∧ ∀ o ∈ l, o.fits :=
  rows_in Ord.cells Ord.fits Tryz.underlying47 (by kernel_rfl) (by decide) (fun _ => rfl) (fun _ _ _ h => ord_cells h) hv h
end
end Go.Proofs.YtdfgdnaejnngoaaGreat
