import Derived.Test.YtdfgdnaejnngoaaGreatJx8
import Derived.Test.YtdfgdnaejnngoaaGreatJx3
import Derived.Laws.BytesArg
import Derived.Laws.MakeOwn
import Derived.Test.YtdfgdnaejnngoaaGreatJx5
set_option linter.unusedVariables false
set_option linter.unusedSimpArgs false
namespace Go.Proofs.YtdfgdnaejnngoaaGreat
open Go.RowKit
/-! grangerref09.Same; grangerlaw33.great, awake. -/
theorem neq_itm (a b : Itm) (w : World) : (binOp .neq 41 a.v b.v).run Tryz.prog w = .ok (.bool (!decide (a = b))) w := by
  have u9 := Tryz.underlying9
  have a9 := Tryz.isAgg9
  have z9 := Tryz.sizeOf9
  have hS : Tryz.prog.underlying 41 = some (.struct (Tryz.prog.fieldsOf 41)) := by kernel_rfl
  have hp : Tryz.prog.stoodInHeld 41 = false := by kernel_rfl
  rw [Itm.v_def, Itm.v_def]
  rw [run_neq_struct, show (10000 : Nat) = 9999 + 1 from rfl, run_equalIn_agg w 9999 41 _ _ hS hp]
  simp only [Program.fieldsOf, Tryz.underlying41]
  go_simp
  obtain ⟨key, val⟩ := a
  obtain ⟨key', val'⟩ := b
  by_cases h2 : key = key' <;> by_cases h3 : val = val' <;> simp [h2, h3, bytes_inj]
set_option maxHeartbeats 1000000 in
set_option maxRecDepth 100000 in
theorem refSame_any (A B : Option Addr) (ca cb : Nat) (la lb : List Itm) (w : World) (ha : Elems w A 2 (la.map Itm.cells)) (hb : Elems w B 2 (lb.map Itm.cells)) (hl : la.length ≤ 80000) (hl2 : lb.length ≤ 80000) :
    Calls Tryz.prog 28 #[.slice A la.length ca, .slice B lb.length cb] w fun e w' => e = .returned (.bool (decide (la = lb))) ∧ Below w.heap.size w w' := by
  by_cases hn : la.length = lb.length
  · have HA := Lib.hid ha
    have HB := Lib.hid hb
    have hq := fun a b W => neq_itm a b W
    simp only [Itm.v_def] at hq
    have HQ := Lib.hid hq
    have hgu : Tryz.prog.eqGuardType Tryz.prog.depth 41 = false := by kernel_rfl
    obtain ⟨R, hR⟩ : ∃ R, decide (la = lb) = R := ⟨_, rfl⟩
    rw [hR]
    have HR := Lib.hid hR
    have HN := Lib.hid hn
    rw [← hn]
    clear hq ha hb hR hl2 hn
    go_enter Tryz.func28, Tryz.ntmps28
    go_wp2
    go_loopw [5] (fun i wr => ∃ k : Nat, i = .int .i64 k ∧ k ≤ la.length ∧ la.take k = lb.take k ∧ Below w.heap.size w wr) (fun i _ => la.length + 1 - (intOf i).toNat)
    case atStart => exact ⟨0, rfl, Nat.zero_le _, rfl, (by repeat (first | assumption | exact Below.refl _ _ | (refine below_step (w := ?_) ?_ ?_ ?_; rotate_left 2; assumption) | refine Below.drew ?_ | refine below_drewN ?_ _ | refine Below.alloc ?_ ?_ _ | refine Below.setCell ?_ ?_ _ | (focus (simp; done)) | (focus (simp; omega)) | omega))⟩
    case round =>
      obtain ⟨k, rfl, hk, htk, hbel⟩ := hrel
      by_cases hkl : k < la.length
      · have hkI : (k : Int) < (la.length : Int) := by omega
        obtain ⟨y, hy⟩ := get_lt hkl
        obtain ⟨z, hz⟩ := get_lt (l := lb) (i := k) (by have := HN.out; omega)
        obtain ⟨b1, o1, rfl, hlt1, d0, d1⟩ := itm_rowR (HA.out.below hbel) hy
        obtain ⟨b2, o2, rfl, hlt2, e0, e1⟩ := itm_rowR (HB.out.below hbel) hz
        have hqq := fun W => HQ.out y z W
        have htk2 : la.take (k + 1) = lb.take (k + 1) ↔ y = z := by
          rw [take_snocR hy, take_snocR hz, htk]
          simp
        have hne : y ≠ z → la ≠ lb := fun h e => by
          subst e
          rw [hy] at hz
          cases hz
          exact h rfl
        have HTK := Lib.hid htk2
        have HNE := Lib.hid hne
        have HBL := Lib.hid hbel
        clear htk htk2 hne hbel hy hz
        obtain ⟨yk, yv⟩ := y
        obtain ⟨zk, zv⟩ := z
        dsimp only at d0 d1 e0 e1 hqq
        by_cases hyz : (⟨yk, yv⟩ : Itm) = ⟨zk, zv⟩
        · have hyz' := hyz
          simp only [Itm.mk.injEq] at hyz'
          obtain ⟨rfl, rfl⟩ := hyz'
          simp only [decide_true, Bool.not_true] at hqq
          have HT2 := Lib.hid (HTK.out.2 rfl)
          clear hyz HTK HNE
          go_wp2
          go_quiet (fail)
          go_wp2
          refine ⟨⟨k + 1, by go_num, by omega, HT2.out, below_drewN HBL.out _⟩, ?_⟩
          simp [intOf]
          omega
        · rw [decide_eq_false hyz] at hqq
          simp only [Bool.not_false] at hqq
          have hRf : R = false := by rw [← HR.out]; exact decide_eq_false (HNE.out hyz)
          subst hRf
          clear hyz HTK HNE
          go_wp2
          go_quiet (fail)
          go_wp2
          go_ret
          exact ⟨rfl, below_drewN HBL.out _⟩
      · obtain rfl : k = la.length := by omega
        have hRt : R = true := by
          rw [← HR.out]
          rw [List.take_length, HN.out, List.take_length] at htk
          exact decide_eq_true htk
        subst hRt
        have HBL := Lib.hid hbel
        clear htk hbel
        go_wp2
        go_ret
        exact ⟨rfl, HBL.out⟩
  · have hne : la ≠ lb := fun e => hn (by rw [e])
    have hni : ((la.length : Int) != (lb.length : Int)) = true := by simp; omega
    rw [decide_eq_false hne]
    clear ha hb hne hn
    go_enter Tryz.func28, Tryz.ntmps28
    go_wp2
    go_ret
    exact ⟨rfl, (by repeat (first | assumption | exact Below.refl _ _ | (refine below_step (w := ?_) ?_ ?_ ?_; rotate_left 2; assumption) | refine Below.drew ?_ | refine below_drewN ?_ _ | refine Below.alloc ?_ ?_ _ | refine Below.setCell ?_ ?_ _ | (focus (simp; done)) | (focus (simp; omega)) | omega))⟩
end Go.Proofs.YtdfgdnaejnngoaaGreat
namespace Go.Proofs.YtdfgdnaejnngoaaGreat
open Go.RowKit
/-! model.Late, Items, Weight; capa.Weight; grangerlaw26.long, begun. -/
set_option maxRecDepth 100000 in
theorem late_any (bm g : Nat) (N : Int) (ls : List (List Itm)) (w : World) (h : ModelAt w bm g N ls) (hn : ls.length ≤ 100000) : Calls Tryz.prog 13 #[.pointer (some ⟨bm, 0, none⟩)] w fun e w' => e = .returned (.int .i64 ((ls.length : Int) - 1)) ∧ Below w.heap.size w w' := by
  obtain ⟨l, hl⟩ := get_lt (l := ls) (i := ls.length - 1) (by have := h.pos; omega)
  obtain ⟨off, n, cap, p, A, c, c7, hn1, _⟩ := h.last hl
  have e1 : (ls.length : Int) - 1 = (n : Int) := by omega
  have hw1 : wrap64 (n : Int) = (n : Int) := by unfold wrap64; omega
  rw [e1]
  clear h hl hn1 e1
  go_enter Tryz.func13, Tryz.ntmps13
  go_wp2
  go_ret
  exact ⟨by first | rfl | (rw [hw1]; rfl), (by repeat (first | assumption | exact Below.refl _ _ | (refine below_step (w := ?_) ?_ ?_ ?_; rotate_left 2; assumption) | refine Below.drew ?_ | refine below_drewN ?_ _ | refine Below.alloc ?_ ?_ _ | refine Below.setCell ?_ ?_ _ | (focus (simp; done)) | (focus (simp; omega)) | omega))⟩
set_option maxRecDepth 100000 in
theorem mitems_any (bm g : Nat) (N : Int) (ls : List (List Itm)) (l : List Itm) (w : World) (h : ModelAt w bm g N ls) (hl : ls[ls.length - 1]? = some l) (hn : ls.length ≤ 100000) (hln : l.length ≤ 90000) : Calls Tryz.prog 15 #[.pointer (some ⟨bm, 0, none⟩)] w
    fun e w' => ∃ A c, e = .returned (.slice A l.length c) ∧ OwnsM w' w.heap.size (.slice A l.length c) l ∧ Below w.heap.size w w' := by
  have hnow := now_any bm g N ls l w h hl hn
  have hit := fun p A c W (h : LeafAt W p A c l) => items_any p c A l W h hln
  have HN := Lib.hid hnow
  have HI := Lib.hid hit
  clear hnow h hl hit
  go_enter Tryz.func15, Tryz.ntmps15
  go_wp2_with (first
    | (go_at_call 48; (with_reducible refine HN.out.mono ?_); rintro e w1 ⟨p1, A1, c1, rfl, hla1, hb1⟩; have HL1 := Lib.hid hla1; have HB1 := Lib.hid hb1; clear hla1 hb1)
    | (go_at_call 54; (with_reducible refine (HI.out _ _ _ _ HL1.out).mono ?_); rintro e w2 ⟨A2, c2, rfl, ho2, hb2⟩; have HO2 := Lib.hid ho2; have HB2 := Lib.hid hb2; clear ho2 hb2))
  go_ret
  exact ⟨A2, c2, rfl, HO2.out.base HB1.out.size, below_next HB1.out HB2.out⟩
set_option maxRecDepth 100000 in
theorem mweight_any (bm g : Nat) (N : Int) (ls : List (List Itm)) (l : List Itm) (w : World) (h : ModelAt w bm g N ls) (hl : ls[ls.length - 1]? = some l) (hn : ls.length ≤ 100000) : Calls Tryz.prog 17 #[.pointer (some ⟨bm, 0, none⟩)] w
    fun e w' => e = .returned (.int .i64 (sumW l)) ∧ Below w.heap.size w w' := by
  have hnow := now_any bm g N ls l w h hl hn
  have hit := fun p A c W (h : LeafAt W p A c l) => leafWeight_any p c A l W h
  generalize sumW l = S at *
  have HN := Lib.hid hnow
  have HI := Lib.hid hit
  clear hnow h hl hit
  go_enter Tryz.func17, Tryz.ntmps17
  go_wp2_with (first
    | (go_at_call 48; (with_reducible refine HN.out.mono ?_); rintro e w1 ⟨p1, A1, c1, rfl, hla1, hb1⟩; have HL1 := Lib.hid hla1; have HB1 := Lib.hid hb1; clear hla1 hb1)
    | (go_at_call 50; (with_reducible refine (HI.out _ _ _ _ HL1.out).mono ?_); rintro e w2 ⟨rfl, hb2⟩; have HB2 := Lib.hid hb2; clear hb2))
  go_ret
  exact ⟨rfl, below_next HB1.out HB2.out⟩
theorem late_nil (w : World) : Calls Tryz.prog 13 #[.pointer none] w fun e w' => e = .returned (.int .i64 0) ∧ Below w.heap.size w w' := by
  go_enter Tryz.func13, Tryz.ntmps13
  go_wp2
  go_ret
  exact ⟨rfl, (by repeat (first | assumption | exact Below.refl _ _ | (refine below_step (w := ?_) ?_ ?_ ?_; rotate_left 2; assumption) | refine Below.drew ?_ | refine below_drewN ?_ _ | refine Below.alloc ?_ ?_ _ | refine Below.setCell ?_ ?_ _ | (focus (simp; done)) | (focus (simp; omega)) | omega))⟩
theorem mweight_nil (w : World) : Calls Tryz.prog 17 #[.pointer none] w fun e w' => e = .returned (.int .i64 0) ∧ Below w.heap.size w w' := by
  go_enter Tryz.func17, Tryz.ntmps17
  go_wp2
  go_ret
  exact ⟨rfl, (by repeat (first | assumption | exact Below.refl _ _ | (refine below_step (w := ?_) ?_ ?_ ?_; rotate_left 2; assumption) | refine Below.drew ?_ | refine below_drewN ?_ _ | refine Below.alloc ?_ ?_ _ | refine Below.setCell ?_ ?_ _ | (focus (simp; done)) | (focus (simp; omega)) | omega))⟩
theorem mitems_nil (w : World) : Calls Tryz.prog 15 #[.pointer none] w fun e w' => e = .returned (.slice none 0 0) ∧ Below w.heap.size w w' := by
  go_enter Tryz.func15, Tryz.ntmps15
  go_wp2
  go_ret
  exact ⟨rfl, (by repeat (first | assumption | exact Below.refl _ _ | (refine below_step (w := ?_) ?_ ?_ ?_; rotate_left 2; assumption) | refine Below.drew ?_ | refine below_drewN ?_ _ | refine Below.alloc ?_ ?_ _ | refine Below.setCell ?_ ?_ _ | (focus (simp; done)) | (focus (simp; omega)) | omega))⟩
set_option maxHeartbeats 1000000 in
set_option maxRecDepth 100000 in
theorem capaSum_any (A : Option Addr) (cap : Nat) (l : List Itm) (w : World) (hel : Elems w A 2 (l.map Itm.cells)) (ho : ∀ x ∈ l, x.ok) (hl : l.length ≤ 80000) :
    Calls Tryz.prog 55 #[.slice A l.length cap, .func (.func 56) #[] #[]] w fun e w' => e = .returned (.int .i64 (sumW l)) ∧ Below w.heap.size w w' := by
  have HEL := Lib.hid hel
  have HO := Lib.hid ho
  clear hel ho
  go_enter Tryz.func55, Tryz.ntmps55
  go_wp2
  go_loopw [10, 5, 7] (fun i s _ wr => ∃ k : Nat, i = .int .i64 k ∧ k ≤ l.length ∧ s = .int .i64 (sumW (l.take k)) ∧ Below w.heap.size w wr) (fun i _ _ _ => l.length + 1 - (intOf i).toNat)
  case atStart => exact ⟨0, rfl, Nat.zero_le _, rfl, (by repeat (first | assumption | exact Below.refl _ _ | (refine below_step (w := ?_) ?_ ?_ ?_; rotate_left 2; assumption) | refine Below.drew ?_ | refine below_drewN ?_ _ | refine Below.alloc ?_ ?_ _ | refine Below.setCell ?_ ?_ _ | (focus (simp; done)) | (focus (simp; omega)) | omega))⟩
  case round =>
    obtain ⟨k, rfl, hk, rfl, hbel⟩ := hrel
    by_cases hkl : k < l.length
    · have hkI : (k : Int) < (l.length : Int) := by omega
      obtain ⟨x, hx⟩ := get_lt hkl
      obtain ⟨b, off, rfl, hlt, d0, d1⟩ := itm_rowR (HEL.out.below hbel) hx
      have hxo := HO.out x (List.mem_of_getElem? hx)
      obtain ⟨x0, x1, x2, x3⟩ := itW_ok hxo
      have hkw := fun W => keyWeight_any x W (by omega) (by omega)
      have hs := sumW_range (l.take k) (fun y hy => HO.out y (List.mem_of_mem_take hy))
      have htl : (l.take k).length ≤ 80000 := by rw [List.length_take]; omega
      have hst := sumW_take l k x hx
      rw [Itm.v_def] at hkw
      have HKW := Lib.hid hkw
      have HST := Lib.hid hst
      have HB := Lib.hid hbel
      obtain ⟨xk, xv⟩ := x
      dsimp only at d0 d1 HKW HST
      generalize itW ⟨xk, xv⟩ = iw at *
      generalize sumW (l.take k) = sw at *
      have hw1 : wrap64 (sw + iw) = sw + iw := by unfold wrap64; omega
      clear hst hbel hx hxo hs htl hkw x0 x1 x2 x3
      go_wp2_with (go_at_call 56; (with_reducible refine (HKW.out _).mono ?_); rintro e w1 ⟨rfl, hb1⟩; have HB1 := Lib.hid (below_next (below_alloc HB.out) hb1); clear hb1)
      refine ⟨⟨k + 1, by go_num, by omega, by rw [HST.out, hw1], HB1.out⟩, ?_⟩
      simp [intOf]
      omega
    · obtain rfl : k = l.length := by omega
      rw [List.take_length]
      have HB := Lib.hid hbel
      clear hbel
      go_wp2
      go_ret
      exact ⟨rfl, HB.out⟩
theorem capaWeight_any (A : Option Addr) (cap : Nat) (l : List Itm) (w : World) (hel : Elems w A 2 (l.map Itm.cells)) (ho : ∀ x ∈ l, x.ok) (hl : l.length ≤ 80000) :
    Calls Tryz.prog 18 #[.slice A l.length cap] w fun e w' => e = .returned (.int .i64 (sumW l)) ∧ Below w.heap.size w w' := by
  have hs := fun W (hW : Below w.heap.size w W) => capaSum_any A cap l W (hel.below hW) ho hl
  generalize sumW l = S at *
  have HS := Lib.hid hs
  clear hel ho hs
  go_enter Tryz.func18, Tryz.ntmps18
  go_wp2_with (go_at_call 55; (with_reducible refine (HS.out _ (Below.refl _ w)).mono ?_); rintro e w1 ⟨rfl, hb1⟩)
  go_ret
  exact ⟨rfl, by assumption⟩
def longB (o : Ord) : Bool := decide (512 < (o.key.size : Int)) || decide (512 < (o.val.size : Int)) || decide (512 < (o.lo.size : Int)) || decide (512 < (o.hi.size : Int))
set_option maxRecDepth 100000 in
theorem long_any (o : Ord) (w : World) : Calls Tryz.prog 16 #[o.v] w fun e w' => e = .returned (.bool (longB o)) ∧ Below w.heap.size w w' := by
  unfold longB
  rw [Ord.v_def]
  obtain ⟨kind, key, val, n, lo, hi⟩ := o
  dsimp only
  by_cases h1 : (512 : Int) < (key.size : Int)
  · rw [decide_eq_true h1]
    go_enter Tryz.func16, Tryz.ntmps16
    go_wp2
    go_ret
    exact ⟨by simp, (by repeat (first | assumption | exact Below.refl _ _ | (refine below_step (w := ?_) ?_ ?_ ?_; rotate_left 2; assumption) | refine Below.drew ?_ | refine below_drewN ?_ _ | refine Below.alloc ?_ ?_ _ | refine Below.setCell ?_ ?_ _ | (focus (simp; done)) | (focus (simp; omega)) | omega))⟩
  by_cases h2 : (512 : Int) < (val.size : Int)
  · rw [decide_eq_true h2]
    go_enter Tryz.func16, Tryz.ntmps16
    go_wp2
    go_ret
    exact ⟨by simp, (by repeat (first | assumption | exact Below.refl _ _ | (refine below_step (w := ?_) ?_ ?_ ?_; rotate_left 2; assumption) | refine Below.drew ?_ | refine below_drewN ?_ _ | refine Below.alloc ?_ ?_ _ | refine Below.setCell ?_ ?_ _ | (focus (simp; done)) | (focus (simp; omega)) | omega))⟩
  by_cases h3 : (512 : Int) < (lo.size : Int)
  · rw [decide_eq_true h3]
    go_enter Tryz.func16, Tryz.ntmps16
    go_wp2
    go_ret
    exact ⟨by simp, (by repeat (first | assumption | exact Below.refl _ _ | (refine below_step (w := ?_) ?_ ?_ ?_; rotate_left 2; assumption) | refine Below.drew ?_ | refine below_drewN ?_ _ | refine Below.alloc ?_ ?_ _ | refine Below.setCell ?_ ?_ _ | (focus (simp; done)) | (focus (simp; omega)) | omega))⟩
  rw [decide_eq_false h1, decide_eq_false h2, decide_eq_false h3]
  go_enter Tryz.func16, Tryz.ntmps16
  go_wp2
  go_ret
  exact ⟨by simp, (by repeat (first | assumption | exact Below.refl _ _ | (refine below_step (w := ?_) ?_ ?_ ?_; rotate_left 2; assumption) | refine Below.drew ?_ | refine below_drewN ?_ _ | refine Below.alloc ?_ ?_ _ | refine Below.setCell ?_ ?_ _ | (focus (simp; done)) | (focus (simp; omega)) | omega))⟩
end Go.Proofs.YtdfgdnaejnngoaaGreat
namespace Go.Proofs.YtdfgdnaejnngoaaGreat
open Go.RowKit

theorem conv_one (W : World) (x : Int) : (convert 30 9 (.slice (some ⟨W.heap.size, 0, none⟩) 1 1)).run Tryz.prog (W.alloc (.cells #[.int .u8 x] 5)) = .ok (.string ⟨#[UInt8.ofNat x.toNat]⟩) (W.alloc (.cells #[.int .u8 x] 5)) :=
  run_convert_bytes_arg _ 30 5 Tryz.underlying30 Tryz.underlying5 W.heap.size 0 1 1 [x] rfl (fun i hi => by
    have : i = 0 := by omega
    subst this
    rw [Lib.cell_of_heap (heap_alloc_new W _)]; rfl) 9 Tryz.underlying9
theorem conv_at (W : World) (b c : Nat) (bs : List UInt8) (h : ∀ j x, bs[j]? = some x → W.cell? ⟨b, j, none⟩ = some (.int .u8 (x.toNat : Int))) : (convert 30 9 (.slice (some ⟨b, 0, none⟩) bs.length c)).run Tryz.prog W = .ok (.string ⟨bs.toArray⟩) W := by
  have := run_convert_bytes_arg (P := Tryz.prog) W 30 5 Tryz.underlying30 Tryz.underlying5 b 0 bs.length c (bs.map fun x => (x.toNat : Int)) (by simp) (fun i hi => by
    rw [Nat.zero_add, h i bs[i] (List.getElem?_eq_getElem hi)]
    simp [List.getD, hi]) 9 Tryz.underlying9
  rw [this]
  have e : strOfNums (bs.map fun x => (x.toNat : Int)) = ⟨bs.toArray⟩ := by
    simp [strOfNums, Function.comp_def]
  rw [e]

theorem A_infob : (Tryz.prog.info? 5).map (fun i => (i.zero, i.size, i.bytes)) = some (some (.int .u8 0), 1, 1) := by kernel_rfl
theorem make8 (W : World) : (Instr.makeSlice 30 (.int .i64 8) (.int .i64 8)).run Tryz.prog W = .ok (.slice (some ⟨W.heap.size, 0, none⟩) 8 8) (W.alloc (.cells #[.int .u8 0, .int .u8 0, .int .u8 0, .int .u8 0, .int .u8 0, .int .u8 0, .int .u8 0, .int .u8 0] 5)) := by
  obtain ⟨i0, hi0, hz0, hz1, hz2⟩ := info_parts A_infob
  have h := run_makeSlice (P := Tryz.prog) W 30 5 i0 _ Tryz.underlying30 hi0 hz0 .i64 .i64 8 8 (by omega) (by omega) (by rw [hz1]; decide) (by rw [hz2]; decide) (by omega)
  rw [h, hz1]
  have e : madeCells (Value.int .u8 0).cells (Int.toNat 8 * 1) = #[.int .u8 0, .int .u8 0, .int .u8 0, .int .u8 0, .int .u8 0, .int .u8 0, .int .u8 0, .int .u8 0] := by kernel_rfl
  rw [e]
  rfl

theorem byte_at {t : ByteArray} {k : Nat} (h : k < t.size) {x : UInt8} (hx : t.data.toList[k]? = some x) : t[k] = x := by
  have hk := (List.getElem?_eq_some_iff.1 hx).2
  rw [← hk]
  rfl
theorem ofNat_mod {a b : Nat} (h : a % 256 = b % 256) : UInt8.ofNat a = UInt8.ofNat b := by
  apply UInt8.toNat_inj.1
  simp [UInt8.toNat_ofNat', h]
theorem numBytes_mod (wd n : Nat) : numBytes wd n = (List.range wd).reverse.map fun i => UInt8.ofNat (n / 256 ^ i % 256) := by
  unfold numBytes
  refine List.map_congr_left (fun i _ => ofNat_mod (by omega))
theorem valBytes_eight (n : Nat) : valBytes n = numBytes 8 n := by
  have h4 : ∀ i, i < 4 → n % 4294967296 / 256 ^ i % 256 = n / 256 ^ i % 256 := by
    intro i hi
    rcases i with _ | _ | _ | _ | i
    all_goals try simp only [Nat.zero_add, Nat.reduceAdd, Nat.reducePow]
    all_goals omega
  have h8 : ∀ i, i < 4 → n / 4294967296 / 256 ^ i % 256 = n / 256 ^ (i + 4) % 256 := by
    intro i hi
    rcases i with _ | _ | _ | _ | i
    all_goals try simp only [Nat.zero_add, Nat.reduceAdd, Nat.reducePow]
    all_goals omega
  unfold valBytes
  rw [numBytes_mod, numBytes_mod, numBytes_mod]
  have e4 : (List.range 4).reverse = [3, 2, 1, 0] := by decide
  have e8 : (List.range 8).reverse = [7, 6, 5, 4, 3, 2, 1, 0] := by decide
  rw [e4, e8]
  simp only [List.map_cons, List.map_nil, List.cons_append, List.nil_append]
  rw [h4 3 (by omega), h4 2 (by omega), h4 1 (by omega), h4 0 (by omega), h8 3 (by omega), h8 2 (by omega), h8 1 (by omega), h8 0 (by omega)]
def u8v (x : UInt8) : Value := .int .u8 (x.toNat : Int)
def vrow (n m : Nat) : List Value := List.replicate m (.int .u8 0) ++ (numBytes (8 - m) n).map u8v
theorem vrow_at (n j : Nat) : (vrow n (j + 1))[j]? = some (.int .u8 0) := by
  unfold vrow
  rw [List.getElem?_append_left (by simp)]
  simp
theorem vrow_set (n j : Nat) (hj : j < 8) : (vrow n (j + 1)).set j (.int .u8 ((n / 256 ^ (7 - j) % 256 : Nat) : Int)) = vrow n j := by
  unfold vrow
  have e : 8 - j = (7 - j) + 1 := by omega
  rw [show 8 - (j + 1) = 7 - j by omega, e, numBytes_succ, List.map_cons, List.set_append_left _ _ (by simp)]
  have h2 : (List.replicate (j + 1) (Value.int .u8 0)).set j (.int .u8 ((n / 256 ^ (7 - j) % 256 : Nat) : Int)) = List.replicate j (Value.int .u8 0) ++ [.int .u8 ((n / 256 ^ (7 - j) % 256 : Nat) : Int)] := by
    rw [List.replicate_succ', List.set_append_right _ _ (by simp)]
    simp
  rw [h2, List.append_assoc, List.singleton_append]
  simp [u8v, UInt8.toNat_ofNat']
/-- eight bytes in block b, the last ones set -/
def VAt (w : World) (b n m : Nat) : Prop := w.heap[b]? = some (.cells (vrow n m).toArray 5 (0, 0))
theorem VAt.cell {w : World} {b n j : Nat} (h : VAt w b n (j + 1)) : w.cell? ⟨b, j, none⟩ = some (.int .u8 0) := by
  rw [Lib.cell_of_heap h]
  simpa using vrow_at n j
theorem VAt.f {w : World} {b n m : Nat} (h : VAt w b n m) (j : Nat) : w.frozen? ⟨b, j, none⟩ = false := Lib.frozen_of_heap h j
theorem VAt.set {w : World} {b n j : Nat} (h : VAt w b n (j + 1)) (hj : j < 8) : VAt (w.setCell ⟨b, j, none⟩ (.int .u8 ((n / 256 ^ (7 - j) % 256 : Nat) : Int))) b n j := by
  unfold VAt at *
  rw [← vrow_set n j hj]
  simp [World.setCell, Array.getElem?_modify, h]
theorem VAt.done {w : World} {b n : Nat} (h : VAt w b n 0) : ∀ j x, (numBytes 8 n)[j]? = some x → w.cell? ⟨b, j, none⟩ = some (.int .u8 (x.toNat : Int)) := by
  intro j x hx
  rw [Lib.cell_of_heap h]
  simp [vrow, hx, u8v]

theorem u64_small (x : Int) (h0 : 0 ≤ x) (h1 : x < 18446744073709551616) : IntKind.u64.wrap x = x := by
  rw [IntKind.wrap_u64]
  omega

set_option maxRecDepth 100000 in
theorem refValue_any (n : Nat) (w : World) (hn : n < 18446744073709551616) : Calls Tryz.prog 59 #[.int .u64 (n : Int)] w fun e w' => e = .returned (.string ⟨(valBytes n).toArray⟩) ∧ Below w.heap.size w w' := by
  have hmk := make8
  have Hn := Lib.hid hn
  clear hn
  go_enter Tryz.func59, Tryz.ntmps59
  go_wp2
  go_loopw [0, 4] (fun x i wr => ∃ m : Nat, m ≤ 8 ∧ i = .int .i64 ((m : Int) - 1) ∧ x = .int .u64 ((n / 256 ^ (8 - m) : Nat) : Int) ∧ VAt wr w.heap.size n m ∧ Below w.heap.size w wr) (fun _ i _ => (intOf i + 1).toNat)
  case atStart => exact ⟨8, by omega, rfl, by simp, heap_alloc_new w _, Below.alloc (Below.refl _ _) (Nat.le_refl _) _⟩
  case round =>
    obtain ⟨m, hm, rfl, rfl, hv, hb⟩ := hrel
    rcases m with _ | j
    · have hcv := conv_at wr w.heap.size 8 _ hv.done
      rw [numBytes_length] at hcv
      have Hcv := Lib.hid hcv
      have e1 : ((0 : Nat) : Int) - 1 = -1 := by omega
      rw [e1]
      clear hcv e1
      have hcv := Hcv.out
      go_wp2
      go_ret
      rw [valBytes_eight]
      exact ⟨rfl, hb⟩
    · have hc := hv.cell
      have hf := hv.f j
      have e1 : ((j + 1 : Nat) : Int) - 1 = (j : Int) := by omega
      rw [e1]
      have hq : n / 256 ^ (8 - (j + 1)) ≤ n := Nat.div_le_self _ _
      have e2 : 8 - (j + 1) = 7 - j := by omega
      rw [e2] at hq ⊢
      have Hq := Lib.hid hq
      have Hv := Lib.hid hv
      generalize hy : n / 256 ^ (7 - j) = y at Hq ⊢
      have Hy := Lib.hid hy
      clear e1 e2 hv hq hy
      go_wp2
      go_round
      case rel =>
        have ey : IntKind.u64.wrap ((y : Int) / 256) = ((y / 256 : Nat) : Int) := by rw [u64_small _ (by omega) (by have := Hq.out; have := Hn.out; omega)]; omega
        have es : (y : Int) % 256 = ((n / 256 ^ (7 - j) % 256 : Nat) : Int) := by rw [Hy.out]; omega
        have ed : y / 256 = n / 256 ^ (8 - j) := by rw [show 8 - j = (7 - j) + 1 by omega, Nat.pow_succ, ← Nat.div_div_eq_div_mul, Hy.out]
        rw [ey, es]
        exact ⟨j, by omega, rfl, by rw [ed], Hv.out.set (by omega), Below.setCell hb (Nat.le_refl _) _⟩
      case measure => simp [intOf]

theorem refNumber_no (v : ByteArray) (w : World) (hv : v.size ≠ 8) : Calls Tryz.prog 138 #[.string v] w fun e w' => e = .returned (.tuple #[.int .u64 0, .bool false]) ∧ Below w.heap.size w w' := by
  have h8 : ((v.size : Int) != 8) = true := by simp; omega
  clear hv
  go_enter Tryz.func138, Tryz.ntmps138
  go_wp2
  go_ret2
  exact ⟨rfl, Below.refl _ _⟩
theorem beVal_append (a : List UInt8) : ∀ (n : Nat) (b : List UInt8), b.length = n → beVal (a ++ b) = beVal a * 256 ^ n + beVal b := by
  intro n
  induction n with
  | zero => intro b hb; have : b = [] := List.eq_nil_of_length_eq_zero hb; subst this; simp [beVal]
  | succ n ih =>
    intro b hb
    have hd : b = b.dropLast ++ [b.getLast (by intro e; subst e; simp at hb)] := (List.dropLast_concat_getLast _).symm
    rw [hd, ← List.append_assoc, beVal_snoc, ih b.dropLast (by simp [hb]), beVal_snoc]
    simp [Nat.pow_succ, Nat.add_mul, Nat.mul_assoc, Nat.add_assoc]
theorem numOf_eight (v : ByteArray) (hv : v.size = 8) : numOf v = beVal v.data.toList := by
  have e : v.data.toList = (v.extract 0 4).data.toList ++ (v.extract 4 v.size).data.toList := by
    have hs : v.data.toList.length = 8 := by simpa using hv
    simp only [ByteArray.data_extract, Array.toList_extract, List.extract_eq_take_drop]
    rw [hv]
    have h4 : List.take 4 (List.drop 4 v.data.toList) = List.drop 4 v.data.toList := List.take_of_length_le (by rw [List.length_drop, hs]; omega)
    simp [h4]
  rw [e, beVal_append _ 4 _ (by have := hv; simp at *; omega)]
  rfl
set_option maxRecDepth 100000 in
theorem refNumber_yes (v : ByteArray) (w : World) (hv : v.size = 8) : Calls Tryz.prog 138 #[.string v] w fun e w' => e = .returned (.tuple #[.int .u64 (numOf v : Int), .bool true]) ∧ Below w.heap.size w w' := by
  have h8 : ((v.size : Int) != 8) = false := by simp; omega
  have Hno := Lib.hid (numOf_eight v hv)
  generalize numOf v = N at Hno ⊢
  have htl : v.data.toList.length = 8 := by simpa using hv
  have Htl := Lib.hid htl
  clear htl
  go_enter Tryz.func138, Tryz.ntmps138
  go_wp2
  go_loop [4, 5] (fun x i => ∃ k : Nat, k ≤ 8 ∧ i = .int .i64 k ∧ x = .int .u64 (beVal (v.data.toList.take k))) (fun _ i => 8 - (intOf i).toNat)
  case atStart => exact ⟨0, by omega, rfl, rfl⟩
  case round =>
    obtain ⟨k, hk, rfl, rfl⟩ := hrel
    by_cases hlt : k < 8
    · have hkv : k < v.size := by omega
      obtain ⟨x, hx⟩ : ∃ x, v.data.toList[k]? = some x := ⟨v.data.toList[k]'(by rw [Htl.out]; exact hlt), List.getElem?_eq_getElem _⟩
      have hx8 := x.toNat_lt
      generalize hy : beVal (v.data.toList.take k) = y
      have Hv := Lib.hid hy
      have Hx := Lib.hid hx
      clear hy hx
      go_wp2
      go_round
      case rel => exact ⟨k + 1, by omega, by go_num, by
        have hl := beVal_lt (v.data.toList.take k)
        rw [Hv.out, List.length_take, Nat.min_eq_left (by rw [Htl.out]; omega)] at hl
        have hle : 256 ^ k ≤ 256 ^ 7 := Nat.pow_le_pow_right (by omega) (by omega)
        rw [byte_at hkv Hx.out, u64_small (x.toNat : Int) (by omega) (by omega), u64_small ((y : Int) * 256) (by omega) (by omega), u64_small _ (by omega) (by omega), List.take_add_one, Hx.out, Option.toList_some, beVal_snoc, Hv.out]
        go_num⟩
      case measure => simp [intOf]; omega
    · have hke : k = 8 := by omega
      subst hke
      go_wp2
      go_ret2
      rw [Hno.out, ← Htl.out, List.take_length]
      exact ⟨rfl, Below.refl _ _⟩
end Go.Proofs.YtdfgdnaejnngoaaGreat
namespace Go.Proofs.YtdfgdnaejnngoaaGreat
open Go.RowKit
/-! Numbers and their values; what a key's Adds come to. -/
theorem beVal_cons (x : UInt8) (l : List UInt8) : beVal (x :: l) = x.toNat * 256 ^ l.length + beVal l := by
  have := beVal_append [x] l.length l rfl
  simpa [beVal] using this
theorem beVal_num (n : Nat) : ∀ wd : Nat, beVal (numBytes wd n) = n % 256 ^ wd
  | 0 => by simp [numBytes_zero, beVal, Nat.mod_one]
  | wd + 1 => by
    have h := Nat.mod_mul (a := 256 ^ wd) (b := 256) (x := n)
    rw [numBytes_succ, beVal_cons, beVal_num n wd, numBytes_length, UInt8.toNat_ofNat']
    rw [show 256 ^ (wd + 1) = 256 ^ wd * 256 from Nat.pow_succ _ _, h, show (2 : Nat) ^ 8 = 256 from rfl, Nat.add_comm, Nat.mul_comm (256 ^ wd)]
theorem num_mod (n : Nat) : ∀ wd k : Nat, wd ≤ k → numBytes wd (n % 256 ^ k) = numBytes wd n
  | 0, _, _ => rfl
  | wd + 1, k, h => by
    rw [numBytes_succ, numBytes_succ, num_mod n wd k (by omega)]
    congr 1
    apply UInt8.toNat_inj.1
    rw [UInt8.toNat_ofNat', UInt8.toNat_ofNat']
    obtain ⟨d, rfl⟩ : ∃ d, k = wd + (d + 1) := ⟨k - wd - 1, by omega⟩
    rw [Nat.pow_add, Nat.mod_mul_right_div_self]
    rw [show (2 : Nat) ^ 8 = 256 from rfl, Nat.pow_succ, Nat.mul_comm (256 ^ d), Nat.mod_mul_right_mod]
theorem num_val : ∀ l : List UInt8, numBytes l.length (beVal l) = l
  | [] => rfl
  | x :: l => by
    have ih := num_val l
    have hb := beVal_lt l
    rw [List.length_cons, numBytes_succ, beVal_cons]
    have h1 : (x.toNat * 256 ^ l.length + beVal l) / 256 ^ l.length = x.toNat := by
      rw [Nat.mul_comm, Nat.mul_add_div (Nat.pow_pos (by decide)), Nat.div_eq_of_lt hb, Nat.add_zero]
    rw [h1, ← num_mod _ l.length l.length (Nat.le_refl _), Nat.mul_comm, Nat.mul_add_mod, num_mod _ _ _ (Nat.le_refl _), ih]
    congr 1
    exact UInt8.ofNat_toNat
theorem valB_size (n : Nat) : (valB n).size = 8 := by simp [valB, ByteArray.size, valBytes_length]
theorem num_valB (n : Nat) (hn : n < 18446744073709551616) : numOf (valB n) = n := by
  rw [numOf_eight _ (valB_size n)]
  show beVal (valBytes n).toArray.toList = n
  rw [valBytes_eight, beVal_num]
  exact Nat.mod_eq_of_lt hn
theorem valB_num {v : ByteArray} (h : v.size = 8) : valB (numOf v) = v := by
  apply ByteArray.ext
  show (valBytes (numOf v)).toArray = v.data
  rw [valBytes_eight, numOf_eight v h]
  have hl : v.data.toList.length = 8 := by simpa using h
  have := num_val v.data.toList
  rw [hl] at this
  rw [this]
theorem numOf_lt {v : ByteArray} (h : v.size = 8) : numOf v < 18446744073709551616 := by
  rw [numOf_eight v h]
  have hl : v.data.toList.length = 8 := by simpa using h
  have := beVal_lt v.data.toList
  rw [hl] at this
  exact this
theorem valB_inj {a b : Nat} (ha : a < 18446744073709551616) (hb : b < 18446744073709551616) (h : valB a = valB b) : a = b := by
  rw [← num_valB a ha, ← num_valB b hb, h]
end Go.Proofs.YtdfgdnaejnngoaaGreat
namespace Go.Proofs.YtdfgdnaejnngoaaGreat
open Go.RowKit
/-! The document's messages: grangerref08.Sum, Apply. -/
theorem refSum_any (v u : ByteArray) (w : World) (h1 : v.size = 8) (h2 : u.size = 8) : Calls Tryz.prog 120 #[.string v, .string u] w fun e w' => e = .returned (.string (sumS v u)) ∧ Below w.heap.size w w' := by
  have hs : sumS v u = valB ((numOf v + numOf u) % 18446744073709551616) := by unfold sumS; rw [if_pos ⟨h1, h2⟩]
  have n1 := fun W => refNumber_yes v W h1
  have n2 := fun W => refNumber_yes u W h2
  have hv := fun W => refValue_any ((numOf v + numOf u) % 18446744073709551616) W (by omega)
  have hE : ((((numOf v + numOf u) % 18446744073709551616 : Nat)) : Int) = IntKind.u64.wrap ((numOf v : Int) + (numOf u : Int)) := by
    simp [IntKind.wrap, IntKind.signed, IntKind.bits]
  rw [hE] at hv
  have hv2 : ⟨(valBytes ((numOf v + numOf u) % 18446744073709551616)).toArray⟩ = sumS v u := hs.symm
  rw [hv2] at hv
  generalize sumS v u = R at hv ⊢
  generalize numOf v = a at *
  generalize numOf u = b at *
  have N1 := Lib.hid n1
  have N2 := Lib.hid n2
  have HV := Lib.hid hv
  clear n1 n2 hv hv2 hs h1 h2 hE
  go_enter Tryz.func120, Tryz.ntmps120
  go_wp2_with fail
  refine Calls.mono (N1.out _) ?_
  rintro e w1 ⟨rfl, hb1⟩
  go_wp2_with fail
  refine Calls.mono (N2.out _) ?_
  rintro e w2 ⟨rfl, hb2⟩
  go_wp2_with fail
  refine Calls.mono (HV.out _) ?_
  rintro e w3 ⟨rfl, hb3⟩
  have hb := below_next (below_next hb1 hb2) hb3
  clear hb1 hb2 hb3
  go_wp2
  go_ret
  exact ⟨rfl, hb⟩
theorem isMsg_kinds {x : Mg} (h : isMsg x = true) (h1 : x.kind ≠ 1) (h2 : x.kind ≠ 2) : x.kind = 3 ∧ x.val.size = 8 := by
  unfold isMsg at h
  simp only [Bool.and_eq_true, Bool.or_eq_true, decide_eq_true_eq] at h
  rcases h.2 with h | h | h
  · exact absurd h.1 h1
  · exact absurd h.1 h2
  · exact ⟨h.1, by omega⟩
set_option maxHeartbeats 1000000 in
set_option maxRecDepth 100000 in
theorem refApply_any (x : Mg) (o : Option ByteArray) (w : World) : Calls Tryz.prog 93 #[x.v, .string (strO o), .bool o.isSome] w fun e w' => e = .returned (.tuple #[.string (strO (applyO x o)), .bool (applyO x o).isSome]) ∧ Below w.heap.size w w' := by
  have hn := fun W => ref08Is_any x W
  have hkk := isMsg_kinds (x := x)
  have hap : applyO x o = if isMsg x = true then (if x.kind = 2 then none else if x.kind = 1 then some x.val else match o with | none => some x.val | some v => some (sumS v x.val)) else o := rfl
  generalize applyO x o = R at hap ⊢
  generalize isMsg x = im at hn hap hkk
  obtain ⟨kind, k, v⟩ := x
  rw [Mg.v_def] at hn ⊢
  dsimp only at hap hkk
  have HN := Lib.hid hn
  clear hn
  cases im
  · rw [if_neg (by decide)] at hap
    subst hap
    clear hkk
    cases R with
    | none =>
      go_enter Tryz.func93, Tryz.ntmps93
      go_wp2_with (go_at_call 60; (with_reducible refine (HN.out _).mono ?_); rintro e w1 ⟨rfl, hb1⟩)
      (try simp only [Exit.inBlock, Exit.then])
      refine bodyPost_ret (results_tmp2 rfl _ _ _) rfl ⟨rfl, below_next (by repeat (first | assumption | exact Below.refl _ _ | (refine below_step (w := ?_) ?_ ?_ ?_; rotate_left 2; assumption) | refine Below.drew ?_ | refine below_drewN ?_ _ | refine Below.alloc ?_ ?_ _ | refine Below.setCell ?_ ?_ _ | (focus (simp; done)) | (focus (simp; omega)) | omega)) hb1⟩
    | some u =>
      go_enter Tryz.func93, Tryz.ntmps93
      go_wp2_with (go_at_call 60; (with_reducible refine (HN.out _).mono ?_); rintro e w1 ⟨rfl, hb1⟩)
      (try simp only [Exit.inBlock, Exit.then])
      refine bodyPost_ret (results_tmp2 rfl _ _ _) rfl ⟨rfl, below_next (by repeat (first | assumption | exact Below.refl _ _ | (refine below_step (w := ?_) ?_ ?_ ?_; rotate_left 2; assumption) | refine Below.drew ?_ | refine below_drewN ?_ _ | refine Below.alloc ?_ ?_ _ | refine Below.setCell ?_ ?_ _ | (focus (simp; done)) | (focus (simp; omega)) | omega)) hb1⟩
  · rw [if_pos rfl] at hap
    by_cases h2 : kind = 2
    · rw [if_pos h2] at hap
      subst hap h2
      clear hkk
      go_enter Tryz.func93, Tryz.ntmps93
      go_wp2_with (go_at_call 60; (with_reducible refine (HN.out _).mono ?_); rintro e w1 ⟨rfl, hb1⟩; obtain ⟨c0, c1, c2⟩ := box3 hb1; have HB1 := Lib.hid (below_next (Below.alloc (Below.refl _ _) (Nat.le_refl _) _) hb1); clear hb1)
      (try simp only [Exit.inBlock, Exit.then])
      refine bodyPost_ret (results_tmp2 rfl _ _ _) rfl ⟨rfl, HB1.out⟩
    · rw [if_neg h2] at hap
      by_cases h1 : kind = 1
      · rw [if_pos h1] at hap
        subst hap h1
        clear h2 hkk
        go_enter Tryz.func93, Tryz.ntmps93
        go_wp2_with (go_at_call 60; (with_reducible refine (HN.out _).mono ?_); rintro e w1 ⟨rfl, hb1⟩; obtain ⟨c0, c1, c2⟩ := box3 hb1; have HB1 := Lib.hid (below_next (Below.alloc (Below.refl _ _) (Nat.le_refl _) _) hb1); clear hb1)
        (try simp only [Exit.inBlock, Exit.then])
        refine bodyPost_ret (results_tmp2 rfl _ _ _) rfl ⟨rfl, HB1.out⟩
      · rw [if_neg h1] at hap
        obtain ⟨rfl, hv8⟩ := hkk rfl h1 h2
        clear h1 h2 hkk
        cases o with
        | none =>
          dsimp only at hap
          subst hap
          clear hv8
          go_enter Tryz.func93, Tryz.ntmps93
          go_wp2_with (go_at_call 60; (with_reducible refine (HN.out _).mono ?_); rintro e w1 ⟨rfl, hb1⟩; obtain ⟨c0, c1, c2⟩ := box3 hb1; have HB1 := Lib.hid (below_next (Below.alloc (Below.refl _ _) (Nat.le_refl _) _) hb1); clear hb1)
          (try simp only [Exit.inBlock, Exit.then])
          refine bodyPost_ret (results_tmp2 rfl _ _ _) rfl ⟨rfl, HB1.out⟩
        | some u =>
          dsimp only at hap
          show Calls Tryz.prog 93 #[.agg #[.int .i64 3, .string k, .string v], .string u, .bool true] w _
          by_cases h8 : u.size = 8
          · have e8 : ((u.size : Int) == 8) = true := by simp; omega
            have hS := fun W => refSum_any u v W h8 hv8
            have HR := Lib.hid hap
            have HS := Lib.hid hS
            clear hS h8 hv8 hap
            go_enter Tryz.func93, Tryz.ntmps93
            go_wp2_with (first | (go_at_call 60; (with_reducible refine (HN.out _).mono ?_); rintro e w1 ⟨rfl, hb1⟩; obtain ⟨c0, c1, c2⟩ := box3 hb1; have HB1 := Lib.hid (below_next (Below.alloc (Below.refl _ _) (Nat.le_refl _) _) hb1); clear hb1) | (go_at_call 120; (with_reducible refine (HS.out _).mono ?_); rintro e w2 ⟨rfl, hb2⟩))
            (try simp only [Exit.inBlock, Exit.then])
            refine bodyPost_ret (results_tmp2 rfl _ _ _) rfl ⟨by rw [HR.out]; rfl, below_next HB1.out hb2⟩
          · have e8 : ((u.size : Int) == 8) = false := by simp; omega
            have hsu : sumS u v = u := by unfold sumS; rw [if_neg (fun h => h8 h.1)]
            rw [hsu] at hap
            subst hap
            clear hsu h8 hv8
            go_enter Tryz.func93, Tryz.ntmps93
            go_wp2_with (go_at_call 60; (with_reducible refine (HN.out _).mono ?_); rintro e w1 ⟨rfl, hb1⟩; obtain ⟨c0, c1, c2⟩ := box3 hb1; have HB1 := Lib.hid (below_next (Below.alloc (Below.refl _ _) (Nat.le_refl _) _) hb1); clear hb1)
            (try simp only [Exit.inBlock, Exit.then])
            refine bodyPost_ret (results_tmp2 rfl _ _ _) rfl ⟨rfl, HB1.out⟩
end Go.Proofs.YtdfgdnaejnngoaaGreat
namespace Go.Proofs.YtdfgdnaejnngoaaGreat
open Go.RowKit
/-! The document's leaves: grangerref09.Of. -/
theorem itm_row {w : World} {A : Option Addr} {l : List Itm} (h : Elems w A 2 (l.map Itm.cells)) {k : Nat} {x : Itm} (hx : l[k]? = some x) : ∃ b off, A = some ⟨b, off, none⟩ ∧ b < w.heap.size ∧ w.cell? ⟨b, off + k * 2, none⟩ = some (.string x.key) ∧ w.cell? ⟨b, off + k * 2 + 1, none⟩ = some (.string x.val) := by
  obtain ⟨b, off, e, hlt, hc⟩ := h k x.cells (by simp [hx])
  exact ⟨b, off, e, hlt, hc 0 _ rfl, hc 1 _ rfl⟩
theorem isVal_false {v : ByteArray} (h : isVal v = false) : 16 < (v.size : Int) := by unfold isVal at h; simpa using h
theorem isVal_true {v : ByteArray} (h : isVal v = true) : (v.size : Int) ≤ 16 := by unfold isVal at h; simpa using h
set_option maxHeartbeats 1000000 in
set_option maxRecDepth 100000 in
theorem refOf_bad (A : Option Addr) (cap : Nat) (zs : List Itm) (w : World) (hel : Elems w A 2 (zs.map Itm.cells)) (hl : zs.length ≤ 80000) (hbad : zs.any badI = true) :
    Calls Tryz.prog 69 #[.slice A zs.length cap] w fun e w' => e = .returned (.tuple #[.slice none 0 0, .int .i64 1]) ∧ Below w.heap.size w w' := by
  have HEL := Lib.hid hel
  have HB := Lib.hid hbad
  have HK := Lib.hid (fun k W => ref07Is_any k W)
  clear hel hbad
  go_enter Tryz.func69, Tryz.ntmps69
  go_wp2
  go_loopw [4] (fun i wr => ∃ k : Nat, i = .int .i64 k ∧ k ≤ zs.length ∧ (∀ (j : Nat) (x : Itm), j < k → zs[j]? = some x → badI x = false) ∧ Below w.heap.size w wr) (fun i _ => zs.length + 1 - (intOf i).toNat)
  case atStart => exact ⟨0, rfl, Nat.zero_le _, fun j x hj => by omega, (by repeat (first | assumption | exact Below.refl _ _ | (refine below_step (w := ?_) ?_ ?_ ?_; rotate_left 2; assumption) | refine Below.drew ?_ | refine below_drewN ?_ _ | refine Below.alloc ?_ ?_ _ | refine Below.setCell ?_ ?_ _ | (focus (simp; done)) | (focus (simp; omega)) | omega))⟩
  case round =>
    obtain ⟨k, rfl, hk, hno, hbel⟩ := hrel
    by_cases hkl : k < zs.length
    · have hkI : (k : Int) < (zs.length : Int) := by omega
      obtain ⟨x, hx⟩ := get_lt hkl
      obtain ⟨b, off, rfl, hblt, d0, d1⟩ := itm_row (HEL.out.below hbel) hx
      have hsn := fun hq => none_snoc (q := badI) hx hq hno
      have hd1 : ∀ W, Below wr.heap.size wr W → W.cell? ⟨b, off + k * 2 + 1, none⟩ = some (.string x.val) := fun W hW => (hW.cell (p := ⟨b, _, none⟩) hblt).trans d1
      have hI := fun W => HK.out x.key W
      have hbi : badI x = (!isKey x.key || !isVal x.val) := rfl
      generalize badI x = bx at hsn hbi
      obtain ⟨xk, xv⟩ := x
      dsimp only at d0 d1 hd1 hI hbi
      cases hik : isKey xk with
      | false =>
        rw [hik] at hI hbi
        have HI := Lib.hid hI
        clear hI hsn hno hx hik hd1 hbi
        go_wp2_with (go_at_call 66; (with_reducible refine (HI.out _).mono ?_); rintro e w1 ⟨rfl, hb1⟩)
        (try simp only [Exit.inBlock, Exit.then])
        refine bodyPost_ret (results_tmp2 rfl _ _ _) rfl ⟨rfl, below_next hbel hb1⟩
      | true =>
        rw [hik] at hI hbi
        have HI := Lib.hid hI
        have HD1 := Lib.hid hd1
        cases hiv : isVal xv with
        | false =>
          have hv := isVal_false hiv
          clear hI hsn hno hx hik hiv hd1 d1 hbi
          go_wp2_with (go_at_call 66; (with_reducible refine (HI.out _).mono ?_); rintro e w1 ⟨rfl, hb1⟩; have d1 := HD1.out _ hb1; have HB1 := Lib.hid (below_next hbel hb1); clear hb1)
          (try simp only [Exit.inBlock, Exit.then])
          refine bodyPost_ret (results_tmp2 rfl _ _ _) rfl ⟨rfl, HB1.out⟩
        | true =>
          rw [hiv] at hbi
          have hv := isVal_true hiv
          have HSN := Lib.hid (hsn hbi)
          clear hI hsn hno hx hik hiv hd1 d1 hbi
          go_wp2_with (go_at_call 66; (with_reducible refine (HI.out _).mono ?_); rintro e w1 ⟨rfl, hb1⟩; have d1 := HD1.out _ hb1; have HB1 := Lib.hid (below_next hbel hb1); clear hb1)
          refine ⟨⟨k + 1, by go_num, by omega, HSN.out, HB1.out⟩, ?_⟩
          simp [intOf]
          omega
    · exfalso
      have := any_none (l := zs) (q := badI) (k := k) (by omega) hno
      rw [HB.out] at this
      cases this
end Go.Proofs.YtdfgdnaejnngoaaGreat
namespace Go.Proofs.YtdfgdnaejnngoaaGreat
open Go.RowKit
/-! The document's leaves: grangerref09.Of, where no item is bad. -/
def RefOf (zs : List Itm) (w : World) (e : Ending) (w' : World) : Prop := Below w.heap.size w w' ∧ ((errL zs ≠ 0 ∧ e = .returned (.tuple #[.slice none 0 0, .int .i64 (errL zs)])) ∨ (errL zs = 0 ∧ ∃ A cap, e = .returned (.tuple #[.slice A zs.length cap, .int .i64 0]) ∧ OwnsM w' w.heap.size (.slice A zs.length cap) (isoL zs)))
theorem iso_len_le : ∀ (l a : List Itm), Rises a → (isoA a l).length ≤ a.length + l.length
  | [], a, _ => Nat.le_refl _
  | x :: l, a, h => by
    have h1 := iso_len_le l (insR x.key x.val a) (rises_ins _ _ h)
    have h2 := len_ins x.key x.val h
    show (isoA (insR x.key x.val a) l).length ≤ _
    rw [List.length_cons]
    split at h2 <;> omega
theorem iso_len {l : List Itm} (h : (keysL l).Nodup) : (isoL l).length = l.length := by
  have h1 : ∀ (l a : List Itm), Rises a → (∀ x ∈ l, getL a x.key = none) → (keysL l).Nodup → (isoA a l).length = a.length + l.length := by
    intro l
    induction l with
    | nil => intro a _ _ _; rfl
    | cons x l ih =>
      intro a ha hn hd
      unfold keysL at hd
      rw [List.map_cons, List.nodup_cons] at hd
      show (isoA (insR x.key x.val a) l).length = _
      rw [ih _ (rises_ins _ _ ha) (fun y hy => by
        rw [get_ins, if_neg (fun e => hd.1 (by rw [← e]; exact List.mem_map_of_mem hy))]
        exact hn y (by simp [hy])) hd.2, len_ins _ _ ha, hn x (by simp), List.length_cons]
      simp
      omega
  have := h1 l [] trivial (fun _ _ => rfl) h
  simp only [List.length_nil, Nat.zero_add] at this
  exact this
theorem nodup_take_succ {l : List Itm} {k : Nat} {x : Itm} (hx : l[k]? = some x) (h : (keysL (l.take k)).Nodup) (hn : getL (isoL (l.take k)) x.key = none) : (keysL (l.take (k + 1))).Nodup := by
  rw [take_snoc' hx]
  unfold keysL at *
  rw [List.map_append]
  refine List.nodup_append.2 ⟨h, by simp, fun a ha b hb => ?_⟩
  rintro rfl
  simp only [List.map_cons, List.map_nil, List.mem_singleton] at hb
  subst hb
  rw [get_isoL h] at hn
  have := (getL_key_iff (l.take k) x.key).2 ha
  rw [hn] at this
  cases this
theorem not_nodup {l : List Itm} {k : Nat} {x : Itm} (hx : l[k]? = some x) (h : (keysL (l.take k)).Nodup) (hn : (getL (isoL (l.take k)) x.key).isSome = true) : ¬ (keysL l).Nodup := by
  intro hd
  rw [get_isoL h, getL_key_iff] at hn
  have h1 : (keysL (l.take (k + 1))).Nodup := by
    unfold keysL at *
    exact hd.sublist ((List.take_sublist _ _).map _)
  rw [take_snoc' hx] at h1
  unfold keysL at *
  rw [List.map_append, List.nodup_append] at h1
  exact h1.2.2 x.key hn x.key (by simp) rfl
theorem lb_of {l : List Itm} (hr : Rises l) {k : ByteArray} {a : Nat} (ha : a ≤ l.length) (hne : ∀ (i : Nat) (y : Itm), l[i]? = some y → y.key ≠ k) (hlo : ∀ (i : Nat) (y : Itm), i < a → l[i]? = some y → klt k y.key = false) (hhi : ∀ y, l[a]? = some y → klt k y.key = true) : lb l k = a ∧ hasK l k = false := by
  have h := lb_eq l k a ha (fun j x hj hx => by
    cases h : klt x.key k
    · exact absurd (klt_tri h (hlo j x hj hx)) (hne j x hx)
    · rfl) (fun j x hj hx => by
    have hal : a < l.length := by have := (List.getElem?_eq_some_iff.1 hx).1; omega
    obtain ⟨y, hy⟩ := get_lt hal
    have hy1 := hhi y hy
    by_cases e : j = a
    · subst e
      rw [hx] at hy
      cases hy
      exact klt_asym hy1
    · exact klt_asym (klt_trans hy1 (hr.get (by omega) hy hx)))
  refine ⟨h, ?_⟩
  rw [hasK_get k hr]
  have : getL l k = none := getL_none (fun y hy => by
    obtain ⟨i, hi⟩ := List.getElem?_of_mem hy
    exact hne i y hi)
  rw [this]
  rfl
/-- one place further on, step by step -/
def shf (o : List Itm) (m : Nat) (y : Itm) : List Itm := o.take m ++ y :: o.drop m
theorem shf_len (o : List Itm) (m : Nat) (y : Itm) (h : m ≤ o.length) : (shf o m y).length = o.length + 1 := by
  unfold shf
  rw [List.length_append, List.length_cons, List.length_take, List.length_drop]
  omega
theorem shf_at {o : List Itm} {m : Nat} {y z : Itm} (hz : o[m]? = some z) : (shf o (m + 1) y)[m]? = some z := by
  unfold shf
  have hm := (List.getElem?_eq_some_iff.1 hz).1
  rw [List.getElem?_append_left (by rw [List.length_take]; omega), List.getElem?_take, if_pos (by omega)]
  exact hz
theorem shf_set {o : List Itm} {m : Nat} (y z : Itm) (hm : m ≤ o.length) : (shf o m y).set m z = shf o m z := by
  unfold shf
  have hl : (o.take m).length = m := by rw [List.length_take]; omega
  rw [List.set_append_right _ _ (by omega), hl, Nat.sub_self, List.set_cons_zero]
theorem shf_down {o : List Itm} {m : Nat} {y z : Itm} (hz : o[m]? = some z) : (shf o (m + 1) y).set (m + 1) z = shf o m z := by
  have hm := (List.getElem?_eq_some_iff.1 hz).1
  rw [shf_set y z (by omega)]
  unfold shf
  rw [take_snoc' hz, List.drop_eq_getElem_cons hm]
  have hg : o[m] = z := (List.getElem?_eq_some_iff.1 hz).2
  rw [hg, List.append_assoc]
  rfl
theorem shf_ins (o : List Itm) (m : Nat) (y : Itm) (h : m ≤ o.length) : shf o m y = o.insertIdx m y := (insertIdx_eq y o m h).symm
end Go.Proofs.YtdfgdnaejnngoaaGreat
namespace Go.Proofs.YtdfgdnaejnngoaaGreat
open Go.RowKit
/-! The document's leaves: grangerref09.Of, the walk. -/
theorem eqB {a b : ByteArray} : (a.toList == b.toList) = decide (a = b) := by
  rw [Bool.eq_iff_iff]
  simp [bytes_inj]
set_option maxHeartbeats 4000000 in
set_option maxRecDepth 100000 in
theorem refOf_ok (A : Option Addr) (cap : Nat) (zs : List Itm) (w : World) (hel : Elems w A 2 (zs.map Itm.cells)) (hl : zs.length ≤ 80000) (hbad : zs.any badI = false) :
    Calls Tryz.prog 69 #[.slice A zs.length cap] w (RefOf zs w) := by
  have hE : errL zs = if (keysL zs).Nodup then 0 else 11 := by unfold errL; rw [if_neg (by rw [hbad]; decide)]
  have HE := Lib.hid hE
  have HEL := Lib.hid hel
  have HOK := Lib.hid (bad_ok hbad)
  have HK := Lib.hid (fun k W => ref07Is_any k W)
  clear hel hbad hE
  go_enter Tryz.func69, Tryz.ntmps69
  go_wp2
  go_loopw [4] (fun i wr => ∃ k : Nat, i = .int .i64 k ∧ k ≤ zs.length ∧ Below w.heap.size w wr) (fun i _ => zs.length + 1 - (intOf i).toNat)
  case atStart => exact ⟨0, rfl, Nat.zero_le _, (by repeat (first | assumption | exact Below.refl _ _ | (refine below_step (w := ?_) ?_ ?_ ?_; rotate_left 2; assumption) | refine Below.drew ?_ | refine below_drewN ?_ _ | refine Below.alloc ?_ ?_ _ | refine Below.setCell ?_ ?_ _ | (focus (simp; done)) | (focus (simp; omega)) | omega))⟩
  case round =>
    obtain ⟨k, rfl, hk, hbel⟩ := hrel
    by_cases hkl : k < zs.length
    · have hkI : (k : Int) < (zs.length : Int) := by omega
      obtain ⟨x, hx⟩ := get_lt hkl
      obtain ⟨b, off, rfl, hblt, d0, d1⟩ := itm_row (HEL.out.below hbel) hx
      have hd1 : ∀ W, Below wr.heap.size wr W → W.cell? ⟨b, off + k * 2 + 1, none⟩ = some (.string x.val) := fun W hW => (hW.cell (p := ⟨b, _, none⟩) hblt).trans d1
      have hI := fun W => HK.out x.key W
      obtain ⟨hik, hiv⟩ := HOK.out x (List.mem_of_getElem? hx)
      rw [hik] at hI
      have hv := isVal_true hiv
      obtain ⟨xk, xv⟩ := x
      dsimp only at d0 d1 hd1 hI hv
      have HI := Lib.hid hI
      have HD1 := Lib.hid hd1
      clear hI hx hik hiv hd1 d1
      go_wp2_with (go_at_call 66; (with_reducible refine (HI.out _).mono ?_); rintro e w1 ⟨rfl, hb1⟩; have d1 := HD1.out _ hb1; have HB1 := Lib.hid (below_next hbel hb1); clear hb1)
      refine ⟨⟨k + 1, by go_num, by omega, HB1.out⟩, ?_⟩
      simp [intOf]
      omega
    · obtain rfl : k = zs.length := by omega
      go_wp2
      have how0 : OwnsM (wr.alloc (.cells #[] 41)) w.heap.size (.slice (some ⟨wr.heap.size, 0, none⟩) (isoL (zs.take 0)).length 0) (isoL (zs.take 0)) := OwnsG.empty (heap_alloc_new wr _) hbel.size
      have hb0 : Below w.heap.size w (wr.alloc (.cells #[] 41)) := below_alloc hbel
      have HOW0 := Lib.hid how0
      have HB0 := Lib.hid hb0
      clear how0 hb0 hbel
      go_loopw [6, 5, 7, 8, 9] (fun i v _ _ _ wr => ∃ (k c2 : Nat) (A2 : Option Addr), i = .int .i64 k ∧ k ≤ zs.length ∧ v = .slice A2 (isoL (zs.take k)).length c2 ∧ OwnsM wr w.heap.size (.slice A2 (isoL (zs.take k)).length c2) (isoL (zs.take k)) ∧ (keysL (zs.take k)).Nodup ∧ Below w.heap.size w wr) (fun i _ _ _ _ _ => zs.length + 1 - (intOf i).toNat)
      case atStart => exact ⟨0, 0, some ⟨wr.heap.size, 0, none⟩, rfl, Nat.zero_le _, rfl, HOW0.out, List.nodup_nil, HB0.out⟩
      case round =>
        obtain ⟨k, c2, A2, rfl, hk, rfl, how, hnd, hbel⟩ := hrel
        by_cases hkl : k < zs.length
        · have hkI : (k : Int) < (zs.length : Int) := by omega
          obtain ⟨x, hx⟩ := get_lt hkl
          obtain ⟨b, off, rfl, hblt, d0, d1⟩ := itm_row HEL.out hx
          have hxc : ∀ W, Below w.heap.size w W → W.cell? ⟨b, off + k * 2, none⟩ = some (.string x.key) ∧ W.cell? ⟨b, off + k * 2 + 1, none⟩ = some (.string x.val) := fun W hW => ⟨(hW.cell (p := ⟨b, _, none⟩) hblt).trans d0, (hW.cell (p := ⟨b, _, none⟩) hblt).trans d1⟩
          have hri : Rises (isoL (zs.take k)) := rises_iso _ _ trivial
          have hol : (isoL (zs.take k)).length ≤ 80000 := by
            have := iso_len_le (zs.take k) [] trivial
            rw [List.length_take] at this
            simp only [List.length_nil] at this
            show (isoA [] (zs.take k)).length ≤ _
            omega
          have hdup := fun h => not_nodup hx hnd h
          have hnx := fun h => nodup_take_succ hx hnd h
          have hit := iso_take zs k x hx
          have HXC := Lib.hid hxc
          have HDUP := Lib.hid hdup
          have HNX := Lib.hid hnx
          have HIT := Lib.hid hit
          have HRI := Lib.hid hri
          have HOW := Lib.hid how
          have HBEL := Lib.hid hbel
          clear hxc hdup hnx hit hri how hbel d0 d1 hx hnd
          generalize isoL (zs.take k) = o at *
          go_wp2
          go_loopw [8, 7] (fun p a wr2 => ∃ j at_ : Nat, p = .int .i64 ((j : Int) - 1) ∧ a = .int .i64 at_ ∧ j ≤ o.length ∧ at_ ≤ o.length ∧ (∀ (i : Nat) (y : Itm), j ≤ i → o[i]? = some y → y.key ≠ x.key) ∧ (∀ (i : Nat) (y : Itm), j ≤ i → i < at_ → o[i]? = some y → klt x.key y.key = false) ∧ (∀ y, o[at_]? = some y → klt x.key y.key = true) ∧ Below wr.heap.size wr wr2) (fun p _ _ => (intOf p + 1).toNat)
          case atStart => exact ⟨o.length, o.length, rfl, rfl, Nat.le_refl _, Nat.le_refl _, fun i y hi hy => by have := (List.getElem?_eq_some_iff.1 hy).1; omega, fun i y hi _ hy => by have := (List.getElem?_eq_some_iff.1 hy).1; omega, fun y hy => by simp at hy, Below.refl _ _⟩
          case round =>
            obtain ⟨j, at_, rfl, rfl, hj, hat, hne, hlo, hhi, hb2⟩ := hrel
            rcases j with _ | j
            · have e1 : ((0 : Nat) : Int) - 1 = -1 := by omega
              rw [e1]
              obtain ⟨hlb, hhk⟩ := lb_of HRI.out hat (fun i y => hne i y (Nat.zero_le _)) (fun i y => hlo i y (Nat.zero_le _)) hhi
              have hins := insert_ins x.key x.val HRI.out hhk
              rw [hlb] at hins
              have hgn : getL o x.key = none := by
                have := hasK_get x.key HRI.out
                rw [hhk] at this
                cases h : getL o x.key
                · rfl
                · rw [h] at this; cases this
              have hnd2 := HNX.out hgn
              have how2 := (HOW.out.below hb2).alloc (.cells #[.string ⟨#[]⟩, .string ⟨#[]⟩] 41)
              have hbw : w.heap.size ≤ (wr.alloc (.cells #[.string ⟨#[]⟩, .string ⟨#[]⟩] 41)).heap.size := Nat.le_trans (HBEL.out.trans (hb2.mono HBEL.out.size)).size (by simp)
              have hbel3 : Below w.heap.size w (wr.alloc (.cells #[.string ⟨#[]⟩, .string ⟨#[]⟩] 41)) := below_alloc (below_next HBEL.out hb2)
              have HO2 := Lib.hid how2
              have HN2 := Lib.hid hnd2
              have HINS := Lib.hid hins
              have HB3 := Lib.hid hbel3
              have HBW := Lib.hid hbw
              have HXC2 := Lib.hid (fun W hW => HXC.out W hW)
              have HZ := Lib.hid (ItmAt.cells (x := ⟨⟨#[]⟩, ⟨#[]⟩⟩) (T := 41) (heap_alloc_new wr _))
              clear hlb hhk hins hgn hnd2 how2 hbw hbel3 e1 hne hlo hhi hb2
              go_wp2_with (at_builtin; refine itm_append rfl (some 74) rfl _ _ rfl w.heap.size (.slice A2 o.length c2) o [⟨⟨#[]⟩, ⟨#[]⟩⟩] 1 ⟨wr.heap.size, 0, none⟩ 1 rfl rfl rfl HO2.out (by simpa using HZ.out) (by simp; omega) HBW.out (o.length + 1) (by simp) ?_)
              intro A3 c3 w3 ho3 hf3
              have hsh : o ++ [⟨⟨#[]⟩, ⟨#[]⟩⟩] = shf o o.length ⟨⟨#[]⟩, ⟨#[]⟩⟩ := by unfold shf; simp
              rw [hsh] at ho3
              have hb4 : Below w.heap.size w w3 := HB3.out.trans (hf3.to_below HBW.out (fun q hq e => by
                rcases HO2.out.2 with ⟨he, _⟩ | ⟨g, cap', cur, he, hb, _⟩
                · rw [he] at e; cases e
                · rw [he] at e
                  simp only [Value.ownBlock, Option.some.injEq] at e
                  omega))
              have HO3 := Lib.hid ho3
              have HB4 := Lib.hid hb4
              clear ho3 hb4 hf3 hsh
              go_wp2
              go_loopw [9] (fun p wr => ∃ (m : Nat) (y : Itm), p = .int .i64 m ∧ at_ ≤ m ∧ m ≤ o.length ∧ OwnsM wr w.heap.size (.slice A3 (o.length + 1) c3) (shf o m y) ∧ Below w.heap.size w wr) (fun p _ => (intOf p).toNat)
              case atStart => exact ⟨o.length, _, by go_num, hat, Nat.le_refl _, HO3.out, HB4.out⟩
              case round =>
                obtain ⟨m, y, rfl, ham, hmo, how4, hbel4⟩ := hrel
                have hsl := shf_len o m y hmo
                by_cases hma : at_ < m
                · obtain ⟨m', hmm⟩ : ∃ m', m = m' + 1 := ⟨m - 1, by omega⟩
                  obtain ⟨z, hz⟩ := get_lt (l := o) (i := m') (by omega)
                  have hz2 : (shf o m y)[m']? = some z := by rw [hmm]; exact shf_at hz
                  obtain ⟨y', hy'⟩ := get_lt (l := shf o m y) (i := m) (by omega)
                  obtain ⟨g, rfl, hBg, hglt, hgc, hcz⟩ := how4.row Itm.clen hz2
                  obtain ⟨g2, e2, _, _, _, hcy⟩ := how4.row Itm.clen hy'
                  cases e2
                  have x0 := hcz 0 _ rfl
                  have x1 := hcz 1 _ rfl
                  have y0 := hcy 0 _ rfl
                  have y1 := hcy 1 _ rfl
                  simp only [Nat.add_zero] at x0 y0
                  have f0 := how4.unfrozen (m * 2)
                  have f1 := how4.unfrozen (m * 2 + 1)
                  have y1' : (wr.setCell ⟨g, m * 2, none⟩ (.string z.key)).cell? ⟨g, m * 2 + 1, none⟩ = some (.string y'.val) := by rw [World.cell?_setCell_other _ _ _ _ (by simp)]; exact y1
                  have hmI : (m : Int) < (o.length : Int) + 1 := by omega
                  have hmI' : (m' : Int) < (o.length : Int) + 1 := by omega
                  have hamI : (at_ : Int) < (m : Int) := by omega
                  have hw1 : (m : Int) - 1 = (m' : Int) := by omega
                  have hwr := how4.write Itm.clen (i := m) (by omega) z
                  have hf : Fr (fun q => q = g) wr (wrW wr g (m * 2) (Itm.cells z)) := wrW_fr (g := g) _ wr (m * 2)
                  have hwb : Below w.heap.size w (wrW wr g (m * 2) (Itm.cells z)) := hbel4.trans (hf.to_below hbel4.size (fun q hq e => by omega))
                  have hsd : (shf o m y).set m z = shf o m' z := by rw [hmm]; exact shf_down hz
                  rw [hsd] at hwr
                  have HWR := Lib.hid hwr
                  have HWB := Lib.hid hwb
                  have HMM := Lib.hid hmm
                  clear hwr hwb hf hcy hcz hy' hz2 how4 hbel4 hsl hsd hmm
                  obtain ⟨zk, zv⟩ := z
                  dsimp only at x0 x1 y1'
                  go_wp2
                  refine ⟨⟨m', ⟨zk, zv⟩, by go_num, by have := HMM.out; omega, by have := HMM.out; omega, HWR.out, HWB.out⟩, ?_⟩
                  simp [intOf]
                  omega
                · obtain rfl : m = at_ := by omega
                  obtain ⟨x0, x1⟩ := HXC2.out wr hbel4
                  obtain ⟨y', hy'⟩ := get_lt (l := shf o m y) (i := m) (by omega)
                  obtain ⟨g, rfl, hBg, hglt, hgc, hcy⟩ := how4.row Itm.clen hy'
                  have y0 := hcy 0 _ rfl
                  have y1 := hcy 1 _ rfl
                  simp only [Nat.add_zero] at y0
                  have f0 := how4.unfrozen (m * 2)
                  have f1 := how4.unfrozen (m * 2 + 1)
                  have y1' : (wr.setCell ⟨g, m * 2, none⟩ (.string x.key)).cell? ⟨g, m * 2 + 1, none⟩ = some (.string y'.val) := by rw [World.cell?_setCell_other _ _ _ _ (by simp)]; exact y1
                  have hmI : (m : Int) < (o.length : Int) + 1 := by omega
                  have hwr := how4.write Itm.clen (i := m) (by omega) x
                  have hf : Fr (fun q => q = g) wr (wrW wr g (m * 2) (Itm.cells x)) := wrW_fr (g := g) _ wr (m * 2)
                  have hwb : Below w.heap.size w (wrW wr g (m * 2) (Itm.cells x)) := hbel4.trans (hf.to_below hbel4.size (fun q hq e => by omega))
                  rw [shf_set y x hmo, shf_ins o m x hmo, HINS.out] at hwr
                  have hil : (isoL (zs.take (k + 1))).length = o.length + 1 := by rw [HIT.out, ← HINS.out, insertIdx_len x o m hmo]
                  have HWR := Lib.hid hwr
                  have HWB := Lib.hid hwb
                  have HIL := Lib.hid hil
                  clear hwr hwb hf hcy hy' how4 hbel4 hsl hil
                  obtain ⟨xk, xv⟩ := x
                  dsimp only at x0 x1 y1'
                  go_wp2
                  refine ⟨⟨k + 1, c3, some ⟨g, 0, none⟩, by go_num, by omega, by rw [HIL.out], by rw [HIL.out, HIT.out]; exact HWR.out, HN2.out, HWB.out⟩, ?_⟩
                  simp [intOf]
                  omega
            · have e1 : ((j + 1 : Nat) : Int) - 1 = (j : Int) := by omega
              rw [e1]
              clear e1
              obtain ⟨y, hy⟩ := get_lt (l := o) (i := j) (by omega)
              obtain ⟨g, rfl, hBg, hglt, hgc, hcy⟩ := (HOW.out.below hb2).row Itm.clen hy
              have y0 := hcy 0 _ rfl
              obtain ⟨x0, x1⟩ := HXC.out wr (below_next HBEL.out hb2)
              simp only [Nat.add_zero] at y0
              have hjI : (j : Int) < (o.length : Int) := by omega
              have hq : (y.key.toList == x.key.toList) = decide (y.key = x.key) := eqB
              have hlt : Op.bytesLess x.key.toList y.key.toList = klt x.key y.key := rfl
              by_cases hyx : y.key = x.key
              · have hds : (getL o x.key).isSome = true := by
                  have := getL_of_mem HRI.out (List.mem_of_getElem? hy)
                  rw [hyx] at this
                  rw [this]
                  rfl
                have he := HE.out
                rw [if_neg (HDUP.out hds)] at he
                have HE2 := Lib.hid he
                have hbf : Below w.heap.size w wr := below_next HBEL.out hb2
                have HBF := Lib.hid hbf
                rw [decide_eq_true hyx] at hq
                clear he hds hyx hlt hcy hy hne hlo hhi hb2 hbf
                obtain ⟨yk, yv⟩ := y
                dsimp only at y0 hq
                go_wp2
                go_quiet (fail)
                go_wp2
                (try simp only [Exit.inBlock, Exit.then])
                refine bodyPost_ret (results_tmp2 rfl _ _ _) rfl ⟨below_drewN HBF.out _, .inl ⟨by rw [HE2.out]; decide, by rw [HE2.out]; rfl⟩⟩
              · rw [decide_eq_false hyx] at hq
                cases hk2 : klt x.key y.key with
                | false =>
                  rw [hk2] at hlt
                  have hlt2 : Op.bytesLess y.key.toList x.key.toList = true := by
                    show klt y.key x.key = true
                    cases h : klt y.key x.key
                    · exact absurd (klt_tri h hk2) hyx
                    · rfl
                  have hrel2 : (∀ (i : Nat) (y : Itm), j ≤ i → o[i]? = some y → y.key ≠ x.key) ∧ (∀ (i : Nat) (y : Itm), j ≤ i → i < at_ → o[i]? = some y → klt x.key y.key = false) := by
                    refine ⟨fun i z hi hz => ?_, fun i z hi hia hz => ?_⟩
                    · by_cases e : i = j
                      · subst e
                        rw [hy] at hz
                        cases hz
                        exact hyx
                      · exact hne i z (by omega) hz
                    · by_cases e : i = j
                      · subst e
                        rw [hy] at hz
                        cases hz
                        exact hk2
                      · exact hlo i z (by omega) hia hz
                  have HR2 := Lib.hid hrel2
                  have HHI := Lib.hid hhi
                  have HB2 := Lib.hid hb2
                  clear hrel2 hyx hk2 hcy hy hne hlo hhi hb2
                  obtain ⟨yk, yv⟩ := y
                  dsimp only at y0 hq hlt hlt2
                  go_wp2
                  go_quiet (fail)
                  go_wp2
                  go_quiet (fail)
                  go_wp2
                  refine ⟨⟨j, at_, by go_num, rfl, by omega, hat, HR2.out.1, HR2.out.2, HHI.out, below_drewN HB2.out _⟩, ?_⟩
                  simp [intOf]
                | true =>
                  rw [hk2] at hlt
                  have hlt2 : Op.bytesLess y.key.toList x.key.toList = false := klt_asym hk2
                  have hrel2 : (∀ (i : Nat) (y : Itm), j ≤ i → o[i]? = some y → y.key ≠ x.key) ∧ (∀ z, o[j]? = some z → klt x.key z.key = true) := by
                    refine ⟨fun i z hi hz => ?_, fun z hz => ?_⟩
                    · by_cases e : i = j
                      · subst e
                        rw [hy] at hz
                        cases hz
                        exact hyx
                      · exact hne i z (by omega) hz
                    · rw [hy] at hz
                      cases hz
                      exact hk2
                  have HR2 := Lib.hid hrel2
                  have HB2 := Lib.hid hb2
                  clear hrel2 hyx hk2 hcy hy hne hlo hhi hb2
                  obtain ⟨yk, yv⟩ := y
                  dsimp only at y0 hq hlt hlt2
                  go_wp2
                  go_quiet (fail)
                  go_wp2
                  go_quiet (fail)
                  go_wp2
                  refine ⟨⟨j, j, by go_num, rfl, by omega, by omega, HR2.out.1, fun i z hi hij => by omega, HR2.out.2, below_drewN HB2.out _⟩, ?_⟩
                  simp [intOf]
        · obtain rfl : k = zs.length := by omega
          rw [List.take_length] at how hnd
          have he := HE.out
          rw [if_pos hnd] at he
          have hlen := iso_len hnd
          rw [hlen] at how
          have HE2 := Lib.hid he
          have HOW := Lib.hid how
          have HB2 := Lib.hid hbel
          rw [List.take_length, hlen]
          clear he how hnd hbel hlen
          go_wp2
          (try simp only [Exit.inBlock, Exit.then])
          refine bodyPost_ret (results_tmp2 rfl _ _ _) rfl ⟨HB2.out, .inr ⟨HE2.out, A2, c2, rfl, HOW.out⟩⟩
end Go.Proofs.YtdfgdnaejnngoaaGreat
namespace Go.Proofs.YtdfgdnaejnngoaaGreat
open Go.RowKit
/-! The document's leaves: grangerref09.With. -/
theorem refOf_any (A : Option Addr) (cap : Nat) (zs : List Itm) (w : World) (hel : Elems w A 2 (zs.map Itm.cells)) (hl : zs.length ≤ 80000) : Calls Tryz.prog 69 #[.slice A zs.length cap] w (RefOf zs w) := by
  cases hb : zs.any badI with
  | false => exact refOf_ok A cap zs w hel hl hb
  | true =>
    have he : errL zs = 1 := by unfold errL; rw [if_pos hb]
    refine (refOf_bad A cap zs w hel hl hb).mono ?_
    rintro e w' ⟨rfl, hb'⟩
    exact ⟨hb', .inl ⟨by rw [he]; decide, by rw [he]⟩⟩
theorem getL_append (a b : List Itm) (k : ByteArray) : getL (a ++ b) k = match getL a k with | some v => some v | none => getL b k := by
  induction a with
  | nil => simp [getL]
  | cons x a ih =>
    rw [List.cons_append, getL_cons, getL_cons]
    by_cases e : x.key = k
    · simp [e]
    · rw [if_neg e, if_neg e, ih]
theorem get_take {l : List Itm} (hr : Rises l) {k : Nat} {y : Itm} (hy : l[k]? = some y) (key : ByteArray) : getL (l.take (k + 1)) key = if y.key = key then some y.val else getL (l.take k) key := by
  rw [take_snoc' hy, getL_append]
  by_cases e : y.key = key
  · subst e
    have : getL (l.take k) y.key = none := getL_none (fun z hz => by
      obtain ⟨i, hi⟩ := List.getElem?_of_mem hz
      have hik : i < k := by have := (List.getElem?_eq_some_iff.1 hi).1; rw [List.length_take] at this; omega
      rw [List.getElem?_take, if_pos hik] at hi
      exact klt_ne (hr.get hik hi hy))
    rw [this, if_pos rfl, getL_cons, if_pos rfl]
  · rw [if_neg e, getL_cons, if_neg e, getL_nil]
    cases getL (l.take k) key <;> rfl
theorem del_take {l : List Itm} {k : Nat} {y : Itm} (hy : l[k]? = some y) (key : ByteArray) : delR key (l.take (k + 1)) = if y.key = key then delR key (l.take k) else delR key (l.take k) ++ [y] := by
  unfold delR
  rw [take_snoc' hy, List.filter_append]
  by_cases e : y.key = key
  · rw [if_pos e]; simp [e]
  · rw [if_neg e]; simp [e]
theorem ins_del {l : List Itm} (hr : Rises l) (k v : ByteArray) : insR k v (delR k l) = insR k v l := by
  refine rises_ext (rises_ins _ _ (rises_filter _ hr)) (rises_ins _ _ hr) (fun k' => ?_)
  rw [get_ins, get_ins, get_del]
  by_cases e : k' = k <;> simp [e]
theorem rest_of {l : List Itm} (hr : Rises l) (ho : ∀ y ∈ l, y.ok) (k : ByteArray) : errL (delR k l) = 0 ∧ isoL (delR k l) = delR k l := by
  have h1 : Rises (delR k l) := rises_filter _ hr
  refine ⟨?_, iso_self h1⟩
  have hb : (delR k l).any badI = false := by
    rw [List.any_eq_false]
    intro y hy
    have := ho y (List.mem_filter.1 hy).1
    unfold badI
    simp [this.1, this.2]
  unfold errL
  rw [hb, if_pos (rises_nodup h1)]
  rfl
theorem rest_with {l : List Itm} (hr : Rises l) (ho : ∀ y ∈ l, y.ok) {k v : ByteArray} (hx : (Itm.mk k v).ok) : errL (delR k l ++ [Itm.mk k v]) = 0 ∧ isoL (delR k l ++ [Itm.mk k v]) = insR k v l := by
  have h1 : Rises (delR k l) := rises_filter _ hr
  have hb : (delR k l ++ [Itm.mk k v]).any badI = false := by
    rw [List.any_eq_false]
    intro y hy
    have hok : y.ok := by
      rcases List.mem_append.1 hy with hy | hy
      · exact ho y (List.mem_filter.1 hy).1
      · simp at hy; subst hy; exact hx
    unfold badI
    simp [hok.1, hok.2]
  have hn : (keysL (delR k l ++ [Itm.mk k v])).Nodup := by
    have h2 := rises_nodup h1
    unfold keysL at *
    rw [List.map_append]
    refine List.nodup_append.2 ⟨h2, by simp, fun a ha b hb => ?_⟩
    rintro rfl
    simp only [List.map_cons, List.map_nil, List.mem_singleton] at hb
    rw [hb] at ha
    have := (getL_key_iff (delR k l) k).2 ha
    rw [get_del, if_pos rfl] at this
    cases this
  refine ⟨?_, ?_⟩
  · unfold errL
    rw [hb, if_pos hn]
    rfl
  · rw [iso_snoc, iso_self h1]
    exact ins_del hr k v
theorem own_ge {w : World} {B q : Nat} {v : Value} {l : List Itm} (h : OwnsM w B v l) (hq : q < B) (e : v.ownBlock = some q) : False := by
  rcases h.2 with ⟨he, _⟩ | ⟨g, cap', cur, he, hb, _⟩
  · rw [he] at e; cases e
  · rw [he] at e
    simp only [Value.ownBlock, Option.some.injEq] at e
    omega
theorem ownM_drewN {w : World} {B : Nat} {v : Value} {l : List Itm} (h : OwnsM w B v l) (n : Nat) : OwnsM (w.drewN n) B v l := h
def RefWith (l : List Itm) (x : Mg) (w : World) (e : Ending) (w' : World) : Prop := Below w.heap.size w w' ∧ ∃ A cap, e = .returned (.tuple #[.slice A (doL l x).length cap, .bool true]) ∧ OwnsM w' w.heap.size (.slice A (doL l x).length cap) (doL l x)
set_option maxHeartbeats 4000000 in
set_option maxRecDepth 100000 in
theorem refWith_any (A : Option Addr) (cap bm off cm : Nat) (l : List Itm) (x : Mg) (w : World) (hel : Elems w A 2 (l.map Itm.cells)) (hr : Rises l) (ho : ∀ y ∈ l, y.ok) (hl : l.length ≤ 70000) (hm : isMsg x = true) (hbm : bm < w.heap.size)
    (m0 : w.cell? ⟨bm, off, none⟩ = some (.int .i64 x.kind)) (m1 : w.cell? ⟨bm, off + 1, none⟩ = some (.string x.key)) (m2 : w.cell? ⟨bm, off + 2, none⟩ = some (.string x.val)) :
    Calls Tryz.prog 61 #[.slice A l.length cap, .slice (some ⟨bm, off, none⟩) 1 cm] w (RefWith l x w) := by
  have hI := fun W => ref08Is_any x W
  rw [hm] at hI
  have hcl : ∀ W, Below w.heap.size w W → W.cell? ⟨bm, off, none⟩ = some (.int .i64 x.kind) ∧ W.cell? ⟨bm, off + 1, none⟩ = some (.string x.key) ∧ W.cell? ⟨bm, off + 2, none⟩ = some (.string x.val) := fun W hW => ⟨(hW.cell (p := ⟨bm, _, none⟩) hbm).trans m0, (hW.cell (p := ⟨bm, _, none⟩) hbm).trans m1, (hW.cell (p := ⟨bm, _, none⟩) hbm).trans m2⟩
  have hA := fun W => refApply_any x (getL l x.key) W
  have hdo : doL l x = putO l x.key (applyO x (getL l x.key)) := rfl
  have hak := apply_ok hm ho
  have HI := Lib.hid hI
  have HCL := Lib.hid hcl
  have HA := Lib.hid hA
  have HDO := Lib.hid hdo
  have HAK := Lib.hid hak
  have HEL := Lib.hid hel
  have HR := Lib.hid hr
  have HO := Lib.hid ho
  generalize hap : applyO x (getL l x.key) = R at *
  clear hI hcl hA hdo hak hel hr ho hm m0 m1 m2 hbm hap
  obtain ⟨kind, key, val⟩ := x
  rw [Mg.v_def] at HI HA
  dsimp only at HI HCL HA HDO HAK
  go_enter Tryz.func61, Tryz.ntmps61
  go_wp2
  go_loopw [6] (fun i wr => ∃ k : Nat, i = .int .i64 k ∧ k ≤ 1 ∧ Below w.heap.size w wr) (fun i _ => 2 - (intOf i).toNat)
  case atStart => exact ⟨0, rfl, Nat.zero_le _, (by repeat (first | assumption | exact Below.refl _ _ | (refine below_step (w := ?_) ?_ ?_ ?_; rotate_left 2; assumption) | refine Below.drew ?_ | refine below_drewN ?_ _ | refine Below.alloc ?_ ?_ _ | refine Below.setCell ?_ ?_ _ | (focus (simp; done)) | (focus (simp; omega)) | omega))⟩
  case round =>
    obtain ⟨k, rfl, hk, hbel⟩ := hrel
    rcases (by omega : k = 0 ∨ k = 1) with rfl | rfl
    · have e0 : ((0 : Nat) : Int) = 0 := rfl
      rw [e0]
      clear e0
      obtain ⟨m0, m1, m2⟩ := HCL.out wr hbel
      go_wp2_with (go_at_call 60; (with_reducible refine (HI.out _).mono ?_); rintro e w1 ⟨rfl, hb1⟩; have HB1 := Lib.hid (below_next hbel hb1); clear hb1)
      exact ⟨⟨1, by go_num, by omega, HB1.out⟩, by simp [intOf]⟩
    · have e1 : ((1 : Nat) : Int) = 1 := rfl
      rw [e1]
      clear e1
      go_wp2
      have how0 : OwnsM (wr.alloc (.cells #[] 41)) w.heap.size (.slice (some ⟨wr.heap.size, 0, none⟩) (delR key (l.take 0)).length 0) (delR key (l.take 0)) := OwnsG.empty (heap_alloc_new wr _) hbel.size
      have hb0 : Below w.heap.size w (wr.alloc (.cells #[] 41)) := below_alloc hbel
      have HOW0 := Lib.hid how0
      have HB0 := Lib.hid hb0
      clear how0 hb0 hbel
      refine wp_loop_rounds 2 ?_
      rw [rounds_succ]
      go_wp2
      go_loopw [11, 8, 9, 10] (fun i v s h wr => ∃ (k c2 : Nat) (A2 : Option Addr), i = .int .i64 k ∧ k ≤ l.length ∧ v = .slice A2 (delR key (l.take k)).length c2 ∧ s = .string (strO (getL (l.take k) key)) ∧ h = .bool (getL (l.take k) key).isSome ∧ OwnsM wr w.heap.size (.slice A2 (delR key (l.take k)).length c2) (delR key (l.take k)) ∧ Below w.heap.size w wr) (fun i _ _ _ _ => l.length + 1 - (intOf i).toNat)
      case atStart => exact ⟨0, 0, some ⟨wr.heap.size, 0, none⟩, rfl, Nat.zero_le _, rfl, rfl, rfl, HOW0.out, HB0.out⟩
      case round =>
        obtain ⟨k, c2, A2, rfl, hk, rfl, rfl, rfl, how, hbel⟩ := hrel
        by_cases hkl : k < l.length
        · have hkI : (k : Int) < (l.length : Int) := by omega
          obtain ⟨y, hy⟩ := get_lt hkl
          obtain ⟨b, ofy, rfl, hblt, d0, d1⟩ := itm_row (HEL.out.below hbel) hy
          obtain ⟨m0, m1, m2⟩ := HCL.out wr hbel
          have hgt := get_take HR.out hy key
          have hdt := del_take hy key
          have hq : (y.key.toList == key.toList) = decide (y.key = key) := eqB
          have HOW := Lib.hid how
          have HBEL := Lib.hid hbel
          have hdl : (delR key (l.take k)).length ≤ 70000 := by
            have h1 := List.length_filter_le (fun x : Itm => !decide (x.key = key)) (l.take k)
            rw [List.length_take] at h1
            show ((l.take k).filter fun x : Itm => !decide (x.key = key)).length ≤ _
            omega
          by_cases e : y.key = key
          · rw [if_pos e] at hgt hdt
            rw [decide_eq_true e] at hq
            have HGT := Lib.hid hgt
            have HDT := Lib.hid hdt
            clear hgt hdt e how hbel hy
            obtain ⟨yk, yv⟩ := y
            dsimp only at d0 d1 hq HGT
            generalize delR key (l.take k) = D at *
            go_wp2
            go_quiet (fail)
            go_wp2
            refine ⟨⟨k + 1, c2, A2, by go_num, by omega, by rw [HDT.out], by rw [HGT.out]; rfl, by rw [HGT.out]; rfl, by rw [HDT.out]; exact HOW.out, below_drewN HBEL.out _⟩, ?_⟩
            simp [intOf]
            omega
          · rw [if_neg e] at hgt hdt
            rw [decide_eq_false e] at hq
            have HGT := Lib.hid hgt
            have HDT := Lib.hid hdt
            clear hgt hdt e how hbel hy
            have hxi : ∀ W, (W : World) = W → ItmAt (W.alloc (.cells #[.string y.key, .string y.val] 41)) W.heap.size y 41 := fun W _ => heap_alloc_new W _
            have HXI := Lib.hid hxi
            have HYC := Lib.hid (show [y].map Itm.cells = [y.cells] from rfl)
            clear hxi
            obtain ⟨yk, yv⟩ := y
            dsimp only at d0 d1 hq HGT HXI
            generalize delR key (l.take k) = D at *
            go_wp2
            go_quiet (fail)
            go_wp2_with (at_builtin; refine itm_append rfl (some 59) rfl _ _ rfl w.heap.size (.slice A2 D.length c2) D [⟨yk, yv⟩] 1 ⟨wr.heap.size, 0, none⟩ 1 rfl rfl rfl (OwnsG.alloc (f := Itm.cells) (k := 2) (e := 41) (ownM_drewN HOW.out nq) _) (by simpa using ItmAt.cells (x := ⟨yk, yv⟩) (T := 41) (heap_alloc_new (wr.drewN nq) _)) (by simp; omega) (Nat.le_trans HBEL.out.size (by simp)) (D.length + 1) (by simp) ?_)
            intro A3 c3 w3 ho3 hf3
            have hb4 : Below w.heap.size w w3 := (below_alloc (o := .cells #[.string yk, .string yv] 41) (below_drewN HBEL.out nq)).trans (hf3.to_below (Nat.le_trans HBEL.out.size (by simp)) (fun q hq e => by
              rcases HOW.out.2 with ⟨he, _⟩ | ⟨g, cap', cur, he, hb, _⟩
              · rw [he] at e; cases e
              · rw [he] at e
                simp only [Value.ownBlock, Option.some.injEq] at e
                omega))
            have HO3 := Lib.hid ho3
            have HB4 := Lib.hid hb4
            clear ho3 hb4 hf3
            go_wp2
            refine ⟨⟨k + 1, c3, A3, by go_num, by omega, by rw [HDT.out, List.length_append]; rfl, by rw [HGT.out], by rw [HGT.out], by rw [HDT.out, List.length_append]; exact HO3.out, HB4.out⟩, ?_⟩
            simp [intOf]
            omega
        · obtain rfl : k = l.length := by omega
          rw [List.take_length] at how
          rw [List.take_length]
          obtain ⟨m0, m1, m2⟩ := HCL.out wr hbel
          have hdl : (delR key l).length ≤ 70000 := by
            have h1 := List.length_filter_le (fun x : Itm => !decide (x.key = key)) l
            show (l.filter fun x : Itm => !decide (x.key = key)).length ≤ _
            omega
          have hro := rest_of HR.out HO.out key
          have hrw := fun v h => rest_with HR.out HO.out (k := key) (v := v) h
          have hcm : ∀ W, Below wr.heap.size wr W → W.cell? ⟨bm, off + 1, none⟩ = some (.string key) := fun W hW => (HCL.out W (below_next hbel hW)).2.1
          have HOW := Lib.hid how
          have HBEL := Lib.hid hbel
          have HRO := Lib.hid hro
          have HRW := Lib.hid hrw
          have HCM := Lib.hid hcm
          clear how hbel hro hrw hcm
          cases R with
          | none =>
            have hof := fun W (hW : Below wr.heap.size wr W) => refOf_any A2 c2 (delR key l) W ((HOW.out.below hW).elems Itm.clen) (by omega)
            have HOF := Lib.hid hof
            clear hof
            have hdd : doL l ⟨kind, key, val⟩ = delR key l := HDO.out
            have HDD := Lib.hid hdd
            clear hdd HDO
            generalize delR key l = D at *
            go_wp2_with (first | (go_at_call 93; (with_reducible refine (HA.out _).mono ?_); rintro e w1 ⟨rfl, hb1⟩; have HB1 := Lib.hid hb1; clear hb1) | (go_at_call 69; (with_reducible refine (HOF.out _ HB1.out).mono ?_); rintro e w2 ⟨hb2, h2⟩; rw [HRO.out.1] at h2; rcases h2 with ⟨h2, _⟩ | ⟨_, A4, c4, rfl, ho4⟩; exact absurd rfl h2; have HB2 := Lib.hid (below_next (below_next HBEL.out HB1.out) hb2); have HO4 := Lib.hid ho4; clear hb2 ho4))
            rw [rounds_succ]
            go_wp2
            (try simp only [Exit.inBlock, Exit.then])
            refine bodyPost_ret (results_tmp2 rfl _ _ _) rfl ⟨HB2.out, A4, c4, by rw [HDD.out]; rfl, ?_⟩
            rw [HDD.out]
            have := HO4.out.base (below_next HBEL.out HB1.out).size
            rw [HRO.out.2] at this
            exact this
          | some u =>
            have HA3 := Lib.hid (show ∀ W, Calls Tryz.prog 93 #[.agg #[.int .i64 kind, .string key, .string val], .string (strO (getL l key)), .bool (getL l key).isSome] W fun e w' => e = .returned (.tuple #[.string u, .bool true]) ∧ Below W.heap.size W w' from HA.out)
            clear HA
            have hd : doL l ⟨kind, key, val⟩ = insR key u l := HDO.out
            obtain ⟨he0, hi0⟩ := HRW.out u (HAK.out u rfl)
            have hlen : (delR key l ++ [Itm.mk key u]).length = (delR key l).length + 1 := by simp
            have hof := fun W A5 c5 (h : OwnsM W w.heap.size (.slice A5 ((delR key l).length + 1) c5) (delR key l ++ [Itm.mk key u])) => refOf_any A5 c5 (delR key l ++ [Itm.mk key u]) W (h.elems Itm.clen) (by rw [hlen]; omega)
            rw [hlen] at hof
            have hap := fun W (hW : Below wr.heap.size wr W) => HOW.out.below hW
            have hdl2 : (doL l ⟨kind, key, val⟩).length = (delR key l).length + 1 := by
              rw [hd, ← hi0]
              have hn : (keysL (delR key l ++ [Itm.mk key u])).Nodup := by
                unfold errL at he0
                split at he0
                · cases he0
                · split at he0
                  · assumption
                  · cases he0
              rw [iso_len hn, hlen]
            have HOF := Lib.hid hof
            have HD := Lib.hid (hd.trans hi0.symm)
            have HE0 := Lib.hid he0
            have HLN := Lib.hid hlen
            have HAP := Lib.hid hap
            have HDL2 := Lib.hid hdl2
            clear hof hd he0 hi0 hlen HDO HRW hap hdl2
            generalize delR key l = D at *
            go_wp2_with (first
              | (go_at_call 93; (with_reducible refine (HA3.out _).mono ?_); rintro e w1 ⟨rfl, hb1⟩; have HB1 := Lib.hid hb1; clear hb1; have m1 := HCM.out _ HB1.out)
              | (go_at_call 69; (with_reducible refine (HOF.out _ _ _ HO3.out).mono ?_); rintro e w2 ⟨hb2, h2⟩; rw [HE0.out] at h2; rcases h2 with ⟨h2, _⟩ | ⟨_, A4, c4, rfl, ho4⟩; exact absurd rfl h2; rw [HLN.out] at ho4; have HB2 := Lib.hid (below_next HB3.out hb2); have HO4 := Lib.hid ho4; clear hb2 ho4)
              | (at_builtin; go_loud (refine itm_append rfl (some 80) rfl _ _ rfl w.heap.size (.slice A2 D.length c2) D [⟨key, u⟩] 1 ⟨w1.heap.size, 0, none⟩ 1 rfl rfl rfl (OwnsG.alloc (f := Itm.cells) (k := 2) (e := 41) (HAP.out _ HB1.out) _) (by simpa using ItmAt.cells (x := ⟨key, u⟩) (T := 41) (heap_alloc_new w1 _)) (by simp; omega) (Nat.le_trans (below_next HBEL.out HB1.out).size (by simp)) (D.length + 1) (by simp) ?_; intro A3 c3 w3 ho3 hf3; have HO3 := Lib.hid ho3; have HB3 := Lib.hid ((below_alloc (o := .cells #[.string key, .string u] 41) (below_next HBEL.out HB1.out)).trans (hf3.to_below (Nat.le_trans (below_next HBEL.out HB1.out).size (by simp)) (fun q hq e => own_ge (HAP.out _ HB1.out) hq e))); clear ho3 hf3)))
            rw [rounds_succ]
            go_wp2
            (try simp only [Exit.inBlock, Exit.then])
            refine bodyPost_ret (results_tmp2 rfl _ _ _) rfl ⟨HB2.out, A4, c4, by rw [HDL2.out]; rfl, ?_⟩
            rw [HDL2.out, HD.out]
            exact HO4.out.base HB3.out.size
end Go.Proofs.YtdfgdnaejnngoaaGreat
namespace Go.Proofs.YtdfgdnaejnngoaaGreat
open Go.RowKit
/-! The document's model: grangerref09.Weight, grangerref26.New, Now. -/
set_option maxHeartbeats 1000000 in
set_option maxRecDepth 100000 in
theorem refWeight_any (A : Option Addr) (cap : Nat) (l : List Itm) (w : World) (hel : Elems w A 2 (l.map Itm.cells)) (ho : ∀ x ∈ l, x.ok) (hl : l.length ≤ 80000) :
    Calls Tryz.prog 41 #[.slice A l.length cap] w fun e w' => e = .returned (.int .i64 (sumW l)) ∧ Below w.heap.size w w' := by
  have HEL := Lib.hid hel
  have HO := Lib.hid ho
  clear hel ho
  go_enter Tryz.func41, Tryz.ntmps41
  go_wp2
  go_loopw [3, 4] (fun s i wr => ∃ k : Nat, i = .int .i64 k ∧ k ≤ l.length ∧ s = .int .i64 (sumW (l.take k)) ∧ Below w.heap.size w wr) (fun _ i _ => l.length + 1 - (intOf i).toNat)
  case atStart => exact ⟨0, rfl, Nat.zero_le _, rfl, (by repeat (first | assumption | exact Below.refl _ _ | (refine below_step (w := ?_) ?_ ?_ ?_; rotate_left 2; assumption) | refine Below.drew ?_ | refine below_drewN ?_ _ | refine Below.alloc ?_ ?_ _ | refine Below.setCell ?_ ?_ _ | (focus (simp; done)) | (focus (simp; omega)) | omega))⟩
  case round =>
    obtain ⟨k, rfl, hk, rfl, hbel⟩ := hrel
    by_cases hkl : k < l.length
    · have hkI : (k : Int) < (l.length : Int) := by omega
      obtain ⟨x, hx⟩ := get_lt hkl
      obtain ⟨b, off, rfl, hlt, d0, d1⟩ := itm_rowR (HEL.out.below hbel) hx
      have hxo := HO.out x (List.mem_of_getElem? hx)
      obtain ⟨x0, x1, x2, x3⟩ := itW_ok hxo
      have hs := sumW_range (l.take k) (fun y hy => HO.out y (List.mem_of_mem_take hy))
      have htl : (l.take k).length ≤ 80000 := by rw [List.length_take]; omega
      have hst := sumW_take l k x hx
      have hiw : itW x = 2 + (x.key.size : Int) + (x.val.size : Int) := by unfold itW; omega
      rw [hiw] at hst
      have HST := Lib.hid hst
      have HB := Lib.hid hbel
      obtain ⟨xk, xv⟩ := x
      dsimp only at d0 d1 x2 x3 HST
      generalize sumW (l.take k) = sw at *
      have hw1 : IntKind.i64.wrap (sw + 2) = sw + 2 := by rw [IntKind.wrap_i64]; omega
      have hw2 : IntKind.i64.wrap (sw + 2 + (xk.size : Int)) = sw + 2 + (xk.size : Int) := by rw [IntKind.wrap_i64]; omega
      have hw3 : IntKind.i64.wrap (sw + 2 + (xk.size : Int) + (xv.size : Int)) = sw + 2 + (xk.size : Int) + (xv.size : Int) := by rw [IntKind.wrap_i64]; omega
      clear hst hbel hx hxo hs htl hiw x0 x1 x2 x3
      go_wp2
      go_quiet (fail)
      go_wp2
      refine ⟨⟨k + 1, by go_num, by omega, by rw [HST.out]; congr 1; omega, below_drewN HB.out _⟩, ?_⟩
      simp [intOf]
      omega
    · obtain rfl : k = l.length := by omega
      rw [List.take_length]
      have HB := Lib.hid hbel
      clear hbel
      go_wp2
      go_ret
      exact ⟨rfl, HB.out⟩
/-- items, in a block of items -/
def RowAt (w : World) (A : Option Addr) (l : List Itm) : Prop := Elems w A 2 (l.map Itm.cells) ∧ (l ≠ [] → ∀ ad, A = some ad → ∃ cs, w.heap[ad.block]? = some (.cells cs 41 (0, 0)))
theorem RowAt.below {w w' : World} {A : Option Addr} {l : List Itm} (h : RowAt w A l) (hb : Below w.heap.size w w') : RowAt w' A l :=
  ⟨h.1.below hb, fun hn ad e => by
    obtain ⟨cs, hc⟩ := h.2 hn ad e
    exact ⟨cs, box_below hc hb⟩⟩
theorem RowAt.fr {S : Nat → Prop} {w w' : World} {A : Option Addr} {l : List Itm} (h : RowAt w A l) (hf : Fr S w w') (hS : ∀ q, S q → q < w.heap.size → ∃ (cs : Array Value) (T : TypeId), w.heap[q]? = some (.cells cs T (0, 0)) ∧ T ≠ 41) : RowAt w' A l := by
  have hn : l ≠ [] → ∀ ad, A = some ad → ¬ S ad.block := fun hl ad e hs => by
    obtain ⟨cs, hc⟩ := h.2 hl ad e
    obtain ⟨cs2, T, hq, hT⟩ := hS _ hs (lt_of_row hc)
    exact kinds_ne hc hq hT.symm rfl
  refine ⟨?_, fun hl ad e => ?_⟩
  · by_cases e : l = []
    · subst e
      intro i r hr
      simp at hr
    · exact h.1.fr hf (hn e)
  · obtain ⟨cs, hc⟩ := h.2 hl ad e
    exact ⟨cs, hf.row (hn hl ad e) hc⟩
theorem RowAt.nil (w : World) (A : Option Addr) : RowAt w A [] := ⟨by intro i r hr; simp at hr, fun h => absurd rfl h⟩
theorem ownM_row {w : World} {B n c : Nat} {A : Option Addr} {l : List Itm} (h : OwnsM w B (.slice A n c) l) : RowAt w A l := by
  refine ⟨h.elems Itm.clen, fun hl ad e => ?_⟩
  rcases h.2 with ⟨he, h0⟩ | ⟨g, cap', cur, he, _, hg, _⟩
  · simp only [Value.slice.injEq] at he
    rw [he.1] at e
    cases e
  · simp only [Value.slice.injEq] at he
    rw [he.1] at e
    cases e
    exact ⟨cur, hg⟩
/-- the document's model in memory: a row of rows -/
structure RefAt (w : World) (bu : Nat) (c : Int) (ls : List (List Itm)) : Prop where
  row : ∃ (gr off cap : Nat) (vs : List Value), w.heap[bu]? = some (.cells #[.int .i64 c, .slice (some ⟨gr, off, none⟩) vs.length cap] 83 (0, 0)) ∧ vs.length = ls.length ∧ vs.length ≤ cap ∧ (∃ cs, w.heap[gr]? = some (.cells cs 29 (0, 0))) ∧ (∀ (j : Nat) (v : Value), vs[j]? = some v → w.cell? ⟨gr, off + j, none⟩ = some v) ∧ ∀ (j : Nat) (v : Value) (l : List Itm), vs[j]? = some v → ls[j]? = some l → ∃ A cp, v = .slice A l.length cp ∧ RowAt w A l
  pos : 0 < ls.length
theorem RefAt.lt {w : World} {bu : Nat} {c : Int} {ls : List (List Itm)} (h : RefAt w bu c ls) : bu < w.heap.size := by
  obtain ⟨gr, off, cap, vs, h1, _⟩ := h.row
  exact lt_of_row h1
theorem RefAt.below {w w' : World} {bu : Nat} {c : Int} {ls : List (List Itm)} (h : RefAt w bu c ls) (hb : Below w.heap.size w w') : RefAt w' bu c ls := by
  obtain ⟨gr, off, cap, vs, h1, h2, h3, ⟨cs, h4⟩, h5, h6⟩ := h.row
  refine ⟨⟨gr, off, cap, vs, box_below h1 hb, h2, h3, ⟨cs, box_below h4 hb⟩, fun j v hv => (hb.cell (p := ⟨gr, _, none⟩) (lt_of_row h4)).trans (h5 j v hv), fun j v l hv hl => ?_⟩, h.pos⟩
  obtain ⟨A, cp, hc, he⟩ := h6 j v l hv hl
  exact ⟨A, cp, hc, he.below hb⟩
set_option maxRecDepth 100000 in
theorem refNew_any (c : Int) (w : World) : Calls Tryz.prog 33 #[.int .i64 c] w fun e w' => ∃ bu, e = .returned (.pointer (some ⟨bu, 0, none⟩)) ∧ RefAt w' bu c [[]] ∧ w.heap.size ≤ bu ∧ Below w.heap.size w w' := by
  go_enter Tryz.func33, Tryz.ntmps33
  go_wp2
  go_ret
  have h1 : ((w.alloc (.cells #[] 41)).alloc (.cells #[.slice (some ⟨w.heap.size, 0, none⟩) 0 0] 29)).heap[w.heap.size + 1]? = some (.cells #[.slice (some ⟨w.heap.size, 0, none⟩) 0 0] 29 (0, 0)) := heap_new_at (by simp)
  refine ⟨w.heap.size + 2, rfl, ⟨⟨w.heap.size + 1, 0, 1, [.slice (some ⟨w.heap.size, 0, none⟩) 0 0], heap_new_at (by simp), rfl, Nat.le_refl _, ⟨_, ((Fr.refl (fun _ => False) _).alloc _).row id h1⟩, fun j v hv => ?_, fun j v l hv hl => ?_⟩, by simp⟩, by omega, below_alloc (below_alloc (below_alloc (Below.refl _ w)))⟩
  · rcases j with _ | j
    · simp at hv
      subst hv
      rw [Lib.cell_of_heap (((Fr.refl (fun _ => False) _).alloc _).row id h1)]
      rfl
    · simp at hv
  · rcases j with _ | j
    · simp at hv hl
      subst hv hl
      exact ⟨_, _, rfl, RowAt.nil _ _⟩
    · simp at hv
set_option maxRecDepth 100000 in
theorem refNow_row (bu : Nat) (c : Int) (ls : List (List Itm)) (l : List Itm) (w : World) (h : RefAt w bu c ls) (hl : ls[ls.length - 1]? = some l) (hn : ls.length ≤ 90000) :
    Calls Tryz.prog 40 #[.pointer (some ⟨bu, 0, none⟩)] w fun e w' => ∃ A cp, e = .returned (.slice A l.length cp) ∧ RowAt w' A l ∧ Below w.heap.size w w' := by
  obtain ⟨gr, off, cap, vs, h1, h2, h3, h4, h5, h6⟩ := h.row
  have hp := h.pos
  obtain ⟨v, hv⟩ := get_lt (l := vs) (i := ls.length - 1) (by omega)
  obtain ⟨A, cp, rfl, he⟩ := h6 _ v l hv hl
  have hc := h5 _ _ hv
  obtain ⟨m, hm⟩ : ∃ m, vs.length = m + 1 := ⟨vs.length - 1, by omega⟩
  have hlm : ls.length - 1 = m := by omega
  rw [hlm] at hc
  have c1 : w.cell? ⟨bu, 1, none⟩ = some (.slice (some ⟨gr, off, none⟩) (m + 1) cap) := by rw [Lib.cell_of_heap h1, ← hm]; rfl
  have hw1 : IntKind.i64.wrap ((m : Int) + 1 - 1) = (m : Int) := by rw [IntKind.wrap_i64]; omega
  have hw2 : IntKind.i64.wrap (m : Int) = (m : Int) := by rw [IntKind.wrap_i64]; omega
  have hnI : (m : Int) < (m : Int) + 1 := by omega
  have HE := Lib.hid he
  clear h h1 h2 h3 h4 h5 h6 hl he hlm hp hv hm
  go_enter Tryz.func40, Tryz.ntmps40
  go_wp2
  go_quiet (fail)
  go_wp2
  go_ret
  exact ⟨A, cp, rfl, HE.out.below (below_drewN (Below.refl _ w) _), below_drewN (Below.refl _ w) _⟩
theorem refNow_any (bu : Nat) (c : Int) (ls : List (List Itm)) (l : List Itm) (w : World) (h : RefAt w bu c ls) (hl : ls[ls.length - 1]? = some l) (hn : ls.length ≤ 90000) :
    Calls Tryz.prog 40 #[.pointer (some ⟨bu, 0, none⟩)] w fun e w' => ∃ A cp, e = .returned (.slice A l.length cp) ∧ Elems w' A 2 (l.map Itm.cells) ∧ Below w.heap.size w w' := by
  refine (refNow_row bu c ls l w h hl hn).mono ?_
  rintro e w' ⟨A, cp, h1, h2, h3⟩
  exact ⟨A, cp, h1, h2.1, h3⟩
/-- a block that is none of the document's model -/
theorem ref_other {w w' : World} {bu q : Nat} {c : Int} {ls : List (List Itm)} {cs : List Value} {T : TypeId} (h : RefAt w bu c ls) (hq : w.heap[q]? = some (.cells cs.toArray T (0, 0))) (h1 : T ≠ 83) (h2 : T ≠ 29) (h3 : T ≠ 41) (hf : Fr (fun k => k = q) w w') : RefAt w' bu c ls := by
  obtain ⟨gr, off, cap, vs, r1, r2, r3, ⟨cr, r4⟩, r5, r6⟩ := h.row
  refine ⟨⟨gr, off, cap, vs, hf.row (fun e => kinds_ne r1 hq h1.symm e) r1, r2, r3, ⟨cr, hf.row (fun e => kinds_ne r4 hq h2.symm e) r4⟩, fun j v hv => hf.cell (lt_of_row r4) (fun e => kinds_ne r4 hq h2.symm e) (r5 j v hv), fun j v l hv hl => ?_⟩, h.pos⟩
  obtain ⟨A, cp, rfl, he⟩ := r6 j v l hv hl
  exact ⟨A, cp, rfl, he.fr hf (fun k hk _ => by subst hk; exact ⟨_, _, hq, h3⟩)⟩
end Go.Proofs.YtdfgdnaejnngoaaGreat
