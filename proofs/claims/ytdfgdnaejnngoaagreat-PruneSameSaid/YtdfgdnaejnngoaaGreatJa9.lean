import Derived.Test.YtdfgdnaejnngoaaGreatJa8
import Derived.Test.YtdfgdnaejnngoaaGreatRows
import Derived.Test.YtdfgdnaejnngoaaGreatJa1
import Derived.WalkKit
import Derived.ProofKit
import Derived.OpenShut
import Derived.ShutString
import Derived.ChangeOld
import Derived.Below
import Derived.Deep.Slices
import Derived.Deep.Fields
import Derived.ChangeSame
namespace Go.Proofs.YtdfgdnaejnngoaaGreat
open Go.RowKit
/-! grangerref09.Same; grangerlaw33.great, awake. -/
theorem neq_itm (a b : Itm) (w : World) : (binOp .neq 41 a.v b.v).run Tryz.prog w = .ok (.bool (!decide (a = b))) w := by
  have u9 := Tryz.underlying9
  have a9 := Tryz.isAgg9
  have z9 := Tryz.sizeOf9
  have hS : Tryz.prog.underlying 41 = some (.struct (Tryz.prog.fieldsOf 41)) := by kernel_rfl
  have hp : Tryz.prog.stoodInHeld 41 = false := by kernel_rfl
  rw [Itm.v_def, Itm.v_def]
  rw [run_neq_struct, show (10000 : Nat) = 9999 + 1 from rfl, run_equalIn_agg w 9999 41 _ _ hS hp]
  simp only [Program.fieldsOf, Tryz.underlying41]
  go_simp
  obtain ⟨key, val⟩ := a
  obtain ⟨key', val'⟩ := b
  by_cases h2 : key = key' <;> by_cases h3 : val = val' <;> simp [h2, h3, bytes_inj]
set_option maxHeartbeats 1000000 in
set_option maxRecDepth 100000 in
theorem refSame_any (A B : Option Addr) (ca cb : Nat) (la lb : List Itm) (w : World) (ha : Elems w A 2 (la.map Itm.cells)) (hb : Elems w B 2 (lb.map Itm.cells)) (hl : la.length ≤ 80000) (hl2 : lb.length ≤ 80000) :
    Calls Tryz.prog 28 #[.slice A la.length ca, .slice B lb.length cb] w fun e w' => e = .returned (.bool (decide (la = lb))) ∧ Below w.heap.size w w' := by
  by_cases hn : la.length = lb.length
  · have HA := Lib.hid ha
    have HB := Lib.hid hb
    have hq := fun a b W => neq_itm a b W
    simp only [Itm.v_def] at hq
    have HQ := Lib.hid hq
    have hgu : Tryz.prog.eqGuardType Tryz.prog.depth 41 = false := by kernel_rfl
    obtain ⟨R, hR⟩ : ∃ R, decide (la = lb) = R := ⟨_, rfl⟩
    rw [hR]
    have HR := Lib.hid hR
    have HN := Lib.hid hn
    rw [← hn]
    clear hq ha hb hR hl2 hn
    go_enter Tryz.func28, Tryz.ntmps28
    go_wp2
    go_loopw [5] (fun i wr => ∃ k : Nat, i = .int .i64 k ∧ k ≤ la.length ∧ la.take k = lb.take k ∧ Below w.heap.size w wr) (fun i _ => la.length + 1 - (intOf i).toNat)
    case atStart => exact ⟨0, rfl, Nat.zero_le _, rfl, (by repeat (first | assumption | exact Below.refl _ _ | (refine below_step (w := ?_) ?_ ?_ ?_; rotate_left 2; assumption) | refine Below.drew ?_ | refine below_drewN ?_ _ | refine Below.alloc ?_ ?_ _ | refine Below.setCell ?_ ?_ _ | (focus (simp; done)) | (focus (simp; omega)) | omega))⟩
    case round =>
      obtain ⟨k, rfl, hk, htk, hbel⟩ := hrel
      by_cases hkl : k < la.length
      · have hkI : (k : Int) < (la.length : Int) := by omega
        obtain ⟨y, hy⟩ := get_lt hkl
        obtain ⟨z, hz⟩ := get_lt (l := lb) (i := k) (by have := HN.out; omega)
        obtain ⟨b1, o1, rfl, hlt1, d0, d1⟩ := itm_rowR (HA.out.below hbel) hy
        obtain ⟨b2, o2, rfl, hlt2, e0, e1⟩ := itm_rowR (HB.out.below hbel) hz
        have hqq := fun W => HQ.out y z W
        have htk2 : la.take (k + 1) = lb.take (k + 1) ↔ y = z := by
          rw [take_snocR hy, take_snocR hz, htk]
          simp
        have hne : y ≠ z → la ≠ lb := fun h e => by
          subst e
          rw [hy] at hz
          cases hz
          exact h rfl
        have HTK := Lib.hid htk2
        have HNE := Lib.hid hne
        have HBL := Lib.hid hbel
        clear htk htk2 hne hbel hy hz
        obtain ⟨yk, yv⟩ := y
        obtain ⟨zk, zv⟩ := z
        dsimp only at d0 d1 e0 e1 hqq
        by_cases hyz : (⟨yk, yv⟩ : Itm) = ⟨zk, zv⟩
        · have hyz' := hyz
          simp only [Itm.mk.injEq] at hyz'
          obtain ⟨rfl, rfl⟩ := hyz'
          simp only [decide_true, Bool.not_true] at hqq
          have HT2 := Lib.hid (HTK.out.2 rfl)
          clear hyz HTK HNE
          go_wp2
          go_quiet (fail)
          go_wp2
          refine ⟨⟨k + 1, by go_num, by omega, HT2.out, below_drewN HBL.out _⟩, ?_⟩
          simp [intOf]
          omega
        · rw [decide_eq_false hyz] at hqq
          simp only [Bool.not_false] at hqq
          have hRf : R = false := by rw [← HR.out]; exact decide_eq_false (HNE.out hyz)
          subst hRf
          clear hyz HTK HNE
          go_wp2
          go_quiet (fail)
          go_wp2
          go_ret
          exact ⟨rfl, below_drewN HBL.out _⟩
      · obtain rfl : k = la.length := by omega
        have hRt : R = true := by
          rw [← HR.out]
          rw [List.take_length, HN.out, List.take_length] at htk
          exact decide_eq_true htk
        subst hRt
        have HBL := Lib.hid hbel
        clear htk hbel
        go_wp2
        go_ret
        exact ⟨rfl, HBL.out⟩
  · have hne : la ≠ lb := fun e => hn (by rw [e])
    have hni : ((la.length : Int) != (lb.length : Int)) = true := by simp; omega
    rw [decide_eq_false hne]
    clear ha hb hne hn
    go_enter Tryz.func28, Tryz.ntmps28
    go_wp2
    go_ret
    exact ⟨rfl, (by repeat (first | assumption | exact Below.refl _ _ | (refine below_step (w := ?_) ?_ ?_ ?_; rotate_left 2; assumption) | refine Below.drew ?_ | refine below_drewN ?_ _ | refine Below.alloc ?_ ?_ _ | refine Below.setCell ?_ ?_ _ | (focus (simp; done)) | (focus (simp; omega)) | omega))⟩
end Go.Proofs.YtdfgdnaejnngoaaGreat
namespace Go.Proofs.YtdfgdnaejnngoaaGreat
open Go.RowKit
def Ord.small (o : Ord) : Prop := o.key.size ≤ 512 ∧ o.val.size ≤ 512 ∧ o.lo.size ≤ 512 ∧ o.hi.size ≤ 512
def GreatRes (os : List Ord) (w : World) (e : Ending) (w' : World) : Prop := ∃ b : Bool, e = .returned (.bool b) ∧ (b = false → os.length ≤ 150 ∧ ∀ o ∈ os, o.small) ∧ Below w.heap.size w w'
set_option maxHeartbeats 1000000 in
set_option maxRecDepth 100000 in
theorem great_any (A : Option Addr) (cap : Nat) (os : List Ord) (w : World) (hel : Elems w A 6 (os.map Ord.cells)) :
    Calls Tryz.prog 20 #[.slice A os.length cap] w (GreatRes os w) := by
  have HEL := Lib.hid hel
  clear hel
  go_enter Tryz.func20, Tryz.ntmps20
  go_wp2
  go_loopw [3, 4] (fun i _ wr => ∃ k : Nat, i = .int .i64 k ∧ k ≤ os.length ∧ k ≤ 151 ∧ (∀ o ∈ os.take k, o.small) ∧ Below w.heap.size w wr) (fun i _ _ => 152 - (intOf i).toNat)
  case atStart => exact ⟨0, rfl, Nat.zero_le _, by omega, by simp, (by repeat (first | assumption | exact Below.refl _ _ | (refine below_step (w := ?_) ?_ ?_ ?_; rotate_left 2; assumption) | refine Below.drew ?_ | refine below_drewN ?_ _ | refine Below.alloc ?_ ?_ _ | refine Below.setCell ?_ ?_ _ | (focus (simp; done)) | (focus (simp; omega)) | omega))⟩
  case round =>
    obtain ⟨k, rfl, hk, hk2, hsm, hbel⟩ := hrel
    by_cases hkl : k < os.length
    · have hkI : (k : Int) < (os.length : Int) := by omega
      by_cases hk3 : k < 151
      · have hk3I : (k : Int) < 151 := by omega
        obtain ⟨o, ho⟩ := get_lt hkl
        obtain ⟨b, off, rfl, hblt, d0, d1, d2, d3, d4, d5⟩ := ord_row (HEL.out.below hbel) ho
        have hsn := take_snocR ho
        have HB := Lib.hid hbel
        have HSM := Lib.hid hsm
        have HSN := Lib.hid hsn
        clear hbel hsm hsn ho
        obtain ⟨kind, key, val, n, lo, hi⟩ := o
        dsimp only at d0 d1 d2 d3 d4 d5
        by_cases h1 : (512 : Int) < (key.size : Int)
        · go_wp2
          go_ret
          exact ⟨true, rfl, (fun h => by cases h), below_alloc HB.out⟩
        by_cases h2 : (512 : Int) < (val.size : Int)
        · go_wp2
          go_ret
          exact ⟨true, rfl, (fun h => by cases h), below_alloc HB.out⟩
        by_cases h3 : (512 : Int) < (lo.size : Int)
        · go_wp2
          go_ret
          exact ⟨true, rfl, (fun h => by cases h), below_alloc HB.out⟩
        by_cases h4 : (512 : Int) < (hi.size : Int)
        · go_wp2
          go_ret
          exact ⟨true, rfl, (fun h => by cases h), below_alloc HB.out⟩
        have hs : (Ord.mk kind key val n lo hi).small := ⟨by show key.size ≤ 512; omega, by show val.size ≤ 512; omega, by show lo.size ≤ 512; omega, by show hi.size ≤ 512; omega⟩
        have HS := Lib.hid hs
        clear hs
        go_wp2
        refine ⟨⟨k + 1, by go_num, by omega, by omega, fun o ho => ?_, below_alloc HB.out⟩, ?_⟩
        · rw [HSN.out] at ho
          rcases List.mem_append.1 ho with ho | ho
          · exact HSM.out o ho
          · simp at ho
            subst ho
            exact HS.out
        · simp [intOf]
          omega
      · obtain rfl : k = 151 := by omega
        have h150 : (150 : Int) < (os.length : Int) := by omega
        have e0 : ((151 : Nat) : Int) = 151 := rfl
        rw [e0]
        have HB := Lib.hid hbel
        clear hbel hsm e0
        go_wp2
        go_ret
        exact ⟨true, rfl, (fun h => by cases h), HB.out⟩
    · obtain rfl : k = os.length := by omega
      rw [List.take_length] at hsm
      have HB := Lib.hid hbel
      have HSM := Lib.hid hsm
      clear hbel hsm
      go_wp2
      go_ret
      exact ⟨_, rfl, (fun h => ⟨by have := of_decide_eq_false h; omega, HSM.out⟩), HB.out⟩
end Go.Proofs.YtdfgdnaejnngoaaGreat
namespace Go.Proofs.YtdfgdnaejnngoaaGreat
open Go.RowKit
/-! grangerlaw33.awake. -/
theorem klt_data (a b : ByteArray) : klt a b = Op.bytesLess a.data.toList b.data.toList := by
  unfold klt
  rw [ByteArray.toList_eq, ByteArray.toList_eq]
def kA : ByteArray := ⟨#[97]⟩
def kB : ByteArray := ⟨#[98]⟩
def os0 : List Ord := [⟨1, ⟨#[97]⟩, ⟨#[]⟩, 0, ⟨#[]⟩, ⟨#[]⟩⟩, ⟨1, ⟨#[98]⟩, ⟨#[]⟩, 0, ⟨#[]⟩, ⟨#[]⟩⟩, ⟨2, ⟨#[97]⟩, ⟨#[]⟩, 0, ⟨#[]⟩, ⟨#[]⟩⟩, ⟨3, ⟨#[97]⟩, ⟨#[]⟩, 0, ⟨#[]⟩, ⟨#[]⟩⟩, ⟨4, ⟨#[98]⟩, ⟨#[]⟩, 0, ⟨#[]⟩, ⟨#[]⟩⟩]
theorem os0_alive : aliveL 0 os0 = [1, 3] := by kernel_rfl
theorem os0_prune : (pruneL os0).length = 2 := by rw [← alive_len os0 0, os0_alive]; rfl
theorem ltAB : klt ⟨#[97]⟩ ⟨#[98]⟩ = true := by rw [klt_data]; rfl
theorem ltBA : klt ⟨#[98]⟩ ⟨#[97]⟩ = false := by rw [klt_data]; rfl
theorem st1 : stepI [] ⟨1, ⟨#[97]⟩, ⟨#[]⟩, 0, ⟨#[]⟩, ⟨#[]⟩⟩ = [⟨⟨#[97]⟩, ⟨#[]⟩⟩] := by kernel_rfl
theorem st2 : stepI [⟨⟨#[97]⟩, ⟨#[]⟩⟩] ⟨1, ⟨#[98]⟩, ⟨#[]⟩, 0, ⟨#[]⟩, ⟨#[]⟩⟩ = [⟨⟨#[97]⟩, ⟨#[]⟩⟩, ⟨⟨#[98]⟩, ⟨#[]⟩⟩] := by
  have : stepI [⟨⟨#[97]⟩, ⟨#[]⟩⟩] ⟨1, ⟨#[98]⟩, ⟨#[]⟩, 0, ⟨#[]⟩, ⟨#[]⟩⟩ = insR ⟨#[98]⟩ ⟨#[]⟩ [⟨⟨#[97]⟩, ⟨#[]⟩⟩] := by kernel_rfl
  rw [this, insR, if_pos ltAB]
  rfl
theorem st3 : stepI [⟨⟨#[97]⟩, ⟨#[]⟩⟩, ⟨⟨#[98]⟩, ⟨#[]⟩⟩] ⟨2, ⟨#[97]⟩, ⟨#[]⟩, 0, ⟨#[]⟩, ⟨#[]⟩⟩ = [⟨⟨#[98]⟩, ⟨#[]⟩⟩] := by kernel_rfl
theorem st4 : stepI [⟨⟨#[98]⟩, ⟨#[]⟩⟩] ⟨3, ⟨#[97]⟩, ⟨#[]⟩, 0, ⟨#[]⟩, ⟨#[]⟩⟩ = [⟨⟨#[97]⟩, valB 0⟩, ⟨⟨#[98]⟩, ⟨#[]⟩⟩] := by
  have : stepI [⟨⟨#[98]⟩, ⟨#[]⟩⟩] ⟨3, ⟨#[97]⟩, ⟨#[]⟩, 0, ⟨#[]⟩, ⟨#[]⟩⟩ = insR ⟨#[97]⟩ (valB 0) [⟨⟨#[98]⟩, ⟨#[]⟩⟩] := by kernel_rfl
  rw [this, insR, if_neg (by rw [ltBA]; decide)]
  rfl
theorem os0_items : itemsO os0 = [⟨⟨#[97]⟩, valB 0⟩, ⟨⟨#[98]⟩, ⟨#[]⟩⟩] := by
  unfold itemsO os0
  rw [List.foldl_cons, List.foldl_cons, List.foldl_cons, List.foldl_cons, List.foldl_cons, st1, st2, st3, st4]
  rfl
theorem cap64 : pCap 64 = 4084 := by kernel_rfl
theorem er1 : errO 4084 [] ⟨1, ⟨#[97]⟩, ⟨#[]⟩, 0, ⟨#[]⟩, ⟨#[]⟩⟩ = 0 := by kernel_rfl
theorem er2 : errO 4084 [⟨⟨#[97]⟩, ⟨#[]⟩⟩] ⟨1, ⟨#[98]⟩, ⟨#[]⟩, 0, ⟨#[]⟩, ⟨#[]⟩⟩ = 0 := by
  refine errO_mk (m := ⟨1, ⟨#[98]⟩, ⟨#[]⟩⟩) (by kernel_rfl) (by kernel_rfl) (by kernel_rfl) (fun h => by cases h) ?_
  have : doL [⟨⟨#[97]⟩, ⟨#[]⟩⟩] ⟨1, ⟨#[98]⟩, ⟨#[]⟩⟩ = stepI [⟨⟨#[97]⟩, ⟨#[]⟩⟩] ⟨1, ⟨#[98]⟩, ⟨#[]⟩, 0, ⟨#[]⟩, ⟨#[]⟩⟩ := by kernel_rfl
  rw [this, st2]
  decide
theorem er3 : errO 4084 [⟨⟨#[97]⟩, ⟨#[]⟩⟩, ⟨⟨#[98]⟩, ⟨#[]⟩⟩] ⟨2, ⟨#[97]⟩, ⟨#[]⟩, 0, ⟨#[]⟩, ⟨#[]⟩⟩ = 0 := by kernel_rfl
theorem er4 : errO 4084 [⟨⟨#[98]⟩, ⟨#[]⟩⟩] ⟨3, ⟨#[97]⟩, ⟨#[]⟩, 0, ⟨#[]⟩, ⟨#[]⟩⟩ = 0 := by
  refine errO_mk (m := ⟨3, ⟨#[97]⟩, valB 0⟩) (by kernel_rfl) (by kernel_rfl) (by kernel_rfl) (fun _ => by kernel_rfl) ?_
  have : doL [⟨⟨#[98]⟩, ⟨#[]⟩⟩] ⟨3, ⟨#[97]⟩, valB 0⟩ = stepI [⟨⟨#[98]⟩, ⟨#[]⟩⟩] ⟨3, ⟨#[97]⟩, ⟨#[]⟩, 0, ⟨#[]⟩, ⟨#[]⟩⟩ := by kernel_rfl
  rw [this, st4]
  decide
theorem er5 : errO 4084 [⟨⟨#[97]⟩, valB 0⟩, ⟨⟨#[98]⟩, ⟨#[]⟩⟩] ⟨4, ⟨#[98]⟩, ⟨#[]⟩, 0, ⟨#[]⟩, ⟨#[]⟩⟩ = 0 := by kernel_rfl
theorem os0_plain : plainL (pCap 64) [] os0 = true := by
  rw [cap64]
  unfold os0
  rw [plainL, plainL, plainL, plainL, plainL, plainL, er1, st1, er2, st2, er3, st3, er4, st4, er5]
  rfl
theorem os0_okN : okN os0 := by
  intro o ho
  simp [os0] at ho
  rcases ho with rfl | rfl | rfl | rfl | rfl <;> exact ⟨by decide, by decide⟩
theorem os0_okK : okK os0 := by
  intro o ho
  simp [os0] at ho
  rcases ho with rfl | rfl | rfl | rfl | rfl <;> (show ByteArray.size _ ≤ 512; decide)
set_option maxHeartbeats 2000000 in
set_option maxRecDepth 100000 in
theorem awake33_any (w : World) : Calls Tryz.prog 19 #[] w fun e w' => e = .returned (.bool true) ∧ Below w.heap.size w w' := by
  have hel : ∀ W : World, Below w.heap.size w w → W.heap[w.heap.size]? = some (.cells (os0.map Ord.cells).flatten.toArray 39 (0, 0)) → Elems W (some ⟨w.heap.size, 0, none⟩) 6 (os0.map Ord.cells) := fun W _ h => Elems.of_block h (fun r hr => by obtain ⟨v, _, rfl⟩ := List.mem_map.1 hr; rfl) rfl
  have hal : ∀ W, W.heap[w.heap.size]? = some (.cells (os0.map Ord.cells).flatten.toArray 39 (0, 0)) → Calls Tryz.prog 23 #[.slice (some ⟨w.heap.size, 0, none⟩) 5 5] W fun e w' => ∃ A' c', e = .returned (.slice A' 2 c') ∧ OwnsN w' W.heap.size (.slice A' 2 c') [1, 3] ∧ Below W.heap.size W w' := fun W h => by
    have := alive_any (some ⟨w.heap.size, 0, none⟩) 5 os0 W (hel W (Below.refl _ w) h) (by decide) os0_okK
    rw [os0_alive] at this
    exact this
  have hpr : ∀ W, W.heap[w.heap.size]? = some (.cells (os0.map Ord.cells).flatten.toArray 39 (0, 0)) → Calls Tryz.prog 25 #[.slice (some ⟨w.heap.size, 0, none⟩) 5 5] W fun e w' => ∃ A' c', e = .returned (.slice A' 2 c') ∧ Below W.heap.size W w' := fun W h => by
    refine (prune_any (some ⟨w.heap.size, 0, none⟩) 5 os0 W (hel W (Below.refl _ w) h) (by decide) os0_okK).mono ?_
    rintro e w' ⟨A', c', rfl, _, hb⟩
    exact ⟨A', c', by rw [os0_prune], hb⟩
  have hit : ∀ W, W.heap[w.heap.size]? = some (.cells (os0.map Ord.cells).flatten.toArray 39 (0, 0)) → Calls Tryz.prog 29 #[.slice (some ⟨w.heap.size, 0, none⟩) 5 5] W fun e w' => ∃ A' c', e = .returned (.slice A' 2 c') ∧ Below W.heap.size W w' := fun W h => by
    refine (pruneItems_any (some ⟨w.heap.size, 0, none⟩) 5 os0 W (hel W (Below.refl _ w) h) (by decide) os0_okN).mono ?_
    rintro e w' ⟨A', c', rfl, _, hb⟩
    exact ⟨A', c', by rw [os0_items]; rfl, hb⟩
  have hpl : ∀ W, W.heap[w.heap.size]? = some (.cells (os0.map Ord.cells).flatten.toArray 39 (0, 0)) → Calls Tryz.prog 26 #[.agg (planA 64), .slice (some ⟨w.heap.size, 0, none⟩) 5 5] W fun e w' => e = .returned (.bool true) ∧ Below W.heap.size W w' := fun W h => by
    have := isPlain_ok 64 (some ⟨w.heap.size, 0, none⟩) 5 os0 W (by decide) (by decide) (hel W (Below.refl _ w) h) (by decide) os0_okN
    rw [os0_plain] at this
    exact this
  have hpn := fun W => isPlain_none ⟨0, 0, 0, 0, 0, 0, 0⟩ (some ⟨w.heap.size, 0, none⟩) 5 5 W (by kernel_rfl)
  rw [Pl.v_def] at hpn
  dsimp only at hpn
  have hcap := fun W => capaOf_ok 64 W (by decide) (by decide)
  have p64 : planA 64 = #[.int .i64 64, .int .i64 8, .int .i64 10, .int .i64 54, .int .i64 26, .int .i64 19, .int .i64 4084] := by kernel_rfl
  rw [p64] at hcap hpl
  have HAL := Lib.hid hal
  have HPR := Lib.hid hpr
  have HIT := Lib.hid hit
  have HPL := Lib.hid hpl
  have HPN := Lib.hid hpn
  have HC := Lib.hid hcap
  clear hal hpr hit hpl hpn hcap hel p64
  go_enter Tryz.func19, Tryz.ntmps19
  go_wp2_with (first
    | (go_at_call 21; (with_reducible refine (HC.out _).mono ?_); rintro e w1 ⟨rfl, hb1⟩; have HX1 := Lib.hid (show w1.heap[w.heap.size]? = some (.cells (os0.map Ord.cells).flatten.toArray 39 (0, 0)) from box_cells hb1); have HB1 := Lib.hid (below_next (below_alloc (Below.refl _ w)) hb1); clear hb1)
    | (go_at_call 23; (with_reducible refine (HAL.out _ (((Fr.refl (fun _ => False) _).alloc _).row id HX1.out)).mono ?_); rintro e w2 ⟨A2, c2, rfl, ho2, hb2⟩; obtain ⟨g2, rfl, _, hgl2, hcap2, hc2⟩ := ho2.row natLen (j := 0) (p := 1) rfl; have q0 : w2.cell? ⟨g2, 0, none⟩ = some (.int .i64 1) := hc2 0 _ rfl; obtain ⟨g3, hg3, _, _, _, hc3⟩ := ho2.row natLen (j := 1) (p := 3) rfl; have q1 : w2.cell? ⟨g2, 1, none⟩ = some (.int .i64 3) := (by cases hg3; exact hc3 0 _ rfl); have hx2 : w2.heap[w.heap.size]? = some (.cells (os0.map Ord.cells).flatten.toArray 39 (0, 0)) := box_below (((Fr.refl (fun _ => False) _).alloc _).row id HX1.out) hb2; have hp2 : w2.heap[w1.heap.size]? = some (.cells #[.int .i64 64, .int .i64 8, .int .i64 10, .int .i64 54, .int .i64 26, .int .i64 19, .int .i64 4084] 26 (0, 0)) := box_below (heap_alloc_new w1 _) hb2; have HX2 := Lib.hid hx2; have HP2 := Lib.hid hp2; have HB2 := Lib.hid (below_next (below_alloc HB1.out) hb2); clear hx2 hp2 hb2 ho2 hc2 hg3 hc3)
    | (go_at_call 25; (with_reducible refine (HPR.out _ HX2.out).mono ?_); rintro e w3 ⟨A3, c3, rfl, hb3⟩; have hx3 : w3.heap[w.heap.size]? = some (.cells (os0.map Ord.cells).flatten.toArray 39 (0, 0)) := box_below HX2.out hb3; have hp3 : w3.heap[w1.heap.size]? = some (.cells #[.int .i64 64, .int .i64 8, .int .i64 10, .int .i64 54, .int .i64 26, .int .i64 19, .int .i64 4084] 26 (0, 0)) := box_below HP2.out hb3; have HX3 := Lib.hid hx3; have HP3 := Lib.hid hp3; have HB3 := Lib.hid (below_next HB2.out hb3); clear hx3 hp3 hb3)
    | (go_at_call 29; (with_reducible refine (HIT.out _ HX3.out).mono ?_); rintro e w4 ⟨A4, c4, rfl, hb4⟩; have hx4 : w4.heap[w.heap.size]? = some (.cells (os0.map Ord.cells).flatten.toArray 39 (0, 0)) := box_below HX3.out hb4; have hp4 : w4.heap[w1.heap.size]? = some (.cells #[.int .i64 64, .int .i64 8, .int .i64 10, .int .i64 54, .int .i64 26, .int .i64 19, .int .i64 4084] 26 (0, 0)) := box_below HP3.out hb4; have HX4 := Lib.hid hx4; have HP4 := Lib.hid hp4; have HB4 := Lib.hid (below_next HB3.out hb4); clear hx4 hp4 hb4; obtain ⟨z0, z1, z2, z3, z4, z5, z6⟩ : w4.cell? ⟨w1.heap.size, 0, none⟩ = some (.int .i64 64) ∧ w4.cell? ⟨w1.heap.size, 1, none⟩ = some (.int .i64 8) ∧ w4.cell? ⟨w1.heap.size, 2, none⟩ = some (.int .i64 10) ∧ w4.cell? ⟨w1.heap.size, 3, none⟩ = some (.int .i64 54) ∧ w4.cell? ⟨w1.heap.size, 4, none⟩ = some (.int .i64 26) ∧ w4.cell? ⟨w1.heap.size, 5, none⟩ = some (.int .i64 19) ∧ w4.cell? ⟨w1.heap.size, 6, none⟩ = some (.int .i64 4084) := (by have hh := HP4.out; refine ⟨?_, ?_, ?_, ?_, ?_, ?_, ?_⟩ <;> (rw [Lib.cell_of_heap hh]; rfl)))
    | (go_at_call 26; (with_reducible refine (HPN.out _).mono ?_); rintro e w6 ⟨rfl, hb6⟩; have HB6 := Lib.hid (below_next HB5.out hb6); clear hb6)
    | (go_at_call 26; (with_reducible refine (HPL.out _ HX4.out).mono ?_); rintro e w5 ⟨rfl, hb5⟩; have HB5 := Lib.hid (below_next HB4.out hb5); clear hb5))
  go_ret
  exact ⟨rfl, HB6.out⟩
end Go.Proofs.YtdfgdnaejnngoaaGreat
namespace Go.Proofs.YtdfgdnaejnngoaaGreat
open Go.RowKit
/-! grangerlaw33.PruneSame. -/
theorem at_mod (x : Int) (n : Nat) (hn : n ≤ 1000) : ∃ k : Nat, k ≤ n ∧ wrap64 ((IntKind.u64.wrap x).tmod ((n : Int) + 1)) = (k : Int) := by
  have h0 : 0 ≤ IntKind.u64.wrap x := by
    simp [IntKind.wrap, IntKind.bits, IntKind.signed]
    omega
  have e : (IntKind.u64.wrap x).tmod ((n : Int) + 1) = (IntKind.u64.wrap x) % ((n : Int) + 1) := Int.tmod_eq_emod_of_nonneg h0
  have h1 := Int.emod_nonneg (IntKind.u64.wrap x) (show ((n : Int) + 1) ≠ 0 by omega)
  have h2 := Int.emod_lt_of_pos (IntKind.u64.wrap x) (show (0 : Int) < (n : Int) + 1 by omega)
  rw [e]
  generalize IntKind.u64.wrap x % ((n : Int) + 1) = y at *
  obtain ⟨k, rfl⟩ := Int.eq_ofNat_of_zero_le h1
  refine ⟨k, by omega, ?_⟩
  unfold wrap64
  omega
theorem okN_prune {os : List Ord} (h : okN os) : okN (pruneL os) := fun o ho => h o ((prune_sub os).subset ho)
theorem okK_prune {os : List Ord} (h : okK os) : okK (pruneL os) := fun o ho => h o ((prune_sub os).subset ho)
set_option maxHeartbeats 4000000 in
set_option maxRecDepth 100000 in
theorem same_any (at_ : Int) (A : Option Addr) (cap : Nat) (os : List Ord) (w : World) (hel : Elems w A 6 (os.map Ord.cells)) (hn : okN os) :
    Calls Tryz.prog 6 #[.int .i64 at_, .slice A os.length cap] w fun e w' => e = .returned (.bool true) ∧ Below w.heap.size w w' := by
  have haw := fun W => awake33_any W
  have hgr := fun W (hW : Below w.heap.size w W) => great_any A cap os W (hel.below hW)
  obtain ⟨k, hk, hK⟩ := at_mod at_ 448 (by decide)
  rw [show (((448 : Nat) : Int) + 1) = 449 from rfl] at hK
  have hw1 : wrap64 (64 + (k : Int)) = 64 + (k : Int) := by unfold wrap64; omega
  have HAW := Lib.hid haw
  have HGR := Lib.hid hgr
  have HEL := Lib.hid hel
  have HN := Lib.hid hn
  clear haw hgr hel hn
  go_enter Tryz.func6, Tryz.ntmps6
  go_wp2_with (first
    | (go_at_call 19; (with_reducible refine (HAW.out _).mono ?_); rintro e w1 ⟨rfl, hb1⟩; have HB1 := Lib.hid hb1; clear hb1)
    | (go_at_call 20; (with_reducible refine (HGR.out _ HB1.out).mono ?_); rintro e w2 ⟨b2, rfl, hsm, hb2⟩; have HB2 := Lib.hid (below_next HB1.out hb2); have HSM := Lib.hid hsm; clear hsm hb2))
  · go_ret
    exact ⟨rfl, HB2.out⟩
  · have hbf : b2 = false := by assumption
    obtain ⟨hl150, hsmall⟩ := HSM.out hbf
    have hks : okK os := fun o ho => (hsmall o ho).1
    generalize hNN : (64 : Int) + (k : Int) = N at *
    have hc := fun W => capaOf_ok N W (by omega) (by omega)
    have hpr := fun W (hW : Below w.heap.size w W) => prune_any A cap os W (HEL.out.below hW) (by omega) hks
    have hplen := (prune_sub os).length_le
    have hle : ¬ (os.length : Int) < ((pruneL os).length : Int) := by omega
    have hal : ∀ W A' c', Elems W A' 6 ((pruneL os).map Ord.cells) → Calls Tryz.prog 23 #[.slice A' (pruneL os).length c'] W fun e w' => ∃ A2 c2, e = .returned (.slice A2 (pruneL os).length c2) ∧ Below W.heap.size W w' := fun W A' c' h => by
      refine (alive_any A' c' (pruneL os) W h (by omega) (okK_prune hks)).mono ?_
      rintro e w' ⟨A2, c2, rfl, _, hb⟩
      exact ⟨A2, c2, by rw [alive_len, prune_twice], hb⟩
    have hpl := fun W (hW : Below w.heap.size w W) => isPlain_ok N A cap os W (by omega) (by omega) (HEL.out.below hW) (by omega) HN.out
    rw [planA_def] at hc hpl
    cases hR : plainL (pCap N) [] os with
    | false =>
      rw [hR] at hpl
      generalize pruneL os = P at *
      have HC := Lib.hid hc
      have HPR := Lib.hid hpr
      have HAL := Lib.hid hal
      have HPL := Lib.hid hpl
      clear hc hpr hal hpl hR hks hsmall hbf hplen hNN hK
      go_wp2_with (first
        | (go_at_call 21; (with_reducible refine (HC.out _).mono ?_); rintro e w3 ⟨rfl, hb3⟩; have HB3 := Lib.hid (below_next HB2.out hb3); clear hb3)
        | (go_at_call 25; (with_reducible refine (HPR.out _ (below_alloc HB3.out)).mono ?_); rintro e w4 ⟨A4, c4, rfl, ho4, hb4⟩; have hp4 : w4.heap[w3.heap.size]? = some (.cells #[.int .i64 N, .int .i64 (pLog N), .int .i64 (2 + pLog N), .int .i64 (pData N), .int .i64 (pHalf N), .int .i64 (pLeaves N), .int .i64 (pCap N)] 26 (0, 0)) := box_below (heap_alloc_new w3 _) hb4; have HP4 := Lib.hid hp4; have HO4 := Lib.hid ho4; have HB4 := Lib.hid (below_next (below_alloc HB3.out) hb4); clear hp4 ho4 hb4)
        | (go_at_call 23; (with_reducible refine (HAL.out _ _ _ (HO4.out.elems ordLen)).mono ?_); rintro e w5 ⟨A5, c5, rfl, hb5⟩; have hp5 : w5.heap[w3.heap.size]? = some (.cells #[.int .i64 N, .int .i64 (pLog N), .int .i64 (2 + pLog N), .int .i64 (pData N), .int .i64 (pHalf N), .int .i64 (pLeaves N), .int .i64 (pCap N)] 26 (0, 0)) := box_below HP4.out hb5; have HP5 := Lib.hid hp5; clear hp5; have hel5 := (HO4.out.elems ordLen).below hb5; have HE5 := Lib.hid hel5; have HB5 := Lib.hid (below_next HB4.out hb5); clear hb5 hel5; obtain ⟨z0, z1, z2, z3, z4, z5, z6⟩ : w5.cell? ⟨w3.heap.size, 0, none⟩ = some (.int .i64 N) ∧ w5.cell? ⟨w3.heap.size, 1, none⟩ = some (.int .i64 (pLog N)) ∧ w5.cell? ⟨w3.heap.size, 2, none⟩ = some (.int .i64 (2 + pLog N)) ∧ w5.cell? ⟨w3.heap.size, 3, none⟩ = some (.int .i64 (pData N)) ∧ w5.cell? ⟨w3.heap.size, 4, none⟩ = some (.int .i64 (pHalf N)) ∧ w5.cell? ⟨w3.heap.size, 5, none⟩ = some (.int .i64 (pLeaves N)) ∧ w5.cell? ⟨w3.heap.size, 6, none⟩ = some (.int .i64 (pCap N)) := (by have hh := HP5.out; refine ⟨?_, ?_, ?_, ?_, ?_, ?_, ?_⟩ <;> (rw [Lib.cell_of_heap hh]; rfl)))
        | (go_at_call 26; (with_reducible refine (HPL.out _ HB5.out).mono ?_); rintro e w6 ⟨rfl, hb6⟩; have hp6 : w6.heap[w3.heap.size]? = some (.cells #[.int .i64 N, .int .i64 (pLog N), .int .i64 (2 + pLog N), .int .i64 (pData N), .int .i64 (pHalf N), .int .i64 (pLeaves N), .int .i64 (pCap N)] 26 (0, 0)) := box_below HP5.out hb6; have HP6 := Lib.hid hp6; clear hp6; have HE6 := Lib.hid (HE5.out.below hb6); have HB6 := Lib.hid (below_next HB5.out hb6); clear hb6; obtain ⟨y0, y1, y2, y3, y4, y5, y6⟩ : w6.cell? ⟨w3.heap.size, 0, none⟩ = some (.int .i64 N) ∧ w6.cell? ⟨w3.heap.size, 1, none⟩ = some (.int .i64 (pLog N)) ∧ w6.cell? ⟨w3.heap.size, 2, none⟩ = some (.int .i64 (2 + pLog N)) ∧ w6.cell? ⟨w3.heap.size, 3, none⟩ = some (.int .i64 (pData N)) ∧ w6.cell? ⟨w3.heap.size, 4, none⟩ = some (.int .i64 (pHalf N)) ∧ w6.cell? ⟨w3.heap.size, 5, none⟩ = some (.int .i64 (pLeaves N)) ∧ w6.cell? ⟨w3.heap.size, 6, none⟩ = some (.int .i64 (pCap N)) := (by have hh := HP6.out; refine ⟨?_, ?_, ?_, ?_, ?_, ?_, ?_⟩ <;> (rw [Lib.cell_of_heap hh]; rfl))))
      go_ret
      exact ⟨rfl, HB6.out⟩
    | true =>
      rw [hR] at hpl
      obtain ⟨hp1, hp2⟩ := prune_same (pCap N) os hR
      have hpl2 := fun W A' c' (h : Elems W A' 6 ((pruneL os).map Ord.cells)) => isPlain_ok N A' c' (pruneL os) W (by omega) (by omega) h (by omega) (okN_prune HN.out)
      rw [hp1, planA_def] at hpl2
      have hi1 := fun W A' c' (h : Elems W A' 6 ((pruneL os).map Ord.cells)) => pruneItems_any A' c' (pruneL os) W h (by omega) (okN_prune HN.out)
      rw [hp2] at hi1
      have hi2 := fun W (hW : Below w.heap.size w W) => pruneItems_any A cap os W (HEL.out.below hW) (by omega) HN.out
      have hil : (itemsO os).length ≤ 1000 := by
        have := items_len os (l := []) trivial
        unfold itemsO
        simp at this
        omega
      have hs := fun W A' c' A2 c2 h1 h2 => refSame_any A' A2 c' c2 (itemsO os) (itemsO os) W h1 h2 (by omega) (by omega)
      simp only [decide_true] at hs
      generalize itemsO os = I at *
      generalize pruneL os = P at *
      have HC := Lib.hid hc
      have HPR := Lib.hid hpr
      have HAL := Lib.hid hal
      have HPL := Lib.hid hpl
      have HPL2 := Lib.hid hpl2
      have HI1 := Lib.hid hi1
      have HI2 := Lib.hid hi2
      have HS := Lib.hid hs
      clear hc hpr hal hpl hpl2 hi1 hi2 hs hR hp1 hp2 hks hsmall hbf hplen hNN hK hil
      go_wp2_with (first
        | (go_at_call 21; (with_reducible refine (HC.out _).mono ?_); rintro e w3 ⟨rfl, hb3⟩; have HB3 := Lib.hid (below_next HB2.out hb3); clear hb3)
        | (go_at_call 25; (with_reducible refine (HPR.out _ (below_alloc HB3.out)).mono ?_); rintro e w4 ⟨A4, c4, rfl, ho4, hb4⟩; have hp4 : w4.heap[w3.heap.size]? = some (.cells #[.int .i64 N, .int .i64 (pLog N), .int .i64 (2 + pLog N), .int .i64 (pData N), .int .i64 (pHalf N), .int .i64 (pLeaves N), .int .i64 (pCap N)] 26 (0, 0)) := box_below (heap_alloc_new w3 _) hb4; have HP4 := Lib.hid hp4; have HO4 := Lib.hid ho4; have HB4 := Lib.hid (below_next (below_alloc HB3.out) hb4); clear hp4 ho4 hb4)
        | (go_at_call 23; (with_reducible refine (HAL.out _ _ _ (HO4.out.elems ordLen)).mono ?_); rintro e w5 ⟨A5, c5, rfl, hb5⟩; have hp5 : w5.heap[w3.heap.size]? = some (.cells #[.int .i64 N, .int .i64 (pLog N), .int .i64 (2 + pLog N), .int .i64 (pData N), .int .i64 (pHalf N), .int .i64 (pLeaves N), .int .i64 (pCap N)] 26 (0, 0)) := box_below HP4.out hb5; have HP5 := Lib.hid hp5; clear hp5; have hel5 := (HO4.out.elems ordLen).below hb5; have HE5 := Lib.hid hel5; have HB5 := Lib.hid (below_next HB4.out hb5); clear hb5 hel5; obtain ⟨z0, z1, z2, z3, z4, z5, z6⟩ : w5.cell? ⟨w3.heap.size, 0, none⟩ = some (.int .i64 N) ∧ w5.cell? ⟨w3.heap.size, 1, none⟩ = some (.int .i64 (pLog N)) ∧ w5.cell? ⟨w3.heap.size, 2, none⟩ = some (.int .i64 (2 + pLog N)) ∧ w5.cell? ⟨w3.heap.size, 3, none⟩ = some (.int .i64 (pData N)) ∧ w5.cell? ⟨w3.heap.size, 4, none⟩ = some (.int .i64 (pHalf N)) ∧ w5.cell? ⟨w3.heap.size, 5, none⟩ = some (.int .i64 (pLeaves N)) ∧ w5.cell? ⟨w3.heap.size, 6, none⟩ = some (.int .i64 (pCap N)) := (by have hh := HP5.out; refine ⟨?_, ?_, ?_, ?_, ?_, ?_, ?_⟩ <;> (rw [Lib.cell_of_heap hh]; rfl)))
        | (go_at_call 26; (with_reducible refine (HPL2.out _ _ _ HE6.out).mono ?_); rintro e w7 ⟨rfl, hb7⟩; have HE7 := Lib.hid (HE6.out.below hb7); have HB7 := Lib.hid (below_next HB6.out hb7); clear hb7)
        | (go_at_call 26; (with_reducible refine (HPL.out _ HB5.out).mono ?_); rintro e w6 ⟨rfl, hb6⟩; have hp6 : w6.heap[w3.heap.size]? = some (.cells #[.int .i64 N, .int .i64 (pLog N), .int .i64 (2 + pLog N), .int .i64 (pData N), .int .i64 (pHalf N), .int .i64 (pLeaves N), .int .i64 (pCap N)] 26 (0, 0)) := box_below HP5.out hb6; have HP6 := Lib.hid hp6; clear hp6; have HE6 := Lib.hid (HE5.out.below hb6); have HB6 := Lib.hid (below_next HB5.out hb6); clear hb6; obtain ⟨y0, y1, y2, y3, y4, y5, y6⟩ : w6.cell? ⟨w3.heap.size, 0, none⟩ = some (.int .i64 N) ∧ w6.cell? ⟨w3.heap.size, 1, none⟩ = some (.int .i64 (pLog N)) ∧ w6.cell? ⟨w3.heap.size, 2, none⟩ = some (.int .i64 (2 + pLog N)) ∧ w6.cell? ⟨w3.heap.size, 3, none⟩ = some (.int .i64 (pData N)) ∧ w6.cell? ⟨w3.heap.size, 4, none⟩ = some (.int .i64 (pHalf N)) ∧ w6.cell? ⟨w3.heap.size, 5, none⟩ = some (.int .i64 (pLeaves N)) ∧ w6.cell? ⟨w3.heap.size, 6, none⟩ = some (.int .i64 (pCap N)) := (by have hh := HP6.out; refine ⟨?_, ?_, ?_, ?_, ?_, ?_, ?_⟩ <;> (rw [Lib.cell_of_heap hh]; rfl)))
        | (go_at_call 29; (with_reducible refine (HI1.out _ _ _ HE7.out).mono ?_); rintro e w8 ⟨A8, c8, rfl, ho8, hb8⟩; have HO8 := Lib.hid ho8; have HB8 := Lib.hid (below_next HB7.out hb8); clear ho8 hb8)
        | (go_at_call 29; (with_reducible refine (HI2.out _ HB8.out).mono ?_); rintro e w9 ⟨A9, c9, rfl, ho9, hb9⟩; have HO9 := Lib.hid ho9; have HE8 := Lib.hid ((HO8.out.below hb9).elems Itm.clen); have HB9 := Lib.hid (below_next HB8.out hb9); clear ho9 hb9)
        | (go_at_call 28; (with_reducible refine (HS.out _ _ _ _ _ HE8.out (HO9.out.elems Itm.clen)).mono ?_); rintro e w10 ⟨rfl, hb10⟩; have HB10 := Lib.hid (below_next HB9.out hb10); clear hb10))
      go_ret
      exact ⟨rfl, HB10.out⟩
end Go.Proofs.YtdfgdnaejnngoaaGreat
namespace Go.Proofs.YtdfgdnaejnngoaaGreat
open Go.ChangeShapes Go.WideShapes Go.ChangeAt Go.RowKit Go.Deep
/-! What comes in: rows. -/

theorem own : ownKnob Tryz.prog.godebug = none := by kernel_rfl
theorem laidOut : laidOutB Tryz.prog = true := by kernel_rfl
theorem add_none (b off n : Nat) : (⟨b, off, none⟩ : Addr).add n = ⟨b, off + n, none⟩ := by unfold Addr.add; split <;> simp_all
theorem cell_lt {w : World} {a : Addr} {v : Value} (h : w.cell? a = some v) : a.block < w.heap.size := by
  rcases Nat.lt_or_ge a.block w.heap.size with hl | hl
  · exact hl
  · exfalso
    rw [World.cell?] at h
    simp [Array.getElem?_eq_none hl] at h
theorem list_of {α : Type} {P : Nat → α → Prop} : ∀ n : Nat, (∀ i, i < n → ∃ a, P i a) → ∃ l : List α, l.length = n ∧ ∀ i a, l[i]? = some a → P i a
  | 0, _ => ⟨[], rfl, fun i a h => by simp at h⟩
  | n + 1, h => by
    obtain ⟨l, hl, hp⟩ := list_of n (fun i hi => h i (by omega))
    obtain ⟨a, ha⟩ := h n (by omega)
    refine ⟨l ++ [a], by simp [hl], fun i b hb => ?_⟩
    rcases Nat.lt_or_ge i l.length with hi | hi
    · rw [List.getElem?_append_left hi] at hb
      exact hp i b hb
    · rw [List.getElem?_append_right hi] at hb
      have e : i - l.length = 0 := by
        have := (List.getElem?_eq_some_iff.1 hb).1
        simp at this
        omega
      rw [e] at hb
      simp at hb
      subst hb
      obtain rfl : i = n := by omega
      exact ha
section
variable {H : Type} {enc : TypeId × Value → H} {w : World} {base : Nat} {sp : Nat → Bool} {held : Bool}
set_option maxRecDepth 100000 in
/-- an argument that is a row -/
theorem rows_in {α : Type} {T e : TypeId} {k : Nat} (f : α → List Value) (Q : α → Prop) (hs : Tryz.prog.underlying T = some (.slice e)) (hk : Tryz.prog.cellsOf e = k) (h0 : 0 < k) (hlen : ∀ a, (f a).length = k)
    (hread : ∀ (fuel : Nat) (cs : List Value) (x : DataW H × List MemPlace), DataW.trod enc Tryz.prog w base sp held fuel e cs = some x → ∃ a, cs = f a ∧ Q a)
    {r : Reach} {b0 : Nat} {v : Value} {d : DataW H} {p : List MemPlace} (hv : Value.okWide Tryz.prog w r b0 T v) (h : DataW.Trod enc Tryz.prog w base sp held T v d p) :
    ∃ (A : Option Addr) (cap : Nat) (l : List α), v = .slice A l.length cap ∧ Elems w A k (l.map f) ∧ ∀ a ∈ l, Q a := by
  obtain ⟨A, len, cap, rfl⟩ := okWide_slice hs hv
  obtain ⟨fuel, hf⟩ := h
  rcases open_slice hs hf with ⟨hc, _⟩ | ⟨ad, len', cap', m, n, D, Pl, hc, _, hlc, _, hm, _, hat⟩
  · simp [Value.cells] at hc
    obtain ⟨rfl, rfl, rfl⟩ := hc
    exact ⟨none, 0, [], rfl, Elems.nil _ _ _, by simp⟩
  · simp [Value.cells] at hc
    obtain ⟨rfl, rfl, rfl⟩ := hc
    have hle : len ≤ m := by rw [hm]; split <;> omega
    obtain ⟨l, hl, hp⟩ := list_of (P := fun i (a : α) => (∀ j u, (f a)[j]? = some u → w.cell? (ad.add (i * k + j)) = some u) ∧ Q a) len (fun i hi => by
      obtain ⟨cs, hcs, htr⟩ := hat i (by omega)
      obtain ⟨a, rfl, hq⟩ := hread n cs _ htr
      obtain ⟨_, hcl, hcell⟩ := World.cells?_some hcs
      refine ⟨a, fun j u hu => ?_, hq⟩
      have hj := (List.getElem?_eq_some_iff.1 hu).1
      have := hcell j (by rw [← hcl]; exact hj)
      rw [add_add, hk] at this
      rw [this, hu])
    refine ⟨some ad, cap, l, by rw [hl], ?_, fun a ha => ?_⟩
    · intro i r hr
      rw [List.getElem?_map, Option.map_eq_some_iff] at hr
      obtain ⟨a, ha, rfl⟩ := hr
      have hi := (hp i a ha).1
      have hz := hi 0 _ (List.getElem?_eq_getElem (by rw [hlen]; exact h0))
      have hl0 : 0 < l.length := by have := (List.getElem?_eq_some_iff.1 ha).1; omega
      have hz0 := (hp 0 l[0] (List.getElem?_eq_getElem hl0)).1 0 _ (List.getElem?_eq_getElem (by rw [hlen]; exact h0))
      have hsp : ad.spot = none := by simpa [Addr.add] using World.cell?_spot hz0
      obtain ⟨b, off, spot⟩ := ad
      obtain rfl : spot = none := hsp
      refine ⟨b, off, rfl, ?_, fun j u hu => ?_⟩
      · have := cell_lt hz
        rw [add_none] at this
        exact this
      · have := hi j u hu
        rw [add_none, ← Nat.add_assoc] at this
        exact this
    · obtain ⟨i, hi⟩ := List.getElem?_of_mem ha
      exact (hp i a hi).2
end
end Go.Proofs.YtdfgdnaejnngoaaGreat
namespace Go.Proofs.YtdfgdnaejnngoaaGreat
open Go.ChangeShapes Go.WideShapes Go.ChangeAt Go.RowKit Go.Deep
/-! What comes in: orders. -/
def Ord.fits (o : Ord) : Prop := 0 ≤ o.n ∧ o.n.toNat < 18446744073709551616
theorem list_six {α : Type} {l : List α} (h : l.length = 6) : ∃ a b c d e f, l = [a, b, c, d, e, f] := by
  match l, h with
  | [a, b, c, d, e, f], _ => exact ⟨a, b, c, d, e, f, rfl⟩
theorem fits_of {n : Int} (h : (Lit.int .u64 n).wf = true) : 0 ≤ n ∧ n.toNat < 18446744073709551616 := by
  simp [Lit.wf, IntKind.min, IntKind.max, IntKind.signed, IntKind.bits] at h
  omega
theorem ord_type : ∃ fs : Array Field, Tryz.prog.underlying 39 = some (.struct fs) ∧ oneCellFields Tryz.prog fs = true ∧ fs.size = 6 ∧ fs[0]?.map (·.type) = some 3 ∧ fs[1]?.map (·.type) = some 9 ∧ fs[2]?.map (·.type) = some 9 ∧ fs[3]?.map (·.type) = some 37 ∧ fs[4]?.map (·.type) = some 9 ∧ fs[5]?.map (·.type) = some 9 :=
  ⟨_, Tryz.underlying39, by kernel_rfl, by kernel_rfl, by kernel_rfl, by kernel_rfl, by kernel_rfl, by kernel_rfl, by kernel_rfl, by kernel_rfl⟩
theorem ord_cells_of : Tryz.prog.cellsOf 39 = 6 := by kernel_rfl
section
variable {H : Type} {enc : TypeId × Value → H} {w : World} {base : Nat} {sp : Nat → Bool} {held : Bool}
/-- cells that read as an order are an order's -/
theorem ord_cells {fuel : Nat} {cs : List Value} {x : DataW H × List MemPlace} (h : DataW.trod enc Tryz.prog w base sp held fuel 39 cs = some x) : ∃ o : Ord, cs = o.cells ∧ o.fits := by
  obtain ⟨fs, hs, hone, hsz, t0, t1, t2, t3, t4, t5⟩ := ord_type
  obtain ⟨xs, n, _, _, hl, hx, hf⟩ := DataW.trod_struct hs h
  obtain ⟨c0, c1, c2, c3, c4, c5, rfl⟩ := list_six (hl.trans ord_cells_of)
  obtain ⟨x0, x1, x2, x3, x4, x5, rfl⟩ := list_six (hx.trans hsz)
  obtain ⟨g0, m0, u0⟩ := Option.map_eq_some_iff.1 t0
  obtain ⟨o0, k0⟩ := hone_of hone 0 g0 m0
  have f0 := hf 0 g0 m0
  rw [o0, k0, u0] at f0
  have f0 : DataW.trod enc Tryz.prog w base sp held n 3 [c0] = some x0 := f0
  obtain ⟨g1, m1, u1⟩ := Option.map_eq_some_iff.1 t1
  obtain ⟨o1, k1⟩ := hone_of hone 1 g1 m1
  have f1 := hf 1 g1 m1
  rw [o1, k1, u1] at f1
  have f1 : DataW.trod enc Tryz.prog w base sp held n 9 [c1] = some x1 := f1
  obtain ⟨g2, m2, u2⟩ := Option.map_eq_some_iff.1 t2
  obtain ⟨o2, k2⟩ := hone_of hone 2 g2 m2
  have f2 := hf 2 g2 m2
  rw [o2, k2, u2] at f2
  have f2 : DataW.trod enc Tryz.prog w base sp held n 9 [c2] = some x2 := f2
  obtain ⟨g3, m3, u3⟩ := Option.map_eq_some_iff.1 t3
  obtain ⟨o3, k3⟩ := hone_of hone 3 g3 m3
  have f3 := hf 3 g3 m3
  rw [o3, k3, u3] at f3
  have f3 : DataW.trod enc Tryz.prog w base sp held n 37 [c3] = some x3 := f3
  obtain ⟨g4, m4, u4⟩ := Option.map_eq_some_iff.1 t4
  obtain ⟨o4, k4⟩ := hone_of hone 4 g4 m4
  have f4 := hf 4 g4 m4
  rw [o4, k4, u4] at f4
  have f4 : DataW.trod enc Tryz.prog w base sp held n 9 [c4] = some x4 := f4
  obtain ⟨g5, m5, u5⟩ := Option.map_eq_some_iff.1 t5
  obtain ⟨o5, k5⟩ := hone_of hone 5 g5 m5
  have f5 := hf 5 g5 m5
  rw [o5, k5, u5] at f5
  have f5 : DataW.trod enc Tryz.prog w base sp held n 9 [c5] = some x5 := f5
  obtain ⟨k, h0, _, _⟩ := DataW.trod_int Tryz.underlying3 f0
  obtain ⟨s1, h1, _, _⟩ := DataW.trod_string Tryz.underlying9 f1
  obtain ⟨s2, h2, _, _⟩ := DataW.trod_string Tryz.underlying9 f2
  obtain ⟨n3, h3, _, hw⟩ := DataW.trod_int Tryz.underlying37 f3
  obtain ⟨s4, h4, _, _⟩ := DataW.trod_string Tryz.underlying9 f4
  obtain ⟨s5, h5, _, _⟩ := DataW.trod_string Tryz.underlying9 f5
  simp only [List.cons.injEq, and_true] at h0 h1 h2 h3 h4 h5
  subst h0 h1 h2 h3 h4 h5
  exact ⟨⟨k, s1, s2, n3, s4, s5⟩, by rw [Ord.cells_def], fits_of hw⟩
set_option maxRecDepth 100000 in
/-- an argument that is an order -/
theorem ord_in {r : Reach} {b0 : Nat} {v : Value} {d : DataW H} {p : List MemPlace} (hv : Value.okWide Tryz.prog w r b0 39 v) (h : DataW.Trod enc Tryz.prog w base sp held 39 v d p) : ∃ o : Ord, v = o.v ∧ o.fits := by
  obtain ⟨fs, hs, _⟩ := ord_type
  obtain ⟨cs, rfl, _⟩ := okWide_struct hs hv
  obtain ⟨fuel, hf⟩ := h
  obtain ⟨o, ho, hfit⟩ := ord_cells hf
  refine ⟨o, ?_, hfit⟩
  simp only [Value.cells] at ho
  obtain ⟨l⟩ := cs
  simp only at ho
  rw [ho, Ord.cells_def, Ord.v_def]
set_option maxRecDepth 100000 in
theorem ords_in {r : Reach} {b0 : Nat} {v : Value} {d : DataW H} {p : List MemPlace} (hv : Value.okWide Tryz.prog w r b0 47 v) (h : DataW.Trod enc Tryz.prog w base sp held 47 v d p) :
    ∃ (A : Option Addr) (cap : Nat) (l : List Ord), v = .slice A l.length cap ∧ Elems w A 6 (l.map Ord.cells) ∧ ∀ o ∈ l, o.fits :=
  rows_in Ord.cells Ord.fits Tryz.underlying47 (by kernel_rfl) (by decide) (fun _ => rfl) (fun _ _ _ h => ord_cells h) hv h
end
end Go.Proofs.YtdfgdnaejnngoaaGreat
