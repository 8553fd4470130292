import Derived.Test.YtdfgdnaejnngoaaGreatJa8
import Derived.Test.YtdfgdnaejnngoaaGreatJa3
import Derived.Laws.BytesArg
import Derived.Laws.MakeOwn
import Derived.Test.YtdfgdnaejnngoaaGreatJa5
namespace Go.Proofs.YtdfgdnaejnngoaaGreat
open Go.RowKit
/-! grangerref09.Same; grangerlaw33.great, awake. -/
theorem neq_itm (a b : Itm) (w : World) : (binOp .neq 41 a.v b.v).run Tryz.prog w = .ok (.bool (!decide (a = b))) w := by
  have u9 := Tryz.underlying9
  have a9 := Tryz.isAgg9
  have z9 := Tryz.sizeOf9
  have hS : Tryz.prog.underlying 41 = some (.struct (Tryz.prog.fieldsOf 41)) := by kernel_rfl
  have hp : Tryz.prog.stoodInHeld 41 = false := by kernel_rfl
  rw [Itm.v_def, Itm.v_def]
  rw [run_neq_struct, show (10000 : Nat) = 9999 + 1 from rfl, run_equalIn_agg w 9999 41 _ _ hS hp]
  simp only [Program.fieldsOf, Tryz.underlying41]
  go_simp
  obtain ⟨key, val⟩ := a
  obtain ⟨key', val'⟩ := b
  by_cases h2 : key = key' <;> by_cases h3 : val = val' <;> simp [h2, h3, bytes_inj]
set_option maxHeartbeats 1000000 in
set_option maxRecDepth 100000 in
theorem refSame_any (A B : Option Addr) (ca cb : Nat) (la lb : List Itm) (w : World) (ha : Elems w A 2 (la.map Itm.cells)) (hb : Elems w B 2 (lb.map Itm.cells)) (hl : la.length ≤ 80000) (hl2 : lb.length ≤ 80000) :
    Calls Tryz.prog 28 #[.slice A la.length ca, .slice B lb.length cb] w fun e w' => e = .returned (.bool (decide (la = lb))) ∧ Below w.heap.size w w' := by
  by_cases hn : la.length = lb.length
  · have HA := Lib.hid ha
    have HB := Lib.hid hb
    have hq := fun a b W => neq_itm a b W
    simp only [Itm.v_def] at hq
    have HQ := Lib.hid hq
    have hgu : Tryz.prog.eqGuardType Tryz.prog.depth 41 = false := by kernel_rfl
    obtain ⟨R, hR⟩ : ∃ R, decide (la = lb) = R := ⟨_, rfl⟩
    rw [hR]
    have HR := Lib.hid hR
    have HN := Lib.hid hn
    rw [← hn]
    clear hq ha hb hR hl2 hn
    go_enter Tryz.func28, Tryz.ntmps28
    go_wp2
    go_loopw [5] (fun i wr => ∃ k : Nat, i = .int .i64 k ∧ k ≤ la.length ∧ la.take k = lb.take k ∧ Below w.heap.size w wr) (fun i _ => la.length + 1 - (intOf i).toNat)
    case atStart => exact ⟨0, rfl, Nat.zero_le _, rfl, (by repeat (first | assumption | exact Below.refl _ _ | (refine below_step (w := ?_) ?_ ?_ ?_; rotate_left 2; assumption) | refine Below.drew ?_ | refine below_drewN ?_ _ | refine Below.alloc ?_ ?_ _ | refine Below.setCell ?_ ?_ _ | (focus (simp; done)) | (focus (simp; omega)) | omega))⟩
    case round =>
      obtain ⟨k, rfl, hk, htk, hbel⟩ := hrel
      by_cases hkl : k < la.length
      · have hkI : (k : Int) < (la.length : Int) := by omega
        obtain ⟨y, hy⟩ := get_lt hkl
        obtain ⟨z, hz⟩ := get_lt (l := lb) (i := k) (by have := HN.out; omega)
        obtain ⟨b1, o1, rfl, hlt1, d0, d1⟩ := itm_rowR (HA.out.below hbel) hy
        obtain ⟨b2, o2, rfl, hlt2, e0, e1⟩ := itm_rowR (HB.out.below hbel) hz
        have hqq := fun W => HQ.out y z W
        have htk2 : la.take (k + 1) = lb.take (k + 1) ↔ y = z := by
          rw [take_snocR hy, take_snocR hz, htk]
          simp
        have hne : y ≠ z → la ≠ lb := fun h e => by
          subst e
          rw [hy] at hz
          cases hz
          exact h rfl
        have HTK := Lib.hid htk2
        have HNE := Lib.hid hne
        have HBL := Lib.hid hbel
        clear htk htk2 hne hbel hy hz
        obtain ⟨yk, yv⟩ := y
        obtain ⟨zk, zv⟩ := z
        dsimp only at d0 d1 e0 e1 hqq
        by_cases hyz : (⟨yk, yv⟩ : Itm) = ⟨zk, zv⟩
        · have hyz' := hyz
          simp only [Itm.mk.injEq] at hyz'
          obtain ⟨rfl, rfl⟩ := hyz'
          simp only [decide_true, Bool.not_true] at hqq
          have HT2 := Lib.hid (HTK.out.2 rfl)
          clear hyz HTK HNE
          go_wp2
          go_quiet (fail)
          go_wp2
          refine ⟨⟨k + 1, by go_num, by omega, HT2.out, below_drewN HBL.out _⟩, ?_⟩
          simp [intOf]
          omega
        · rw [decide_eq_false hyz] at hqq
          simp only [Bool.not_false] at hqq
          have hRf : R = false := by rw [← HR.out]; exact decide_eq_false (HNE.out hyz)
          subst hRf
          clear hyz HTK HNE
          go_wp2
          go_quiet (fail)
          go_wp2
          go_ret
          exact ⟨rfl, below_drewN HBL.out _⟩
      · obtain rfl : k = la.length := by omega
        have hRt : R = true := by
          rw [← HR.out]
          rw [List.take_length, HN.out, List.take_length] at htk
          exact decide_eq_true htk
        subst hRt
        have HBL := Lib.hid hbel
        clear htk hbel
        go_wp2
        go_ret
        exact ⟨rfl, HBL.out⟩
  · have hne : la ≠ lb := fun e => hn (by rw [e])
    have hni : ((la.length : Int) != (lb.length : Int)) = true := by simp; omega
    rw [decide_eq_false hne]
    clear ha hb hne hn
    go_enter Tryz.func28, Tryz.ntmps28
    go_wp2
    go_ret
    exact ⟨rfl, (by repeat (first | assumption | exact Below.refl _ _ | (refine below_step (w := ?_) ?_ ?_ ?_; rotate_left 2; assumption) | refine Below.drew ?_ | refine below_drewN ?_ _ | refine Below.alloc ?_ ?_ _ | refine Below.setCell ?_ ?_ _ | (focus (simp; done)) | (focus (simp; omega)) | omega))⟩
end Go.Proofs.YtdfgdnaejnngoaaGreat
namespace Go.Proofs.YtdfgdnaejnngoaaGreat
open Go.RowKit
def Ord.small (o : Ord) : Prop := o.key.size ≤ 512 ∧ o.val.size ≤ 512 ∧ o.lo.size ≤ 512 ∧ o.hi.size ≤ 512
def GreatRes (os : List Ord) (w : World) (e : Ending) (w' : World) : Prop := ∃ b : Bool, e = .returned (.bool b) ∧ (b = false → os.length ≤ 150 ∧ ∀ o ∈ os, o.small) ∧ Below w.heap.size w w'
set_option maxHeartbeats 1000000 in
set_option maxRecDepth 100000 in
theorem great_any (A : Option Addr) (cap : Nat) (os : List Ord) (w : World) (hel : Elems w A 6 (os.map Ord.cells)) :
    Calls Tryz.prog 20 #[.slice A os.length cap] w (GreatRes os w) := by
  have HEL := Lib.hid hel
  clear hel
  go_enter Tryz.func20, Tryz.ntmps20
  go_wp2
  go_loopw [3, 4] (fun i _ wr => ∃ k : Nat, i = .int .i64 k ∧ k ≤ os.length ∧ k ≤ 151 ∧ (∀ o ∈ os.take k, o.small) ∧ Below w.heap.size w wr) (fun i _ _ => 152 - (intOf i).toNat)
  case atStart => exact ⟨0, rfl, Nat.zero_le _, by omega, by simp, (by repeat (first | assumption | exact Below.refl _ _ | (refine below_step (w := ?_) ?_ ?_ ?_; rotate_left 2; assumption) | refine Below.drew ?_ | refine below_drewN ?_ _ | refine Below.alloc ?_ ?_ _ | refine Below.setCell ?_ ?_ _ | (focus (simp; done)) | (focus (simp; omega)) | omega))⟩
  case round =>
    obtain ⟨k, rfl, hk, hk2, hsm, hbel⟩ := hrel
    by_cases hkl : k < os.length
    · have hkI : (k : Int) < (os.length : Int) := by omega
      by_cases hk3 : k < 151
      · have hk3I : (k : Int) < 151 := by omega
        obtain ⟨o, ho⟩ := get_lt hkl
        obtain ⟨b, off, rfl, hblt, d0, d1, d2, d3, d4, d5⟩ := ord_row (HEL.out.below hbel) ho
        have hsn := take_snocR ho
        have HB := Lib.hid hbel
        have HSM := Lib.hid hsm
        have HSN := Lib.hid hsn
        clear hbel hsm hsn ho
        obtain ⟨kind, key, val, n, lo, hi⟩ := o
        dsimp only at d0 d1 d2 d3 d4 d5
        by_cases h1 : (512 : Int) < (key.size : Int)
        · go_wp2
          go_ret
          exact ⟨true, rfl, (fun h => by cases h), below_alloc HB.out⟩
        by_cases h2 : (512 : Int) < (val.size : Int)
        · go_wp2
          go_ret
          exact ⟨true, rfl, (fun h => by cases h), below_alloc HB.out⟩
        by_cases h3 : (512 : Int) < (lo.size : Int)
        · go_wp2
          go_ret
          exact ⟨true, rfl, (fun h => by cases h), below_alloc HB.out⟩
        by_cases h4 : (512 : Int) < (hi.size : Int)
        · go_wp2
          go_ret
          exact ⟨true, rfl, (fun h => by cases h), below_alloc HB.out⟩
        have hs : (Ord.mk kind key val n lo hi).small := ⟨by show key.size ≤ 512; omega, by show val.size ≤ 512; omega, by show lo.size ≤ 512; omega, by show hi.size ≤ 512; omega⟩
        have HS := Lib.hid hs
        clear hs
        go_wp2
        refine ⟨⟨k + 1, by go_num, by omega, by omega, fun o ho => ?_, below_alloc HB.out⟩, ?_⟩
        · rw [HSN.out] at ho
          rcases List.mem_append.1 ho with ho | ho
          · exact HSM.out o ho
          · simp at ho
            subst ho
            exact HS.out
        · simp [intOf]
          omega
      · obtain rfl : k = 151 := by omega
        have h150 : (150 : Int) < (os.length : Int) := by omega
        have e0 : ((151 : Nat) : Int) = 151 := rfl
        rw [e0]
        have HB := Lib.hid hbel
        clear hbel hsm e0
        go_wp2
        go_ret
        exact ⟨true, rfl, (fun h => by cases h), HB.out⟩
    · obtain rfl : k = os.length := by omega
      rw [List.take_length] at hsm
      have HB := Lib.hid hbel
      have HSM := Lib.hid hsm
      clear hbel hsm
      go_wp2
      go_ret
      exact ⟨_, rfl, (fun h => ⟨by have := of_decide_eq_false h; omega, HSM.out⟩), HB.out⟩
end Go.Proofs.YtdfgdnaejnngoaaGreat
namespace Go.Proofs.YtdfgdnaejnngoaaGreat
open Go.RowKit
/-! grangerlaw33.awake. -/
theorem klt_data (a b : ByteArray) : klt a b = Op.bytesLess a.data.toList b.data.toList := by
  unfold klt
  rw [ByteArray.toList_eq, ByteArray.toList_eq]
def kA : ByteArray := ⟨#[97]⟩
def kB : ByteArray := ⟨#[98]⟩
def os0 : List Ord := [⟨1, ⟨#[97]⟩, ⟨#[]⟩, 0, ⟨#[]⟩, ⟨#[]⟩⟩, ⟨1, ⟨#[98]⟩, ⟨#[]⟩, 0, ⟨#[]⟩, ⟨#[]⟩⟩, ⟨2, ⟨#[97]⟩, ⟨#[]⟩, 0, ⟨#[]⟩, ⟨#[]⟩⟩, ⟨3, ⟨#[97]⟩, ⟨#[]⟩, 0, ⟨#[]⟩, ⟨#[]⟩⟩, ⟨4, ⟨#[98]⟩, ⟨#[]⟩, 0, ⟨#[]⟩, ⟨#[]⟩⟩]
theorem os0_alive : aliveL 0 os0 = [1, 3] := by kernel_rfl
theorem os0_prune : (pruneL os0).length = 2 := by rw [← alive_len os0 0, os0_alive]; rfl
theorem ltAB : klt ⟨#[97]⟩ ⟨#[98]⟩ = true := by rw [klt_data]; rfl
theorem ltBA : klt ⟨#[98]⟩ ⟨#[97]⟩ = false := by rw [klt_data]; rfl
theorem st1 : stepI [] ⟨1, ⟨#[97]⟩, ⟨#[]⟩, 0, ⟨#[]⟩, ⟨#[]⟩⟩ = [⟨⟨#[97]⟩, ⟨#[]⟩⟩] := by kernel_rfl
theorem st2 : stepI [⟨⟨#[97]⟩, ⟨#[]⟩⟩] ⟨1, ⟨#[98]⟩, ⟨#[]⟩, 0, ⟨#[]⟩, ⟨#[]⟩⟩ = [⟨⟨#[97]⟩, ⟨#[]⟩⟩, ⟨⟨#[98]⟩, ⟨#[]⟩⟩] := by
  have : stepI [⟨⟨#[97]⟩, ⟨#[]⟩⟩] ⟨1, ⟨#[98]⟩, ⟨#[]⟩, 0, ⟨#[]⟩, ⟨#[]⟩⟩ = insR ⟨#[98]⟩ ⟨#[]⟩ [⟨⟨#[97]⟩, ⟨#[]⟩⟩] := by kernel_rfl
  rw [this, insR, if_pos ltAB]
  rfl
theorem st3 : stepI [⟨⟨#[97]⟩, ⟨#[]⟩⟩, ⟨⟨#[98]⟩, ⟨#[]⟩⟩] ⟨2, ⟨#[97]⟩, ⟨#[]⟩, 0, ⟨#[]⟩, ⟨#[]⟩⟩ = [⟨⟨#[98]⟩, ⟨#[]⟩⟩] := by kernel_rfl
theorem st4 : stepI [⟨⟨#[98]⟩, ⟨#[]⟩⟩] ⟨3, ⟨#[97]⟩, ⟨#[]⟩, 0, ⟨#[]⟩, ⟨#[]⟩⟩ = [⟨⟨#[97]⟩, valB 0⟩, ⟨⟨#[98]⟩, ⟨#[]⟩⟩] := by
  have : stepI [⟨⟨#[98]⟩, ⟨#[]⟩⟩] ⟨3, ⟨#[97]⟩, ⟨#[]⟩, 0, ⟨#[]⟩, ⟨#[]⟩⟩ = insR ⟨#[97]⟩ (valB 0) [⟨⟨#[98]⟩, ⟨#[]⟩⟩] := by kernel_rfl
  rw [this, insR, if_neg (by rw [ltBA]; decide)]
  rfl
theorem os0_items : itemsO os0 = [⟨⟨#[97]⟩, valB 0⟩, ⟨⟨#[98]⟩, ⟨#[]⟩⟩] := by
  unfold itemsO os0
  rw [List.foldl_cons, List.foldl_cons, List.foldl_cons, List.foldl_cons, List.foldl_cons, st1, st2, st3, st4]
  rfl
theorem cap64 : pCap 64 = 4084 := by kernel_rfl
theorem er1 : errO 4084 [] ⟨1, ⟨#[97]⟩, ⟨#[]⟩, 0, ⟨#[]⟩, ⟨#[]⟩⟩ = 0 := by kernel_rfl
theorem er2 : errO 4084 [⟨⟨#[97]⟩, ⟨#[]⟩⟩] ⟨1, ⟨#[98]⟩, ⟨#[]⟩, 0, ⟨#[]⟩, ⟨#[]⟩⟩ = 0 := by
  refine errO_mk (m := ⟨1, ⟨#[98]⟩, ⟨#[]⟩⟩) (by kernel_rfl) (by kernel_rfl) (by kernel_rfl) (fun h => by cases h) ?_
  have : doL [⟨⟨#[97]⟩, ⟨#[]⟩⟩] ⟨1, ⟨#[98]⟩, ⟨#[]⟩⟩ = stepI [⟨⟨#[97]⟩, ⟨#[]⟩⟩] ⟨1, ⟨#[98]⟩, ⟨#[]⟩, 0, ⟨#[]⟩, ⟨#[]⟩⟩ := by kernel_rfl
  rw [this, st2]
  decide
theorem er3 : errO 4084 [⟨⟨#[97]⟩, ⟨#[]⟩⟩, ⟨⟨#[98]⟩, ⟨#[]⟩⟩] ⟨2, ⟨#[97]⟩, ⟨#[]⟩, 0, ⟨#[]⟩, ⟨#[]⟩⟩ = 0 := by kernel_rfl
theorem er4 : errO 4084 [⟨⟨#[98]⟩, ⟨#[]⟩⟩] ⟨3, ⟨#[97]⟩, ⟨#[]⟩, 0, ⟨#[]⟩, ⟨#[]⟩⟩ = 0 := by
  refine errO_mk (m := ⟨3, ⟨#[97]⟩, valB 0⟩) (by kernel_rfl) (by kernel_rfl) (by kernel_rfl) (fun _ => by kernel_rfl) ?_
  have : doL [⟨⟨#[98]⟩, ⟨#[]⟩⟩] ⟨3, ⟨#[97]⟩, valB 0⟩ = stepI [⟨⟨#[98]⟩, ⟨#[]⟩⟩] ⟨3, ⟨#[97]⟩, ⟨#[]⟩, 0, ⟨#[]⟩, ⟨#[]⟩⟩ := by kernel_rfl
  rw [this, st4]
  decide
theorem er5 : errO 4084 [⟨⟨#[97]⟩, valB 0⟩, ⟨⟨#[98]⟩, ⟨#[]⟩⟩] ⟨4, ⟨#[98]⟩, ⟨#[]⟩, 0, ⟨#[]⟩, ⟨#[]⟩⟩ = 0 := by kernel_rfl
theorem os0_plain : plainL (pCap 64) [] os0 = true := by
  rw [cap64]
  unfold os0
  rw [plainL, plainL, plainL, plainL, plainL, plainL, er1, st1, er2, st2, er3, st3, er4, st4, er5]
  rfl
theorem os0_okN : okN os0 := by
  intro o ho
  simp [os0] at ho
  rcases ho with rfl | rfl | rfl | rfl | rfl <;> exact ⟨by decide, by decide⟩
theorem os0_okK : okK os0 := by
  intro o ho
  simp [os0] at ho
  rcases ho with rfl | rfl | rfl | rfl | rfl <;> (show ByteArray.size _ ≤ 512; decide)
set_option maxHeartbeats 2000000 in
set_option maxRecDepth 100000 in
theorem awake33_any (w : World) : Calls Tryz.prog 19 #[] w fun e w' => e = .returned (.bool true) ∧ Below w.heap.size w w' := by
  have hel : ∀ W : World, Below w.heap.size w w → W.heap[w.heap.size]? = some (.cells (os0.map Ord.cells).flatten.toArray 39 (0, 0)) → Elems W (some ⟨w.heap.size, 0, none⟩) 6 (os0.map Ord.cells) := fun W _ h => Elems.of_block h (fun r hr => by obtain ⟨v, _, rfl⟩ := List.mem_map.1 hr; rfl) rfl
  have hal : ∀ W, W.heap[w.heap.size]? = some (.cells (os0.map Ord.cells).flatten.toArray 39 (0, 0)) → Calls Tryz.prog 23 #[.slice (some ⟨w.heap.size, 0, none⟩) 5 5] W fun e w' => ∃ A' c', e = .returned (.slice A' 2 c') ∧ OwnsN w' W.heap.size (.slice A' 2 c') [1, 3] ∧ Below W.heap.size W w' := fun W h => by
    have := alive_any (some ⟨w.heap.size, 0, none⟩) 5 os0 W (hel W (Below.refl _ w) h) (by decide) os0_okK
    rw [os0_alive] at this
    exact this
  have hpr : ∀ W, W.heap[w.heap.size]? = some (.cells (os0.map Ord.cells).flatten.toArray 39 (0, 0)) → Calls Tryz.prog 25 #[.slice (some ⟨w.heap.size, 0, none⟩) 5 5] W fun e w' => ∃ A' c', e = .returned (.slice A' 2 c') ∧ Below W.heap.size W w' := fun W h => by
    refine (prune_any (some ⟨w.heap.size, 0, none⟩) 5 os0 W (hel W (Below.refl _ w) h) (by decide) os0_okK).mono ?_
    rintro e w' ⟨A', c', rfl, _, hb⟩
    exact ⟨A', c', by rw [os0_prune], hb⟩
  have hit : ∀ W, W.heap[w.heap.size]? = some (.cells (os0.map Ord.cells).flatten.toArray 39 (0, 0)) → Calls Tryz.prog 29 #[.slice (some ⟨w.heap.size, 0, none⟩) 5 5] W fun e w' => ∃ A' c', e = .returned (.slice A' 2 c') ∧ Below W.heap.size W w' := fun W h => by
    refine (pruneItems_any (some ⟨w.heap.size, 0, none⟩) 5 os0 W (hel W (Below.refl _ w) h) (by decide) os0_okN).mono ?_
    rintro e w' ⟨A', c', rfl, _, hb⟩
    exact ⟨A', c', by rw [os0_items]; rfl, hb⟩
  have hpl : ∀ W, W.heap[w.heap.size]? = some (.cells (os0.map Ord.cells).flatten.toArray 39 (0, 0)) → Calls Tryz.prog 26 #[.agg (planA 64), .slice (some ⟨w.heap.size, 0, none⟩) 5 5] W fun e w' => e = .returned (.bool true) ∧ Below W.heap.size W w' := fun W h => by
    have := isPlain_ok 64 (some ⟨w.heap.size, 0, none⟩) 5 os0 W (by decide) (by decide) (hel W (Below.refl _ w) h) (by decide) os0_okN
    rw [os0_plain] at this
    exact this
  have hpn := fun W => isPlain_none ⟨0, 0, 0, 0, 0, 0, 0⟩ (some ⟨w.heap.size, 0, none⟩) 5 5 W (by kernel_rfl)
  rw [Pl.v_def] at hpn
  dsimp only at hpn
  have hcap := fun W => capaOf_ok 64 W (by decide) (by decide)
  have p64 : planA 64 = #[.int .i64 64, .int .i64 8, .int .i64 10, .int .i64 54, .int .i64 26, .int .i64 19, .int .i64 4084] := by kernel_rfl
  rw [p64] at hcap hpl
  have HAL := Lib.hid hal
  have HPR := Lib.hid hpr
  have HIT := Lib.hid hit
  have HPL := Lib.hid hpl
  have HPN := Lib.hid hpn
  have HC := Lib.hid hcap
  clear hal hpr hit hpl hpn hcap hel p64
  go_enter Tryz.func19, Tryz.ntmps19
  go_wp2_with (first
    | (go_at_call 21; (with_reducible refine (HC.out _).mono ?_); rintro e w1 ⟨rfl, hb1⟩; have HX1 := Lib.hid (show w1.heap[w.heap.size]? = some (.cells (os0.map Ord.cells).flatten.toArray 39 (0, 0)) from box_cells hb1); have HB1 := Lib.hid (below_next (below_alloc (Below.refl _ w)) hb1); clear hb1)
    | (go_at_call 23; (with_reducible refine (HAL.out _ (((Fr.refl (fun _ => False) _).alloc _).row id HX1.out)).mono ?_); rintro e w2 ⟨A2, c2, rfl, ho2, hb2⟩; obtain ⟨g2, rfl, _, hgl2, hcap2, hc2⟩ := ho2.row natLen (j := 0) (p := 1) rfl; have q0 : w2.cell? ⟨g2, 0, none⟩ = some (.int .i64 1) := hc2 0 _ rfl; obtain ⟨g3, hg3, _, _, _, hc3⟩ := ho2.row natLen (j := 1) (p := 3) rfl; have q1 : w2.cell? ⟨g2, 1, none⟩ = some (.int .i64 3) := (by cases hg3; exact hc3 0 _ rfl); have hx2 : w2.heap[w.heap.size]? = some (.cells (os0.map Ord.cells).flatten.toArray 39 (0, 0)) := box_below (((Fr.refl (fun _ => False) _).alloc _).row id HX1.out) hb2; have hp2 : w2.heap[w1.heap.size]? = some (.cells #[.int .i64 64, .int .i64 8, .int .i64 10, .int .i64 54, .int .i64 26, .int .i64 19, .int .i64 4084] 26 (0, 0)) := box_below (heap_alloc_new w1 _) hb2; have HX2 := Lib.hid hx2; have HP2 := Lib.hid hp2; have HB2 := Lib.hid (below_next (below_alloc HB1.out) hb2); clear hx2 hp2 hb2 ho2 hc2 hg3 hc3)
    | (go_at_call 25; (with_reducible refine (HPR.out _ HX2.out).mono ?_); rintro e w3 ⟨A3, c3, rfl, hb3⟩; have hx3 : w3.heap[w.heap.size]? = some (.cells (os0.map Ord.cells).flatten.toArray 39 (0, 0)) := box_below HX2.out hb3; have hp3 : w3.heap[w1.heap.size]? = some (.cells #[.int .i64 64, .int .i64 8, .int .i64 10, .int .i64 54, .int .i64 26, .int .i64 19, .int .i64 4084] 26 (0, 0)) := box_below HP2.out hb3; have HX3 := Lib.hid hx3; have HP3 := Lib.hid hp3; have HB3 := Lib.hid (below_next HB2.out hb3); clear hx3 hp3 hb3)
    | (go_at_call 29; (with_reducible refine (HIT.out _ HX3.out).mono ?_); rintro e w4 ⟨A4, c4, rfl, hb4⟩; have hx4 : w4.heap[w.heap.size]? = some (.cells (os0.map Ord.cells).flatten.toArray 39 (0, 0)) := box_below HX3.out hb4; have hp4 : w4.heap[w1.heap.size]? = some (.cells #[.int .i64 64, .int .i64 8, .int .i64 10, .int .i64 54, .int .i64 26, .int .i64 19, .int .i64 4084] 26 (0, 0)) := box_below HP3.out hb4; have HX4 := Lib.hid hx4; have HP4 := Lib.hid hp4; have HB4 := Lib.hid (below_next HB3.out hb4); clear hx4 hp4 hb4; obtain ⟨z0, z1, z2, z3, z4, z5, z6⟩ : w4.cell? ⟨w1.heap.size, 0, none⟩ = some (.int .i64 64) ∧ w4.cell? ⟨w1.heap.size, 1, none⟩ = some (.int .i64 8) ∧ w4.cell? ⟨w1.heap.size, 2, none⟩ = some (.int .i64 10) ∧ w4.cell? ⟨w1.heap.size, 3, none⟩ = some (.int .i64 54) ∧ w4.cell? ⟨w1.heap.size, 4, none⟩ = some (.int .i64 26) ∧ w4.cell? ⟨w1.heap.size, 5, none⟩ = some (.int .i64 19) ∧ w4.cell? ⟨w1.heap.size, 6, none⟩ = some (.int .i64 4084) := (by have hh := HP4.out; refine ⟨?_, ?_, ?_, ?_, ?_, ?_, ?_⟩ <;> (rw [Lib.cell_of_heap hh]; rfl)))
    | (go_at_call 26; (with_reducible refine (HPN.out _).mono ?_); rintro e w6 ⟨rfl, hb6⟩; have HB6 := Lib.hid (below_next HB5.out hb6); clear hb6)
    | (go_at_call 26; (with_reducible refine (HPL.out _ HX4.out).mono ?_); rintro e w5 ⟨rfl, hb5⟩; have HB5 := Lib.hid (below_next HB4.out hb5); clear hb5))
  go_ret
  exact ⟨rfl, HB6.out⟩
end Go.Proofs.YtdfgdnaejnngoaaGreat
namespace Go.Proofs.YtdfgdnaejnngoaaGreat
open Go.RowKit
/-! grangerlaw33.PruneSame. -/
theorem at_mod (x : Int) (n : Nat) (hn : n ≤ 1000) : ∃ k : Nat, k ≤ n ∧ wrap64 ((IntKind.u64.wrap x).tmod ((n : Int) + 1)) = (k : Int) := by
  have h0 : 0 ≤ IntKind.u64.wrap x := by
    simp [IntKind.wrap, IntKind.bits, IntKind.signed]
    omega
  have e : (IntKind.u64.wrap x).tmod ((n : Int) + 1) = (IntKind.u64.wrap x) % ((n : Int) + 1) := Int.tmod_eq_emod_of_nonneg h0
  have h1 := Int.emod_nonneg (IntKind.u64.wrap x) (show ((n : Int) + 1) ≠ 0 by omega)
  have h2 := Int.emod_lt_of_pos (IntKind.u64.wrap x) (show (0 : Int) < (n : Int) + 1 by omega)
  rw [e]
  generalize IntKind.u64.wrap x % ((n : Int) + 1) = y at *
  obtain ⟨k, rfl⟩ := Int.eq_ofNat_of_zero_le h1
  refine ⟨k, by omega, ?_⟩
  unfold wrap64
  omega
theorem okN_prune {os : List Ord} (h : okN os) : okN (pruneL os) := fun o ho => h o ((prune_sub os).subset ho)
theorem okK_prune {os : List Ord} (h : okK os) : okK (pruneL os) := fun o ho => h o ((prune_sub os).subset ho)
set_option maxHeartbeats 4000000 in
set_option maxRecDepth 100000 in
theorem same_any (at_ : Int) (A : Option Addr) (cap : Nat) (os : List Ord) (w : World) (hel : Elems w A 6 (os.map Ord.cells)) (hn : okN os) :
    Calls Tryz.prog 6 #[.int .i64 at_, .slice A os.length cap] w fun e w' => e = .returned (.bool true) ∧ Below w.heap.size w w' := by
  have haw := fun W => awake33_any W
  have hgr := fun W (hW : Below w.heap.size w W) => great_any A cap os W (hel.below hW)
  obtain ⟨k, hk, hK⟩ := at_mod at_ 448 (by decide)
  rw [show (((448 : Nat) : Int) + 1) = 449 from rfl] at hK
  have hw1 : wrap64 (64 + (k : Int)) = 64 + (k : Int) := by unfold wrap64; omega
  have HAW := Lib.hid haw
  have HGR := Lib.hid hgr
  have HEL := Lib.hid hel
  have HN := Lib.hid hn
  clear haw hgr hel hn
  go_enter Tryz.func6, Tryz.ntmps6
  go_wp2_with (first
    | (go_at_call 19; (with_reducible refine (HAW.out _).mono ?_); rintro e w1 ⟨rfl, hb1⟩; have HB1 := Lib.hid hb1; clear hb1)
    | (go_at_call 20; (with_reducible refine (HGR.out _ HB1.out).mono ?_); rintro e w2 ⟨b2, rfl, hsm, hb2⟩; have HB2 := Lib.hid (below_next HB1.out hb2); have HSM := Lib.hid hsm; clear hsm hb2))
  · go_ret
    exact ⟨rfl, HB2.out⟩
  · have hbf : b2 = false := by assumption
    obtain ⟨hl150, hsmall⟩ := HSM.out hbf
    have hks : okK os := fun o ho => (hsmall o ho).1
    generalize hNN : (64 : Int) + (k : Int) = N at *
    have hc := fun W => capaOf_ok N W (by omega) (by omega)
    have hpr := fun W (hW : Below w.heap.size w W) => prune_any A cap os W (HEL.out.below hW) (by omega) hks
    have hplen := (prune_sub os).length_le
    have hle : ¬ (os.length : Int) < ((pruneL os).length : Int) := by omega
    have hal : ∀ W A' c', Elems W A' 6 ((pruneL os).map Ord.cells) → Calls Tryz.prog 23 #[.slice A' (pruneL os).length c'] W fun e w' => ∃ A2 c2, e = .returned (.slice A2 (pruneL os).length c2) ∧ Below W.heap.size W w' := fun W A' c' h => by
      refine (alive_any A' c' (pruneL os) W h (by omega) (okK_prune hks)).mono ?_
      rintro e w' ⟨A2, c2, rfl, _, hb⟩
      exact ⟨A2, c2, by rw [alive_len, prune_twice], hb⟩
    have hpl := fun W (hW : Below w.heap.size w W) => isPlain_ok N A cap os W (by omega) (by omega) (HEL.out.below hW) (by omega) HN.out
    rw [planA_def] at hc hpl
    cases hR : plainL (pCap N) [] os with
    | false =>
      rw [hR] at hpl
      generalize pruneL os = P at *
      have HC := Lib.hid hc
      have HPR := Lib.hid hpr
      have HAL := Lib.hid hal
      have HPL := Lib.hid hpl
      clear hc hpr hal hpl hR hks hsmall hbf hplen hNN hK
      go_wp2_with (first
        | (go_at_call 21; (with_reducible refine (HC.out _).mono ?_); rintro e w3 ⟨rfl, hb3⟩; have HB3 := Lib.hid (below_next HB2.out hb3); clear hb3)
        | (go_at_call 25; (with_reducible refine (HPR.out _ (below_alloc HB3.out)).mono ?_); rintro e w4 ⟨A4, c4, rfl, ho4, hb4⟩; have hp4 : w4.heap[w3.heap.size]? = some (.cells #[.int .i64 N, .int .i64 (pLog N), .int .i64 (2 + pLog N), .int .i64 (pData N), .int .i64 (pHalf N), .int .i64 (pLeaves N), .int .i64 (pCap N)] 26 (0, 0)) := box_below (heap_alloc_new w3 _) hb4; have HP4 := Lib.hid hp4; have HO4 := Lib.hid ho4; have HB4 := Lib.hid (below_next (below_alloc HB3.out) hb4); clear hp4 ho4 hb4)
        | (go_at_call 23; (with_reducible refine (HAL.out _ _ _ (HO4.out.elems ordLen)).mono ?_); rintro e w5 ⟨A5, c5, rfl, hb5⟩; have hp5 : w5.heap[w3.heap.size]? = some (.cells #[.int .i64 N, .int .i64 (pLog N), .int .i64 (2 + pLog N), .int .i64 (pData N), .int .i64 (pHalf N), .int .i64 (pLeaves N), .int .i64 (pCap N)] 26 (0, 0)) := box_below HP4.out hb5; have HP5 := Lib.hid hp5; clear hp5; have hel5 := (HO4.out.elems ordLen).below hb5; have HE5 := Lib.hid hel5; have HB5 := Lib.hid (below_next HB4.out hb5); clear hb5 hel5; obtain ⟨z0, z1, z2, z3, z4, z5, z6⟩ : w5.cell? ⟨w3.heap.size, 0, none⟩ = some (.int .i64 N) ∧ w5.cell? ⟨w3.heap.size, 1, none⟩ = some (.int .i64 (pLog N)) ∧ w5.cell? ⟨w3.heap.size, 2, none⟩ = some (.int .i64 (2 + pLog N)) ∧ w5.cell? ⟨w3.heap.size, 3, none⟩ = some (.int .i64 (pData N)) ∧ w5.cell? ⟨w3.heap.size, 4, none⟩ = some (.int .i64 (pHalf N)) ∧ w5.cell? ⟨w3.heap.size, 5, none⟩ = some (.int .i64 (pLeaves N)) ∧ w5.cell? ⟨w3.heap.size, 6, none⟩ = some (.int .i64 (pCap N)) := (by have hh := HP5.out; refine ⟨?_, ?_, ?_, ?_, ?_, ?_, ?_⟩ <;> (rw [Lib.cell_of_heap hh]; rfl)))
        | (go_at_call 26; (with_reducible refine (HPL.out _ HB5.out).mono ?_); rintro e w6 ⟨rfl, hb6⟩; have hp6 : w6.heap[w3.heap.size]? = some (.cells #[.int .i64 N, .int .i64 (pLog N), .int .i64 (2 + pLog N), .int .i64 (pData N), .int .i64 (pHalf N), .int .i64 (pLeaves N), .int .i64 (pCap N)] 26 (0, 0)) := box_below HP5.out hb6; have HP6 := Lib.hid hp6; clear hp6; have HE6 := Lib.hid (HE5.out.below hb6); have HB6 := Lib.hid (below_next HB5.out hb6); clear hb6; obtain ⟨y0, y1, y2, y3, y4, y5, y6⟩ : w6.cell? ⟨w3.heap.size, 0, none⟩ = some (.int .i64 N) ∧ w6.cell? ⟨w3.heap.size, 1, none⟩ = some (.int .i64 (pLog N)) ∧ w6.cell? ⟨w3.heap.size, 2, none⟩ = some (.int .i64 (2 + pLog N)) ∧ w6.cell? ⟨w3.heap.size, 3, none⟩ = some (.int .i64 (pData N)) ∧ w6.cell? ⟨w3.heap.size, 4, none⟩ = some (.int .i64 (pHalf N)) ∧ w6.cell? ⟨w3.heap.size, 5, none⟩ = some (.int .i64 (pLeaves N)) ∧ w6.cell? ⟨w3.heap.size, 6, none⟩ = some (.int .i64 (pCap N)) := (by have hh := HP6.out; refine ⟨?_, ?_, ?_, ?_, ?_, ?_, ?_⟩ <;> (rw [Lib.cell_of_heap hh]; rfl))))
      go_ret
      exact ⟨rfl, HB6.out⟩
    | true =>
      rw [hR] at hpl
      obtain ⟨hp1, hp2⟩ := prune_same (pCap N) os hR
      have hpl2 := fun W A' c' (h : Elems W A' 6 ((pruneL os).map Ord.cells)) => isPlain_ok N A' c' (pruneL os) W (by omega) (by omega) h (by omega) (okN_prune HN.out)
      rw [hp1, planA_def] at hpl2
      have hi1 := fun W A' c' (h : Elems W A' 6 ((pruneL os).map Ord.cells)) => pruneItems_any A' c' (pruneL os) W h (by omega) (okN_prune HN.out)
      rw [hp2] at hi1
      have hi2 := fun W (hW : Below w.heap.size w W) => pruneItems_any A cap os W (HEL.out.below hW) (by omega) HN.out
      have hil : (itemsO os).length ≤ 1000 := by
        have := items_len os (l := []) trivial
        unfold itemsO
        simp at this
        omega
      have hs := fun W A' c' A2 c2 h1 h2 => refSame_any A' A2 c' c2 (itemsO os) (itemsO os) W h1 h2 (by omega) (by omega)
      simp only [decide_true] at hs
      generalize itemsO os = I at *
      generalize pruneL os = P at *
      have HC := Lib.hid hc
      have HPR := Lib.hid hpr
      have HAL := Lib.hid hal
      have HPL := Lib.hid hpl
      have HPL2 := Lib.hid hpl2
      have HI1 := Lib.hid hi1
      have HI2 := Lib.hid hi2
      have HS := Lib.hid hs
      clear hc hpr hal hpl hpl2 hi1 hi2 hs hR hp1 hp2 hks hsmall hbf hplen hNN hK hil
      go_wp2_with (first
        | (go_at_call 21; (with_reducible refine (HC.out _).mono ?_); rintro e w3 ⟨rfl, hb3⟩; have HB3 := Lib.hid (below_next HB2.out hb3); clear hb3)
        | (go_at_call 25; (with_reducible refine (HPR.out _ (below_alloc HB3.out)).mono ?_); rintro e w4 ⟨A4, c4, rfl, ho4, hb4⟩; have hp4 : w4.heap[w3.heap.size]? = some (.cells #[.int .i64 N, .int .i64 (pLog N), .int .i64 (2 + pLog N), .int .i64 (pData N), .int .i64 (pHalf N), .int .i64 (pLeaves N), .int .i64 (pCap N)] 26 (0, 0)) := box_below (heap_alloc_new w3 _) hb4; have HP4 := Lib.hid hp4; have HO4 := Lib.hid ho4; have HB4 := Lib.hid (below_next (below_alloc HB3.out) hb4); clear hp4 ho4 hb4)
        | (go_at_call 23; (with_reducible refine (HAL.out _ _ _ (HO4.out.elems ordLen)).mono ?_); rintro e w5 ⟨A5, c5, rfl, hb5⟩; have hp5 : w5.heap[w3.heap.size]? = some (.cells #[.int .i64 N, .int .i64 (pLog N), .int .i64 (2 + pLog N), .int .i64 (pData N), .int .i64 (pHalf N), .int .i64 (pLeaves N), .int .i64 (pCap N)] 26 (0, 0)) := box_below HP4.out hb5; have HP5 := Lib.hid hp5; clear hp5; have hel5 := (HO4.out.elems ordLen).below hb5; have HE5 := Lib.hid hel5; have HB5 := Lib.hid (below_next HB4.out hb5); clear hb5 hel5; obtain ⟨z0, z1, z2, z3, z4, z5, z6⟩ : w5.cell? ⟨w3.heap.size, 0, none⟩ = some (.int .i64 N) ∧ w5.cell? ⟨w3.heap.size, 1, none⟩ = some (.int .i64 (pLog N)) ∧ w5.cell? ⟨w3.heap.size, 2, none⟩ = some (.int .i64 (2 + pLog N)) ∧ w5.cell? ⟨w3.heap.size, 3, none⟩ = some (.int .i64 (pData N)) ∧ w5.cell? ⟨w3.heap.size, 4, none⟩ = some (.int .i64 (pHalf N)) ∧ w5.cell? ⟨w3.heap.size, 5, none⟩ = some (.int .i64 (pLeaves N)) ∧ w5.cell? ⟨w3.heap.size, 6, none⟩ = some (.int .i64 (pCap N)) := (by have hh := HP5.out; refine ⟨?_, ?_, ?_, ?_, ?_, ?_, ?_⟩ <;> (rw [Lib.cell_of_heap hh]; rfl)))
        | (go_at_call 26; (with_reducible refine (HPL2.out _ _ _ HE6.out).mono ?_); rintro e w7 ⟨rfl, hb7⟩; have HE7 := Lib.hid (HE6.out.below hb7); have HB7 := Lib.hid (below_next HB6.out hb7); clear hb7)
        | (go_at_call 26; (with_reducible refine (HPL.out _ HB5.out).mono ?_); rintro e w6 ⟨rfl, hb6⟩; have hp6 : w6.heap[w3.heap.size]? = some (.cells #[.int .i64 N, .int .i64 (pLog N), .int .i64 (2 + pLog N), .int .i64 (pData N), .int .i64 (pHalf N), .int .i64 (pLeaves N), .int .i64 (pCap N)] 26 (0, 0)) := box_below HP5.out hb6; have HP6 := Lib.hid hp6; clear hp6; have HE6 := Lib.hid (HE5.out.below hb6); have HB6 := Lib.hid (below_next HB5.out hb6); clear hb6; obtain ⟨y0, y1, y2, y3, y4, y5, y6⟩ : w6.cell? ⟨w3.heap.size, 0, none⟩ = some (.int .i64 N) ∧ w6.cell? ⟨w3.heap.size, 1, none⟩ = some (.int .i64 (pLog N)) ∧ w6.cell? ⟨w3.heap.size, 2, none⟩ = some (.int .i64 (2 + pLog N)) ∧ w6.cell? ⟨w3.heap.size, 3, none⟩ = some (.int .i64 (pData N)) ∧ w6.cell? ⟨w3.heap.size, 4, none⟩ = some (.int .i64 (pHalf N)) ∧ w6.cell? ⟨w3.heap.size, 5, none⟩ = some (.int .i64 (pLeaves N)) ∧ w6.cell? ⟨w3.heap.size, 6, none⟩ = some (.int .i64 (pCap N)) := (by have hh := HP6.out; refine ⟨?_, ?_, ?_, ?_, ?_, ?_, ?_⟩ <;> (rw [Lib.cell_of_heap hh]; rfl)))
        | (go_at_call 29; (with_reducible refine (HI1.out _ _ _ HE7.out).mono ?_); rintro e w8 ⟨A8, c8, rfl, ho8, hb8⟩; have HO8 := Lib.hid ho8; have HB8 := Lib.hid (below_next HB7.out hb8); clear ho8 hb8)
        | (go_at_call 29; (with_reducible refine (HI2.out _ HB8.out).mono ?_); rintro e w9 ⟨A9, c9, rfl, ho9, hb9⟩; have HO9 := Lib.hid ho9; have HE8 := Lib.hid ((HO8.out.below hb9).elems Itm.clen); have HB9 := Lib.hid (below_next HB8.out hb9); clear ho9 hb9)
        | (go_at_call 28; (with_reducible refine (HS.out _ _ _ _ _ HE8.out (HO9.out.elems Itm.clen)).mono ?_); rintro e w10 ⟨rfl, hb10⟩; have HB10 := Lib.hid (below_next HB9.out hb10); clear hb10))
      go_ret
      exact ⟨rfl, HB10.out⟩
end Go.Proofs.YtdfgdnaejnngoaaGreat
namespace Go.Proofs.YtdfgdnaejnngoaaGreat
open Go.RowKit

theorem conv_one (W : World) (x : Int) : (convert 30 9 (.slice (some ⟨W.heap.size, 0, none⟩) 1 1)).run Tryz.prog (W.alloc (.cells #[.int .u8 x] 5)) = .ok (.string ⟨#[UInt8.ofNat x.toNat]⟩) (W.alloc (.cells #[.int .u8 x] 5)) :=
  run_convert_bytes_arg _ 30 5 Tryz.underlying30 Tryz.underlying5 W.heap.size 0 1 1 [x] rfl (fun i hi => by
    have : i = 0 := by omega
    subst this
    rw [Lib.cell_of_heap (heap_alloc_new W _)]; rfl) 9 Tryz.underlying9
theorem conv_at (W : World) (b c : Nat) (bs : List UInt8) (h : ∀ j x, bs[j]? = some x → W.cell? ⟨b, j, none⟩ = some (.int .u8 (x.toNat : Int))) : (convert 30 9 (.slice (some ⟨b, 0, none⟩) bs.length c)).run Tryz.prog W = .ok (.string ⟨bs.toArray⟩) W := by
  have := run_convert_bytes_arg (P := Tryz.prog) W 30 5 Tryz.underlying30 Tryz.underlying5 b 0 bs.length c (bs.map fun x => (x.toNat : Int)) (by simp) (fun i hi => by
    rw [Nat.zero_add, h i bs[i] (List.getElem?_eq_getElem hi)]
    simp [List.getD, hi]) 9 Tryz.underlying9
  rw [this]
  have e : strOfNums (bs.map fun x => (x.toNat : Int)) = ⟨bs.toArray⟩ := by
    simp [strOfNums, Function.comp_def]
  rw [e]

theorem A_infob : (Tryz.prog.info? 5).map (fun i => (i.zero, i.size, i.bytes)) = some (some (.int .u8 0), 1, 1) := by kernel_rfl
theorem make8 (W : World) : (Instr.makeSlice 30 (.int .i64 8) (.int .i64 8)).run Tryz.prog W = .ok (.slice (some ⟨W.heap.size, 0, none⟩) 8 8) (W.alloc (.cells #[.int .u8 0, .int .u8 0, .int .u8 0, .int .u8 0, .int .u8 0, .int .u8 0, .int .u8 0, .int .u8 0] 5)) := by
  obtain ⟨i0, hi0, hz0, hz1, hz2⟩ := info_parts A_infob
  have h := run_makeSlice (P := Tryz.prog) W 30 5 i0 _ Tryz.underlying30 hi0 hz0 .i64 .i64 8 8 (by omega) (by omega) (by rw [hz1]; decide) (by rw [hz2]; decide) (by omega)
  rw [h, hz1]
  have e : madeCells (Value.int .u8 0).cells (Int.toNat 8 * 1) = #[.int .u8 0, .int .u8 0, .int .u8 0, .int .u8 0, .int .u8 0, .int .u8 0, .int .u8 0, .int .u8 0] := by kernel_rfl
  rw [e]
  rfl

theorem byte_at {t : ByteArray} {k : Nat} (h : k < t.size) {x : UInt8} (hx : t.data.toList[k]? = some x) : t[k] = x := by
  have hk := (List.getElem?_eq_some_iff.1 hx).2
  rw [← hk]
  rfl
theorem ofNat_mod {a b : Nat} (h : a % 256 = b % 256) : UInt8.ofNat a = UInt8.ofNat b := by
  apply UInt8.toNat_inj.1
  simp [UInt8.toNat_ofNat', h]
theorem numBytes_mod (wd n : Nat) : numBytes wd n = (List.range wd).reverse.map fun i => UInt8.ofNat (n / 256 ^ i % 256) := by
  unfold numBytes
  refine List.map_congr_left (fun i _ => ofNat_mod (by omega))
theorem valBytes_eight (n : Nat) : valBytes n = numBytes 8 n := by
  have h4 : ∀ i, i < 4 → n % 4294967296 / 256 ^ i % 256 = n / 256 ^ i % 256 := by
    intro i hi
    rcases i with _ | _ | _ | _ | i
    all_goals try simp only [Nat.zero_add, Nat.reduceAdd, Nat.reducePow]
    all_goals omega
  have h8 : ∀ i, i < 4 → n / 4294967296 / 256 ^ i % 256 = n / 256 ^ (i + 4) % 256 := by
    intro i hi
    rcases i with _ | _ | _ | _ | i
    all_goals try simp only [Nat.zero_add, Nat.reduceAdd, Nat.reducePow]
    all_goals omega
  unfold valBytes
  rw [numBytes_mod, numBytes_mod, numBytes_mod]
  have e4 : (List.range 4).reverse = [3, 2, 1, 0] := by decide
  have e8 : (List.range 8).reverse = [7, 6, 5, 4, 3, 2, 1, 0] := by decide
  rw [e4, e8]
  simp only [List.map_cons, List.map_nil, List.cons_append, List.nil_append]
  rw [h4 3 (by omega), h4 2 (by omega), h4 1 (by omega), h4 0 (by omega), h8 3 (by omega), h8 2 (by omega), h8 1 (by omega), h8 0 (by omega)]
def u8v (x : UInt8) : Value := .int .u8 (x.toNat : Int)
def vrow (n m : Nat) : List Value := List.replicate m (.int .u8 0) ++ (numBytes (8 - m) n).map u8v
theorem vrow_at (n j : Nat) : (vrow n (j + 1))[j]? = some (.int .u8 0) := by
  unfold vrow
  rw [List.getElem?_append_left (by simp)]
  simp
theorem vrow_set (n j : Nat) (hj : j < 8) : (vrow n (j + 1)).set j (.int .u8 ((n / 256 ^ (7 - j) % 256 : Nat) : Int)) = vrow n j := by
  unfold vrow
  have e : 8 - j = (7 - j) + 1 := by omega
  rw [show 8 - (j + 1) = 7 - j by omega, e, numBytes_succ, List.map_cons, List.set_append_left _ _ (by simp)]
  have h2 : (List.replicate (j + 1) (Value.int .u8 0)).set j (.int .u8 ((n / 256 ^ (7 - j) % 256 : Nat) : Int)) = List.replicate j (Value.int .u8 0) ++ [.int .u8 ((n / 256 ^ (7 - j) % 256 : Nat) : Int)] := by
    rw [List.replicate_succ', List.set_append_right _ _ (by simp)]
    simp
  rw [h2, List.append_assoc, List.singleton_append]
  simp [u8v, UInt8.toNat_ofNat']
/-- eight bytes in block b, the last ones set -/
def VAt (w : World) (b n m : Nat) : Prop := w.heap[b]? = some (.cells (vrow n m).toArray 5 (0, 0))
theorem VAt.cell {w : World} {b n j : Nat} (h : VAt w b n (j + 1)) : w.cell? ⟨b, j, none⟩ = some (.int .u8 0) := by
  rw [Lib.cell_of_heap h]
  simpa using vrow_at n j
theorem VAt.f {w : World} {b n m : Nat} (h : VAt w b n m) (j : Nat) : w.frozen? ⟨b, j, none⟩ = false := Lib.frozen_of_heap h j
theorem VAt.set {w : World} {b n j : Nat} (h : VAt w b n (j + 1)) (hj : j < 8) : VAt (w.setCell ⟨b, j, none⟩ (.int .u8 ((n / 256 ^ (7 - j) % 256 : Nat) : Int))) b n j := by
  unfold VAt at *
  rw [← vrow_set n j hj]
  simp [World.setCell, Array.getElem?_modify, h]
theorem VAt.done {w : World} {b n : Nat} (h : VAt w b n 0) : ∀ j x, (numBytes 8 n)[j]? = some x → w.cell? ⟨b, j, none⟩ = some (.int .u8 (x.toNat : Int)) := by
  intro j x hx
  rw [Lib.cell_of_heap h]
  simp [vrow, hx, u8v]

theorem u64_small (x : Int) (h0 : 0 ≤ x) (h1 : x < 18446744073709551616) : IntKind.u64.wrap x = x := by
  rw [IntKind.wrap_u64]
  omega

set_option maxRecDepth 100000 in
theorem refValue_any (n : Nat) (w : World) (hn : n < 18446744073709551616) : Calls Tryz.prog 59 #[.int .u64 (n : Int)] w fun e w' => e = .returned (.string ⟨(valBytes n).toArray⟩) ∧ Below w.heap.size w w' := by
  have hmk := make8
  have Hn := Lib.hid hn
  clear hn
  go_enter Tryz.func59, Tryz.ntmps59
  go_wp2
  go_loopw [0, 4] (fun x i wr => ∃ m : Nat, m ≤ 8 ∧ i = .int .i64 ((m : Int) - 1) ∧ x = .int .u64 ((n / 256 ^ (8 - m) : Nat) : Int) ∧ VAt wr w.heap.size n m ∧ Below w.heap.size w wr) (fun _ i _ => (intOf i + 1).toNat)
  case atStart => exact ⟨8, by omega, rfl, by simp, heap_alloc_new w _, Below.alloc (Below.refl _ _) (Nat.le_refl _) _⟩
  case round =>
    obtain ⟨m, hm, rfl, rfl, hv, hb⟩ := hrel
    rcases m with _ | j
    · have hcv := conv_at wr w.heap.size 8 _ hv.done
      rw [numBytes_length] at hcv
      have Hcv := Lib.hid hcv
      have e1 : ((0 : Nat) : Int) - 1 = -1 := by omega
      rw [e1]
      clear hcv e1
      have hcv := Hcv.out
      go_wp2
      go_ret
      rw [valBytes_eight]
      exact ⟨rfl, hb⟩
    · have hc := hv.cell
      have hf := hv.f j
      have e1 : ((j + 1 : Nat) : Int) - 1 = (j : Int) := by omega
      rw [e1]
      have hq : n / 256 ^ (8 - (j + 1)) ≤ n := Nat.div_le_self _ _
      have e2 : 8 - (j + 1) = 7 - j := by omega
      rw [e2] at hq ⊢
      have Hq := Lib.hid hq
      have Hv := Lib.hid hv
      generalize hy : n / 256 ^ (7 - j) = y at Hq ⊢
      have Hy := Lib.hid hy
      clear e1 e2 hv hq hy
      go_wp2
      go_round
      case rel =>
        have ey : IntKind.u64.wrap ((y : Int) / 256) = ((y / 256 : Nat) : Int) := by rw [u64_small _ (by omega) (by have := Hq.out; have := Hn.out; omega)]; omega
        have es : (y : Int) % 256 = ((n / 256 ^ (7 - j) % 256 : Nat) : Int) := by rw [Hy.out]; omega
        have ed : y / 256 = n / 256 ^ (8 - j) := by rw [show 8 - j = (7 - j) + 1 by omega, Nat.pow_succ, ← Nat.div_div_eq_div_mul, Hy.out]
        rw [ey, es]
        exact ⟨j, by omega, rfl, by rw [ed], Hv.out.set (by omega), Below.setCell hb (Nat.le_refl _) _⟩
      case measure => simp [intOf]

theorem refNumber_no (v : ByteArray) (w : World) (hv : v.size ≠ 8) : Calls Tryz.prog 138 #[.string v] w fun e w' => e = .returned (.tuple #[.int .u64 0, .bool false]) ∧ Below w.heap.size w w' := by
  have h8 : ((v.size : Int) != 8) = true := by simp; omega
  clear hv
  go_enter Tryz.func138, Tryz.ntmps138
  go_wp2
  go_ret2
  exact ⟨rfl, Below.refl _ _⟩
theorem beVal_append (a : List UInt8) : ∀ (n : Nat) (b : List UInt8), b.length = n → beVal (a ++ b) = beVal a * 256 ^ n + beVal b := by
  intro n
  induction n with
  | zero => intro b hb; have : b = [] := List.eq_nil_of_length_eq_zero hb; subst this; simp [beVal]
  | succ n ih =>
    intro b hb
    have hd : b = b.dropLast ++ [b.getLast (by intro e; subst e; simp at hb)] := (List.dropLast_concat_getLast _).symm
    rw [hd, ← List.append_assoc, beVal_snoc, ih b.dropLast (by simp [hb]), beVal_snoc]
    simp [Nat.pow_succ, Nat.add_mul, Nat.mul_assoc, Nat.add_assoc]
theorem numOf_eight (v : ByteArray) (hv : v.size = 8) : numOf v = beVal v.data.toList := by
  have e : v.data.toList = (v.extract 0 4).data.toList ++ (v.extract 4 v.size).data.toList := by
    have hs : v.data.toList.length = 8 := by simpa using hv
    simp only [ByteArray.data_extract, Array.toList_extract, List.extract_eq_take_drop]
    rw [hv]
    have h4 : List.take 4 (List.drop 4 v.data.toList) = List.drop 4 v.data.toList := List.take_of_length_le (by rw [List.length_drop, hs]; omega)
    simp [h4]
  rw [e, beVal_append _ 4 _ (by have := hv; simp at *; omega)]
  rfl
set_option maxRecDepth 100000 in
theorem refNumber_yes (v : ByteArray) (w : World) (hv : v.size = 8) : Calls Tryz.prog 138 #[.string v] w fun e w' => e = .returned (.tuple #[.int .u64 (numOf v : Int), .bool true]) ∧ Below w.heap.size w w' := by
  have h8 : ((v.size : Int) != 8) = false := by simp; omega
  have Hno := Lib.hid (numOf_eight v hv)
  generalize numOf v = N at Hno ⊢
  have htl : v.data.toList.length = 8 := by simpa using hv
  have Htl := Lib.hid htl
  clear htl
  go_enter Tryz.func138, Tryz.ntmps138
  go_wp2
  go_loop [4, 5] (fun x i => ∃ k : Nat, k ≤ 8 ∧ i = .int .i64 k ∧ x = .int .u64 (beVal (v.data.toList.take k))) (fun _ i => 8 - (intOf i).toNat)
  case atStart => exact ⟨0, by omega, rfl, rfl⟩
  case round =>
    obtain ⟨k, hk, rfl, rfl⟩ := hrel
    by_cases hlt : k < 8
    · have hkv : k < v.size := by omega
      obtain ⟨x, hx⟩ : ∃ x, v.data.toList[k]? = some x := ⟨v.data.toList[k]'(by rw [Htl.out]; exact hlt), List.getElem?_eq_getElem _⟩
      have hx8 := x.toNat_lt
      generalize hy : beVal (v.data.toList.take k) = y
      have Hv := Lib.hid hy
      have Hx := Lib.hid hx
      clear hy hx
      go_wp2
      go_round
      case rel => exact ⟨k + 1, by omega, by go_num, by
        have hl := beVal_lt (v.data.toList.take k)
        rw [Hv.out, List.length_take, Nat.min_eq_left (by rw [Htl.out]; omega)] at hl
        have hle : 256 ^ k ≤ 256 ^ 7 := Nat.pow_le_pow_right (by omega) (by omega)
        rw [byte_at hkv Hx.out, u64_small (x.toNat : Int) (by omega) (by omega), u64_small ((y : Int) * 256) (by omega) (by omega), u64_small _ (by omega) (by omega), List.take_add_one, Hx.out, Option.toList_some, beVal_snoc, Hv.out]
        go_num⟩
      case measure => simp [intOf]; omega
    · have hke : k = 8 := by omega
      subst hke
      go_wp2
      go_ret2
      rw [Hno.out, ← Htl.out, List.take_length]
      exact ⟨rfl, Below.refl _ _⟩
end Go.Proofs.YtdfgdnaejnngoaaGreat
namespace Go.Proofs.YtdfgdnaejnngoaaGreat
open Go.RowKit
/-! Numbers and their values; what a key's Adds come to. -/
theorem beVal_cons (x : UInt8) (l : List UInt8) : beVal (x :: l) = x.toNat * 256 ^ l.length + beVal l := by
  have := beVal_append [x] l.length l rfl
  simpa [beVal] using this
theorem beVal_num (n : Nat) : ∀ wd : Nat, beVal (numBytes wd n) = n % 256 ^ wd
  | 0 => by simp [numBytes_zero, beVal, Nat.mod_one]
  | wd + 1 => by
    have h := Nat.mod_mul (a := 256 ^ wd) (b := 256) (x := n)
    rw [numBytes_succ, beVal_cons, beVal_num n wd, numBytes_length, UInt8.toNat_ofNat']
    rw [show 256 ^ (wd + 1) = 256 ^ wd * 256 from Nat.pow_succ _ _, h, show (2 : Nat) ^ 8 = 256 from rfl, Nat.add_comm, Nat.mul_comm (256 ^ wd)]
theorem num_mod (n : Nat) : ∀ wd k : Nat, wd ≤ k → numBytes wd (n % 256 ^ k) = numBytes wd n
  | 0, _, _ => rfl
  | wd + 1, k, h => by
    rw [numBytes_succ, numBytes_succ, num_mod n wd k (by omega)]
    congr 1
    apply UInt8.toNat_inj.1
    rw [UInt8.toNat_ofNat', UInt8.toNat_ofNat']
    obtain ⟨d, rfl⟩ : ∃ d, k = wd + (d + 1) := ⟨k - wd - 1, by omega⟩
    rw [Nat.pow_add, Nat.mod_mul_right_div_self]
    rw [show (2 : Nat) ^ 8 = 256 from rfl, Nat.pow_succ, Nat.mul_comm (256 ^ d), Nat.mod_mul_right_mod]
theorem num_val : ∀ l : List UInt8, numBytes l.length (beVal l) = l
  | [] => rfl
  | x :: l => by
    have ih := num_val l
    have hb := beVal_lt l
    rw [List.length_cons, numBytes_succ, beVal_cons]
    have h1 : (x.toNat * 256 ^ l.length + beVal l) / 256 ^ l.length = x.toNat := by
      rw [Nat.mul_comm, Nat.mul_add_div (Nat.pow_pos (by decide)), Nat.div_eq_of_lt hb, Nat.add_zero]
    rw [h1, ← num_mod _ l.length l.length (Nat.le_refl _), Nat.mul_comm, Nat.mul_add_mod, num_mod _ _ _ (Nat.le_refl _), ih]
    congr 1
    exact UInt8.ofNat_toNat
theorem valB_size (n : Nat) : (valB n).size = 8 := by simp [valB, ByteArray.size, valBytes_length]
theorem num_valB (n : Nat) (hn : n < 18446744073709551616) : numOf (valB n) = n := by
  rw [numOf_eight _ (valB_size n)]
  show beVal (valBytes n).toArray.toList = n
  rw [valBytes_eight, beVal_num]
  exact Nat.mod_eq_of_lt hn
theorem valB_num {v : ByteArray} (h : v.size = 8) : valB (numOf v) = v := by
  apply ByteArray.ext
  show (valBytes (numOf v)).toArray = v.data
  rw [valBytes_eight, numOf_eight v h]
  have hl : v.data.toList.length = 8 := by simpa using h
  have := num_val v.data.toList
  rw [hl] at this
  rw [this]
theorem numOf_lt {v : ByteArray} (h : v.size = 8) : numOf v < 18446744073709551616 := by
  rw [numOf_eight v h]
  have hl : v.data.toList.length = 8 := by simpa using h
  have := beVal_lt v.data.toList
  rw [hl] at this
  exact this
theorem valB_inj {a b : Nat} (ha : a < 18446744073709551616) (hb : b < 18446744073709551616) (h : valB a = valB b) : a = b := by
  rw [← num_valB a ha, ← num_valB b hb, h]
end Go.Proofs.YtdfgdnaejnngoaaGreat
namespace Go.Proofs.YtdfgdnaejnngoaaGreat
open Go.RowKit
/-! What a pruned row comes to at one key. -/
def rangeN (os : List Ord) : Prop := ∀ o ∈ os, 0 ≤ o.n ∧ o.n < 18446744073709551616
def isA (k : ByteArray) (o : Ord) : Bool := decide (o.key = k) && decide (o.kind = 3)
def isP (k : ByteArray) (o : Ord) : Bool := decide (o.key = k) && decide (o.kind = 1)
def cntA (k : ByteArray) : List Ord → Nat
  | [] => 0
  | o :: os => if isA k o = true then cntA k os + 1 else cntA k os
def sumA (k : ByteArray) : List Ord → Nat
  | [] => 0
  | o :: os => if isA k o = true then o.n.toNat + sumA k os else sumA k os
def addF (s : Option ByteArray) (m S : Nat) : Option ByteArray := match s with
  | some v => if v.size = 8 then some (valB ((numOf v + S) % 18446744073709551616)) else some v
  | none => if m = 0 then none else some (valB (S % 18446744073709551616))
theorem addF_zero (s : Option ByteArray) : addF s 0 0 = s := by
  cases s with
  | none => rfl
  | some v =>
    unfold addF
    dsimp only
    split
    · next h => rw [Nat.add_zero, Nat.mod_eq_of_lt (numOf_lt h), valB_num h]
    · rfl
theorem add_msg {k : ByteArray} (hk : isKey k = true) (n : Nat) : isMsg ⟨3, k, valB n⟩ = true := by
  unfold isMsg
  rw [hk]
  simp [valB_size]
theorem apK_add {k : ByteArray} (hk : isKey k = true) {o : Ord} (h : isA k o = true) (h0 : o.n.toNat < 18446744073709551616) (s : Option ByteArray) (m S : Nat) : addF (apK k s o) m S = addF s (m + 1) (o.n.toNat + S) := by
  unfold isA at h
  simp only [Bool.and_eq_true, decide_eq_true_eq] at h
  obtain ⟨h1, h3⟩ := h
  have hm : msgO o = some ⟨3, k, valB o.n.toNat⟩ := by unfold msgO; simp [h3, h1]
  have hap : apK k s o = match s with | none => some (valB o.n.toNat) | some v => some (sumS v (valB o.n.toNat)) := by
    unfold apK
    rw [if_pos h1, hm]
    dsimp only
    unfold applyO
    rw [if_pos (add_msg hk _)]
    rfl
  rw [hap]
  generalize o.n.toNat = n at *
  cases s with
  | none =>
    dsimp only
    unfold addF
    dsimp only
    rw [if_pos (valB_size n), if_neg (by omega), num_valB n h0]
  | some v =>
    dsimp only
    unfold sumS
    by_cases h8 : v.size = 8
    · rw [if_pos ⟨h8, valB_size n⟩, num_valB n h0]
      unfold addF
      dsimp only
      rw [if_pos (valB_size _), if_pos h8, num_valB _ (Nat.mod_lt _ (by decide))]
      congr 2
      omega
    · rw [if_neg (fun h => h8 h.1)]
      unfold addF
      dsimp only
      rw [if_neg h8, if_neg h8]
theorem apK_other {k : ByteArray} {o : Ord} (h : o.key ≠ k) (s : Option ByteArray) : apK k s o = s := by unfold apK; rw [if_neg h]
/-- adds alone -/
theorem fold_adds {k : ByteArray} (hk : isKey k = true) : ∀ (os : List Ord) (s : Option ByteArray), rangeN os → (∀ o ∈ os, o.key = k → o.kind = 3) → os.foldl (apK k) s = addF s (cntA k os) (sumA k os)
  | [], s, _, _ => (addF_zero s).symm
  | o :: os, s, hn, h => by
    have ih := fold_adds hk os (apK k s o) (fun x hx => hn x (by simp [hx])) (fun x hx => h x (by simp [hx]))
    rw [List.foldl_cons, ih]
    by_cases e : o.key = k
    · have ha : isA k o = true := by unfold isA; simp [e, h o (by simp) e]
      have := hn o (by simp)
      rw [cntA, sumA, if_pos ha, if_pos ha, apK_add hk ha (by omega)]
    · have ha : isA k o = false := by unfold isA; simp [e]
      rw [cntA, sumA, ha, if_neg (by decide), if_neg (by decide), apK_other e]
theorem alive_all : ∀ {os : List Ord}, pruneL os = os → ∀ {j : Nat} {o : Ord}, os[j]? = some o → aliveB o (os.drop (j + 1)) = true
  | [], _, j, o, h => by simp at h
  | x :: os, hp, j, o, h => by
    rw [pruneL] at hp
    split at hp
    · next ha =>
      simp only [List.cons.injEq, true_and] at hp
      cases j with
      | zero =>
        simp at h
        subst h
        simpa using ha
      | succ j =>
        simp at h
        simpa using alive_all hp h
    · have := (prune_sub os).length_le
      rw [hp] at this
      simp at this
      omega
theorem alive_kind {o : Ord} {os : List Ord} (h : aliveB o os = true) : (o.kind = 1 ∨ o.kind = 3) ∧ ∀ x ∈ os, x.key = o.key → ¬ x.kind = 1 := by
  unfold aliveB at h
  rw [Bool.and_eq_true, Bool.not_eq_true', List.any_eq_false] at h
  refine ⟨by simpa using h.1, fun x hx e h1 => h.2 x hx ?_⟩
  unfold resetB
  simp [e, h1]
theorem prune_erase {os : List Ord} (h : pruneL os = os) (i : Nat) : pruneL (os.eraseIdx i) = os.eraseIdx i := by
  have hs := List.eraseIdx_sublist os i
  have key : ∀ us : List Ord, (∀ (j : Nat) (o : Ord), us[j]? = some o → aliveB o (us.drop (j + 1)) = true) → pruneL us = us := by
    intro us
    induction us with
    | nil => intro _; rfl
    | cons x us ih =>
      intro hh
      rw [pruneL, if_pos (by simpa using hh 0 x rfl), ih (fun j o ho => by simpa using hh (j + 1) o (by simpa using ho))]
  have tail : ∀ (us vs : List Ord), us.Sublist vs → (∀ (j : Nat) (o : Ord), vs[j]? = some o → aliveB o (vs.drop (j + 1)) = true) → ∀ (j : Nat) (o : Ord), us[j]? = some o → aliveB o (us.drop (j + 1)) = true := by
    intro us vs hsub
    induction hsub with
    | slnil => intro _ j o h; simp at h
    | cons a _ ih =>
      intro hh
      exact ih (fun j o ho => by simpa using hh (j + 1) o (by simpa using ho))
    | cons_cons a hs ih =>
      intro hh j o ho
      cases j with
      | zero =>
        simp at ho
        subst ho
        have := hh 0 a rfl
        simp at this ⊢
        exact alive_sub hs this
      | succ j =>
        simp at ho
        simpa using ih (fun j o ho => by simpa using hh (j + 1) o (by simpa using ho)) j o ho
  exact key _ (tail _ _ hs (fun j o ho => alive_all h ho))
theorem fold_none {k : ByteArray} : ∀ (os : List Ord) (s : Option ByteArray), (∀ o ∈ os, o.key ≠ k) → os.foldl (apK k) s = s
  | [], _, _ => rfl
  | o :: os, s, h => by rw [List.foldl_cons, apK_other (h o (by simp)), fold_none os s (fun x hx => h x (by simp [hx]))]
def baseP (k : ByteArray) (os : List Ord) : Option ByteArray := match os.find? (isP k) with
  | some p => if isVal p.val = true then some p.val else none
  | none => none
theorem cnt_none {k : ByteArray} : ∀ (os : List Ord), (∀ o ∈ os, o.key ≠ k) → cntA k os = 0 ∧ sumA k os = 0
  | [], _ => ⟨rfl, rfl⟩
  | o :: os, h => by
    have ih := cnt_none os (fun x hx => h x (by simp [hx]))
    have ha : isA k o = false := by unfold isA; simp [h o (by simp)]
    rw [cntA, sumA, ha, if_neg (by decide), if_neg (by decide)]
    exact ih
theorem F_pruned {k : ByteArray} (hk : isKey k = true) : ∀ (os : List Ord), pruneL os = os → rangeN os → os.foldl (apK k) none = addF (baseP k os) (cntA k os) (sumA k os)
  | [], _, _ => rfl
  | o :: os, hp, hn => by
    have ha := alive_all hp (j := 0) (o := o) rfl
    simp only [Nat.zero_add, List.drop_succ_cons, List.drop_zero] at ha
    obtain ⟨hk1, hlater⟩ := alive_kind ha
    have hp' : pruneL os = os := by
      have := prune_erase hp 0
      simpa using this
    have hn' : rangeN os := fun x hx => hn x (by simp [hx])
    by_cases e : o.key = k
    · -- what stands behind are adds
      have hadds : ∀ x ∈ os, x.key = k → x.kind = 3 := fun x hx hxk => by
        obtain ⟨j, hj⟩ := List.getElem?_of_mem hx
        have h2 := (alive_kind (alive_all hp' hj)).1
        rcases h2 with h2 | h2
        · exact absurd h2 (hlater x hx (by rw [hxk, e]))
        · exact h2
      have hnoP : os.find? (isP k) = none := by
        rw [List.find?_eq_none]
        intro x hx hxp
        unfold isP at hxp
        simp only [Bool.and_eq_true, decide_eq_true_eq] at hxp
        have := hadds x hx hxp.1
        omega
      rw [List.foldl_cons, fold_adds hk os _ hn' hadds]
      rcases hk1 with h1 | h3
      · have hA : isA k o = false := by unfold isA; simp [h1]
        have hP : isP k o = true := by unfold isP; simp [h1, e]
        rw [cntA, sumA, hA, if_neg (by decide), if_neg (by decide)]
        unfold baseP
        rw [List.find?_cons_of_pos hP]
        dsimp only
        congr 1
        have hm : msgO o = some ⟨1, k, o.val⟩ := by unfold msgO; simp [h1, e]
        unfold apK
        rw [if_pos e, hm]
        dsimp only
        by_cases hv : isVal o.val = true
        · have hg : isMsg ⟨1, k, o.val⟩ = true := by unfold isMsg; simp [hk, hv]
          rw [applyO_put hg rfl, if_pos hv]
        · have hg : ¬ isMsg ⟨1, k, o.val⟩ = true := by unfold isMsg; simp [hv]
          rw [applyO_not hg, if_neg hv]
      · have hA : isA k o = true := by unfold isA; simp [h3, e]
        have hP : ¬ isP k o = true := by unfold isP; simp [h3]
        have := hn o (by simp)
        rw [apK_add hk hA (by omega), cntA, sumA, if_pos hA, if_pos hA]
        unfold baseP
        rw [List.find?_cons_of_neg hP, hnoP]
    · have ih := F_pruned hk os hp' hn'
      have hA : isA k o = false := by unfold isA; simp [e]
      have hP : ¬ isP k o = true := by unfold isP; simp [e]
      rw [List.foldl_cons, apK_other e, ih, cntA, sumA, hA, if_neg (by decide), if_neg (by decide)]
      unfold baseP
      rw [List.find?_cons_of_neg hP]
end Go.Proofs.YtdfgdnaejnngoaaGreat
namespace Go.Proofs.YtdfgdnaejnngoaaGreat
open Go.RowKit
/-! A pruned row without one. -/
theorem cnt_erase {k : ByteArray} : ∀ {os : List Ord} {i : Nat} {o : Ord}, os[i]? = some o → cntA k os = cntA k (os.eraseIdx i) + (if isA k o = true then 1 else 0) ∧ sumA k os = sumA k (os.eraseIdx i) + (if isA k o = true then o.n.toNat else 0)
  | [], _, _, h => by simp at h
  | x :: os, 0, o, h => by
    simp at h
    subst h
    rw [List.eraseIdx_cons_zero, cntA, sumA]
    split <;> constructor <;> omega
  | x :: os, i + 1, o, h => by
    have ih := cnt_erase (k := k) (os := os) (i := i) (o := o) (by simpa using h)
    rw [List.eraseIdx_cons_succ, cntA, sumA, cntA, sumA]
    split <;> constructor <;> omega
theorem find_erase {k : ByteArray} : ∀ {os : List Ord} {i : Nat} {o : Ord}, os[i]? = some o → ¬ isP k o = true → (os.eraseIdx i).find? (isP k) = os.find? (isP k)
  | [], _, _, h, _ => by simp at h
  | x :: os, 0, o, h, hn => by
    simp at h
    subst h
    rw [List.eraseIdx_cons_zero, List.find?_cons_of_neg hn]
  | x :: os, i + 1, o, h, hn => by
    have ih := find_erase (k := k) (os := os) (i := i) (o := o) (by simpa using h) hn
    rw [List.eraseIdx_cons_succ, List.find?_cons, List.find?_cons, ih]
theorem fold_erase {k : ByteArray} : ∀ {os : List Ord} {i : Nat} {o : Ord}, os[i]? = some o → (∀ s, apK k s o = s) → ∀ s, (os.eraseIdx i).foldl (apK k) s = os.foldl (apK k) s
  | [], _, _, h, _, _ => by simp at h
  | x :: os, 0, o, h, hn, s => by
    simp at h
    subst h
    rw [List.eraseIdx_cons_zero, List.foldl_cons, hn]
  | x :: os, i + 1, o, h, hn, s => by
    rw [List.eraseIdx_cons_succ, List.foldl_cons, List.foldl_cons, fold_erase (os := os) (i := i) (o := o) (by simpa using h) hn]
/-- there is one Put of a key, at most -/
theorem put_one {k : ByteArray} : ∀ {os : List Ord} {i j : Nat} {o p : Ord}, pruneL os = os → os[i]? = some o → os[j]? = some p → isP k o = true → isP k p = true → i = j
  | os, i, j, o, p, hp, ho, hq, h1, h2 => by
    have a1 := (alive_kind (alive_all hp ho)).2
    have a2 := (alive_kind (alive_all hp hq)).2
    unfold isP at h1 h2
    simp only [Bool.and_eq_true, decide_eq_true_eq] at h1 h2
    rcases Nat.lt_trichotomy i j with hij | hij | hij
    · exact absurd h2.2 (a1 p (List.mem_of_getElem? (i := j - (i + 1)) (by rw [List.getElem?_drop, show i + 1 + (j - (i + 1)) = j by omega]; exact hq)) (by rw [h1.1, h2.1]))
    · exact hij
    · exact absurd h1.2 (a2 o (List.mem_of_getElem? (i := i - (j + 1)) (by rw [List.getElem?_drop, show j + 1 + (i - (j + 1)) = i by omega]; exact ho)) (by rw [h1.1, h2.1]))
theorem find_gone {k : ByteArray} {os : List Ord} {i : Nat} {o : Ord} (hp : pruneL os = os) (ho : os[i]? = some o) (h : isP k o = true) : (os.eraseIdx i).find? (isP k) = none := by
  rw [List.find?_eq_none]
  intro x hx hxp
  obtain ⟨j, hj⟩ := List.getElem?_of_mem hx
  rw [List.getElem?_eraseIdx] at hj
  split at hj
  · have := put_one hp ho hj h hxp
    omega
  · have := put_one hp ho hj h hxp
    omega
theorem find_here {k : ByteArray} {os : List Ord} {i : Nat} {o : Ord} (hp : pruneL os = os) (ho : os[i]? = some o) (h : isP k o = true) : os.find? (isP k) = some o := by
  cases hf : os.find? (isP k) with
  | none =>
    rw [List.find?_eq_none] at hf
    exact absurd h (hf o (List.mem_of_getElem? ho))
  | some p =>
    have hpp := List.find?_some hf
    obtain ⟨j, hj⟩ := List.getElem?_of_mem (List.mem_of_find?_eq_some hf)
    have := put_one hp ho hj h hpp
    subst this
    rw [ho] at hj
    cases hj
    rfl
theorem same_iff {P : List Ord} {i : Nat} {o : Ord} (ho : P[i]? = some o) : itemsO P = itemsO (P.eraseIdx i) ↔ P.foldl (apK o.key) none = (P.eraseIdx i).foldl (apK o.key) none := by
  constructor
  · intro h
    rw [← items_get, ← items_get, h]
  · intro h
    refine items_ext (fun k => ?_)
    by_cases e : o.key = k
    · subst e; exact h
    · exact (fold_erase ho (fun s => apK_other e s) none).symm
theorem least_none {P : List Ord} {i : Nat} {o : Ord} (ho : P[i]? = some o) (h : isKey o.key = false ∨ o.kind = 1 ∧ isVal o.val = false) : itemsO P = itemsO (P.eraseIdx i) := by
  rw [same_iff ho]
  refine (fold_erase ho (fun s => ?_) none).symm
  unfold apK
  rw [if_pos rfl]
  cases hm : msgO o with
  | none => rfl
  | some m =>
    refine applyO_not ?_ s
    have hmk := msgO_key hm
    rcases h with h | ⟨h1, h2⟩
    · unfold isMsg
      rw [hmk, h]
      simp
    · have : m = ⟨1, o.key, o.val⟩ := by unfold msgO at hm; simp [h1] at hm; exact hm.symm
      subst this
      unfold isMsg
      simp [h2]
theorem valB_mod {a b : Nat} : some (valB (a % 18446744073709551616)) = some (valB (b % 18446744073709551616)) ↔ a % 18446744073709551616 = b % 18446744073709551616 := by
  constructor
  · intro h
    simp only [Option.some.injEq] at h
    exact valB_inj (Nat.mod_lt _ (by decide)) (Nat.mod_lt _ (by decide)) h
  · intro h; rw [h]
theorem least_add {P : List Ord} {i : Nat} {o : Ord} (hp : pruneL P = P) (hn : rangeN P) (ho : P[i]? = some o) (hk : isKey o.key = true) (h3 : o.kind = 3) :
    itemsO P = itemsO (P.eraseIdx i) ↔ (∃ v, baseP o.key P = some v ∧ v.size ≠ 8) ∨ (baseP o.key P ≠ none ∨ 0 < cntA o.key (P.eraseIdx i)) ∧ o.n = 0 := by
  have hA : isA o.key o = true := by unfold isA; simp [h3]
  have hP : ¬ isP o.key o = true := by unfold isP; simp [h3]
  obtain ⟨c1, c2⟩ := cnt_erase (k := o.key) ho
  rw [if_pos hA] at c1 c2
  have hb : baseP o.key (P.eraseIdx i) = baseP o.key P := by unfold baseP; rw [find_erase ho hP]
  have hr := hn o (List.mem_of_getElem? ho)
  have hn2 : rangeN (P.eraseIdx i) := fun x hx => hn x ((List.eraseIdx_sublist P i).subset hx)
  rw [same_iff ho, F_pruned hk P hp hn, F_pruned hk _ (prune_erase hp i) hn2, hb, c1, c2]
  generalize baseP o.key P = b
  generalize cntA o.key (P.eraseIdx i) = m
  generalize sumA o.key (P.eraseIdx i) = S
  have hz : o.n = 0 ↔ o.n.toNat = 0 := by omega
  have hlt : o.n.toNat < 18446744073709551616 := by omega
  rw [hz]
  generalize o.n.toNat = n at *
  cases b with
  | none =>
    unfold addF
    dsimp only
    rw [if_neg (by omega)]
    by_cases hm : m = 0
    · rw [if_pos hm]
      subst hm
      simp
    · rw [if_neg hm, valB_mod]
      have : 0 < m := by omega
      simp [this]
      omega
  | some v =>
    unfold addF
    dsimp only
    by_cases h8 : v.size = 8
    · rw [if_pos h8, if_pos h8, valB_mod]
      simp [h8]
      omega
    · rw [if_neg h8, if_neg h8]
      simp [h8]
theorem sum_zero {k : ByteArray} : ∀ (os : List Ord), cntA k os = 0 → sumA k os = 0
  | [], _ => rfl
  | o :: os, h => by
    rw [cntA] at h
    rw [sumA]
    split at h
    · omega
    · next hh => rw [if_neg hh]; exact sum_zero os h
theorem least_put {P : List Ord} {i : Nat} {o : Ord} (hp : pruneL P = P) (hn : rangeN P) (ho : P[i]? = some o) (hk : isKey o.key = true) (h1 : o.kind = 1) (hv : isVal o.val = true) :
    (0 < cntA o.key (P.eraseIdx i) → (itemsO P = itemsO (P.eraseIdx i) ↔ o.val = valB 0)) ∧ (cntA o.key (P.eraseIdx i) = 0 → (itemsO (P.eraseIdx i)).length + 1 = (itemsO P).length) := by
  have hA : ¬ isA o.key o = true := by unfold isA; simp [h1]
  have hP : isP o.key o = true := by unfold isP; simp [h1]
  obtain ⟨c1, c2⟩ := cnt_erase (k := o.key) ho
  rw [if_neg hA, Nat.add_zero] at c1 c2
  have hb : baseP o.key (P.eraseIdx i) = none := by unfold baseP; rw [find_gone hp ho hP]
  have hb2 : baseP o.key P = some o.val := by unfold baseP; rw [find_here hp ho hP]; dsimp only; rw [if_pos hv]
  have hn2 : rangeN (P.eraseIdx i) := fun x hx => hn x ((List.eraseIdx_sublist P i).subset hx)
  have e1 := F_pruned hk P hp hn
  have e2 := F_pruned hk _ (prune_erase hp i) hn2
  rw [hb2, c1, c2] at e1
  rw [hb] at e2
  have hs0 := sum_zero (k := o.key) (P.eraseIdx i)
  have hi := same_iff ho
  rw [e1, e2] at hi
  constructor
  · intro hm
    rw [hi]
    generalize cntA o.key (P.eraseIdx i) = m at *
    generalize sumA o.key (P.eraseIdx i) = S at *
    unfold addF
    dsimp only
    rw [if_neg (show ¬ m = 0 by omega)]
    by_cases h8 : o.val.size = 8
    · rw [if_pos h8, valB_mod]
      have hlt := numOf_lt h8
      constructor
      · intro h
        have : numOf o.val = 0 := by omega
        rw [← valB_num h8, this]
      · intro h
        have : numOf o.val = 0 := by rw [h]; exact num_valB 0 (by decide)
        rw [this, Nat.zero_add]
    · rw [if_neg h8]
      constructor
      · intro h
        simp only [Option.some.injEq] at h
        rw [h] at h8
        exact absurd (valB_size _) h8
      · intro h
        rw [h] at h8
        exact absurd (valB_size _) h8
  · intro hm
    have hS := hs0 hm
    rw [hm, hS] at e1 e2
    rw [addF_zero] at e1 e2
    have hd : itemsO (P.eraseIdx i) = delR o.key (itemsO P) := by
      refine rises_ext (rises_items _) (rises_filter _ (rises_items _)) (fun k => ?_)
      rw [get_del, items_get, items_get]
      by_cases e : k = o.key
      · subst e; rw [if_pos rfl, e2]
      · rw [if_neg e]
        exact fold_erase ho (fun s => apK_other (fun h => e h.symm) s) none
    have hl := len_del o.key (rises_items P)
    rw [← hd, items_get, e1] at hl
    simpa using hl
end Go.Proofs.YtdfgdnaejnngoaaGreat
namespace Go.Proofs.YtdfgdnaejnngoaaGreat
open Go.RowKit
/-! grangerlaw33.PruneLeast. -/
/-- orders of one's own, and others behind them -/
theorem ordO_append {o : Oper} {a : Act} {w : World} {K : Act → World → Prop} {Q : Exit → Act → World → Prop} (N : Option Tmp) (hN : o.dst = N) (s x : Operand) (ho : o.op = .call { callee := .builtin .append, args := #[s, x], argTypes := #[47, 47] })
    (B : Nat) (v : Value) (l m : List Ord) (n : Nat) (ad : Addr) (c : Nat) (hn : m.length = n) (hs : a.eval s = v) (hx : a.eval x = .slice (some ad) n c) (hown : OwnsO w B v l) (hel : ∀ j u, ((m.map Ord.cells).flatten)[j]? = some u → w.cell? (ad.add j) = some u) (hl : l.length + m.length ≤ 100000) (hB : B ≤ w.heap.size) (n2 : Nat) (hn2 : (l ++ m).length = n2)
    (h : ∀ A' c' w', OwnsO w' B (.slice A' n2 c') (l ++ m) → Fr (fun k => v.ownBlock = some k) w w' → K (a.put N (.slice A' n2 c')) w') : Oper.wp Tryz.prog o a w K Q := by
  subst hn hN hn2
  obtain ⟨i0, hi0, hz0, hz1, hz2⟩ := info_parts ordInfo
  refine wp_append_own w s x 47 ho B 39 i0 _ 6 80 Tryz.underlying47 hi0 hz0 hz1 hz2 rfl (by decide) v l.length _ hs hown ad m.length c ((m.map Ord.cells).flatten) hx (flatten_length ordLen m) hel ?_ ?_ ?_ hB ?_
  · intro u hu
    obtain ⟨r, hr, hu⟩ := List.mem_flatten.1 hu
    obtain ⟨e, _, rfl⟩ := List.mem_map.1 hr
    exact ordOne e u hu
  · unfold maxLen; omega
  · omega
  · intro v' w' h1 h2 _
    have ho : OwnsO w' B v' (l ++ m) := by
      unfold OwnsO OwnsG
      rw [List.map_append, List.flatten_append, List.length_append]
      exact h1
    obtain ⟨A', c', rfl⟩ := ho.slice
    exact h A' c' w' ho ((Fr.refl _ w).grown h2 (fun i hi e => e))
theorem oper_emptyO {o : Oper} {a : Act} {w : World} {K : Act → World → Prop} {Q : Exit → Act → World → Prop} (N : Option Tmp) (hN : o.dst = N) (ho : o.op = .buildSlice 47 0 #[])
    (h : ∀ g w', OwnsO w' w.heap.size (.slice (some ⟨g, 0, none⟩) 0 0) [] → Below w.heap.size w w' → K (a.put N (.slice (some ⟨g, 0, none⟩) 0 0)) w') : Oper.wp Tryz.prog o a w K Q := by
  have hr : (Instr.buildSlice 47 0 #[]).run Tryz.prog w = .ok (.slice (some ⟨w.heap.size, 0, none⟩) 0 0) (w.alloc (.cells #[] 39)) := by kernel_rfl
  refine oper_runTo N hN (.slice (some ⟨w.heap.size, 0, none⟩) 0 0) (w.alloc (.cells #[] 39)) ?_ (h _ _ (OwnsG.empty (heap_alloc_new w _) (Nat.le_refl _)) (below_alloc (Below.refl _ w)))
  unfold execOp
  simp only [ho, List.map_toArray, List.map_nil, Sem.run_bind, hr, Result.andThen_ok, Sem.run_pure]
theorem Elems.drop {w : World} {b off k : Nat} {rows : List (List Value)} (h : Elems w (some ⟨b, off, none⟩) k rows) (m : Nat) : Elems w (some ⟨b, off + m * k, none⟩) k (rows.drop m) := by
  intro i r hr
  rw [List.getElem?_drop] at hr
  obtain ⟨b', off', e, hlt, hc⟩ := h (m + i) r hr
  cases e
  refine ⟨b, off + m * k, rfl, hlt, fun j u hu => ?_⟩
  have := hc j u hu
  rw [Nat.add_mul, ← Nat.add_assoc] at this
  exact this
theorem Elems.take {w : World} {A : Option Addr} {k : Nat} {rows : List (List Value)} (h : Elems w A k rows) (m : Nat) : Elems w A k (rows.take m) := by
  intro i r hr
  rw [List.getElem?_take] at hr
  split at hr
  · exact h i r hr
  · cases hr
/-- the parts of a row of orders -/
theorem ordrow_parts {w : World} {ad : Addr} {l : List Ord} {kk cap : Nat} (hcap : l.length ≤ cap) (h : Elems w (some ad) 6 (l.map Ord.cells)) :
    (∀ j u, (((l.take kk).map Ord.cells).flatten)[j]? = some u → w.cell? (ad.add j) = some u) ∧ (∀ j u, (((l.drop kk).map Ord.cells).flatten)[j]? = some u → w.cell? ((if cap = kk then ad else ad.add (kk * 6)).add j) = some u) := by
  have h6 : ∀ (m : List Ord), ∀ r ∈ m.map Ord.cells, r.length = 6 := fun m r hr => by obtain ⟨e, _, rfl⟩ := List.mem_map.1 hr; rfl
  cases l with
  | nil => exact ⟨fun j u hj => by simp at hj, fun j u hj => by simp at hj⟩
  | cons e l =>
    obtain ⟨b, off, e1, _⟩ := h 0 e.cells rfl
    cases e1
    refine ⟨fun j u hj => ?_, fun j u hj => ?_⟩
    · rw [Addr.add_mid]
      have ht := h.take kk
      rw [← List.map_take] at ht
      exact ht.flat (by decide) (h6 _) j u hj
    · by_cases hc : cap = kk
      · have : (e :: l).drop kk = [] := List.drop_eq_nil_of_le (by omega)
        rw [this] at hj
        simp at hj
      · have hd := h.drop kk
        rw [← List.map_drop] at hd
        rw [if_neg hc, Addr.add_mid, Addr.add_mid]
        exact hd.flat (by decide) (h6 _) j u hj
theorem zero8 (W : World) (b c : Nat) (h : W.heap[b]? = some (.cells #[.int .u8 0, .int .u8 0, .int .u8 0, .int .u8 0, .int .u8 0, .int .u8 0, .int .u8 0, .int .u8 0] 5 (0, 0))) : (convert 30 9 (.slice (some ⟨b, 0, none⟩) 8 c)).run Tryz.prog W = .ok (.string (valB 0)) W := by
  have e : (valB 0) = ⟨([0, 0, 0, 0, 0, 0, 0, 0] : List UInt8).toArray⟩ := by kernel_rfl
  rw [e]
  exact conv_at W b c [0, 0, 0, 0, 0, 0, 0, 0] (fun j x hj => by
    rw [Lib.cell_of_heap h]
    rcases j with _ | _ | _ | _ | _ | _ | _ | _ | j <;> simp at hj <;> subst hj <;> rfl)
end Go.Proofs.YtdfgdnaejnngoaaGreat
namespace Go.Proofs.YtdfgdnaejnngoaaGreat
open Go.RowKit
/-! What the scan of a pruned row counts. -/
theorem eqBR {a b : ByteArray} : (a.toList == b.toList) = decide (a = b) := by
  rw [Bool.eq_iff_iff]
  simp [bytes_inj]
def PH (k : ByteArray) (os : List Ord) (put : ByteArray) (has : Bool) : Prop := (∃ p, p ∈ os ∧ isP k p = true ∧ put = p.val ∧ has = isVal p.val) ∨ ((∀ p ∈ os, isP k p = false) ∧ put = ⟨#[]⟩ ∧ has = false)
theorem PH.nil (k : ByteArray) : PH k [] ⟨#[]⟩ false := .inr ⟨by simp, rfl, rfl⟩
theorem PH.put {k : ByteArray} {os : List Ord} (y : Ord) (h : isP k y = true) : PH k (os ++ [y]) y.val (isVal y.val) := .inl ⟨y, by simp, h, rfl, rfl⟩
theorem PH.other {k : ByteArray} {os : List Ord} {put : ByteArray} {has : Bool} (hp : PH k os put has) (y : Ord) (h : isP k y = false) : PH k (os ++ [y]) put has := by
  rcases hp with ⟨p, h1, h2⟩ | ⟨h1, h2⟩
  · exact .inl ⟨p, by simp [h1], h2⟩
  · refine .inr ⟨fun p hp => ?_, h2⟩
    rcases List.mem_append.1 hp with hp | hp
    · exact h1 p hp
    · simp at hp; subst hp; exact h
theorem PH.base {k : ByteArray} {P : List Ord} {put : ByteArray} {has : Bool} (hpp : pruneL P = P) (hp : PH k P put has) : baseP k P = if has = true then some put else none := by
  rcases hp with ⟨p, h1, h2, rfl, rfl⟩ | ⟨h1, rfl, rfl⟩
  · obtain ⟨j, hj⟩ := List.getElem?_of_mem h1
    unfold baseP
    rw [find_here hpp hj h2]
  · have : P.find? (isP k) = none := by
      rw [List.find?_eq_none]
      intro x hx
      rw [h1 x hx]
      decide
    unfold baseP
    rw [this]
    rfl
theorem PH.here {k : ByteArray} {P : List Ord} {i : Nat} {o : Ord} {put : ByteArray} {has : Bool} (hpp : pruneL P = P) (ho : P[i]? = some o) (h : isP k o = true) (hp : PH k P put has) : put = o.val := by
  rcases hp with ⟨p, h1, h2, rfl, _⟩ | ⟨h1, _⟩
  · obtain ⟨j, hj⟩ := List.getElem?_of_mem h1
    have := put_one hpp hj ho h2 h
    subst this
    rw [ho] at hj
    cases hj
    rfl
  · have := h1 o (List.mem_of_getElem? ho)
    rw [h] at this
    cases this
theorem cnt_snoc (k : ByteArray) (y : Ord) : ∀ os : List Ord, cntA k (os ++ [y]) = cntA k os + (if isA k y = true then 1 else 0)
  | [] => by simp [cntA]
  | o :: os => by
    rw [List.cons_append, cntA, cntA, cnt_snoc k y os]
    split <;> omega
theorem cnt_step {k : ByteArray} {P : List Ord} {j i : Nat} {y : Ord} (h : P[j]? = some y) : cntA k ((P.take (j + 1)).eraseIdx i) = cntA k ((P.take j).eraseIdx i) + (if j ≠ i ∧ isA k y = true then 1 else 0) := by
  have hs : P.take (j + 1) = P.take j ++ [y] := by rw [List.take_add_one, h]; rfl
  have hjl := (List.getElem?_eq_some_iff.1 h).1
  have hl : (P.take j).length = j := by rw [List.length_take]; omega
  rcases Nat.lt_trichotomy i j with hij | hij | hij
  · rw [hs, List.eraseIdx_append_of_lt_length (by omega), cnt_snoc]
    have : j ≠ i := by omega
    simp [this]
  · subst hij
    rw [hs, List.eraseIdx_append_of_length_le (by omega), hl, Nat.sub_self, List.eraseIdx_of_length_le (show (P.take i).length ≤ i by omega)]
    simp
  · rw [List.eraseIdx_of_length_le (show (P.take (j + 1)).length ≤ i by rw [hs, List.length_append, hl]; simp; omega), List.eraseIdx_of_length_le (show (P.take j).length ≤ i by omega), hs, cnt_snoc]
    have : j ≠ i := by omega
    simp [this]
theorem cnt_le (k : ByteArray) : ∀ os : List Ord, cntA k os ≤ os.length
  | [] => Nat.le_refl _
  | o :: os => by
    have := cnt_le k os
    rw [cntA, List.length_cons]
    split <;> omega
end Go.Proofs.YtdfgdnaejnngoaaGreat
