import Derived.Test.YtdfgdnaejnngoaaTw
import Derived.ChangeKeysEq
namespace Go.Proofs.Ytdfgdnaejnngoaa
open Go.RowKit
/-! The document's See; long, form; two tallies that are the same. -/
theorem int_plain : Try.prog.plainKey 3 = true := by kernel_rfl
theorem int_cells : Try.prog.cellsOf 3 = 1 := by kernel_rfl
theorem eqItems_refl (d : Nat) (xs : Array Value) (w : World) : ∀ is : List Nat, (∀ i ∈ is, ∃ x, xs[i]? = some (.int .i64 x)) → (Op.eqItems (d + 1) 3 (Try.prog.cellsOf 3) xs xs is).run Try.prog w = .ok true w
  | [], _ => by simp [Op.eqItems]
  | i :: is, h => by
    obtain ⟨x, hx⟩ := h i (by simp)
    have ih := eqItems_refl d xs w is (fun j hj => h j (by simp [hj]))
    have e : i * Try.prog.cellsOf 3 = i := by rw [int_cells, Nat.mul_one]
    have p1 := run_part_plain (P := Try.prog) w (e := 3) (off := i) (xs := xs) int_plain hx
    have p3 := run_equalIn_int (P := Try.prog) w d 3 .i64 .i64 x x Try.underlying3
    simp only [Op.eqItems, e, Sem.run_bind, p1, p3, Result.andThen_ok, beq_self_eq_true, Bool.not_true, Bool.false_eq_true, if_false]
    exact ih
theorem nv_extract (v : Nat → Int) (n o k i : Nat) (h : o + k ≤ n) (hi : i < k) : ((nv n v).extract o (o + k))[i]? = some (.int .i64 (v (o + i))) := by
  rw [Array.getElem?_extract, nv_size, if_pos (by omega)]
  exact nv_get n v (o + i) (by omega)
theorem eql_arr (v : Nat → Int) (w : World) (T : TypeId) (o k d : Nat) (hu : Try.prog.underlying T = some (.array k 3)) (h : o + k ≤ 25) : (Op.equalIn (d + 2) T (.agg ((nv 25 v).extract o (o + k))) (.agg ((nv 25 v).extract o (o + k)))).run Try.prog w = .ok true w := by
  obtain ⟨i0, hi0, _⟩ := info_parts I_info
  rw [run_equalIn_array w (d + 1) _ _ hu hi0]
  refine eqItems_refl d _ w _ (fun i hi => ?_)
  rw [List.mem_range] at hi
  exact ⟨_, nv_extract v 25 o k i h hi⟩
set_option maxRecDepth 100000 in
theorem eql_tally (v : Nat → Int) (w : World) : (binOp .eql 71 (.agg (nv 25 v)) (.agg (nv 25 v))).run Try.prog w = .ok (.bool true) w := by
  have hS : Try.prog.underlying 71 = some (.struct (Try.prog.fieldsOf 71)) := by kernel_rfl
  have hp : Try.prog.stoodInHeld 71 = false := by kernel_rfl
  rw [run_eql_struct, show (10000 : Nat) = 9999 + 1 from rfl, run_equalIn_agg w 9999 71 _ _ hS hp]
  simp only [Program.fieldsOf, Try.underlying71]
  have a0 := eql_arr v w 53 0 9 9997 Try.underlying53 (by omega)
  have a1 := eql_arr v w 54 9 12 9997 Try.underlying54 (by omega)
  have p0 : (part 53 (nv 25 v) 0).run Try.prog w = .ok (.agg ((nv 25 v).extract 0 (0 + 9))) w := by kernel_rfl
  have p1 : (part 54 (nv 25 v) 9).run Try.prog w = .ok (.agg ((nv 25 v).extract 9 (9 + 12))) w := by kernel_rfl
  have q21 := run_part_plain (P := Try.prog) w (e := 3) (off := 21) (xs := nv 25 v) int_plain (nv_get 25 v 21 (by omega))
  have r21 := run_equalIn_int (P := Try.prog) w 9998 3 .i64 .i64 (v 21) (v 21) Try.underlying3
  have q22 := run_part_plain (P := Try.prog) w (e := 3) (off := 22) (xs := nv 25 v) int_plain (nv_get 25 v 22 (by omega))
  have r22 := run_equalIn_int (P := Try.prog) w 9998 3 .i64 .i64 (v 22) (v 22) Try.underlying3
  have q23 := run_part_plain (P := Try.prog) w (e := 3) (off := 23) (xs := nv 25 v) int_plain (nv_get 25 v 23 (by omega))
  have r23 := run_equalIn_int (P := Try.prog) w 9998 3 .i64 .i64 (v 23) (v 23) Try.underlying3
  have q24 := run_part_plain (P := Try.prog) w (e := 3) (off := 24) (xs := nv 25 v) int_plain (nv_get 25 v 24 (by omega))
  have r24 := run_equalIn_int (P := Try.prog) w 9998 3 .i64 .i64 (v 24) (v 24) Try.underlying3
  simp [Op.eqFields, p0, p1, a0, a1, q21, q22, q23, q24, r21, r22, r23, r24]
theorem form_any (o : Ord) (w : World) : Calls Try.prog 23 #[o.v] w fun e w' => e = .returned o.v ∧ Below w.heap.size w w' := by
  obtain ⟨k, key, val, n, lo, hi⟩ := o
  rw [Ord.v_def]
  dsimp only
  go_enter Try.func23, Try.ntmps23
  go_wp2
  (try simp only [Exit.inBlock, Exit.then])
  refine bodyPost_ret (v := .agg #[.int .i64 k, .string key, .string val, .int .u64 n, .string lo, .string hi]) (by simp [results, Try.results23, go_sem]) rfl ⟨rfl, (by repeat (first | assumption | exact Below.refl _ _ | (refine below_step (w := ?_) ?_ ?_ ?_; rotate_left 2; assumption) | refine Below.drew ?_ | refine below_drewN ?_ _ | refine Below.alloc ?_ ?_ _ | refine Below.setCell ?_ ?_ _ | (focus (simp; done)) | (focus (simp; omega)) | omega))⟩
def isLongE (e : Ev) : Bool := decide (512 < (e.o.key.size : Int)) || decide (512 < (e.o.val.size : Int)) || decide (512 < (e.o.lo.size : Int)) || decide (512 < (e.o.hi.size : Int)) || decide (512 < (e.il : Int))
theorem isLongE_good {e : Ev} (h : isLongE e = false) : e.good := by
  simp [isLongE] at h
  unfold Ev.good
  omega
set_option maxHeartbeats 1000000 in
set_option maxRecDepth 100000 in
theorem long_any (e : Ev) (w : World) : Calls Try.prog 21 #[e.v] w fun e' w' => e' = .returned (.bool (isLongE e)) ∧ Below w.heap.size w w' := by
  have hr : isLongE e = (decide (512 < (e.o.key.size : Int)) || decide (512 < (e.o.val.size : Int)) || decide (512 < (e.o.lo.size : Int)) || decide (512 < (e.o.hi.size : Int)) || decide (512 < (e.il : Int))) := rfl
  generalize isLongE e = R at hr ⊢
  have HR := Lib.hid hr
  clear hr
  obtain ⟨kind, ⟨ok, okey, oval, on, olo, ohi⟩, n, kA, kl, kc, err, has, val, iA, il, ic, st⟩ := e
  rw [Ev.v_def]
  dsimp only at HR ⊢
  generalize Ev.keep _ = keep
  by_cases h1 : 512 < (okey.size : Int)
  · go_enter Try.func21, Try.ntmps21
    go_wp2
    go_ret
    exact ⟨ret_bool (by rw [HR.out]; simp [h1]), (by repeat (first | assumption | exact Below.refl _ _ | (refine below_step (w := ?_) ?_ ?_ ?_; rotate_left 2; assumption) | refine Below.drew ?_ | refine below_drewN ?_ _ | refine Below.alloc ?_ ?_ _ | refine Below.setCell ?_ ?_ _ | (focus (simp; done)) | (focus (simp; omega)) | omega))⟩
  have d1 : decide (512 < (okey.size : Int)) = false := by simp [h1]
  by_cases h2 : 512 < (oval.size : Int)
  · go_enter Try.func21, Try.ntmps21
    go_wp2
    go_ret
    exact ⟨ret_bool (by rw [HR.out]; simp [h2]), (by repeat (first | assumption | exact Below.refl _ _ | (refine below_step (w := ?_) ?_ ?_ ?_; rotate_left 2; assumption) | refine Below.drew ?_ | refine below_drewN ?_ _ | refine Below.alloc ?_ ?_ _ | refine Below.setCell ?_ ?_ _ | (focus (simp; done)) | (focus (simp; omega)) | omega))⟩
  have d2 : decide (512 < (oval.size : Int)) = false := by simp [h2]
  by_cases h3 : 512 < (olo.size : Int)
  · go_enter Try.func21, Try.ntmps21
    go_wp2
    go_ret
    exact ⟨ret_bool (by rw [HR.out]; simp [h3]), (by repeat (first | assumption | exact Below.refl _ _ | (refine below_step (w := ?_) ?_ ?_ ?_; rotate_left 2; assumption) | refine Below.drew ?_ | refine below_drewN ?_ _ | refine Below.alloc ?_ ?_ _ | refine Below.setCell ?_ ?_ _ | (focus (simp; done)) | (focus (simp; omega)) | omega))⟩
  have d3 : decide (512 < (olo.size : Int)) = false := by simp [h3]
  by_cases h4 : 512 < (ohi.size : Int)
  · go_enter Try.func21, Try.ntmps21
    go_wp2
    go_ret
    exact ⟨ret_bool (by rw [HR.out]; simp [h4]), (by repeat (first | assumption | exact Below.refl _ _ | (refine below_step (w := ?_) ?_ ?_ ?_; rotate_left 2; assumption) | refine Below.drew ?_ | refine below_drewN ?_ _ | refine Below.alloc ?_ ?_ _ | refine Below.setCell ?_ ?_ _ | (focus (simp; done)) | (focus (simp; omega)) | omega))⟩
  have d4 : decide (512 < (ohi.size : Int)) = false := by simp [h4]
  go_enter Try.func21, Try.ntmps21
  go_wp2
  go_ret
  exact ⟨ret_bool (by rw [HR.out, d1, d2, d3, d4]; simp), (by repeat (first | assumption | exact Below.refl _ _ | (refine below_step (w := ?_) ?_ ?_ ?_; rotate_left 2; assumption) | refine Below.drew ?_ | refine below_drewN ?_ _ | refine Below.alloc ?_ ?_ _ | refine Below.setCell ?_ ?_ _ | (focus (simp; done)) | (focus (simp; omega)) | omega))⟩
end Go.Proofs.Ytdfgdnaejnngoaa
