import Derived.Test.YtdfgdnaejnngoaaRef6
namespace Go.Proofs.Ytdfgdnaejnngoaa
open Go.RowKit

theorem ordBytes_le {o : Ord} (h : isOrd o = true) : (ordBytes o).length ≤ 513 := by
  have hl : tooLong o = false := by simp [isOrd] at h; exact h.2.2
  obtain ⟨h1, h2, h3, h4⟩ := sizes_of hl
  have l1 := textBytes_le h1
  have l2 := textBytes_le h2
  have l3 := textBytes_le h3
  have l4 := textBytes_le h4
  have l5 : (valBytes o.n.toNat).length = 8 := by rw [valBytes_eight, numBytes_length]
  unfold ordBytes fieldBytes
  rw [List.length_append, numBytes_length]
  repeat' split
  all_goals simp
  all_goals omega
theorem rowBytes_le (os : List Ord) (h : os.all isOrd = true) : (os.flatMap ordBytes).length ≤ 513 * os.length := by
  induction os with
  | nil => simp
  | cons o os ih =>
    simp only [List.all_cons, Bool.and_eq_true] at h
    have h1 := ordBytes_le h.1
    have h2 := ih h.2
    rw [List.flatMap_cons, List.length_append, List.length_cons]
    omega
/-- order.Bytes' answer -/
def bytesAll (os : List Ord) : ByteArray × Int := if os.all isOrd = true then (⟨(os.flatMap ordBytes).toArray⟩, 0) else (⟨#[]⟩, 1)
theorem bytes_any (A : Option Addr) (cap : Nat) (os : List Ord) (w : World) (hl : os.length ≤ 10000) (he : Elems w A 6 (os.map Ord.cells)) (hfit : ∀ o ∈ os, o.fits) :
    Calls Try.prog 12 #[.slice A os.length cap] w fun e w' => e = .returned (.tuple #[.string (bytesAll os).1, .int .i64 (bytesAll os).2]) ∧ Below w.heap.size w w' := by
  unfold bytesAll
  by_cases h : os.all isOrd = true
  · rw [if_pos h]
    have := rowBytes_le os h
    exact bytes_ok A cap os w (by omega) he h hfit (by omega)
  · rw [if_neg h]
    exact bytes_bad A cap os w (by omega) he (by simpa using h)
theorem bytes_one (o : Ord) (W : World) (g : Nat) (hg : W.heap.size = g) (hf : o.fits) : Calls Try.prog 12 #[.slice (some ⟨g, 0, none⟩) 1 1] (W.alloc (.cells #[.int .i64 o.kind, .string o.key, .string o.val, .int .u64 o.n, .string o.lo, .string o.hi] 24))
    fun e w' => e = .returned (.tuple #[.string (bytesAll [o]).1, .int .i64 (bytesAll [o]).2]) ∧ Below W.heap.size W w' := by
  refine (bytes_any (some ⟨g, 0, none⟩) 1 [o] _ (by simp) (Elems.of_block (heap_new_at hg) (by simp [Ord.cells]) (by simp [Ord.cells])) (by simpa using hf)).mono ?_
  rintro e w' ⟨rfl, hb⟩
  exact ⟨rfl, (Below.alloc (Below.refl _ _) (Nat.le_refl _) _).trans (hb.mono (by simp))⟩
theorem bytes_two (o p : Ord) (W : World) (g : Nat) (hg : W.heap.size = g) (hf : o.fits) (hp : p.fits) : Calls Try.prog 12 #[.slice (some ⟨g, 0, none⟩) 2 2] (W.alloc (.cells #[.int .i64 o.kind, .string o.key, .string o.val, .int .u64 o.n, .string o.lo, .string o.hi, .int .i64 p.kind, .string p.key, .string p.val, .int .u64 p.n, .string p.lo, .string p.hi] 24))
    fun e w' => e = .returned (.tuple #[.string (bytesAll [o, p]).1, .int .i64 (bytesAll [o, p]).2]) ∧ Below W.heap.size W w' := by
  refine (bytes_any (some ⟨g, 0, none⟩) 2 [o, p] _ (by simp) (Elems.of_block (heap_new_at hg) (by simp [Ord.cells]) (by simp [Ord.cells])) (by simpa using ⟨hf, hp⟩)).mono ?_
  rintro e w' ⟨rfl, hb⟩
  exact ⟨rfl, (Below.alloc (Below.refl _ _) (Nat.le_refl _) _).trans (hb.mono (by simp))⟩

theorem form_any (o : Ord) (w : World) : Calls Try.prog 11 #[o.v] w fun e w' => e = .returned o.v ∧ Below w.heap.size w w' := by
  obtain ⟨k, key, val, n, lo, hi⟩ := o
  rw [Ord.v_def]
  dsimp only
  go_enter Try.func11, Try.ntmps11
  go_wp2
  (try simp only [Exit.inBlock, Exit.then])
  refine bodyPost_ret (v := .agg #[.int .i64 k, .string key, .string val, .int .u64 n, .string lo, .string hi]) (by simp [results, Try.results11, go_sem]) rfl ⟨rfl, (by repeat (first | assumption | exact Below.refl _ _ | (refine below_step (w := ?_) ?_ ?_ ?_; rotate_left 2; assumption) | refine Below.drew ?_ | refine below_drewN ?_ _ | refine Below.alloc ?_ ?_ _ | refine Below.setCell ?_ ?_ _ | (focus (simp; done)) | (focus (simp; omega)) | omega))⟩

def longB (o : Ord) : Bool := decide (512 < o.key.size ∨ 512 < o.val.size ∨ 512 < o.lo.size ∨ 512 < o.hi.size)
set_option maxRecDepth 100000 in
theorem long_any (o : Ord) (w : World) : Calls Try.prog 10 #[o.v] w fun e w' => e = .returned (.bool (longB o)) ∧ Below w.heap.size w w' := by
  obtain ⟨k, key, val, n, lo, hi⟩ := o
  have HX := Lib.hid (show longB ⟨k, key, val, n, lo, hi⟩ = decide (512 < key.size ∨ 512 < val.size ∨ 512 < lo.size ∨ 512 < hi.size) from rfl)
  generalize longB ⟨k, key, val, n, lo, hi⟩ = X at HX ⊢
  rw [Ord.v_def]
  dsimp only
  go_enter Try.func10, Try.ntmps10
  go_wp2
  all_goals go_ret
  all_goals refine ⟨ret_bool ?_, Below.alloc (Below.refl _ _) (Nat.le_refl _) _⟩
  all_goals (rw [HX.out]; clear HX; first | (simp <;> omega) | (rw [Bool.eq_iff_iff]; simp only [Bool.or_eq_true, decide_eq_true_eq]; omega))

theorem eql_ref (a b : Ord) (w : World) : (binOp .eql 27 a.v b.v).run Try.prog w = .ok (.bool (decide (a = b))) w := by
  have u3 := Try.underlying3
  have a3 := Try.isAgg3
  have z3 := Try.sizeOf3
  have u9 := Try.underlying9
  have a9 := Try.isAgg9
  have z9 := Try.sizeOf9
  have u22 := Try.underlying22
  have a22 := Try.isAgg22
  have z22 := Try.sizeOf22
  have hS : Try.prog.underlying 27 = some (.struct (Try.prog.fieldsOf 27)) := by kernel_rfl
  have hp : Try.prog.stoodInHeld 27 = false := by kernel_rfl
  rw [Ord.v_def, Ord.v_def]
  rw [run_eql_struct, show (10000 : Nat) = 9999 + 1 from rfl, run_equalIn_agg w 9999 27 _ _ hS hp]
  simp only [Program.fieldsOf, Try.underlying27]
  go_simp
  obtain ⟨k, key, val, n, lo, hi⟩ := a
  obtain ⟨k', key', val', n', lo', hi'⟩ := b
  by_cases h1 : k = k' <;> by_cases h2 : key = key' <;> by_cases h3 : val = val' <;> by_cases h4 : n = n' <;> by_cases h5 : lo = lo' <;> by_cases h6 : hi = hi' <;> simp [h1, h2, h3, h4, h5, h6, bytes_inj]
end Go.Proofs.Ytdfgdnaejnngoaa
