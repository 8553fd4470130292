import Derived.Test.YtdfgdnaejnngoaaOrd1
namespace Go.Proofs.Ytdfgdnaejnngoaa
open Go.RowKit

def bareOf (o : Ord) : Ord :=
  if o.kind = 1 then { kind := o.kind, key := o.key, val := o.val, n := 0, lo := ⟨#[]⟩, hi := ⟨#[]⟩ }
  else if o.kind = 2 ∨ o.kind = 4 then { kind := o.kind, key := o.key, val := ⟨#[]⟩, n := 0, lo := ⟨#[]⟩, hi := ⟨#[]⟩ }
  else if o.kind = 3 then { kind := o.kind, key := o.key, val := ⟨#[]⟩, n := o.n, lo := ⟨#[]⟩, hi := ⟨#[]⟩ }
  else if o.kind = 5 then { kind := o.kind, key := ⟨#[]⟩, val := ⟨#[]⟩, n := 0, lo := o.lo, hi := o.hi }
  else { kind := o.kind, key := ⟨#[]⟩, val := ⟨#[]⟩, n := 0, lo := ⟨#[]⟩, hi := ⟨#[]⟩ }

def BareRes (r : Ord) (w : World) (e : Ending) (w' : World) : Prop := e = .returned r.v ∧ Below w.heap.size w w'

theorem bare_1 (key val lo hi : ByteArray) (n : Int) (w : World) : Calls Try.prog 38 #[.agg #[.int .i64 1, .string key, .string val, .int .u64 n, .string lo, .string hi]] w
    (BareRes (bareOf ⟨1, key, val, n, lo, hi⟩) w) := by
  go_enter Try.func38, Try.ntmps38
  go_wp2
  try go_region
  all_goals try go_wp2
  all_goals refine bodyPost_ret (v := (bareOf ⟨1, key, val, n, lo, hi⟩).v) (by simp [results, Try.results38, go_sem, bareOf, Ord.v]) rfl ⟨rfl, (by repeat (first | assumption | exact Below.refl _ _ | (refine below_step (w := ?_) ?_ ?_ ?_; rotate_left 2; assumption) | refine Below.drew ?_ | refine below_drewN ?_ _ | refine Below.alloc ?_ ?_ _ | refine Below.setCell ?_ ?_ _ | (focus (simp; done)) | (focus (simp; omega)) | omega))⟩
theorem bare_2 (key val lo hi : ByteArray) (n : Int) (w : World) : Calls Try.prog 38 #[.agg #[.int .i64 2, .string key, .string val, .int .u64 n, .string lo, .string hi]] w
    (BareRes (bareOf ⟨2, key, val, n, lo, hi⟩) w) := by
  go_enter Try.func38, Try.ntmps38
  go_wp2
  try go_region
  all_goals try go_wp2
  all_goals refine bodyPost_ret (v := (bareOf ⟨2, key, val, n, lo, hi⟩).v) (by simp [results, Try.results38, go_sem, bareOf, Ord.v]) rfl ⟨rfl, (by repeat (first | assumption | exact Below.refl _ _ | (refine below_step (w := ?_) ?_ ?_ ?_; rotate_left 2; assumption) | refine Below.drew ?_ | refine below_drewN ?_ _ | refine Below.alloc ?_ ?_ _ | refine Below.setCell ?_ ?_ _ | (focus (simp; done)) | (focus (simp; omega)) | omega))⟩
theorem bare_3 (key val lo hi : ByteArray) (n : Int) (w : World) : Calls Try.prog 38 #[.agg #[.int .i64 3, .string key, .string val, .int .u64 n, .string lo, .string hi]] w
    (BareRes (bareOf ⟨3, key, val, n, lo, hi⟩) w) := by
  go_enter Try.func38, Try.ntmps38
  go_wp2
  try go_region
  all_goals try go_wp2
  all_goals refine bodyPost_ret (v := (bareOf ⟨3, key, val, n, lo, hi⟩).v) (by simp [results, Try.results38, go_sem, bareOf, Ord.v]) rfl ⟨rfl, (by repeat (first | assumption | exact Below.refl _ _ | (refine below_step (w := ?_) ?_ ?_ ?_; rotate_left 2; assumption) | refine Below.drew ?_ | refine below_drewN ?_ _ | refine Below.alloc ?_ ?_ _ | refine Below.setCell ?_ ?_ _ | (focus (simp; done)) | (focus (simp; omega)) | omega))⟩
theorem bare_4 (key val lo hi : ByteArray) (n : Int) (w : World) : Calls Try.prog 38 #[.agg #[.int .i64 4, .string key, .string val, .int .u64 n, .string lo, .string hi]] w
    (BareRes (bareOf ⟨4, key, val, n, lo, hi⟩) w) := by
  go_enter Try.func38, Try.ntmps38
  go_wp2
  try go_region
  all_goals try go_wp2
  all_goals refine bodyPost_ret (v := (bareOf ⟨4, key, val, n, lo, hi⟩).v) (by simp [results, Try.results38, go_sem, bareOf, Ord.v]) rfl ⟨rfl, (by repeat (first | assumption | exact Below.refl _ _ | (refine below_step (w := ?_) ?_ ?_ ?_; rotate_left 2; assumption) | refine Below.drew ?_ | refine below_drewN ?_ _ | refine Below.alloc ?_ ?_ _ | refine Below.setCell ?_ ?_ _ | (focus (simp; done)) | (focus (simp; omega)) | omega))⟩
theorem bare_5 (key val lo hi : ByteArray) (n : Int) (w : World) : Calls Try.prog 38 #[.agg #[.int .i64 5, .string key, .string val, .int .u64 n, .string lo, .string hi]] w
    (BareRes (bareOf ⟨5, key, val, n, lo, hi⟩) w) := by
  go_enter Try.func38, Try.ntmps38
  go_wp2
  try go_region
  all_goals try go_wp2
  all_goals refine bodyPost_ret (v := (bareOf ⟨5, key, val, n, lo, hi⟩).v) (by simp [results, Try.results38, go_sem, bareOf, Ord.v]) rfl ⟨rfl, (by repeat (first | assumption | exact Below.refl _ _ | (refine below_step (w := ?_) ?_ ?_ ?_; rotate_left 2; assumption) | refine Below.drew ?_ | refine below_drewN ?_ _ | refine Below.alloc ?_ ?_ _ | refine Below.setCell ?_ ?_ _ | (focus (simp; done)) | (focus (simp; omega)) | omega))⟩
theorem bare_any (o : Ord) (w : World) : Calls Try.prog 38 #[o.v] w (BareRes (bareOf o) w) := by
  obtain ⟨k, key, val, n, lo, hi⟩ := o
  by_cases h1 : k = 1
  · subst h1; exact bare_1 key val lo hi n w
  by_cases h2 : k = 2
  · subst h2; exact bare_2 key val lo hi n w
  by_cases h3 : k = 3
  · subst h3; exact bare_3 key val lo hi n w
  by_cases h4 : k = 4
  · subst h4; exact bare_4 key val lo hi n w
  by_cases h5 : k = 5
  · subst h5; exact bare_5 key val lo hi n w
  have hr : bareOf ⟨k, key, val, n, lo, hi⟩ = ⟨k, ⟨#[]⟩, ⟨#[]⟩, 0, ⟨#[]⟩, ⟨#[]⟩⟩ := by simp [bareOf, h1, h2, h3, h4, h5]
  have Hr := Lib.hid hr
  clear hr
  have e1 : (k == 1) = false := by simpa using h1
  have e2 : (k == 2) = false := by simpa using h2
  have e3 : (k == 3) = false := by simpa using h3
  have e4 : (k == 4) = false := by simpa using h4
  have e5 : (k == 5) = false := by simpa using h5
  rw [Ord.v_def]
  go_enter Try.func38, Try.ntmps38
  go_wp2
  refine bodyPost_ret (v := (bareOf ⟨k, key, val, n, lo, hi⟩).v) (by rw [Hr.out]; simp [results, Try.results38, go_sem, Ord.v]) rfl ⟨rfl, (by repeat (first | assumption | exact Below.refl _ _ | (refine below_step (w := ?_) ?_ ?_ ?_; rotate_left 2; assumption) | refine Below.drew ?_ | refine below_drewN ?_ _ | refine Below.alloc ?_ ?_ _ | refine Below.setCell ?_ ?_ _ | (focus (simp; done)) | (focus (simp; omega)) | omega))⟩

theorem eql_ord (a b : Ord) (w : World) : (binOp .eql 24 a.v b.v).run Try.prog w = .ok (.bool (decide (a = b))) w := by
  have u3 := Try.underlying3
  have a3 := Try.isAgg3
  have z3 := Try.sizeOf3
  have u9 := Try.underlying9
  have a9 := Try.isAgg9
  have z9 := Try.sizeOf9
  have u22 := Try.underlying22
  have a22 := Try.isAgg22
  have z22 := Try.sizeOf22
  have hS : Try.prog.underlying 24 = some (.struct (Try.prog.fieldsOf 24)) := by kernel_rfl
  have hp : Try.prog.stoodInHeld 24 = false := by kernel_rfl
  rw [Ord.v_def, Ord.v_def]
  rw [run_eql_struct, show (10000 : Nat) = 9999 + 1 from rfl, run_equalIn_agg w 9999 24 _ _ hS hp]
  simp only [Program.fieldsOf, Try.underlying24]
  go_simp
  obtain ⟨k, key, val, n, lo, hi⟩ := a
  obtain ⟨k', key', val', n', lo', hi'⟩ := b
  by_cases h1 : k = k' <;> by_cases h2 : key = key' <;> by_cases h3 : val = val' <;> by_cases h4 : n = n' <;> by_cases h5 : lo = lo' <;> by_cases h6 : hi = hi' <;> simp [h1, h2, h3, h4, h5, h6, bytes_inj]
end Go.Proofs.Ytdfgdnaejnngoaa
