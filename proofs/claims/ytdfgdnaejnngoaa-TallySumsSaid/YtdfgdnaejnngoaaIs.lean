import Derived.Test.YtdfgdnaejnngoaaOrd3
import Derived.Test.YtdfgdnaejnngoaaFr
namespace Go.Proofs.Ytdfgdnaejnngoaa
open Go.RowKit

theorem empty_iff (s : ByteArray) : s = ⟨#[]⟩ ↔ s.toList = [] := by
  have e : (⟨#[]⟩ : ByteArray).toList = [] := by rw [ByteArray.toList_eq]
  rw [← bytes_inj, e]
theorem isOrd_at (k : Int) (key val lo hi : ByteArray) (n : Int) (c : Prop) [Decidable c] (hk : okKind k = true) (hc : bareOf ⟨k, key, val, n, lo, hi⟩ = ⟨k, key, val, n, lo, hi⟩ ↔ c) :
    isOrd ⟨k, key, val, n, lo, hi⟩ = decide (c ∧ (key.size : Int) ≤ 255 ∧ (val.size : Int) ≤ 255 ∧ (lo.size : Int) ≤ 255 ∧ (hi.size : Int) ≤ 255) := by
  unfold isOrd tooLong
  rw [hk]
  simp only [List.any_cons, List.any_nil, Bool.or_false, Bool.true_and]
  rw [Bool.eq_iff_iff]
  simp only [Bool.and_eq_true, decide_eq_true_eq, hc, Bool.not_eq_true', Bool.or_eq_false_iff, decide_eq_false_iff_not, Int.not_lt]
theorem isOrd_1 (key val lo hi : ByteArray) (n : Int) : isOrd ⟨1, key, val, n, lo, hi⟩ = decide ((n = 0 ∧ lo.toList = [] ∧ hi.toList = []) ∧ (key.size : Int) ≤ 255 ∧ (val.size : Int) ≤ 255 ∧ (lo.size : Int) ≤ 255 ∧ (hi.size : Int) ≤ 255) :=
  isOrd_at 1 key val lo hi n _ (by decide) (by simp [bareOf, ← empty_iff, eq_comm])
theorem isOrd_2 (key val lo hi : ByteArray) (n : Int) : isOrd ⟨2, key, val, n, lo, hi⟩ = decide ((val.toList = [] ∧ n = 0 ∧ lo.toList = [] ∧ hi.toList = []) ∧ (key.size : Int) ≤ 255 ∧ (val.size : Int) ≤ 255 ∧ (lo.size : Int) ≤ 255 ∧ (hi.size : Int) ≤ 255) :=
  isOrd_at 2 key val lo hi n _ (by decide) (by simp [bareOf, ← empty_iff, eq_comm])
theorem isOrd_4 (key val lo hi : ByteArray) (n : Int) : isOrd ⟨4, key, val, n, lo, hi⟩ = decide ((val.toList = [] ∧ n = 0 ∧ lo.toList = [] ∧ hi.toList = []) ∧ (key.size : Int) ≤ 255 ∧ (val.size : Int) ≤ 255 ∧ (lo.size : Int) ≤ 255 ∧ (hi.size : Int) ≤ 255) :=
  isOrd_at 4 key val lo hi n _ (by decide) (by simp [bareOf, ← empty_iff, eq_comm])
theorem isOrd_3 (key val lo hi : ByteArray) (n : Int) : isOrd ⟨3, key, val, n, lo, hi⟩ = decide ((val.toList = [] ∧ lo.toList = [] ∧ hi.toList = []) ∧ (key.size : Int) ≤ 255 ∧ (val.size : Int) ≤ 255 ∧ (lo.size : Int) ≤ 255 ∧ (hi.size : Int) ≤ 255) :=
  isOrd_at 3 key val lo hi n _ (by decide) (by simp [bareOf, ← empty_iff, eq_comm])
theorem isOrd_5 (key val lo hi : ByteArray) (n : Int) : isOrd ⟨5, key, val, n, lo, hi⟩ = decide ((key.toList = [] ∧ val.toList = [] ∧ n = 0) ∧ (key.size : Int) ≤ 255 ∧ (val.size : Int) ≤ 255 ∧ (lo.size : Int) ≤ 255 ∧ (hi.size : Int) ≤ 255) :=
  isOrd_at 5 key val lo hi n _ (by decide) (by simp [bareOf, ← empty_iff, eq_comm])
theorem isOrd_6 (key val lo hi : ByteArray) (n : Int) : isOrd ⟨6, key, val, n, lo, hi⟩ = decide ((key.toList = [] ∧ val.toList = [] ∧ n = 0 ∧ lo.toList = [] ∧ hi.toList = []) ∧ (key.size : Int) ≤ 255 ∧ (val.size : Int) ≤ 255 ∧ (lo.size : Int) ≤ 255 ∧ (hi.size : Int) ≤ 255) :=
  isOrd_at 6 key val lo hi n _ (by decide) (by simp [bareOf, ← empty_iff, eq_comm])
theorem isOrd_7 (key val lo hi : ByteArray) (n : Int) : isOrd ⟨7, key, val, n, lo, hi⟩ = decide ((key.toList = [] ∧ val.toList = [] ∧ n = 0 ∧ lo.toList = [] ∧ hi.toList = []) ∧ (key.size : Int) ≤ 255 ∧ (val.size : Int) ≤ 255 ∧ (lo.size : Int) ≤ 255 ∧ (hi.size : Int) ≤ 255) :=
  isOrd_at 7 key val lo hi n _ (by decide) (by simp [bareOf, ← empty_iff, eq_comm])
theorem isOrd_8 (key val lo hi : ByteArray) (n : Int) : isOrd ⟨8, key, val, n, lo, hi⟩ = decide ((key.toList = [] ∧ val.toList = [] ∧ n = 0 ∧ lo.toList = [] ∧ hi.toList = []) ∧ (key.size : Int) ≤ 255 ∧ (val.size : Int) ≤ 255 ∧ (lo.size : Int) ≤ 255 ∧ (hi.size : Int) ≤ 255) :=
  isOrd_at 8 key val lo hi n _ (by decide) (by simp [bareOf, ← empty_iff, eq_comm])

set_option maxRecDepth 100000 in
theorem refIs_1 (key val lo hi : ByteArray) (n : Int) (w : World) : Calls Try.prog 14 #[.agg #[.int .i64 1, .string key, .string val, .int .u64 n, .string lo, .string hi]] w
    fun e w' => e = .returned (.bool (isOrd ⟨1, key, val, n, lo, hi⟩)) ∧ Below w.heap.size w w' := by
  have HX := Lib.hid (isOrd_1 key val lo hi n)
  generalize isOrd ⟨1, key, val, n, lo, hi⟩ = X at HX ⊢
  go_enter Try.func14, Try.ntmps14
  go_wp2
  all_goals go_ret
  all_goals refine ⟨ret_bool ?_, Below.alloc (Below.refl _ _) (Nat.le_refl _) _⟩
  all_goals (rw [HX.out]; clear HX; first | (simp_all <;> omega) | (rw [Bool.eq_iff_iff, List.isEmpty_iff, decide_eq_true_iff]; first | (simp_all; done) | simp_all [bne_eq_false_iff_eq]))
set_option maxRecDepth 100000 in
theorem refIs_2 (key val lo hi : ByteArray) (n : Int) (w : World) : Calls Try.prog 14 #[.agg #[.int .i64 2, .string key, .string val, .int .u64 n, .string lo, .string hi]] w
    fun e w' => e = .returned (.bool (isOrd ⟨2, key, val, n, lo, hi⟩)) ∧ Below w.heap.size w w' := by
  have HX := Lib.hid (isOrd_2 key val lo hi n)
  generalize isOrd ⟨2, key, val, n, lo, hi⟩ = X at HX ⊢
  go_enter Try.func14, Try.ntmps14
  go_wp2
  all_goals go_ret
  all_goals refine ⟨ret_bool ?_, Below.alloc (Below.refl _ _) (Nat.le_refl _) _⟩
  all_goals (rw [HX.out]; clear HX; first | (simp_all <;> omega) | (rw [Bool.eq_iff_iff, List.isEmpty_iff, decide_eq_true_iff]; first | (simp_all; done) | simp_all [bne_eq_false_iff_eq]))
set_option maxRecDepth 100000 in
theorem refIs_3 (key val lo hi : ByteArray) (n : Int) (w : World) : Calls Try.prog 14 #[.agg #[.int .i64 3, .string key, .string val, .int .u64 n, .string lo, .string hi]] w
    fun e w' => e = .returned (.bool (isOrd ⟨3, key, val, n, lo, hi⟩)) ∧ Below w.heap.size w w' := by
  have HX := Lib.hid (isOrd_3 key val lo hi n)
  generalize isOrd ⟨3, key, val, n, lo, hi⟩ = X at HX ⊢
  go_enter Try.func14, Try.ntmps14
  go_wp2
  all_goals go_ret
  all_goals refine ⟨ret_bool ?_, Below.alloc (Below.refl _ _) (Nat.le_refl _) _⟩
  all_goals (rw [HX.out]; clear HX; first | (simp_all <;> omega) | (rw [Bool.eq_iff_iff, List.isEmpty_iff, decide_eq_true_iff]; first | (simp_all; done) | simp_all [bne_eq_false_iff_eq]))
set_option maxRecDepth 100000 in
theorem refIs_4 (key val lo hi : ByteArray) (n : Int) (w : World) : Calls Try.prog 14 #[.agg #[.int .i64 4, .string key, .string val, .int .u64 n, .string lo, .string hi]] w
    fun e w' => e = .returned (.bool (isOrd ⟨4, key, val, n, lo, hi⟩)) ∧ Below w.heap.size w w' := by
  have HX := Lib.hid (isOrd_4 key val lo hi n)
  generalize isOrd ⟨4, key, val, n, lo, hi⟩ = X at HX ⊢
  go_enter Try.func14, Try.ntmps14
  go_wp2
  all_goals go_ret
  all_goals refine ⟨ret_bool ?_, Below.alloc (Below.refl _ _) (Nat.le_refl _) _⟩
  all_goals (rw [HX.out]; clear HX; first | (simp_all <;> omega) | (rw [Bool.eq_iff_iff, List.isEmpty_iff, decide_eq_true_iff]; first | (simp_all; done) | simp_all [bne_eq_false_iff_eq]))
set_option maxRecDepth 100000 in
theorem refIs_5 (key val lo hi : ByteArray) (n : Int) (w : World) : Calls Try.prog 14 #[.agg #[.int .i64 5, .string key, .string val, .int .u64 n, .string lo, .string hi]] w
    fun e w' => e = .returned (.bool (isOrd ⟨5, key, val, n, lo, hi⟩)) ∧ Below w.heap.size w w' := by
  have HX := Lib.hid (isOrd_5 key val lo hi n)
  generalize isOrd ⟨5, key, val, n, lo, hi⟩ = X at HX ⊢
  go_enter Try.func14, Try.ntmps14
  go_wp2
  all_goals go_ret
  all_goals refine ⟨ret_bool ?_, Below.alloc (Below.refl _ _) (Nat.le_refl _) _⟩
  all_goals (rw [HX.out]; clear HX; first | (simp_all <;> omega) | (rw [Bool.eq_iff_iff, List.isEmpty_iff, decide_eq_true_iff]; first | (simp_all; done) | simp_all [bne_eq_false_iff_eq]))
set_option maxRecDepth 100000 in
theorem refIs_6 (key val lo hi : ByteArray) (n : Int) (w : World) : Calls Try.prog 14 #[.agg #[.int .i64 6, .string key, .string val, .int .u64 n, .string lo, .string hi]] w
    fun e w' => e = .returned (.bool (isOrd ⟨6, key, val, n, lo, hi⟩)) ∧ Below w.heap.size w w' := by
  have HX := Lib.hid (isOrd_6 key val lo hi n)
  generalize isOrd ⟨6, key, val, n, lo, hi⟩ = X at HX ⊢
  go_enter Try.func14, Try.ntmps14
  go_wp2
  all_goals go_ret
  all_goals refine ⟨ret_bool ?_, Below.alloc (Below.refl _ _) (Nat.le_refl _) _⟩
  all_goals (rw [HX.out]; clear HX; first | (simp_all <;> omega) | (rw [Bool.eq_iff_iff, List.isEmpty_iff, decide_eq_true_iff]; first | (simp_all; done) | simp_all [bne_eq_false_iff_eq]))
set_option maxRecDepth 100000 in
theorem refIs_7 (key val lo hi : ByteArray) (n : Int) (w : World) : Calls Try.prog 14 #[.agg #[.int .i64 7, .string key, .string val, .int .u64 n, .string lo, .string hi]] w
    fun e w' => e = .returned (.bool (isOrd ⟨7, key, val, n, lo, hi⟩)) ∧ Below w.heap.size w w' := by
  have HX := Lib.hid (isOrd_7 key val lo hi n)
  generalize isOrd ⟨7, key, val, n, lo, hi⟩ = X at HX ⊢
  go_enter Try.func14, Try.ntmps14
  go_wp2
  all_goals go_ret
  all_goals refine ⟨ret_bool ?_, Below.alloc (Below.refl _ _) (Nat.le_refl _) _⟩
  all_goals (rw [HX.out]; clear HX; first | (simp_all <;> omega) | (rw [Bool.eq_iff_iff, List.isEmpty_iff, decide_eq_true_iff]; first | (simp_all; done) | simp_all [bne_eq_false_iff_eq]))
set_option maxRecDepth 100000 in
theorem refIs_8 (key val lo hi : ByteArray) (n : Int) (w : World) : Calls Try.prog 14 #[.agg #[.int .i64 8, .string key, .string val, .int .u64 n, .string lo, .string hi]] w
    fun e w' => e = .returned (.bool (isOrd ⟨8, key, val, n, lo, hi⟩)) ∧ Below w.heap.size w w' := by
  have HX := Lib.hid (isOrd_8 key val lo hi n)
  generalize isOrd ⟨8, key, val, n, lo, hi⟩ = X at HX ⊢
  go_enter Try.func14, Try.ntmps14
  go_wp2
  all_goals go_ret
  all_goals refine ⟨ret_bool ?_, Below.alloc (Below.refl _ _) (Nat.le_refl _) _⟩
  all_goals (rw [HX.out]; clear HX; first | (simp_all <;> omega) | (rw [Bool.eq_iff_iff, List.isEmpty_iff, decide_eq_true_iff]; first | (simp_all; done) | simp_all [bne_eq_false_iff_eq]))

set_option maxRecDepth 100000 in
theorem refIs_odd (k : Int) (key val lo hi : ByteArray) (n : Int) (w : World) (hk : okKind k = false) : Calls Try.prog 14 #[.agg #[.int .i64 k, .string key, .string val, .int .u64 n, .string lo, .string hi]] w
    fun e w' => e = .returned (.bool (isOrd ⟨k, key, val, n, lo, hi⟩)) ∧ Below w.heap.size w w' := by
  have HX := Lib.hid (show isOrd ⟨k, key, val, n, lo, hi⟩ = false by simp [isOrd, hk])
  generalize isOrd ⟨k, key, val, n, lo, hi⟩ = X at HX ⊢
  have h : k < 1 ∨ 8 < k := by simp [okKind] at hk; omega
  clear hk
  rcases h with h | h
  all_goals
    go_enter Try.func14, Try.ntmps14
    go_wp2
    go_ret
    exact ⟨ret_bool HX.out.symm, Below.alloc (Below.refl _ _) (Nat.le_refl _) _⟩

theorem refIs_any (o : Ord) (w : World) : Calls Try.prog 14 #[o.v] w fun e w' => e = .returned (.bool (isOrd o)) ∧ Below w.heap.size w w' := by
  obtain ⟨k, key, val, n, lo, hi⟩ := o
  cases hk : okKind k
  · exact refIs_odd k key val lo hi n w hk
  · have h : k = 1 ∨ k = 2 ∨ k = 3 ∨ k = 4 ∨ k = 5 ∨ k = 6 ∨ k = 7 ∨ k = 8 := by simp [okKind] at hk; omega
    rcases h with rfl | rfl | rfl | rfl | rfl | rfl | rfl | rfl
    · exact refIs_1 key val lo hi n w
    · exact refIs_2 key val lo hi n w
    · exact refIs_3 key val lo hi n w
    · exact refIs_4 key val lo hi n w
    · exact refIs_5 key val lo hi n w
    · exact refIs_6 key val lo hi n w
    · exact refIs_7 key val lo hi n w
    · exact refIs_8 key val lo hi n w
end Go.Proofs.Ytdfgdnaejnngoaa
