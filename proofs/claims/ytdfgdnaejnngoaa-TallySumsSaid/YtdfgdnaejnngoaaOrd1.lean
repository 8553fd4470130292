import Derived.Test.YtdfgdnaejnngoaaIdx
namespace Go.Proofs.Ytdfgdnaejnngoaa
open Go.RowKit

theorem ret_bool {a b : Bool} (h : a = b) : Ending.returned (.bool a) = Ending.returned (.bool b) := by rw [h]
theorem ret_int {k : IntKind} {a b : Int} (h : a = b) : Ending.returned (.int k a) = Ending.returned (.int k b) := by rw [h]

def isWidth (x : Int) : Bool := decide (x = 1 ∨ x = 2 ∨ x = 4 ∨ x = 8)

theorem isWidth_any (x : Int) (w : World) : Calls Try.prog 58 #[.int .i64 x] w fun e w' => e = .returned (.bool (isWidth x)) ∧ w = w' := by
  by_cases h1 : x = 1
  · subst h1
    go_enter Try.func58, Try.ntmps58
    go_wp2
    go_ret
    exact ⟨rfl, rfl⟩
  by_cases h2 : x = 2
  · subst h2
    go_enter Try.func58, Try.ntmps58
    go_wp2
    go_ret
    exact ⟨rfl, rfl⟩
  by_cases h3 : x = 4
  · subst h3
    go_enter Try.func58, Try.ntmps58
    go_wp2
    go_ret
    exact ⟨rfl, rfl⟩
  have e1 : (x == 1) = false := by simpa using h1
  have e2 : (x == 2) = false := by simpa using h2
  have e3 : (x == 4) = false := by simpa using h3
  go_enter Try.func58, Try.ntmps58
  go_wp2
  go_ret
  exact ⟨ret_bool (by by_cases h : x = 8 <;> simp [isWidth, h1, h2, h3, h]), rfl⟩

theorem isLong_any (s : ByteArray) (w : World) : Calls Try.prog 40 #[.string s] w fun e w' => e = .returned (.bool (decide (255 < (s.size : Int)))) ∧ w = w' := by
  go_enter Try.func40, Try.ntmps40
  go_wp2
  go_ret
  exact ⟨rfl, rfl⟩

def fieldRows (k : Int) : List (List Value) :=
  let f (a b : Nat) : List Value := [.func (.func a) #[] #[], .func (.func b) #[] #[]]
  if k = 1 then [f 63 64, f 65 66]
  else if k = 2 ∨ k = 4 then [f 63 64]
  else if k = 3 then [f 63 64, f 67 68]
  else if k = 5 then [f 69 70, f 71 72]
  else []
def okKind (k : Int) : Bool := decide (1 ≤ k) && decide (k ≤ 8)

def FieldsRes (k : Int) (w : World) (e : Ending) (w' : World) : Prop :=
  ∃ A c, e = .returned (.tuple #[.slice A (fieldRows k).length c, .bool (okKind k)]) ∧ Elems w' A 2 (fieldRows k) ∧ (∀ ad, A = some ad → w.heap.size ≤ ad.block) ∧ Below w.heap.size w w'

theorem fields_1 (w : World) : Calls Try.prog 36 #[.int .i64 1] w (FieldsRes 1 w) := by
  go_enter Try.func36, Try.ntmps36
  go_wp2
  go_ret2
  exact ⟨_, _, rfl, Elems.of_block (heap_new_at (by simp)) (by simp [fieldRows]) (by simp [fieldRows]), (fun ad e => by cases e; simp), (by repeat (first | assumption | exact Below.refl _ _ | (refine below_step (w := ?_) ?_ ?_ ?_; rotate_left 2; assumption) | refine Below.drew ?_ | refine below_drewN ?_ _ | refine Below.alloc ?_ ?_ _ | refine Below.setCell ?_ ?_ _ | (focus (simp; done)) | (focus (simp; omega)) | omega))⟩
theorem fields_2 (w : World) : Calls Try.prog 36 #[.int .i64 2] w (FieldsRes 2 w) := by
  go_enter Try.func36, Try.ntmps36
  go_wp2
  go_ret2
  exact ⟨_, _, rfl, Elems.of_block (heap_new_at (by simp)) (by simp [fieldRows]) (by simp [fieldRows]), (fun ad e => by cases e; simp), (by repeat (first | assumption | exact Below.refl _ _ | (refine below_step (w := ?_) ?_ ?_ ?_; rotate_left 2; assumption) | refine Below.drew ?_ | refine below_drewN ?_ _ | refine Below.alloc ?_ ?_ _ | refine Below.setCell ?_ ?_ _ | (focus (simp; done)) | (focus (simp; omega)) | omega))⟩
theorem fields_4 (w : World) : Calls Try.prog 36 #[.int .i64 4] w (FieldsRes 4 w) := by
  go_enter Try.func36, Try.ntmps36
  go_wp2
  go_ret2
  exact ⟨_, _, rfl, Elems.of_block (heap_new_at (by simp)) (by simp [fieldRows]) (by simp [fieldRows]), (fun ad e => by cases e; simp), (by repeat (first | assumption | exact Below.refl _ _ | (refine below_step (w := ?_) ?_ ?_ ?_; rotate_left 2; assumption) | refine Below.drew ?_ | refine below_drewN ?_ _ | refine Below.alloc ?_ ?_ _ | refine Below.setCell ?_ ?_ _ | (focus (simp; done)) | (focus (simp; omega)) | omega))⟩
theorem fields_3 (w : World) : Calls Try.prog 36 #[.int .i64 3] w (FieldsRes 3 w) := by
  go_enter Try.func36, Try.ntmps36
  go_wp2
  go_ret2
  exact ⟨_, _, rfl, Elems.of_block (heap_new_at (by simp)) (by simp [fieldRows]) (by simp [fieldRows]), (fun ad e => by cases e; simp), (by repeat (first | assumption | exact Below.refl _ _ | (refine below_step (w := ?_) ?_ ?_ ?_; rotate_left 2; assumption) | refine Below.drew ?_ | refine below_drewN ?_ _ | refine Below.alloc ?_ ?_ _ | refine Below.setCell ?_ ?_ _ | (focus (simp; done)) | (focus (simp; omega)) | omega))⟩
theorem fields_5 (w : World) : Calls Try.prog 36 #[.int .i64 5] w (FieldsRes 5 w) := by
  go_enter Try.func36, Try.ntmps36
  go_wp2
  go_ret2
  exact ⟨_, _, rfl, Elems.of_block (heap_new_at (by simp)) (by simp [fieldRows]) (by simp [fieldRows]), (fun ad e => by cases e; simp), (by repeat (first | assumption | exact Below.refl _ _ | (refine below_step (w := ?_) ?_ ?_ ?_; rotate_left 2; assumption) | refine Below.drew ?_ | refine below_drewN ?_ _ | refine Below.alloc ?_ ?_ _ | refine Below.setCell ?_ ?_ _ | (focus (simp; done)) | (focus (simp; omega)) | omega))⟩
theorem fields_any (k : Int) (w : World) : Calls Try.prog 36 #[.int .i64 k] w (FieldsRes k w) := by
  by_cases h1 : k = 1
  · subst h1; exact fields_1 w
  by_cases h2 : k = 2
  · subst h2; exact fields_2 w
  by_cases h3 : k = 3
  · subst h3; exact fields_3 w
  by_cases h4 : k = 4
  · subst h4; exact fields_4 w
  by_cases h5 : k = 5
  · subst h5; exact fields_5 w
  have hr : fieldRows k = [] := by simp [fieldRows, h1, h2, h3, h4, h5]
  have Hr := Lib.hid hr
  clear hr
  have e1 : (k == 1) = false := by simpa using h1
  have e2 : (k == 2) = false := by simpa using h2
  have e3 : (k == 3) = false := by simpa using h3
  have e4 : (k == 4) = false := by simpa using h4
  have e5 : (k == 5) = false := by simpa using h5
  by_cases h6 : 6 ≤ k
  all_goals
    go_enter Try.func36, Try.ntmps36
    go_wp2
    go_ret2
    refine ⟨none, 0, ?_, by rw [Hr.out]; exact Elems.nil _ _ _, (fun ad e => by cases e), (by repeat (first | assumption | exact Below.refl _ _ | (refine below_step (w := ?_) ?_ ?_ ?_; rotate_left 2; assumption) | refine Below.drew ?_ | refine below_drewN ?_ _ | refine Below.alloc ?_ ?_ _ | refine Below.setCell ?_ ?_ _ | (focus (simp; done)) | (focus (simp; omega)) | omega))⟩
    rw [Hr.out]
    simp [okKind]
    omega
end Go.Proofs.Ytdfgdnaejnngoaa
