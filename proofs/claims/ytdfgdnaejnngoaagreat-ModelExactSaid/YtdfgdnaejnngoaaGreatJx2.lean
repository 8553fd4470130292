import Derived.Test.YtdfgdnaejnngoaaGreatJx1
import Derived.OwnWalk
import Derived.Laws.MakeOwn
import Derived.Deep.MidRow
set_option linter.unusedVariables false
set_option linter.unusedSimpArgs false
namespace Go.Proofs.YtdfgdnaejnngoaaGreat
open Go.RowKit
/-! Model and Prune: keys, values, messages. -/
def isKey (k : ByteArray) : Bool := decide (1 ≤ (k.size : Int)) && decide ((k.size : Int) ≤ 8)
def isVal (k : ByteArray) : Bool := decide ((k.size : Int) ≤ 16)
theorem keyIs_any (k : ByteArray) (w : World) : Calls Tryz.prog 31 #[.string k] w fun e w' => e = .returned (.bool (isKey k)) ∧ Below w.heap.size w w' := by
  have hr : isKey k = (decide (1 ≤ (k.size : Int)) && decide ((k.size : Int) ≤ 8)) := rfl
  have HR := Lib.hid hr
  clear hr
  by_cases h1 : 1 ≤ (k.size : Int)
  · go_enter Tryz.func31, Tryz.ntmps31
    go_wp2
    go_ret
    exact ⟨ret_bool (by rw [HR.out]; simp [h1]), (by repeat (first | assumption | exact Below.refl _ _ | (refine below_step (w := ?_) ?_ ?_ ?_; rotate_left 2; assumption) | refine Below.drew ?_ | refine below_drewN ?_ _ | refine Below.alloc ?_ ?_ _ | refine Below.setCell ?_ ?_ _ | (focus (simp; done)) | (focus (simp; omega)) | omega))⟩
  · have d1 : decide (1 ≤ (k.size : Int)) = false := by simp [h1]
    go_enter Tryz.func31, Tryz.ntmps31
    go_wp2
    go_ret
    exact ⟨ret_bool (by rw [HR.out, d1]; rfl), (by repeat (first | assumption | exact Below.refl _ _ | (refine below_step (w := ?_) ?_ ?_ ?_; rotate_left 2; assumption) | refine Below.drew ?_ | refine below_drewN ?_ _ | refine Below.alloc ?_ ?_ _ | refine Below.setCell ?_ ?_ _ | (focus (simp; done)) | (focus (simp; omega)) | omega))⟩
theorem keyIsVal_any (k : ByteArray) (w : World) : Calls Tryz.prog 32 #[.string k] w fun e w' => e = .returned (.bool (isVal k)) ∧ Below w.heap.size w w' := by
  have hr : isVal k = decide ((k.size : Int) ≤ 16) := rfl
  have HR := Lib.hid hr
  clear hr
  go_enter Tryz.func32, Tryz.ntmps32
  go_wp2
  go_ret
  exact ⟨ret_bool (by rw [HR.out]), (by repeat (first | assumption | exact Below.refl _ _ | (refine below_step (w := ?_) ?_ ?_ ?_; rotate_left 2; assumption) | refine Below.drew ?_ | refine below_drewN ?_ _ | refine Below.alloc ?_ ?_ _ | refine Below.setCell ?_ ?_ _ | (focus (simp; done)) | (focus (simp; omega)) | omega))⟩
theorem cmpNaN_any (k : ByteArray) (w : World) : Calls Tryz.prog 133 #[.string k] w fun e w' => e = .returned (.bool false) ∧ Below w.heap.size w w' := by
  go_enter Tryz.func133, Tryz.ntmps133
  go_wp2
  go_ret
  exact ⟨rfl, (by repeat (first | assumption | exact Below.refl _ _ | (refine below_step (w := ?_) ?_ ?_ ?_; rotate_left 2; assumption) | refine Below.drew ?_ | refine below_drewN ?_ _ | refine Below.alloc ?_ ?_ _ | refine Below.setCell ?_ ?_ _ | (focus (simp; done)) | (focus (simp; omega)) | omega))⟩
/-- one text against another -/
def cmpB (a b : ByteArray) : Int := if Op.bytesLess a.toList b.toList = true then -1 else if (a.toList == b.toList) = true then 0 else 1
theorem cmpStr_any (a b : ByteArray) (w : World) : Calls Tryz.prog 116 #[.string a, .string b] w fun e w' => e = .returned (.int .i64 (cmpB a b)) ∧ Below w.heap.size w w' := by
  have HN := Lib.hid (fun k W => cmpNaN_any k W)
  have hr : cmpB a b = if Op.bytesLess a.toList b.toList = true then -1 else if (a.toList == b.toList) = true then 0 else 1 := rfl
  have HR := Lib.hid hr
  clear hr
  cases h1 : Op.bytesLess a.toList b.toList
  · cases h2 : (a.toList == b.toList)
    · go_enter Tryz.func116, Tryz.ntmps116
      go_wp2_with (go_at_call 133; (with_reducible refine (HN.out _ _).mono ?_); rintro e w1 ⟨rfl, hb1⟩)
      go_ret
      exact ⟨by rw [HR.out, h1, h2]; rfl, below_next (by assumption) hb1⟩
    · go_enter Tryz.func116, Tryz.ntmps116
      go_wp2_with (go_at_call 133; (with_reducible refine (HN.out _ _).mono ?_); rintro e w1 ⟨rfl, hb1⟩)
      go_ret
      exact ⟨by rw [HR.out, h1, h2]; rfl, below_next (by assumption) hb1⟩
  · go_enter Tryz.func116, Tryz.ntmps116
    go_wp2_with (go_at_call 133; (with_reducible refine (HN.out _ _).mono ?_); rintro e w1 ⟨rfl, hb1⟩)
    go_ret
    exact ⟨by rw [HR.out, h1]; rfl, below_next (by assumption) hb1⟩
theorem keyCompare_any (x y : Itm) (w : World) : Calls Tryz.prog 86 #[x.v, y.v] w fun e w' => e = .returned (.int .i64 (cmpB x.key y.key)) ∧ Below w.heap.size w w' := by
  have HC := Lib.hid (fun a b W => cmpStr_any a b W)
  rw [Itm.v_def, Itm.v_def]
  go_enter Tryz.func86, Tryz.ntmps86
  go_wp2_with (go_at_call 116; (with_reducible refine (HC.out _ _ _).mono ?_); rintro e w1 ⟨rfl, hb1⟩)
  go_ret
  exact ⟨rfl, below_next (by repeat (first | assumption | exact Below.refl _ _ | (refine below_step (w := ?_) ?_ ?_ ?_; rotate_left 2; assumption) | refine Below.drew ?_ | refine below_drewN ?_ _ | refine Below.alloc ?_ ?_ _ | refine Below.setCell ?_ ?_ _ | (focus (simp; done)) | (focus (simp; omega)) | omega)) hb1⟩
def itW (x : Itm) : Int := 2 + x.key.size + x.val.size
theorem keyWeight_any (x : Itm) (w : World) (h : (x.key.size : Int) ≤ 1000) (h2 : (x.val.size : Int) ≤ 1000) : Calls Tryz.prog 56 #[x.v] w fun e w' => e = .returned (.int .i64 (itW x)) ∧ Below w.heap.size w w' := by
  have hr : itW x = 2 + x.key.size + x.val.size := rfl
  have HR := Lib.hid hr
  clear hr
  rw [Itm.v_def]
  go_enter Tryz.func56, Tryz.ntmps56
  go_wp2
  go_ret
  exact ⟨by rw [HR.out]; rfl, (by repeat (first | assumption | exact Below.refl _ _ | (refine below_step (w := ?_) ?_ ?_ ?_; rotate_left 2; assumption) | refine Below.drew ?_ | refine below_drewN ?_ _ | refine Below.alloc ?_ ?_ _ | refine Below.setCell ?_ ?_ _ | (focus (simp; done)) | (focus (simp; omega)) | omega))⟩
theorem ref07Is_any (k : ByteArray) (w : World) : Calls Tryz.prog 66 #[.string k] w fun e w' => e = .returned (.bool (isKey k)) ∧ Below w.heap.size w w' := by
  have hr : isKey k = (decide (0 < (k.size : Int)) && decide ((k.size : Int) < 9)) := by
    unfold isKey
    rw [Bool.eq_iff_iff]
    simp
    omega
  have HR := Lib.hid hr
  clear hr
  by_cases h1 : 0 < (k.size : Int)
  · have d1 : decide (0 < (k.size : Int)) = true := decide_eq_true h1
    go_enter Tryz.func66, Tryz.ntmps66
    go_wp2
    go_ret
    exact ⟨ret_bool (by rw [HR.out, d1]; rfl), (by repeat (first | assumption | exact Below.refl _ _ | (refine below_step (w := ?_) ?_ ?_ ?_; rotate_left 2; assumption) | refine Below.drew ?_ | refine below_drewN ?_ _ | refine Below.alloc ?_ ?_ _ | refine Below.setCell ?_ ?_ _ | (focus (simp; done)) | (focus (simp; omega)) | omega))⟩
  · have d1 : decide (0 < (k.size : Int)) = false := decide_eq_false h1
    go_enter Tryz.func66, Tryz.ntmps66
    go_wp2
    go_ret
    exact ⟨ret_bool (by rw [HR.out, d1]; rfl), (by repeat (first | assumption | exact Below.refl _ _ | (refine below_step (w := ?_) ?_ ?_ ?_; rotate_left 2; assumption) | refine Below.drew ?_ | refine below_drewN ?_ _ | refine Below.alloc ?_ ?_ _ | refine Below.setCell ?_ ?_ _ | (focus (simp; done)) | (focus (simp; omega)) | omega))⟩
def isMsg (x : Mg) : Bool := isKey x.key && (decide (x.kind = 1) && isVal x.val || (decide (x.kind = 2) && decide ((x.val.size : Int) = 0) || decide (x.kind = 3) && decide ((x.val.size : Int) = 8)))
theorem isEmpty_size (v : ByteArray) : v.toList.isEmpty = decide ((v.size : Int) = 0) := by
  have h : v.toList.length = v.size := by rw [ByteArray.toList_eq]; cases v; rfl
  rw [Bool.eq_iff_iff, List.isEmpty_iff, decide_eq_true_iff, ← List.length_eq_zero_iff]
  omega
theorem box3 {w w1 : World} {T : TypeId} {c0 c1 c2 : Value} (h : Below (w.alloc (.cells #[c0, c1, c2] T)).heap.size (w.alloc (.cells #[c0, c1, c2] T)) w1) : w1.cell? ⟨w.heap.size, 0, none⟩ = some c0 ∧ w1.cell? ⟨w.heap.size, 1, none⟩ = some c1 ∧ w1.cell? ⟨w.heap.size, 2, none⟩ = some c2 := by
  have hh := heap_alloc_new w (.cells #[c0, c1, c2] T)
  refine ⟨(h.cell (p := ⟨w.heap.size, 0, none⟩) (by simp)).trans ?_, (h.cell (p := ⟨w.heap.size, 1, none⟩) (by simp)).trans ?_, (h.cell (p := ⟨w.heap.size, 2, none⟩) (by simp)).trans ?_⟩ <;> (rw [Lib.cell_of_heap hh]; rfl)
theorem msgIs_any (x : Mg) (w : World) : Calls Tryz.prog 91 #[x.v] w fun e w' => e = .returned (.bool (isMsg x)) ∧ Below w.heap.size w w' := by
  have HK := Lib.hid (fun a W => keyIs_any a W)
  have HV := Lib.hid (fun a W => keyIsVal_any a W)
  obtain ⟨kind, k, v⟩ := x
  rw [Mg.v_def]
  cases hk : isKey k
  · have hr : isMsg ⟨kind, k, v⟩ = false := by simp [isMsg, hk]
    generalize isMsg ⟨kind, k, v⟩ = R at hr ⊢
    subst hr
    go_enter Tryz.func91, Tryz.ntmps91
    go_wp2_with (go_at_call 31; (with_reducible refine (HK.out _ _).mono ?_); rintro e w1 ⟨rfl, hb1⟩; rw [hk])
    go_ret
    exact ⟨rfl, below_next (by repeat (first | assumption | exact Below.refl _ _ | (refine below_step (w := ?_) ?_ ?_ ?_; rotate_left 2; assumption) | refine Below.drew ?_ | refine below_drewN ?_ _ | refine Below.alloc ?_ ?_ _ | refine Below.setCell ?_ ?_ _ | (focus (simp; done)) | (focus (simp; omega)) | omega)) hb1⟩
  by_cases h1 : kind = 1
  · have hr : isMsg ⟨kind, k, v⟩ = isVal v := by simp [isMsg, hk, h1]
    generalize isMsg ⟨kind, k, v⟩ = R at hr ⊢
    subst hr h1
    go_enter Tryz.func91, Tryz.ntmps91
    go_wp2_with (first | (go_at_call 31; (with_reducible refine (HK.out _ _).mono ?_); rintro e w1 ⟨rfl, hb1⟩; rw [hk]; obtain ⟨c0, c1, c2⟩ := box3 hb1; have HB1 := Lib.hid (below_next (Below.alloc (Below.refl _ _) (Nat.le_refl _) _) hb1); clear hb1) | (go_at_call 32; (with_reducible refine (HV.out _ _).mono ?_); rintro e w2 ⟨rfl, hb2⟩))
    go_ret
    exact ⟨rfl, below_next HB1.out hb2⟩
  by_cases h2 : kind = 2
  · have hr : isMsg ⟨kind, k, v⟩ = v.toList.isEmpty := by rw [isEmpty_size]; simp [isMsg, hk, h2]
    generalize isMsg ⟨kind, k, v⟩ = R at hr ⊢
    subst h2
    have HR := Lib.hid hr
    clear hr
    go_enter Tryz.func91, Tryz.ntmps91
    go_wp2_with (first | (go_at_call 31; (with_reducible refine (HK.out _ _).mono ?_); rintro e w1 ⟨rfl, hb1⟩; rw [hk]; obtain ⟨c0, c1, c2⟩ := box3 hb1; have HB1 := Lib.hid (below_next (Below.alloc (Below.refl _ _) (Nat.le_refl _) _) hb1); clear hb1) | (go_at_call 32; (with_reducible refine (HV.out _ _).mono ?_); rintro e w2 ⟨rfl, hb2⟩))
    go_ret
    exact ⟨ret_bool (by rw [HR.out]), HB1.out⟩
  by_cases h3 : kind = 3
  · have hr : isMsg ⟨kind, k, v⟩ = decide ((v.size : Int) = 8) := by simp [isMsg, hk, h3]
    generalize isMsg ⟨kind, k, v⟩ = R at hr ⊢
    subst h3
    have HR := Lib.hid hr
    clear hr
    go_enter Tryz.func91, Tryz.ntmps91
    go_wp2_with (first | (go_at_call 31; (with_reducible refine (HK.out _ _).mono ?_); rintro e w1 ⟨rfl, hb1⟩; rw [hk]; obtain ⟨c0, c1, c2⟩ := box3 hb1; have HB1 := Lib.hid (below_next (Below.alloc (Below.refl _ _) (Nat.le_refl _) _) hb1); clear hb1) | (go_at_call 32; (with_reducible refine (HV.out _ _).mono ?_); rintro e w2 ⟨rfl, hb2⟩))
    go_ret
    exact ⟨ret_bool (by rw [HR.out]; rfl), HB1.out⟩
  have hr : isMsg ⟨kind, k, v⟩ = false := by simp [isMsg, hk, h1, h2, h3]
  generalize isMsg ⟨kind, k, v⟩ = R at hr ⊢
  subst hr
  have e1 : (kind == 1) = false := by simp [h1]
  have e2 : (kind == 2) = false := by simp [h2]
  have e3 : (kind == 3) = false := by simp [h3]
  go_enter Tryz.func91, Tryz.ntmps91
  go_wp2_with (first | (go_at_call 31; (with_reducible refine (HK.out _ _).mono ?_); rintro e w1 ⟨rfl, hb1⟩; rw [hk]; obtain ⟨c0, c1, c2⟩ := box3 hb1; have HB1 := Lib.hid (below_next (Below.alloc (Below.refl _ _) (Nat.le_refl _) _) hb1); clear hb1) | (go_at_call 32; (with_reducible refine (HV.out _ _).mono ?_); rintro e w2 ⟨rfl, hb2⟩))
  go_ret
  exact ⟨rfl, HB1.out⟩
theorem box3' (w : World) (T : TypeId) (c0 c1 c2 : Value) : (w.alloc (.cells #[c0, c1, c2] T)).cell? ⟨w.heap.size, 0, none⟩ = some c0 := by
  rw [Lib.cell_of_heap (heap_alloc_new w _)]; rfl
set_option maxRecDepth 100000 in
theorem msgIsNot_any (x : Mg) (w : World) : Calls Tryz.prog 134 #[x.v] w fun e w' => e = .returned (.bool (!isMsg x)) ∧ Below w.heap.size w w' := by
  have hm := fun W => msgIs_any x W
  generalize isMsg x = R at hm ⊢
  obtain ⟨kind, k, v⟩ := x
  rw [Mg.v_def] at hm ⊢
  have HM := Lib.hid hm
  clear hm
  go_enter Tryz.func134, Tryz.ntmps134
  go_wp2_with (go_at_call 91; (with_reducible refine (HM.out _).mono ?_); rintro e w1 ⟨rfl, hb1⟩; have HB1 := Lib.hid (below_next (Below.alloc (Below.refl _ _) (Nat.le_refl _) _) hb1); clear hb1)
  go_ret
  exact ⟨rfl, HB1.out⟩
theorem ofPut_any (k v : ByteArray) (w : World) : Calls Tryz.prog 74 #[.string k, .string v] w fun e w' => e = .returned (Mg.mk 1 k v).v ∧ Below w.heap.size w w' := by
  rw [Mg.v_def]
  go_enter Tryz.func74, Tryz.ntmps74
  go_wp2
  (try simp only [Exit.inBlock, Exit.then])
  refine bodyPost_ret (v := .agg #[.int .i64 1, .string k, .string v]) (by simp [results, Tryz.results74, go_sem]) rfl ⟨rfl, (by repeat (first | assumption | exact Below.refl _ _ | (refine below_step (w := ?_) ?_ ?_ ?_; rotate_left 2; assumption) | refine Below.drew ?_ | refine below_drewN ?_ _ | refine Below.alloc ?_ ?_ _ | refine Below.setCell ?_ ?_ _ | (focus (simp; done)) | (focus (simp; omega)) | omega))⟩
theorem ofDel_any (k : ByteArray) (w : World) : Calls Tryz.prog 75 #[.string k] w fun e w' => e = .returned (Mg.mk 2 k ⟨#[]⟩).v ∧ Below w.heap.size w w' := by
  rw [Mg.v_def]
  go_enter Tryz.func75, Tryz.ntmps75
  go_wp2
  (try simp only [Exit.inBlock, Exit.then])
  refine bodyPost_ret (v := .agg #[.int .i64 2, .string k, .string ⟨#[]⟩]) (by simp [results, Tryz.results75, go_sem]) rfl ⟨rfl, (by repeat (first | assumption | exact Below.refl _ _ | (refine below_step (w := ?_) ?_ ?_ ?_; rotate_left 2; assumption) | refine Below.drew ?_ | refine below_drewN ?_ _ | refine Below.alloc ?_ ?_ _ | refine Below.setCell ?_ ?_ _ | (focus (simp; done)) | (focus (simp; omega)) | omega))⟩
set_option maxHeartbeats 1000000 in
set_option maxRecDepth 100000 in
theorem ref08Is_any (x : Mg) (w : World) : Calls Tryz.prog 60 #[x.v] w fun e w' => e = .returned (.bool (isMsg x)) ∧ Below w.heap.size w w' := by
  obtain ⟨kind, k, v⟩ := x
  rw [Mg.v_def]
  by_cases k0 : (k.size : Int) = 0
  · have hr : isMsg ⟨kind, k, v⟩ = false := by simp [isMsg, isKey, k0]
    rw [hr]
    have e0 : ((k.size : Int) == 0) = true := by simp [k0]
    clear hr
    go_enter Tryz.func60, Tryz.ntmps60
    go_wp2
    go_ret
    exact ⟨rfl, (by repeat (first | assumption | exact Below.refl _ _ | (refine below_step (w := ?_) ?_ ?_ ?_; rotate_left 2; assumption) | refine Below.drew ?_ | refine below_drewN ?_ _ | refine Below.alloc ?_ ?_ _ | refine Below.setCell ?_ ?_ _ | (focus (simp; done)) | (focus (simp; omega)) | omega))⟩
  have e0 : ((k.size : Int) == 0) = false := by simpa using k0
  by_cases k8 : 8 < (k.size : Int)
  · have hr : isMsg ⟨kind, k, v⟩ = false := by simp [isMsg, isKey]; intros; omega
    rw [hr]
    clear hr k0
    go_enter Tryz.func60, Tryz.ntmps60
    go_wp2
    go_ret
    exact ⟨rfl, (by repeat (first | assumption | exact Below.refl _ _ | (refine below_step (w := ?_) ?_ ?_ ?_; rotate_left 2; assumption) | refine Below.drew ?_ | refine below_drewN ?_ _ | refine Below.alloc ?_ ?_ _ | refine Below.setCell ?_ ?_ _ | (focus (simp; done)) | (focus (simp; omega)) | omega))⟩
  have d8 : decide (8 < (k.size : Int)) = false := decide_eq_false k8
  have hk : isKey k = true := by unfold isKey; simp only [Bool.and_eq_true, decide_eq_true_eq]; omega
  clear k0 k8
  by_cases h1 : kind = 1
  · subst h1
    by_cases hv : (v.size : Int) ≤ 16
    · have hr : isMsg ⟨1, k, v⟩ = true := by simp [isMsg, hk, isVal, hv]
      rw [hr]
      clear hr
      have hv2 : decide ((v.size : Int) ≤ 16) = true := by simp [hv]
      go_enter Tryz.func60, Tryz.ntmps60
      go_wp2
      go_ret
      exact ⟨rfl, (by repeat (first | assumption | exact Below.refl _ _ | (refine below_step (w := ?_) ?_ ?_ ?_; rotate_left 2; assumption) | refine Below.drew ?_ | refine below_drewN ?_ _ | refine Below.alloc ?_ ?_ _ | refine Below.setCell ?_ ?_ _ | (focus (simp; done)) | (focus (simp; omega)) | omega))⟩
    · have hr : isMsg ⟨1, k, v⟩ = false := by simp only [isMsg, hk, isVal, decide_eq_false hv]; simp
      rw [hr]
      clear hr
      have hv2 : decide ((v.size : Int) ≤ 16) = false := by simpa using hv
      go_enter Tryz.func60, Tryz.ntmps60
      go_wp2
      go_ret
      exact ⟨rfl, (by repeat (first | assumption | exact Below.refl _ _ | (refine below_step (w := ?_) ?_ ?_ ?_; rotate_left 2; assumption) | refine Below.drew ?_ | refine below_drewN ?_ _ | refine Below.alloc ?_ ?_ _ | refine Below.setCell ?_ ?_ _ | (focus (simp; done)) | (focus (simp; omega)) | omega))⟩
  by_cases h2 : kind = 2
  · subst h2
    by_cases hv : (v.size : Int) = 0
    · have hr : isMsg ⟨2, k, v⟩ = true := by simp [isMsg, hk, isVal, hv]
      rw [hr]
      clear hr
      have hv2 : ((v.size : Int) == 0) = true := by simp [hv]
      go_enter Tryz.func60, Tryz.ntmps60
      go_wp2
      go_ret
      exact ⟨rfl, (by repeat (first | assumption | exact Below.refl _ _ | (refine below_step (w := ?_) ?_ ?_ ?_; rotate_left 2; assumption) | refine Below.drew ?_ | refine below_drewN ?_ _ | refine Below.alloc ?_ ?_ _ | refine Below.setCell ?_ ?_ _ | (focus (simp; done)) | (focus (simp; omega)) | omega))⟩
    · have hr : isMsg ⟨2, k, v⟩ = false := by simp only [isMsg, hk, isVal, decide_eq_false hv]; simp
      rw [hr]
      clear hr
      have hv2 : ((v.size : Int) == 0) = false := by simpa using hv
      go_enter Tryz.func60, Tryz.ntmps60
      go_wp2
      go_ret
      exact ⟨rfl, (by repeat (first | assumption | exact Below.refl _ _ | (refine below_step (w := ?_) ?_ ?_ ?_; rotate_left 2; assumption) | refine Below.drew ?_ | refine below_drewN ?_ _ | refine Below.alloc ?_ ?_ _ | refine Below.setCell ?_ ?_ _ | (focus (simp; done)) | (focus (simp; omega)) | omega))⟩
  by_cases h3 : kind = 3
  · subst h3
    by_cases hv : (v.size : Int) = 8
    · have hr : isMsg ⟨3, k, v⟩ = true := by simp [isMsg, hk, isVal, hv]
      rw [hr]
      clear hr
      have hv2 : ((v.size : Int) == 8) = true := by simp [hv]
      go_enter Tryz.func60, Tryz.ntmps60
      go_wp2
      go_ret
      exact ⟨rfl, (by repeat (first | assumption | exact Below.refl _ _ | (refine below_step (w := ?_) ?_ ?_ ?_; rotate_left 2; assumption) | refine Below.drew ?_ | refine below_drewN ?_ _ | refine Below.alloc ?_ ?_ _ | refine Below.setCell ?_ ?_ _ | (focus (simp; done)) | (focus (simp; omega)) | omega))⟩
    · have hr : isMsg ⟨3, k, v⟩ = false := by simp only [isMsg, hk, isVal, decide_eq_false hv]; simp
      rw [hr]
      clear hr
      have hv2 : ((v.size : Int) == 8) = false := by simpa using hv
      go_enter Tryz.func60, Tryz.ntmps60
      go_wp2
      go_ret
      exact ⟨rfl, (by repeat (first | assumption | exact Below.refl _ _ | (refine below_step (w := ?_) ?_ ?_ ?_; rotate_left 2; assumption) | refine Below.drew ?_ | refine below_drewN ?_ _ | refine Below.alloc ?_ ?_ _ | refine Below.setCell ?_ ?_ _ | (focus (simp; done)) | (focus (simp; omega)) | omega))⟩
  have hr : isMsg ⟨kind, k, v⟩ = false := by simp [isMsg, hk, h1, h2, h3]
  rw [hr]
  clear hr
  have e1 : (kind == 1) = false := by simp [h1]
  have e2 : (kind == 2) = false := by simp [h2]
  have e3 : (kind == 3) = false := by simp [h3]
  go_enter Tryz.func60, Tryz.ntmps60
  go_wp2
  go_ret
  exact ⟨rfl, (by repeat (first | assumption | exact Below.refl _ _ | (refine below_step (w := ?_) ?_ ?_ ?_; rotate_left 2; assumption) | refine Below.drew ?_ | refine below_drewN ?_ _ | refine Below.alloc ?_ ?_ _ | refine Below.setCell ?_ ?_ _ | (focus (simp; done)) | (focus (simp; omega)) | omega))⟩
end Go.Proofs.YtdfgdnaejnngoaaGreat
namespace Go.Proofs.YtdfgdnaejnngoaaGreat
open Go.RowKit
/-! Model and Prune: plans. -/
def pLog (n : Int) : Int := if n / 8 ≤ 8 then 8 else n / 8
def pData (n : Int) : Int := n - (2 + pLog n)
def pHalf (n : Int) : Int := (pData n - 2) / 2
def pLeaves (n : Int) : Int := 5 * (pHalf n - 3) / 6
def pCap (n : Int) : Int := 215 * pLeaves n - 1
def planA (n : Int) : Array Value := #[.int .i64 n, .int .i64 (pLog n), .int .i64 (2 + pLog n), .int .i64 (pData n), .int .i64 (pHalf n), .int .i64 (pLeaves n), .int .i64 (pCap n)]
def plan0 : Array Value := #[.int .i64 0, .int .i64 0, .int .i64 0, .int .i64 0, .int .i64 0, .int .i64 0, .int .i64 0]
set_option maxRecDepth 100000 in
theorem capaOf_bad (n : Int) (w : World) (h : n < 64 ∨ 512 < n) : Calls Tryz.prog 21 #[.int .i64 n] w fun e w' => e = .returned (.tuple #[.agg plan0, .int .i64 1]) ∧ Below w.heap.size w w' := by
  by_cases h1 : n < 64
  · clear h
    go_enter Tryz.func21, Tryz.ntmps21
    go_wp2
    (try simp only [Exit.inBlock, Exit.then])
    refine bodyPost_ret (v := .tuple #[.agg plan0, .int .i64 1]) (by simp [results, Tryz.results21, go_sem]; rfl) rfl ⟨rfl, (by repeat (first | assumption | exact Below.refl _ _ | (refine below_step (w := ?_) ?_ ?_ ?_; rotate_left 2; assumption) | refine Below.drew ?_ | refine below_drewN ?_ _ | refine Below.alloc ?_ ?_ _ | refine Below.setCell ?_ ?_ _ | (focus (simp; done)) | (focus (simp; omega)) | omega))⟩
  · have h2 : 512 < n := by omega
    have d1 : decide (n < 64) = false := decide_eq_false h1
    clear h
    go_enter Tryz.func21, Tryz.ntmps21
    go_wp2
    (try simp only [Exit.inBlock, Exit.then])
    refine bodyPost_ret (v := .tuple #[.agg plan0, .int .i64 1]) (by simp [results, Tryz.results21, go_sem]; rfl) rfl ⟨rfl, (by repeat (first | assumption | exact Below.refl _ _ | (refine below_step (w := ?_) ?_ ?_ ?_; rotate_left 2; assumption) | refine Below.drew ?_ | refine below_drewN ?_ _ | refine Below.alloc ?_ ?_ _ | refine Below.setCell ?_ ?_ _ | (focus (simp; done)) | (focus (simp; omega)) | omega))⟩
set_option maxHeartbeats 1000000 in
set_option maxRecDepth 100000 in
theorem capaOf_ok (n : Int) (w : World) (h1 : ¬ n < 64) (h2 : ¬ 512 < n) : Calls Tryz.prog 21 #[.int .i64 n] w fun e w' => e = .returned (.tuple #[.agg (planA n), .int .i64 0]) ∧ Below w.heap.size w w' := by
  have d1 : decide (n < 64) = false := decide_eq_false h1
  have d2 : decide (512 < n) = false := decide_eq_false h2
  have hp : planA n = #[.int .i64 n, .int .i64 (pLog n), .int .i64 (2 + pLog n), .int .i64 (pData n), .int .i64 (pHalf n), .int .i64 (pLeaves n), .int .i64 (pCap n)] := rfl
  unfold pCap pLeaves pHalf pData at hp
  by_cases h8 : n / 8 ≤ 8
  · have hl : pLog n = 8 := by unfold pLog; rw [if_pos h8]
    rw [hl, show (2 : Int) + 8 = 10 from rfl] at hp
    rw [hp]
    clear hp hl
    go_enter Tryz.func21, Tryz.ntmps21
    go_wp2
    · (try simp only [Exit.inBlock, Exit.then])
      refine bodyPost_ret (v := .tuple #[.agg #[.int .i64 n, .int .i64 8, .int .i64 10, .int .i64 (n - 10), .int .i64 ((n - 10 - 2) / 2), .int .i64 (5 * ((n - 10 - 2) / 2 - 3) / 6), .int .i64 (215 * (5 * ((n - 10 - 2) / 2 - 3) / 6) - 1)], .int .i64 0]) (by simp [results, Tryz.results21, go_sem]) rfl ⟨rfl, (by repeat (first | assumption | exact Below.refl _ _ | (refine below_step (w := ?_) ?_ ?_ ?_; rotate_left 2; assumption) | refine Below.drew ?_ | refine below_drewN ?_ _ | refine Below.alloc ?_ ?_ _ | refine Below.setCell ?_ ?_ _ | (focus (simp; done)) | (focus (simp; omega)) | omega))⟩
    all_goals (exfalso; omega)
  · have hl : pLog n = n / 8 := by unfold pLog; rw [if_neg h8]
    rw [hl] at hp
    rw [hp]
    clear hp hl
    go_enter Tryz.func21, Tryz.ntmps21
    go_wp2
    (try simp only [Exit.inBlock, Exit.then])
    refine bodyPost_ret (v := .tuple #[.agg #[.int .i64 n, .int .i64 (n / 8), .int .i64 (2 + n / 8), .int .i64 (n - (2 + n / 8)), .int .i64 ((n - (2 + n / 8) - 2) / 2), .int .i64 (5 * ((n - (2 + n / 8) - 2) / 2 - 3) / 6), .int .i64 (215 * (5 * ((n - (2 + n / 8) - 2) / 2 - 3) / 6) - 1)], .int .i64 0]) (by simp [results, Tryz.results21, go_sem]) rfl ⟨rfl, (by repeat (first | assumption | exact Below.refl _ _ | (refine below_step (w := ?_) ?_ ?_ ?_; rotate_left 2; assumption) | refine Below.drew ?_ | refine below_drewN ?_ _ | refine Below.alloc ?_ ?_ _ | refine Below.setCell ?_ ?_ _ | (focus (simp; done)) | (focus (simp; omega)) | omega))⟩
theorem holds_any (n x : Int) (w : World) : Calls Tryz.prog 79 #[.agg (planA n), .int .i64 x] w fun e w' => e = .returned (.bool (decide (0 ≤ x) && decide (x ≤ pCap n))) ∧ Below w.heap.size w w' := by
  unfold planA
  generalize pCap n = c
  generalize pLeaves n = c1
  generalize pHalf n = c2
  generalize pData n = c3
  generalize pLog n = c4
  by_cases h0 : 0 ≤ x
  · have d0 : decide (0 ≤ x) = true := decide_eq_true h0
    rw [d0]
    go_enter Tryz.func79, Tryz.ntmps79
    go_wp2
    go_ret
    exact ⟨rfl, (by repeat (first | assumption | exact Below.refl _ _ | (refine below_step (w := ?_) ?_ ?_ ?_; rotate_left 2; assumption) | refine Below.drew ?_ | refine below_drewN ?_ _ | refine Below.alloc ?_ ?_ _ | refine Below.setCell ?_ ?_ _ | (focus (simp; done)) | (focus (simp; omega)) | omega))⟩
  · have d0 : decide (0 ≤ x) = false := decide_eq_false h0
    rw [d0]
    go_enter Tryz.func79, Tryz.ntmps79
    go_wp2
    go_ret
    exact ⟨rfl, (by repeat (first | assumption | exact Below.refl _ _ | (refine below_step (w := ?_) ?_ ?_ ?_; rotate_left 2; assumption) | refine Below.drew ?_ | refine below_drewN ?_ _ | refine Below.alloc ?_ ?_ _ | refine Below.setCell ?_ ?_ _ | (focus (simp; done)) | (focus (simp; omega)) | omega))⟩
end Go.Proofs.YtdfgdnaejnngoaaGreat
namespace Go.Proofs.YtdfgdnaejnngoaaGreat
open Go.RowKit
/-! Model and Prune: keys' order; sorted rows of items. -/
theorem get_lt {α : Type} {l : List α} {i : Nat} (h : i < l.length) : ∃ x, l[i]? = some x := ⟨l[i], List.getElem?_eq_getElem h⟩
theorem bl_irrefl : ∀ x : List UInt8, Op.bytesLess x x = false
  | [] => rfl
  | a :: x => by simp [Op.bytesLess, bl_irrefl x]
theorem bl_trans : ∀ x y z : List UInt8, Op.bytesLess x y = true → Op.bytesLess y z = true → Op.bytesLess x z = true
  | _, _, [], _, h => by cases ‹List UInt8› <;> simp [Op.bytesLess] at h
  | _, [], _ :: _, h, _ => by cases ‹List UInt8› <;> simp [Op.bytesLess] at h
  | [], _ :: _, _ :: _, _, _ => by simp [Op.bytesLess]
  | a :: x, b :: y, c :: z, h1, h2 => by
    simp only [Op.bytesLess, Bool.or_eq_true, Bool.and_eq_true, decide_eq_true_eq, beq_iff_eq] at h1 h2 ⊢
    rcases h1 with h1 | ⟨e1, h1⟩
    · rcases h2 with h2 | ⟨e2, h2⟩
      · exact .inl (UInt8.lt_trans h1 h2)
      · subst e2; exact .inl h1
    · subst e1
      rcases h2 with h2 | ⟨e2, h2⟩
      · exact .inl h2
      · exact .inr ⟨e2, bl_trans x y z h1 h2⟩
theorem bl_tri : ∀ x y : List UInt8, Op.bytesLess x y = false → Op.bytesLess y x = false → x = y
  | [], [], _, _ => rfl
  | [], _ :: _, h, _ => by simp [Op.bytesLess] at h
  | _ :: _, [], _, h => by simp [Op.bytesLess] at h
  | a :: x, b :: y, h1, h2 => by
    simp only [Op.bytesLess, Bool.or_eq_false_iff, Bool.and_eq_false_iff, decide_eq_false_iff_not, beq_eq_false_iff_ne] at h1 h2
    have e : a = b := UInt8.le_antisymm (UInt8.not_lt.1 h2.1) (UInt8.not_lt.1 h1.1)
    subst e
    rcases h1.2 with h | h
    · exact absurd rfl h
    · rcases h2.2 with h' | h'
      · exact absurd rfl h'
      · rw [bl_tri x y h h']
theorem bytes_ext {a b : ByteArray} (h : a.toList = b.toList) : a = b := by
  rw [ByteArray.toList_eq, ByteArray.toList_eq] at h
  cases a; cases b
  simp only [ByteArray.mk.injEq]
  exact Array.toList_inj.1 h
def klt (a b : ByteArray) : Bool := Op.bytesLess a.toList b.toList
theorem klt_irrefl (a : ByteArray) : klt a a = false := bl_irrefl _
theorem klt_trans {a b c : ByteArray} (h : klt a b = true) (h' : klt b c = true) : klt a c = true := bl_trans _ _ _ h h'
theorem klt_tri {a b : ByteArray} (h : klt a b = false) (h' : klt b a = false) : a = b := bytes_ext (bl_tri _ _ h h')
theorem cmpB_lt (a b : ByteArray) : decide (cmpB a b < 0) = klt a b := by
  unfold cmpB klt
  split
  · next h => rw [h]; rfl
  · next h =>
    rw [Bool.not_eq_true] at h
    rw [h]
    split <;> rfl
theorem cmpB_eq (a b : ByteArray) : (cmpB a b == 0) = decide (a = b) := by
  unfold cmpB
  by_cases e : a = b
  · subst e
    rw [if_neg (by rw [bl_irrefl]; decide), if_pos (by simp)]
    simp
  · have e2 : (a.toList == b.toList) = false := by
      rw [beq_eq_false_iff_ne]
      exact fun h => e (bytes_ext h)
    rw [e2]
    simp [e]
    split <;> decide
/-- keys rise -/
def Rises : List Itm → Prop
  | [] => True
  | x :: l => (∀ y ∈ l, klt x.key y.key = true) ∧ Rises l
theorem Rises.get : ∀ {l : List Itm}, Rises l → ∀ {i j : Nat} {x y : Itm}, i < j → l[i]? = some x → l[j]? = some y → klt x.key y.key = true
  | [], _, i, j, x, y, _, hx, _ => by simp at hx
  | z :: l, h, 0, j + 1, x, y, _, hx, hy => by
    simp at hx hy
    subst hx
    exact h.1 y (List.mem_of_getElem? hy)
  | z :: l, h, i + 1, j + 1, x, y, hij, hx, hy => by
    simp at hx hy
    exact Rises.get h.2 (by omega) hx hy
/-- how many keys are less -/
def lb (l : List Itm) (k : ByteArray) : Nat := (l.takeWhile fun x => klt x.key k).length
def hasK (l : List Itm) (k : ByteArray) : Bool := (l[lb l k]?).any fun x => decide (x.key = k)
end Go.Proofs.YtdfgdnaejnngoaaGreat
namespace Go.Proofs.YtdfgdnaejnngoaaGreat
open Go.RowKit
/-! Model and Prune: slices.BinarySearchFunc over items. -/
theorem lb_eq : ∀ (l : List Itm) (k : ByteArray) (n : Nat), n ≤ l.length → (∀ j x, j < n → l[j]? = some x → klt x.key k = true) → (∀ j x, n ≤ j → l[j]? = some x → klt x.key k = false) → lb l k = n
  | [], _, n, h, _, _ => by simp at h; simp [lb, h]
  | x :: l, k, 0, _, _, h2 => by
    have := h2 0 x (Nat.le_refl _) rfl
    simp [lb, this]
  | x :: l, k, n + 1, h, h1, h2 => by
    have hx := h1 0 x (by omega) rfl
    have := lb_eq l k n (by simpa using h) (fun j y hj hy => h1 (j + 1) y (by omega) (by simpa using hy)) (fun j y hj hy => h2 (j + 1) y (by omega) (by simpa using hy))
    unfold lb at this ⊢
    rw [List.takeWhile_cons, if_pos hx, List.length_cons, this]
theorem lb_le (l : List Itm) (k : ByteArray) : lb l k ≤ l.length := by
  unfold lb
  exact (List.takeWhile_sublist _).length_le
set_option maxHeartbeats 1000000 in
set_option maxRecDepth 100000 in
theorem bsearch_any (A : Option Addr) (cap : Nat) (l : List Itm) (t : Itm) (w : World) (hel : Elems w A 2 (l.map Itm.cells)) (hr : Rises l) (hl : l.length ≤ 100000) : Calls Tryz.prog 127 #[.slice A l.length cap, t.v, .func (.func 86) #[] #[]] w
    fun e w' => e = .returned (.tuple #[.int .i64 (lb l t.key), .bool (hasK l t.key)]) ∧ Below w.heap.size w w' := by
  have HE := Lib.hid hel
  have HR := Lib.hid hr
  clear hel hr
  obtain ⟨k, tv⟩ := t
  rw [Itm.v_def]
  go_enter Tryz.func127, Tryz.ntmps127
  go_wp2
  go_loopw [9, 10, 11] (fun i j _ wr => ∃ p q : Nat, i = .int .i64 p ∧ j = .int .i64 q ∧ p ≤ q ∧ q ≤ l.length ∧ (∀ j x, j < p → l[j]? = some x → klt x.key k = true) ∧ (∀ j x, q ≤ j → l[j]? = some x → klt x.key k = false) ∧ Below w.heap.size w wr ∧ wr.cell? ⟨w.heap.size, 0, none⟩ = some (.string k) ∧ wr.cell? ⟨w.heap.size, 1, none⟩ = some (.string tv) ∧ w.heap.size < wr.heap.size) (fun i j _ _ => (intOf j).toNat - (intOf i).toNat)
  case atStart => exact ⟨0, l.length, rfl, rfl, by omega, by omega, fun j x hj => by omega, fun j x hj hx => by have := (List.getElem?_eq_some_iff.1 hx).1; omega, (by repeat (first | assumption | exact Below.refl _ _ | (refine below_step (w := ?_) ?_ ?_ ?_; rotate_left 2; assumption) | refine Below.drew ?_ | refine below_drewN ?_ _ | refine Below.alloc ?_ ?_ _ | refine Below.setCell ?_ ?_ _ | (focus (simp; done)) | (focus (simp; omega)) | omega)), by rw [Lib.cell_of_heap (heap_alloc_new w _)]; rfl, by rw [Lib.cell_of_heap (heap_alloc_new w _)]; rfl, by simp⟩
  case round =>
    obtain ⟨p, q, rfl, rfl, hpq, hql, hlo, hhi, hbel, c0, c1, hlt⟩ := hrel
    have HLO := Lib.hid hlo
    have HHI := Lib.hid hhi
    clear hlo hhi
    have HCMP := Lib.hid (fun (x y : Itm) W => keyCompare_any x y W)
    by_cases hpq2 : p < q
    · have hpI : (p : Int) < (q : Int) := by omega
      go_wp2
      obtain ⟨m, hm⟩ : ∃ m : Nat, ((p : Int) + (q : Int)) / 2 = (m : Int) := ⟨(p + q) / 2, by omega⟩
      rw [hm]
      have hm1 : p ≤ m := by omega
      have hm2 : m < q := by omega
      have hmI : (m : Int) < (l.length : Int) := by omega
      obtain ⟨x, hx⟩ := get_lt (l := l) (i := m) (by omega)
      obtain ⟨b, off, rfl, hblt, hcells⟩ := HE.out m x.cells (by simp [hx])
      have d0 := (hbel.cell (p := ⟨b, _, none⟩) hblt).trans (hcells 0 _ rfl)
      have d1 := (hbel.cell (p := ⟨b, _, none⟩) hblt).trans (hcells 1 _ rfl)
      simp only [Nat.add_zero] at d0
      have hcmp := cmpB_lt x.key k
      have hxl : ∀ j y, j < m + 1 → klt x.key k = true → l[j]? = some y → klt y.key k = true := fun j y hj hk hy => by
        by_cases e : j = m
        · subst e
          rw [hx] at hy
          cases hy
          exact hk
        · exact klt_trans (HR.out.get (by omega) hy hx) hk
      have hxh : ∀ j y, m ≤ j → klt x.key k = false → l[j]? = some y → klt y.key k = false := fun j y hj hk hy => by
        by_cases e : j = m
        · subst e
          rw [hx] at hy
          cases hy
          exact hk
        · cases h : klt y.key k
          · rfl
          · rw [klt_trans (HR.out.get (by omega) hx hy) h] at hk
            cases hk
      obtain ⟨xk, xv⟩ := x
      have hcall := fun W => HCMP.out ⟨xk, xv⟩ ⟨k, tv⟩ W
      rw [Itm.v_def, Itm.v_def] at hcall
      dsimp only at hcall hcmp hxl hxh
      generalize cmpB xk k = c at hcall hcmp
      generalize klt xk k = s at hcmp hxl hxh
      have HC := Lib.hid hcall
      have HXL := Lib.hid hxl
      have HXH := Lib.hid hxh
      have HM := Lib.hid hm
      have HX := Lib.hid hx
      clear hcall hxl hxh hm hcells hx
      refine rg_start (n := 8) (fun w' => w'.cell? ⟨w.heap.size, 0, none⟩ = some (.string k) ∧ w'.cell? ⟨w.heap.size, 1, none⟩ = some (.string tv) ∧ w'.cell? ⟨b, off + m * 2, none⟩ = some (.string xk) ∧ w'.cell? ⟨b, off + m * 2 + 1, none⟩ = some (.string xv) ∧ Below w.heap.size w w' ∧ w.heap.size < w'.heap.size) #[false, false, false, false, false, false, false, false] (by kernel_rfl) rfl rfl ⟨c0, c1, d0, d1, hbel.drew, hlt⟩ (fun hHeld => ?_)
      refine rg_take (i := 0) (N := (some 24)) (v := ?_) (a' := ?_) #[true, false, false, false, false, false, false, false] rfl rfl (by kernel_rfl) (fun _ _ _ h => h) (by rfl) ?_ hHeld ?_ ?_
      rotate_left 2
      · rintro w' ⟨s0, s1, s2, s3, s4, s5⟩
        go_simp
        try with_reducible rfl
      · simp only [Act.put, List.setIfInBounds_toArray, List.set_cons_zero, List.set_cons_succ]
        rfl
      refine rg_take (i := 1) (N := (some 25)) (v := ?_) (a' := ?_) #[true, true, false, false, false, false, false, false] rfl rfl (by kernel_rfl) (fun _ _ _ h => h) (by rfl) ?_ hHeld ?_ ?_
      rotate_left 2
      · rintro w' ⟨s0, s1, s2, s3, s4, s5⟩
        go_simp
        try with_reducible rfl
      · simp only [Act.put, List.setIfInBounds_toArray, List.set_cons_zero, List.set_cons_succ]
        rfl
      refine rg_take (i := 2) (N := (some 26)) (v := ?_) (a' := ?_) #[true, true, true, false, false, false, false, false] rfl rfl (by kernel_rfl) (fun _ _ _ h => h) (by rfl) ?_ hHeld ?_ ?_
      rotate_left 2
      · rintro w' ⟨s0, s1, s2, s3, s4, s5⟩
        go_simp
        try with_reducible rfl
      · simp only [Act.put, List.setIfInBounds_toArray, List.set_cons_zero, List.set_cons_succ]
        rfl
      refine rg_take (i := 3) (N := (some 27)) (v := ?_) (a' := ?_) #[true, true, true, true, false, false, false, false] rfl rfl (by kernel_rfl) (fun _ _ _ h => h) (by rfl) ?_ hHeld ?_ ?_
      rotate_left 2
      · rintro w' ⟨s0, s1, s2, s3, s4, s5⟩
        go_simp
        try with_reducible rfl
      · simp only [Act.put, List.setIfInBounds_toArray, List.set_cons_zero, List.set_cons_succ]
        rfl
      refine rg_take (i := 4) (N := (some 28)) (v := ?_) (a' := ?_) #[true, true, true, true, true, false, false, false] rfl rfl (by kernel_rfl) (fun _ _ _ h => h) (by rfl) ?_ hHeld ?_ ?_
      rotate_left 2
      · rintro w' ⟨s0, s1, s2, s3, s4, s5⟩
        go_simp
        try with_reducible rfl
      · simp only [Act.put, List.setIfInBounds_toArray, List.set_cons_zero, List.set_cons_succ]
        rfl
      refine rg_take (i := 5) (N := (some 29)) (v := ?_) (a' := ?_) #[true, true, true, true, true, true, false, false] rfl rfl (by kernel_rfl) (fun _ _ _ h => h) (by rfl) ?_ hHeld ?_ ?_
      rotate_left 2
      · rintro w' ⟨s0, s1, s2, s3, s4, s5⟩
        go_simp
        try with_reducible rfl
      · simp only [Act.put, List.setIfInBounds_toArray, List.set_cons_zero, List.set_cons_succ]
        rfl
      refine rg_one (i := 6) #[true, true, true, true, true, true, true, false] rfl (by kernel_rfl) (by rfl) (fun K hK => ?_)
      obtain ⟨s0, s1, s2, s3, s4, s5⟩ := hHeld
      repeat go_step
      ((with_reducible refine (HC.out _).mono ?_); rintro e w2 ⟨rfl, hb2⟩)
      try dsimp only
      refine hK.out _ _ ?_ (fun hHeld => ?_)
      · (repeat (first | (with_reducible assumption) | (with_reducible apply And.intro) | (with_reducible refine keep_cell (w := ?_) ?_ ?_ ?_; rotate_left; with_reducible assumption) | (with_reducible refine keep_cell_alloc ?_ ?_) | (with_reducible refine keep_lt (w := ?_) ?_ ?_; rotate_left; with_reducible assumption) | (with_reducible refine keep_lt_alloc ?_) | (with_reducible refine below_next (w := ?_) ?_ ?_; rotate_left 2; with_reducible assumption) | (with_reducible refine below_alloc ?_) | (with_reducible refine Below.drew ?_) | (with_reducible refine keep_lt_drew ?_) | (with_reducible refine keep_cell_drew ?_)))
      clear hK K
      clear s0 s1 s2 s3 s4 s5
      refine rg_take (i := 7) (N := (some 31)) (v := ?_) (a' := ?_) #[true, true, true, true, true, true, true, true] rfl rfl (by kernel_rfl) (fun _ _ _ h => h) (by rfl) ?_ hHeld ?_ ?_
      rotate_left 2
      · rintro w' ⟨s0, s1, s2, s3, s4, s5⟩
        go_simp
        try with_reducible rfl
      · simp only [Act.put, List.setIfInBounds_toArray, List.set_cons_zero, List.set_cons_succ]
        rfl
      refine rg_done (by kernel_rfl) ?_
      obtain ⟨t0, t1, t2, t3, t4, t5⟩ := hHeld
      clear d0 d1 c0 c1 t2 t3
      cases s
      · go_wp2
        refine ⟨⟨p, m, rfl, rfl, hm1, by omega, HLO.out, fun j y hj hy => HXH.out j y hj rfl hy, t4, t0, t1, t5⟩, ?_⟩
        simp [intOf]
        omega
      · go_wp2
        refine ⟨⟨m + 1, q, by go_num, rfl, by omega, hql, fun j y hj hy => HXL.out j y hj rfl hy, HHI.out, t4, t0, t1, t5⟩, ?_⟩
        simp [intOf]
        omega
    · obtain rfl : p = q := by omega
      have hlb := lb_eq l k p hql HLO.out HHI.out
      have hhk : hasK l k = (l[p]?).any fun x => decide (x.key = k) := by
        unfold hasK
        rw [hlb]
      have HLB := Lib.hid hlb
      by_cases hpl : p < l.length
      · have hpI : (p : Int) < (l.length : Int) := by omega
        obtain ⟨x, hx⟩ := get_lt hpl
        obtain ⟨b, off, rfl, hblt, hcells⟩ := HE.out p x.cells (by simp [hx])
        have d0 := (hbel.cell (p := ⟨b, _, none⟩) hblt).trans (hcells 0 _ rfl)
        have d1 := (hbel.cell (p := ⟨b, _, none⟩) hblt).trans (hcells 1 _ rfl)
        simp only [Nat.add_zero] at d0
        have hcmp := cmpB_eq x.key k
        rw [hx, Option.any_some] at hhk
        rw [← hcmp] at hhk
        obtain ⟨xk, xv⟩ := x
        have hcall := fun W => HCMP.out ⟨xk, xv⟩ ⟨k, tv⟩ W
        rw [Itm.v_def, Itm.v_def] at hcall
        dsimp only at hcall hhk
        generalize cmpB xk k = c at hcall hhk
        have HC := Lib.hid hcall
        have HK := Lib.hid hhk
        clear hcall hhk hcells hx hcmp hlb
        go_wp2
        refine rg_start (n := 16) (fun w' => w'.cell? ⟨w.heap.size, 0, none⟩ = some (.string k) ∧ w'.cell? ⟨w.heap.size, 1, none⟩ = some (.string tv) ∧ w'.cell? ⟨b, off + p * 2, none⟩ = some (.string xk) ∧ w'.cell? ⟨b, off + p * 2 + 1, none⟩ = some (.string xv) ∧ Below w.heap.size w w' ∧ w.heap.size < w'.heap.size) #[false, false, false, false, false, false, false, false, false, false, false, false, false, false, false, false] (by kernel_rfl) rfl rfl ⟨c0, c1, d0, d1, hbel.drew, hlt⟩ (fun hHeld => ?_)
        refine rg_take (i := 0) (N := (some 35)) (v := ?_) (a' := ?_) #[true, false, false, false, false, false, false, false, false, false, false, false, false, false, false, false] rfl rfl (by kernel_rfl) (fun _ _ _ h => h) (by rfl) ?_ hHeld ?_ ?_
        rotate_left 2
        · rintro w' ⟨s0, s1, s2, s3, s4, s5⟩
          go_simp
          try with_reducible rfl
        · simp only [Act.put, List.setIfInBounds_toArray, List.set_cons_zero, List.set_cons_succ]
          rfl
        refine rg_take (i := 1) (N := (some 36)) (v := ?_) (a' := ?_) #[true, true, false, false, false, false, false, false, false, false, false, false, false, false, false, false] rfl rfl (by kernel_rfl) (fun _ _ _ h => h) (by rfl) ?_ hHeld ?_ ?_
        rotate_left 2
        · rintro w' ⟨s0, s1, s2, s3, s4, s5⟩
          go_simp
          try with_reducible rfl
        · simp only [Act.put, List.setIfInBounds_toArray, List.set_cons_zero, List.set_cons_succ]
          rfl
        refine rg_take (i := 2) (N := (some 37)) (v := ?_) (a' := ?_) #[true, true, true, false, false, false, false, false, false, false, false, false, false, false, false, false] rfl rfl (by kernel_rfl) (fun _ _ _ h => h) (by rfl) ?_ hHeld ?_ ?_
        rotate_left 2
        · rintro w' ⟨s0, s1, s2, s3, s4, s5⟩
          go_simp
          try with_reducible rfl
        · simp only [Act.put, List.setIfInBounds_toArray, List.set_cons_zero, List.set_cons_succ]
          rfl
        refine rg_take (i := 3) (N := (some 38)) (v := ?_) (a' := ?_) #[true, true, true, true, false, false, false, false, false, false, false, false, false, false, false, false] rfl rfl (by kernel_rfl) (fun _ _ _ h => h) (by rfl) ?_ hHeld ?_ ?_
        rotate_left 2
        · rintro w' ⟨s0, s1, s2, s3, s4, s5⟩
          go_simp
          try with_reducible rfl
        · simp only [Act.put, List.setIfInBounds_toArray, List.set_cons_zero, List.set_cons_succ]
          rfl
        refine rg_take (i := 4) (N := (some 39)) (v := ?_) (a' := ?_) #[true, true, true, true, true, false, false, false, false, false, false, false, false, false, false, false] rfl rfl (by kernel_rfl) (fun _ _ _ h => h) (by rfl) ?_ hHeld ?_ ?_
        rotate_left 2
        · rintro w' ⟨s0, s1, s2, s3, s4, s5⟩
          go_simp
          try with_reducible rfl
        · simp only [Act.put, List.setIfInBounds_toArray, List.set_cons_zero, List.set_cons_succ]
          rfl
        refine rg_take (i := 5) (N := (some 40)) (v := ?_) (a' := ?_) #[true, true, true, true, true, true, false, false, false, false, false, false, false, false, false, false] rfl rfl (by kernel_rfl) (fun _ _ _ h => h) (by rfl) ?_ hHeld ?_ ?_
        rotate_left 2
        · rintro w' ⟨s0, s1, s2, s3, s4, s5⟩
          go_simp
          try with_reducible rfl
        · simp only [Act.put, List.setIfInBounds_toArray, List.set_cons_zero, List.set_cons_succ]
          rfl
        refine rg_take (i := 6) (N := (some 41)) (v := ?_) (a' := ?_) #[true, true, true, true, true, true, true, false, false, false, false, false, false, false, false, false] rfl rfl (by kernel_rfl) (fun _ _ _ h => h) (by rfl) ?_ hHeld ?_ ?_
        rotate_left 2
        · rintro w' ⟨s0, s1, s2, s3, s4, s5⟩
          go_simp
          try with_reducible rfl
        · simp only [Act.put, List.setIfInBounds_toArray, List.set_cons_zero, List.set_cons_succ]
          rfl
        refine rg_take (i := 7) (N := (some 42)) (v := ?_) (a' := ?_) #[true, true, true, true, true, true, true, true, false, false, false, false, false, false, false, false] rfl rfl (by kernel_rfl) (fun _ _ _ h => h) (by rfl) ?_ hHeld ?_ ?_
        rotate_left 2
        · rintro w' ⟨s0, s1, s2, s3, s4, s5⟩
          go_simp
          try with_reducible rfl
        · simp only [Act.put, List.setIfInBounds_toArray, List.set_cons_zero, List.set_cons_succ]
          rfl
        refine rg_take (i := 8) (N := (some 43)) (v := ?_) (a' := ?_) #[true, true, true, true, true, true, true, true, true, false, false, false, false, false, false, false] rfl rfl (by kernel_rfl) (fun _ _ _ h => h) (by rfl) ?_ hHeld ?_ ?_
        rotate_left 2
        · rintro w' ⟨s0, s1, s2, s3, s4, s5⟩
          go_simp
          try with_reducible rfl
        · simp only [Act.put, List.setIfInBounds_toArray, List.set_cons_zero, List.set_cons_succ]
          rfl
        refine rg_take (i := 9) (N := (some 44)) (v := ?_) (a' := ?_) #[true, true, true, true, true, true, true, true, true, true, false, false, false, false, false, false] rfl rfl (by kernel_rfl) (fun _ _ _ h => h) (by rfl) ?_ hHeld ?_ ?_
        rotate_left 2
        · rintro w' ⟨s0, s1, s2, s3, s4, s5⟩
          go_simp
          try with_reducible rfl
        · simp only [Act.put, List.setIfInBounds_toArray, List.set_cons_zero, List.set_cons_succ]
          rfl
        refine rg_take (i := 10) (N := (some 45)) (v := ?_) (a' := ?_) #[true, true, true, true, true, true, true, true, true, true, true, false, false, false, false, false] rfl rfl (by kernel_rfl) (fun _ _ _ h => h) (by rfl) ?_ hHeld ?_ ?_
        rotate_left 2
        · rintro w' ⟨s0, s1, s2, s3, s4, s5⟩
          go_simp
          try with_reducible rfl
        · simp only [Act.put, List.setIfInBounds_toArray, List.set_cons_zero, List.set_cons_succ]
          rfl
        refine rg_one (i := 11) #[true, true, true, true, true, true, true, true, true, true, true, true, false, false, false, false] rfl (by kernel_rfl) (by rfl) (fun K hK => ?_)
        obtain ⟨s0, s1, s2, s3, s4, s5⟩ := hHeld
        repeat go_step
        ((with_reducible refine (HC.out _).mono ?_); rintro e w2 ⟨rfl, hb2⟩)
        try dsimp only
        refine hK.out _ _ ?_ (fun hHeld => ?_)
        · (repeat (first | (with_reducible assumption) | (with_reducible apply And.intro) | (with_reducible refine keep_cell (w := ?_) ?_ ?_ ?_; rotate_left; with_reducible assumption) | (with_reducible refine keep_cell_alloc ?_ ?_) | (with_reducible refine keep_lt (w := ?_) ?_ ?_; rotate_left; with_reducible assumption) | (with_reducible refine keep_lt_alloc ?_) | (with_reducible refine below_next (w := ?_) ?_ ?_; rotate_left 2; with_reducible assumption) | (with_reducible refine below_alloc ?_) | (with_reducible refine Below.drew ?_) | (with_reducible refine keep_lt_drew ?_) | (with_reducible refine keep_cell_drew ?_)))
        clear hK K
        clear s0 s1 s2 s3 s4 s5
        refine rg_take (i := 12) (N := (some 47)) (v := ?_) (a' := ?_) #[true, true, true, true, true, true, true, true, true, true, true, true, true, false, false, false] rfl rfl (by kernel_rfl) (fun _ _ _ h => h) (by rfl) ?_ hHeld ?_ ?_
        rotate_left 2
        · rintro w' ⟨s0, s1, s2, s3, s4, s5⟩
          go_simp
          try with_reducible rfl
        · simp only [Act.put, List.setIfInBounds_toArray, List.set_cons_zero, List.set_cons_succ]
          rfl
        refine rg_take (i := 13) (N := (some 48)) (v := ?_) (a' := ?_) #[true, true, true, true, true, true, true, true, true, true, true, true, true, true, false, false] rfl rfl (by kernel_rfl) (fun _ _ _ h => h) (by rfl) ?_ hHeld ?_ ?_
        rotate_left 2
        · rintro w' ⟨s0, s1, s2, s3, s4, s5⟩
          go_simp
          try with_reducible rfl
        · simp only [Act.put, List.setIfInBounds_toArray, List.set_cons_zero, List.set_cons_succ]
          rfl
        refine rg_take (i := 14) (N := (some 6)) (v := ?_) (a' := ?_) #[true, true, true, true, true, true, true, true, true, true, true, true, true, true, true, false] rfl rfl (by kernel_rfl) (fun _ _ _ h => h) (by rfl) ?_ hHeld ?_ ?_
        rotate_left 2
        · rintro w' ⟨s0, s1, s2, s3, s4, s5⟩
          go_simp
          try with_reducible rfl
        · simp only [Act.put, List.setIfInBounds_toArray, List.set_cons_zero, List.set_cons_succ]
          rfl
        refine rg_take (i := 15) (N := (some 7)) (v := ?_) (a' := ?_) #[true, true, true, true, true, true, true, true, true, true, true, true, true, true, true, true] rfl rfl (by kernel_rfl) (fun _ _ _ h => h) (by rfl) ?_ hHeld ?_ ?_
        rotate_left 2
        · rintro w' ⟨s0, s1, s2, s3, s4, s5⟩
          go_simp
          try with_reducible rfl
        · simp only [Act.put, List.setIfInBounds_toArray, List.set_cons_zero, List.set_cons_succ]
          rfl
        refine rg_done (by kernel_rfl) ?_
        go_wp2
        (try simp only [Exit.inBlock, Exit.then])
        refine bodyPost_ret (results_tmp2 rfl _ _ _) rfl ⟨by rw [HLB.out, HK.out]; rfl, hHeld.2.2.2.2.1⟩
      · obtain rfl : p = l.length := by omega
        have hnone : l[l.length]? = none := by simp
        rw [hnone, Option.any_none] at hhk
        have HK := Lib.hid hhk
        clear hnone hhk hlb
        go_wp2
        go_quiet (fail)
        go_wp2
        (try simp only [Exit.inBlock, Exit.then])
        refine bodyPost_ret (results_tmp2 rfl _ _ _) rfl ⟨by rw [HLB.out, HK.out]; rfl, (by repeat (first | assumption | exact Below.refl _ _ | (refine below_step (w := ?_) ?_ ?_ ?_; rotate_left 2; assumption) | refine Below.drew ?_ | refine below_drewN ?_ _ | refine Below.alloc ?_ ?_ _ | refine Below.setCell ?_ ?_ _ | (focus (simp; done)) | (focus (simp; omega)) | omega))⟩
end Go.Proofs.YtdfgdnaejnngoaaGreat
namespace Go.Proofs.YtdfgdnaejnngoaaGreat
open Go.RowKit
/-! Rows that a call has made: a list's view of them, whatever stands in them. -/
section
variable {α : Type} {f : α → List Value} {k : Nat} {e : TypeId}

def OwnsG (f : α → List Value) (k : Nat) (e : TypeId) (w : World) (B : Nat) (v : Value) (l : List α) : Prop := w.ownsRow B e k v l.length (l.map f).flatten

theorem OwnsG.fr {S : Nat → Prop} {w w' : World} {B : Nat} {v : Value} {l : List α} (h : OwnsG f k e w B v l) (hf : Fr S w w') (hs : ∀ k, B ≤ k → ¬ S k) : OwnsG f k e w' B v l := by
  refine ⟨h.1, ?_⟩
  rcases h.2 with hn | ⟨g, cap, cur, rfl, hb, hgg, rest⟩
  · exact .inl hn
  · exact .inr ⟨g, cap, cur, rfl, hb, (hf.block g (Array.getElem?_eq_some_iff.1 hgg).1 (hs g hb)).trans hgg, rest⟩
/-- as long as its own block is left -/
theorem OwnsG.fr' {S : Nat → Prop} {w w' : World} {B : Nat} {v : Value} {l : List α} (h : OwnsG f k e w B v l) (hf : Fr S w w') (hs : ∀ g, v.ownBlock = some g → ¬ S g) : OwnsG f k e w' B v l := by
  refine ⟨h.1, ?_⟩
  rcases h.2 with hn | ⟨g, cap, cur, rfl, hb, hgg, rest⟩
  · exact .inl hn
  · exact .inr ⟨g, cap, cur, rfl, hb, (hf.block g (Array.getElem?_eq_some_iff.1 hgg).1 (hs g rfl)).trans hgg, rest⟩
theorem OwnsG.below {w w' : World} {B : Nat} {v : Value} {l : List α} (h : OwnsG f k e w B v l) (hf : Below w.heap.size w w') : OwnsG f k e w' B v l := h.fr (Fr.of_below (S := fun _ => False) hf) (fun _ _ h => h)
theorem OwnsG.alloc {w : World} {B : Nat} {v : Value} {l : List α} (h : OwnsG f k e w B v l) (o : Obj) : OwnsG f k e (w.alloc o) B v l := h.fr ((Fr.refl (fun _ => False) w).alloc o) (fun _ _ h => h)
theorem OwnsG.drew {w : World} {B : Nat} {v : Value} {l : List α} (h : OwnsG f k e w B v l) : OwnsG f k e w.drew B v l := h
theorem OwnsG.nil (w : World) (B : Nat) : OwnsG f k e w B (.slice none 0 0) [] := World.ownsRow_nil _ _ _ _
theorem OwnsG.slice {w : World} {B : Nat} {v : Value} {l : List α} (h : OwnsG f k e w B v l) : ∃ A cap, v = .slice A l.length cap := by
  rcases h.2 with ⟨rfl, hn⟩ | ⟨g, cap, cur, rfl, _⟩
  · exact ⟨none, 0, by rw [hn]⟩
  · exact ⟨_, _, rfl⟩
theorem OwnsG.base {w : World} {B B' : Nat} {v : Value} {l : List α} (h : OwnsG f k e w B v l) (hB : B' ≤ B) : OwnsG f k e w B' v l := by
  refine ⟨h.1, ?_⟩
  rcases h.2 with hn | ⟨g, cap, cur, rfl, hb, rest⟩
  · exact .inl hn
  · exact .inr ⟨g, cap, cur, rfl, Nat.le_trans hB hb, rest⟩
theorem OwnsG.len {w : World} {B n cap : Nat} {A : Option Addr} {l : List α} (h : OwnsG f k e w B (.slice A n cap) l) : n = l.length := by
  rcases h.2 with ⟨he, hn⟩ | ⟨g, cap, cur, he, _⟩
  · cases he; exact hn.symm
  · cases he; rfl
theorem OwnsG.elems (hk : ∀ a, (f a).length = k) {w : World} {B : Nat} {A : Option Addr} {n cap : Nat} {l : List α} (h : OwnsG f k e w B (.slice A n cap) l) : Elems w A k (l.map f) := by
  rcases h.2 with ⟨he, hn⟩ | ⟨g, cap', cur, he, _, hgg, _, _, _, htake⟩
  · have : l = [] := List.eq_nil_of_length_eq_zero hn
    subst this
    exact Elems.nil _ _ _
  · cases he
    intro i r hr
    refine ⟨g, 0, rfl, (Array.getElem?_eq_some_iff.1 hgg).1, fun j u hu => ?_⟩
    have h6 : ∀ r ∈ l.map f, r.length = k := fun r hr => by
      obtain ⟨o, _, rfl⟩ := List.mem_map.1 hr
      exact hk o
    have hf := flatten_at h6 i r hr j u hu
    rw [Lib.cell_of_heap hgg]
    rw [← htake, List.getElem?_take] at hf
    split at hf
    · simpa using hf
    · cases hf
/-- an element's cells -/
theorem OwnsG.row (hk : ∀ a, (f a).length = k) {w : World} {B : Nat} {A : Option Addr} {n cap : Nat} {l : List α} (h : OwnsG f k e w B (.slice A n cap) l) {j : Nat} {p : α} (hp : l[j]? = some p) : ∃ g, A = some ⟨g, 0, none⟩ ∧ B ≤ g ∧ g < w.heap.size ∧ n ≤ cap ∧ ∀ i u, (f p)[i]? = some u → w.cell? ⟨g, j * k + i, none⟩ = some u := by
  have he := h.elems hk
  rcases h.2 with ⟨_, hn⟩ | ⟨g, cap', cur, e', hb, hgg, hc, _⟩
  · have hj := (List.getElem?_eq_some_iff.1 hp).1
    omega
  · cases e'
    obtain ⟨b', off, e2, hl, hc'⟩ := he j (f p) (by simp [hp])
    cases e2
    simp only [Nat.zero_add] at hc'
    exact ⟨g, rfl, hb, hl, hc, hc'⟩
theorem OwnsG.unfrozen {w : World} {B : Nat} {g n cap : Nat} {l : List α} (h : OwnsG f k e w B (.slice (some ⟨g, 0, none⟩) n cap) l) (o : Nat) : w.frozen? ⟨g, o, none⟩ = false := by
  rcases h.2 with ⟨he, hn⟩ | ⟨g', cap', cur, he, _, hgg, _⟩
  · cases he
  · cases he
    exact Lib.frozen_of_heap hgg o
/-- fewer of them -/
theorem OwnsG.take (hk : ∀ a, (f a).length = k) {w : World} {B n cap m : Nat} {A : Option Addr} {l : List α} (h : OwnsG f k e w B (.slice A n cap) l) (hm : m ≤ l.length) (h0 : 0 < l.length) : OwnsG f k e w B (.slice A m cap) (l.take m) := by
  have hlen : (l.take m).length = m := by simp [List.length_take]; omega
  have hfl : ∀ (l : List α) (m : Nat), m ≤ l.length → ((l.take m).map f).flatten = ((l.map f).flatten).take (m * k) := by
    intro l
    induction l with
    | nil => intro m hm; simp
    | cons x l ih =>
      intro m hm
      cases m with
      | zero => simp
      | succ m =>
        simp only [List.take_succ_cons, List.map_cons, List.flatten_cons]
        rw [ih m (by simpa using hm), List.take_append, hk]
        rw [show (m + 1) * k - k = m * k from by rw [Nat.succ_mul]; omega]
        rw [List.take_of_length_le (l := f x) (by rw [hk, Nat.succ_mul]; omega)]
  have h1 : (l.map f).flatten.length = l.length * k := h.1
  rcases h.2 with ⟨he, hn⟩ | ⟨g, cap', cur, he, hb, hgg, hc1, hc2, hc3, htake⟩
  · omega
  · cases he
    have hmk : m * k ≤ l.length * k := Nat.mul_le_mul_right k hm
    refine ⟨?_, .inr ⟨g, _, cur, by rw [hlen], hb, hgg, by rw [hlen]; omega, hc2, hc3, ?_⟩⟩
    · rw [hfl l m hm, hlen, List.length_take, h1]
      omega
    · rw [hfl l m hm, hlen, ← htake, List.take_take]
      congr 1
      omega
/-- a row's new value of one element: its cells are these -/
theorem OwnsG.set {w w' : World} {B n cap g i : Nat} {l : List α} {a : α} {cur' : Array Value} (h : OwnsG f k e w B (.slice (some ⟨g, 0, none⟩) n cap) l) (hg : w'.heap[g]? = some (.cells cur' e (0, 0)))
    (hcur : ∀ cur, w.heap[g]? = some (.cells cur e (0, 0)) → cur'.size = cur.size ∧ cur'.toList.take (n * k) = ((l.set i a).map f).flatten) (hlen : (((l.set i a).map f).flatten).length = (l.set i a).length * k) : OwnsG f k e w' B (.slice (some ⟨g, 0, none⟩) n cap) (l.set i a) := by
  rcases h.2 with ⟨he, hn⟩ | ⟨g', cap', cur, he, hb, hgg, hc1, hc2, hc3, htake⟩
  · cases he
  · cases he
    obtain ⟨e1, e2⟩ := hcur cur hgg
    exact ⟨hlen, .inr ⟨g, cap, cur', by rw [List.length_set], hb, hg, by rw [List.length_set]; exact hc1, hc2, by rw [e1]; exact hc3, by rw [List.length_set]; exact e2⟩⟩
theorem flatten_length (hk : ∀ a, (f a).length = k) : ∀ l : List α, ((l.map f).flatten).length = l.length * k
  | [] => by simp
  | x :: l => by
    simp only [List.map_cons, List.flatten_cons, List.length_append, List.length_cons]
    rw [hk, flatten_length hk l, Nat.succ_mul]
    omega
theorem flatten_add (l : List α) (o : α) : ((l ++ [o]).map f).flatten = (l.map f).flatten ++ f o := by simp
end
theorem OwnsG.empty {α : Type} {f : α → List Value} {k : Nat} {e : TypeId} {w : World} {B g : Nat} (h : w.heap[g]? = some (.cells #[] e (0, 0))) (hB : B ≤ g) : OwnsG f k e w B (.slice (some ⟨g, 0, none⟩) 0 0) ([] : List α) :=
  ⟨by simp, .inr ⟨g, 0, #[], rfl, hB, h, Nat.le_refl _, Nat.zero_le _, by simp, by simp⟩⟩
/-! Writing one element. -/
def wrL {β : Type} : List β → Nat → List β → List β
  | l, _, [] => l
  | l, o, u :: us => wrL (l.set o u) (o + 1) us
def wrW (w : World) (g o : Nat) : List Value → World
  | [] => w
  | u :: us => wrW (w.setCell ⟨g, o, none⟩ u) g (o + 1) us
theorem wrL_length {β : Type} : ∀ (us l : List β) (o : Nat), (wrL l o us).length = l.length
  | [], l, o => rfl
  | u :: us, l, o => by rw [wrL, wrL_length us, List.length_set]
theorem wrL_take {β : Type} (m : Nat) : ∀ (us l : List β) (o : Nat), (wrL l o us).take m = wrL (l.take m) o us
  | [], l, o => rfl
  | u :: us, l, o => by rw [wrL, wrL, wrL_take m us, List.take_set]
theorem wrL_mid {β : Type} : ∀ (us xs : List β), xs.length = us.length → ∀ (pre ys : List β), wrL (pre ++ (xs ++ ys)) pre.length us = pre ++ (us ++ ys)
  | [], xs, h, pre, ys => by
    obtain rfl : xs = [] := List.eq_nil_of_length_eq_zero (by simpa using h)
    rfl
  | u :: us, [], h, pre, ys => by simp at h
  | u :: us, x :: xs, h, pre, ys => by
    have e : (pre ++ (x :: xs ++ ys)).set pre.length u = (pre ++ [u]) ++ (xs ++ ys) := by
      rw [List.set_append_right _ _ (Nat.le_refl _), Nat.sub_self]
      simp
    have ih := wrL_mid us xs (by simpa using h) (pre ++ [u]) ys
    rw [List.length_append] at ih
    rw [wrL, e]
    have e2 : pre.length + 1 = pre.length + [u].length := rfl
    rw [e2, ih]
    simp
theorem wrL_flatten {α : Type} {f : α → List Value} {k : Nat} (hk : ∀ a, (f a).length = k) (a : α) : ∀ (l : List α) (i : Nat), i < l.length → ∀ pre : List Value, wrL (pre ++ (l.map f).flatten) (pre.length + i * k) (f a) = pre ++ ((l.set i a).map f).flatten
  | [], i, h, _ => by simp at h
  | x :: l, 0, _, pre => by
    simp only [List.map_cons, List.flatten_cons, List.set_cons_zero, Nat.zero_mul, Nat.add_zero]
    exact wrL_mid (f a) (f x) (by rw [hk, hk]) pre _
  | x :: l, i + 1, h, pre => by
    have ih := wrL_flatten hk a l i (by simpa using h) (pre ++ f x)
    rw [List.length_append, hk] at ih
    simp only [List.map_cons, List.flatten_cons, List.set_cons_succ]
    rw [← List.append_assoc, show pre.length + (i + 1) * k = pre.length + k + i * k from by rw [Nat.succ_mul]; omega, ih, List.append_assoc]
theorem setCell_row {w : World} {g : Nat} {cur : Array Value} {e : TypeId} (h : w.heap[g]? = some (.cells cur e (0, 0))) (o : Nat) (u : Value) : (w.setCell ⟨g, o, none⟩ u).heap[g]? = some (.cells (cur.toList.set o u).toArray e (0, 0)) := by
  obtain ⟨cur⟩ := cur
  simp [World.setCell, Array.getElem?_modify, h]
theorem wrW_heap {e : TypeId} {g : Nat} : ∀ (us : List Value) (w : World) (o : Nat) (cur : List Value), w.heap[g]? = some (.cells cur.toArray e (0, 0)) → (wrW w g o us).heap[g]? = some (.cells (wrL cur o us).toArray e (0, 0))
  | [], w, o, cur, h => h
  | u :: us, w, o, cur, h => by
    rw [wrW, wrL]
    refine wrW_heap us _ _ _ ?_
    have := setCell_row h o u
    simpa using this
theorem wrW_fr {g : Nat} : ∀ (us : List Value) (w : World) (o : Nat), Fr (fun k => k = g) w (wrW w g o us)
  | [], w, o => Fr.refl _ _
  | u :: us, w, o => by
    rw [wrW]
    exact ((Fr.refl (fun k => k = g) w).setCell (p := ⟨g, o, none⟩) (fun _ => rfl) u).trans (wrW_fr us _ _) (fun _ _ h => h)
theorem OwnsG.write {α : Type} {f : α → List Value} {k : Nat} {e : TypeId} (hk : ∀ a, (f a).length = k) {w : World} {B n cap g i : Nat} {l : List α} (h : OwnsG f k e w B (.slice (some ⟨g, 0, none⟩) n cap) l) (hi : i < l.length) (a : α) :
    OwnsG f k e (wrW w g (i * k) (f a)) B (.slice (some ⟨g, 0, none⟩) n cap) (l.set i a) := by
  have hn := h.len
  rcases h.2 with ⟨he, _⟩ | ⟨g', cap', cur, he, hb, hgg, hc1, hc2, hc3, htake⟩
  · cases he
  · cases he
    have h1 := wrW_heap (f a) w (i * k) cur.toList (by simpa using hgg)
    have h2 := wrL_flatten hk a l i hi []
    simp only [List.nil_append, List.length_nil, Nat.zero_add] at h2
    have hlen : (l.set i a).length = l.length := List.length_set
    refine ⟨by rw [flatten_length hk], .inr ⟨g, _, _, by rw [hlen], hb, h1, by rw [hlen]; exact hc1, hc2, ?_, ?_⟩⟩
    · simp only [List.size_toArray, wrL_length]
      simpa using hc3
    · simp only [hlen]
      rw [wrL_take, htake, h2]
end Go.Proofs.YtdfgdnaejnngoaaGreat
namespace Go.Proofs.YtdfgdnaejnngoaaGreat
open Go.RowKit
/-! Model and Prune: leaves. -/
def sumW : List Itm → Int
  | [] => 0
  | x :: l => itW x + sumW l
def Itm.ok (x : Itm) : Prop := isKey x.key = true ∧ isVal x.val = true
/-- a leaf in memory -/
structure LeafAt (w : World) (b : Nat) (A : Option Addr) (cap : Nat) (l : List Itm) : Prop where
  cell : w.heap[b]? = some (.cells #[.slice A l.length cap, .int .i64 (sumW l)] 139 (0, 0))
  els : Elems w A 2 (l.map Itm.cells)
  rises : Rises l
  oks : ∀ x ∈ l, x.ok
  nil : A = none → cap = 0
theorem LeafAt.lt {w : World} {b cap : Nat} {A : Option Addr} {l : List Itm} (h : LeafAt w b A cap l) : b < w.heap.size := lt_of_row h.cell
theorem LeafAt.below {w w' : World} {b cap : Nat} {A : Option Addr} {l : List Itm} (h : LeafAt w b A cap l) (hb : Below w.heap.size w w') : LeafAt w' b A cap l :=
  ⟨(Fr.of_below (S := fun _ => False) hb).row id h.cell, h.els.below hb, h.rises, h.oks, h.nil⟩
theorem LeafAt.c0 {w : World} {b cap : Nat} {A : Option Addr} {l : List Itm} (h : LeafAt w b A cap l) : w.cell? ⟨b, 0, none⟩ = some (.slice A l.length cap) := by rw [Lib.cell_of_heap h.cell]; rfl
theorem LeafAt.c1 {w : World} {b cap : Nat} {A : Option Addr} {l : List Itm} (h : LeafAt w b A cap l) : w.cell? ⟨b, 1, none⟩ = some (.int .i64 (sumW l)) := by rw [Lib.cell_of_heap h.cell]; rfl
theorem leafLen_any (b cap : Nat) (A : Option Addr) (l : List Itm) (w : World) (h : LeafAt w b A cap l) : Calls Tryz.prog 49 #[.pointer (some ⟨b, 0, none⟩)] w fun e w' => e = .returned (.int .i64 l.length) ∧ Below w.heap.size w w' := by
  have c0 := h.c0
  clear h
  go_enter Tryz.func49, Tryz.ntmps49
  go_wp2
  go_ret
  exact ⟨rfl, (by repeat (first | assumption | exact Below.refl _ _ | (refine below_step (w := ?_) ?_ ?_ ?_; rotate_left 2; assumption) | refine Below.drew ?_ | refine below_drewN ?_ _ | refine Below.alloc ?_ ?_ _ | refine Below.setCell ?_ ?_ _ | (focus (simp; done)) | (focus (simp; omega)) | omega))⟩
theorem leafWeight_any (b cap : Nat) (A : Option Addr) (l : List Itm) (w : World) (h : LeafAt w b A cap l) : Calls Tryz.prog 50 #[.pointer (some ⟨b, 0, none⟩)] w fun e w' => e = .returned (.int .i64 (sumW l)) ∧ Below w.heap.size w w' := by
  have c1 := h.c1
  clear h
  go_enter Tryz.func50, Tryz.ntmps50
  go_wp2
  go_ret
  exact ⟨rfl, (by repeat (first | assumption | exact Below.refl _ _ | (refine below_step (w := ?_) ?_ ?_ ?_; rotate_left 2; assumption) | refine Below.drew ?_ | refine below_drewN ?_ _ | refine Below.alloc ?_ ?_ _ | refine Below.setCell ?_ ?_ _ | (focus (simp; done)) | (focus (simp; omega)) | omega))⟩
theorem place_any (b cap : Nat) (A : Option Addr) (l : List Itm) (k : ByteArray) (w : World) (c0 : w.cell? ⟨b, 0, none⟩ = some (.slice A l.length cap)) (hel : Elems w A 2 (l.map Itm.cells)) (hr : Rises l) (hl : l.length ≤ 100000) : Calls Tryz.prog 107 #[.pointer (some ⟨b, 0, none⟩), .string k] w
    fun e w' => e = .returned (.tuple #[.int .i64 (lb l k), .bool (hasK l k)]) ∧ Below w.heap.size w w' := by
  have hs := bsearch_any A cap l ⟨k, ⟨#[]⟩⟩ w hel hr hl
  rw [Itm.v_def] at hs
  dsimp only at hs
  have HS := Lib.hid hs
  clear hs hel hr
  go_enter Tryz.func107, Tryz.ntmps107
  go_wp2_with (go_at_call 127; (with_reducible refine HS.out.mono ?_); rintro e w1 ⟨rfl, hb1⟩)
  (try simp only [Exit.inBlock, Exit.then])
  refine bodyPost_ret (results_tmp2 rfl _ _ _) rfl ⟨rfl, by assumption⟩
end Go.Proofs.YtdfgdnaejnngoaaGreat
namespace Go.Proofs.YtdfgdnaejnngoaaGreat
open Go.RowKit
/-! Model and Prune: leaf.Find. -/
def findV (l : List Itm) (k : ByteArray) : Option ByteArray := if hasK l k = true then (l[lb l k]?).map Itm.val else none
def strO (o : Option ByteArray) : ByteArray := o.getD ⟨#[]⟩
theorem find_any (b cap : Nat) (A : Option Addr) (l : List Itm) (k : ByteArray) (w : World) (h : LeafAt w b A cap l) (hl : l.length ≤ 100000) : Calls Tryz.prog 77 #[.pointer (some ⟨b, 0, none⟩), .string k] w
    fun e w' => e = .returned (.tuple #[.string (strO (findV l k)), .bool (findV l k).isSome]) ∧ Below w.heap.size w w' := by
  have hp := place_any b cap A l k w h.c0 h.els h.rises hl
  have hfv : findV l k = if hasK l k = true then (l[lb l k]?).map Itm.val else none := rfl
  have HL := Lib.hid h
  clear h
  cases hk : hasK l k
  · rw [hk, if_neg (by decide)] at hfv
    rw [hfv]
    rw [hk] at hp
    have HP := Lib.hid hp
    clear hp hfv
    go_enter Tryz.func77, Tryz.ntmps77
    go_wp2_with (go_at_call 107; (with_reducible refine HP.out.mono ?_); rintro e w1 ⟨rfl, hb1⟩)
    (try simp only [Exit.inBlock, Exit.then])
    refine bodyPost_ret (results_tmp2 rfl _ _ _) rfl ⟨rfl, by assumption⟩
  · have hkk := hk
    unfold hasK at hkk
    rw [hk, if_pos rfl] at hfv
    rw [hk] at hp
    generalize lb l k = i at *
    cases hx : l[i]? with
    | none => rw [hx] at hkk; cases hkk
    | some x =>
      rw [hx, Option.map_some] at hfv
      rw [hfv]
      obtain ⟨a, off, rfl, halt, hcells⟩ := HL.out.els i x.cells (by simp [hx])
      have hi := (List.getElem?_eq_some_iff.1 hx).1
      have hiI : (i : Int) < (l.length : Int) := by omega
      have hd : ∀ W : World, Below w.heap.size w W → W.cell? ⟨a, off + i * 2 + 1, none⟩ = some (.string x.val) := fun W hW => (hW.cell (p := ⟨a, _, none⟩) halt).trans (hcells 1 _ rfl)
      have hc : ∀ W : World, Below w.heap.size w W → W.cell? ⟨b, 0, none⟩ = some (.slice (some ⟨a, off, none⟩) l.length cap) := fun W hW => (HL.out.below hW).c0
      have HP := Lib.hid hp
      have HD := Lib.hid hd
      have HC := Lib.hid hc
      clear hp hfv hd hc hcells hx hkk hk
      obtain ⟨xk, xv⟩ := x
      go_enter Tryz.func77, Tryz.ntmps77
      go_wp2_with (go_at_call 107; (with_reducible refine HP.out.mono ?_); rintro e w1 ⟨rfl, hb1⟩; have c1 := HD.out _ hb1; have c2 := HC.out _ hb1)
      (try simp only [Exit.inBlock, Exit.then])
      refine bodyPost_ret (results_tmp2 rfl _ _ _) rfl ⟨rfl, by assumption⟩
end Go.Proofs.YtdfgdnaejnngoaaGreat
namespace Go.Proofs.YtdfgdnaejnngoaaGreat
open Go.RowKit
/-! Model and Prune: rows of items of one's own; Clone, leaf.Items. -/
theorem flat_get {α : Type} {k : Nat} (hk0 : 0 < k) : ∀ (rows : List (List α)), (∀ r ∈ rows, r.length = k) → ∀ (j : Nat) (u : α), rows.flatten[j]? = some u → ∃ i r jj, rows[i]? = some r ∧ r[jj]? = some u ∧ j = i * k + jj
  | [], _, j, u, h => by simp at h
  | r :: rows, hr, j, u, h => by
    rw [List.flatten_cons] at h
    have hrk := hr r (by simp)
    by_cases hj : j < k
    · rw [List.getElem?_append_left (by omega)] at h
      exact ⟨0, r, j, rfl, h, by omega⟩
    · rw [List.getElem?_append_right (by omega)] at h
      obtain ⟨i, r', jj, h1, h2, h3⟩ := flat_get hk0 rows (fun x hx => hr x (by simp [hx])) _ u h
      refine ⟨i + 1, r', jj, h1, h2, ?_⟩
      rw [Nat.succ_mul]
      omega
theorem Elems.flat {w : World} {b off k : Nat} {rows : List (List Value)} (hk0 : 0 < k) (h : Elems w (some ⟨b, off, none⟩) k rows) (hk : ∀ r ∈ rows, r.length = k) : ∀ j u, rows.flatten[j]? = some u → w.cell? ⟨b, off + j, none⟩ = some u := by
  intro j u hj
  obtain ⟨i, r, jj, h1, h2, rfl⟩ := flat_get hk0 rows hk j u hj
  obtain ⟨b', off', e, _, hc⟩ := h i r h1
  cases e
  rw [← Nat.add_assoc]
  exact hc jj u h2
abbrev OwnsM := OwnsG Itm.cells 2 41
theorem M_info : (Tryz.prog.info? 41).map (fun i => (i.zero, i.size, i.bytes)) = some (some (.agg #[.string ⟨#[]⟩, .string ⟨#[]⟩]), 2, 32) := by kernel_rfl
theorem Itm.clen (x : Itm) : x.cells.length = 2 := rfl
theorem itm_one (x : Itm) : ∀ u ∈ x.cells, u.oneCell' = true := by
  intro u hu
  simp [Itm.cells] at hu
  rcases hu with rfl | rfl <;> rfl
/-- items of one's own, and others behind them -/
theorem itm_append {ops : Array Oper} {rest : List Oper} {o : Oper} {a : Act} {w : World} {Q : Exit → Act → World → Prop} (hgd : o.guard = none) (N : Option Tmp) (hN : o.dst = N) (s x : Operand) (ho : o.op = .call { callee := .builtin .append, args := #[s, x], argTypes := #[29, 29] })
    (B : Nat) (v : Value) (l m : List Itm) (n : Nat) (ad : Addr) (c : Nat) (hn : m.length = n) (hs : a.eval s = v) (hx : a.eval x = .slice (some ad) n c) (hown : OwnsM w B v l) (hel : ∀ j u, ((m.map Itm.cells).flatten)[j]? = some u → w.cell? (ad.add j) = some u) (hl : l.length + m.length ≤ 100000) (hB : B ≤ w.heap.size) (n2 : Nat) (hn2 : (l ++ m).length = n2)
    (h : ∀ A' c' w', OwnsM w' B (.slice A' n2 c') (l ++ m) → Fr (fun k => v.ownBlock = some k) w w' → wpList Tryz.prog ops Q rest (a.put N (.slice A' n2 c')) w') : wpList Tryz.prog ops Q (o :: rest) a w := by
  subst hn hN hn2
  obtain ⟨i0, hi0, hz0, hz1, hz2⟩ := info_parts M_info
  refine wpList_append_own w hgd s x 29 ho B 41 i0 _ 2 32 Tryz.underlying29 hi0 hz0 hz1 hz2 rfl (by decide) v l.length _ hs hown ad m.length c ((m.map Itm.cells).flatten) hx (flatten_length Itm.clen m) hel ?_ ?_ ?_ hB ?_
  · intro u hu
    obtain ⟨r, hr, hu⟩ := List.mem_flatten.1 hu
    obtain ⟨e, _, rfl⟩ := List.mem_map.1 hr
    exact itm_one e u hu
  · unfold maxLen; omega
  · omega
  · intro v' w' h1 h2 _
    have ho : OwnsM w' B v' (l ++ m) := by
      unfold OwnsM OwnsG
      rw [List.map_append, List.flatten_append, List.length_append]
      exact h1
    obtain ⟨A', c', rfl⟩ := ho.slice
    exact h A' c' w' ho ((Fr.refl _ w).grown h2 (fun i hi e => e))
theorem eql_nil_n (W : World) : (binOp .eql 29 (.slice none 0 0) (.slice none 0 0)).run Tryz.prog W = .ok (.bool true) W := by kernel_rfl
theorem eql_nil_s (ad : Addr) (n c : Nat) (W : World) : (binOp .eql 29 (.slice (some ad) n c) (.slice none 0 0)).run Tryz.prog W = .ok (.bool false) W := by kernel_rfl
set_option maxRecDepth 100000 in
theorem clone_any (A : Option Addr) (cap : Nat) (l : List Itm) (w : World) (hel : Elems w A 2 (l.map Itm.cells)) (hnil : A = none → cap = 0) (hl : l.length ≤ 90000) : Calls Tryz.prog 90 #[.slice A l.length cap] w
    fun e w' => ∃ A' cap', e = .returned (.slice A' l.length cap') ∧ OwnsM w' w.heap.size (.slice A' l.length cap') l ∧ Below w.heap.size w w' := by
  cases A with
  | none =>
    obtain rfl : l = [] := by
      cases l with
      | nil => rfl
      | cons e m =>
        obtain ⟨b, off, e1, _⟩ := hel 0 e.cells rfl
        cases e1
    obtain rfl := hnil rfl
    clear hel hnil
    have heq := eql_nil_n
    go_enter Tryz.func90, Tryz.ntmps90
    go_wp2
    go_ret
    exact ⟨none, 0, rfl, OwnsG.nil _ _, (by repeat (first | assumption | exact Below.refl _ _ | (refine below_step (w := ?_) ?_ ?_ ?_; rotate_left 2; assumption) | refine Below.drew ?_ | refine below_drewN ?_ _ | refine Below.alloc ?_ ?_ _ | refine Below.setCell ?_ ?_ _ | (focus (simp; done)) | (focus (simp; omega)) | omega))⟩
  | some ad =>
    have hfl : ∀ j u, ((l.map Itm.cells).flatten)[j]? = some u → (w.alloc (.cells #[] 41)).cell? (ad.add j) = some u := by
      cases l with
      | nil => intro j u hj; simp at hj
      | cons e m =>
        obtain ⟨b, off, e1, hb, _⟩ := hel 0 e.cells rfl
        cases e1
        intro j u hj
        have := hel.flat (by decide) (fun r hr => by obtain ⟨v, _, rfl⟩ := List.mem_map.1 hr; exact Itm.clen v) j u hj
        rw [Addr.add_mid]
        exact ((Below.alloc (Below.refl w.heap.size w) (Nat.le_refl _) _).cell (p := ⟨b, _, none⟩) hb).trans this
    have HFL := Lib.hid hfl
    have HG := Lib.hid (heap_alloc_new w (.cells #[] 41))
    clear hfl hel hnil
    have heq := fun n c W => eql_nil_s ad n c W
    go_enter Tryz.func90, Tryz.ntmps90
    go_wp2_with (at_builtin; refine itm_append rfl (some 7) rfl _ _ rfl w.heap.size (.slice (some ⟨w.heap.size, 0, none⟩) 0 0) [] l l.length ad cap rfl rfl rfl (OwnsG.empty HG.out (Nat.le_refl _)) HFL.out (by simp; omega) (by simp) l.length rfl ?_)
    intro A2 c2 w2 ho2 hf2
    simp only [Act.put, List.setIfInBounds_toArray, List.set_cons_zero, List.set_cons_succ]
    have hb2 : Below w.heap.size w w2 := (Below.alloc (Below.refl w.heap.size w) (Nat.le_refl _) (.cells #[] 41)).trans (hf2.to_below (B := w.heap.size) (by simp) (fun i hi h => by have : w.heap.size = i := by simpa [Value.ownBlock] using h
                                                                                                                                                                                     omega))
    go_wp2
    go_ret
    exact ⟨A2, c2, rfl, ho2, hb2⟩
theorem items_any (b cap : Nat) (A : Option Addr) (l : List Itm) (w : World) (h : LeafAt w b A cap l) (hl : l.length ≤ 90000) : Calls Tryz.prog 54 #[.pointer (some ⟨b, 0, none⟩)] w
    fun e w' => ∃ A' cap', e = .returned (.slice A' l.length cap') ∧ OwnsM w' w.heap.size (.slice A' l.length cap') l ∧ Below w.heap.size w w' := by
  have hc := clone_any A cap l w h.els h.nil hl
  have c0 := h.c0
  have HC := Lib.hid hc
  clear hc h
  go_enter Tryz.func54, Tryz.ntmps54
  go_wp2_with (go_at_call 90; (with_reducible refine HC.out.mono ?_); rintro e w1 ⟨A1, c1, rfl, ho1, hb1⟩)
  go_ret
  exact ⟨_, _, rfl, ho1, hb1⟩
end Go.Proofs.YtdfgdnaejnngoaaGreat
namespace Go.Proofs.YtdfgdnaejnngoaaGreat
open Go.RowKit
/-! Model and Prune: leaf.made. -/
theorem itW_ok {x : Itm} (h : x.ok) : 3 ≤ itW x ∧ itW x ≤ 26 ∧ (x.key.size : Int) ≤ 8 ∧ (x.val.size : Int) ≤ 16 := by
  obtain ⟨h1, h2⟩ := h
  unfold isKey at h1
  unfold isVal at h2
  simp only [Bool.and_eq_true, decide_eq_true_eq] at h1 h2
  unfold itW
  omega
theorem sumW_range : ∀ l : List Itm, (∀ x ∈ l, x.ok) → 0 ≤ sumW l ∧ sumW l ≤ 26 * l.length
  | [], _ => by simp [sumW]
  | x :: l, h => by
    have h1 := itW_ok (h x (by simp))
    have h2 := sumW_range l (fun y hy => h y (by simp [hy]))
    simp only [sumW, List.length_cons]
    omega
theorem sumW_append (l m : List Itm) : sumW (l ++ m) = sumW l + sumW m := by
  induction l with
  | nil => simp [sumW]
  | cons x l ih => simp only [List.cons_append, sumW, ih]; omega
theorem sumW_take (l : List Itm) (k : Nat) (x : Itm) (h : l[k]? = some x) : sumW (l.take (k + 1)) = sumW (l.take k) + itW x := by
  rw [List.take_add_one, h, Option.toList_some, sumW_append]
  simp [sumW]
set_option maxHeartbeats 1000000 in
set_option maxRecDepth 100000 in
theorem made_any (A : Option Addr) (cap : Nat) (l : List Itm) (w : World) (hel : Elems w A 2 (l.map Itm.cells)) (hr : Rises l) (hok : ∀ x ∈ l, x.ok) (hnil : A = none → cap = 0) (hl : l.length ≤ 100000) : Calls Tryz.prog 89 #[.slice A l.length cap] w
    fun e w' => ∃ b, e = .returned (.pointer (some ⟨b, 0, none⟩)) ∧ LeafAt w' b A cap l ∧ w.heap.size ≤ b ∧ Below w.heap.size w w' := by
  have HE := Lib.hid hel
  have HR := Lib.hid hr
  have HO := Lib.hid hok
  have HNL := Lib.hid hnil
  clear hel hr hok hnil
  go_enter Tryz.func89, Tryz.ntmps89
  go_wp2
  go_loopw [5, 11] (fun _ i wr => ∃ k : Nat, i = .int .i64 k ∧ k ≤ l.length ∧ wr.heap[w.heap.size]? = some (.cells #[.slice A l.length cap, .int .i64 (sumW (l.take k))] 139 (0, 0)) ∧ Below w.heap.size w wr) (fun _ i _ => l.length + 1 - (intOf i).toNat)
  case atStart => exact ⟨0, rfl, Nat.zero_le _, by rw [List.take_zero]; exact heap_alloc_new w _, (by repeat (first | assumption | exact Below.refl _ _ | (refine below_step (w := ?_) ?_ ?_ ?_; rotate_left 2; assumption) | refine Below.drew ?_ | refine below_drewN ?_ _ | refine Below.alloc ?_ ?_ _ | refine Below.setCell ?_ ?_ _ | (focus (simp; done)) | (focus (simp; omega)) | omega))⟩
  case round =>
    obtain ⟨k, rfl, hk, hcell, hbel⟩ := hrel
    have hlt := lt_of_row hcell
    by_cases hkl : k < l.length
    · have hkI : (k : Int) < (l.length : Int) := by omega
      obtain ⟨x, hx⟩ := get_lt hkl
      obtain ⟨b, off, rfl, hblt, hcells⟩ := HE.out k x.cells (by simp [hx])
      have d0 := (hbel.cell (p := ⟨b, _, none⟩) hblt).trans (hcells 0 _ rfl)
      have d1 := (hbel.cell (p := ⟨b, _, none⟩) hblt).trans (hcells 1 _ rfl)
      simp only [Nat.add_zero] at d0
      have hxo := HO.out x (List.mem_of_getElem? hx)
      obtain ⟨x0, x1, x2, x3⟩ := itW_ok hxo
      have hs := sumW_range (l.take k) (fun y hy => HO.out y (List.mem_of_mem_take hy))
      have htl : (l.take k).length ≤ 100000 := by rw [List.length_take]; omega
      have hst := sumW_take l k x hx
      have hkw := fun W => keyWeight_any x W (by omega) (by omega)
      obtain ⟨xk, xv⟩ := x
      rw [Itm.v_def] at hkw
      dsimp only at d0 d1 x2 x3
      generalize itW ⟨xk, xv⟩ = iw at *
      generalize sumW (l.take k) = sw at *
      have hs2 : sw ≤ 2600000 := by omega
      have hs1 : 0 ≤ sw := hs.1
      have HK := Lib.hid hkw
      have HST := Lib.hid hst
      have HC := Lib.hid hcell
      clear hkw hst hcells hx hs htl hcell hxo x2 x3
      have hw0 : ((wr.alloc (.cells #[.string xk, .string xv] 41)).drew).heap[w.heap.size]? = some (.cells #[.slice (some ⟨b, off, none⟩) l.length cap, .int .i64 sw] 139 (0, 0)) := ((Fr.refl (fun _ => False) wr).alloc (.cells #[.string xk, .string xv] 41)).row id HC.out
      have hb0 : Below w.heap.size w ((wr.alloc (.cells #[.string xk, .string xv] 41)).drew) := (below_alloc hbel).drew
      have e0 : ((wr.alloc (.cells #[.string xk, .string xv] 41)).drew).cell? ⟨wr.heap.size, 0, none⟩ = some (.string xk) := by show (wr.alloc (.cells #[.string xk, .string xv] 41)).cell? _ = _; rw [Lib.cell_of_heap (heap_alloc_new wr _)]; rfl
      have e1 : ((wr.alloc (.cells #[.string xk, .string xv] 41)).drew).cell? ⟨wr.heap.size, 1, none⟩ = some (.string xv) := by show (wr.alloc (.cells #[.string xk, .string xv] 41)).cell? _ = _; rw [Lib.cell_of_heap (heap_alloc_new wr _)]; rfl
      have hcur := Lib.hid hw0
      have c1 : ((wr.alloc (.cells #[.string xk, .string xv] 41)).drew).cell? ⟨w.heap.size, 1, none⟩ = some (.int .i64 sw) := by rw [Lib.cell_of_heap hw0]; rfl
      have f1 := Lib.frozen_of_heap hw0 1
      have HB0 := Lib.hid hb0
      have E0 := Lib.hid e0
      have E1 := Lib.hid e1
      clear hw0 hb0 e0 e1
      go_wp2
      refine rg_start (n := 10) (fun w' => w'.cell? ⟨wr.heap.size, 0, none⟩ = some (.string xk) ∧ w'.cell? ⟨wr.heap.size, 1, none⟩ = some (.string xv) ∧ Below w.heap.size w w' ∧ wr.heap.size < w'.heap.size) #[false, false, false, false, false, false, false, false, false, false] (by kernel_rfl) rfl rfl ⟨E0.out, E1.out, HB0.out, (show wr.heap.size < ((wr.alloc (.cells #[.string xk, .string xv] 41)).drew).heap.size by show wr.heap.size < (wr.alloc _).heap.size; simp)⟩ (fun hHeld => ?_)
      refine rg_take (i := 0) (N := (some 15)) (v := ?_) (a' := ?_) #[true, false, false, false, false, false, false, false, false, false] rfl rfl (by kernel_rfl) (fun _ _ _ h => h) (by rfl) ?_ hHeld ?_ ?_
      rotate_left 2
      · rintro w' ⟨s0, s1, s2, s3⟩
        go_simp
        try with_reducible rfl
      · simp only [Act.put, List.setIfInBounds_toArray, List.set_cons_zero, List.set_cons_succ]
        rfl
      refine rg_take (i := 1) (N := (some 16)) (v := ?_) (a' := ?_) #[true, true, false, false, false, false, false, false, false, false] rfl rfl (by kernel_rfl) (fun _ _ _ h => h) (by rfl) ?_ hHeld ?_ ?_
      rotate_left 2
      · rintro w' ⟨s0, s1, s2, s3⟩
        go_simp
        try with_reducible rfl
      · simp only [Act.put, List.setIfInBounds_toArray, List.set_cons_zero, List.set_cons_succ]
        rfl
      refine rg_take (i := 2) (N := (some 17)) (v := ?_) (a' := ?_) #[true, true, true, false, false, false, false, false, false, false] rfl rfl (by kernel_rfl) (fun _ _ _ h => h) (by rfl) ?_ hHeld ?_ ?_
      rotate_left 2
      · rintro w' ⟨s0, s1, s2, s3⟩
        go_simp
        try with_reducible rfl
      · simp only [Act.put, List.setIfInBounds_toArray, List.set_cons_zero, List.set_cons_succ]
        rfl
      refine rg_take (i := 4) (N := (some 19)) (v := ?_) (a' := ?_) #[true, true, true, false, true, false, false, false, false, false] rfl rfl (by kernel_rfl) (fun _ _ _ h => h) (by rfl) ?_ hHeld ?_ ?_
      rotate_left 2
      · rintro w' ⟨s0, s1, s2, s3⟩
        go_simp
        try with_reducible rfl
      · simp only [Act.put, List.setIfInBounds_toArray, List.set_cons_zero, List.set_cons_succ]
        rfl
      refine rg_two (i := 3) (j := 5) #[true, true, true, true, true, false, false, false, false, false] #[true, true, true, false, true, true, false, false, false, false] rfl rfl (by kernel_rfl) (by rfl) (by rfl) (fun K hK => ?_) (fun K hK => ?_)
      · skip
        obtain ⟨s0, s1, s2, s3⟩ := hHeld
        repeat go_step
        (skip)
        try dsimp only
        refine hK.out _ _ ?_ (fun hHeld => ?_)
        · exact ⟨s0, s1, s2, s3⟩
        clear hK K
        clear s0 s1 s2 s3
        refine rg_one (i := 5) #[true, true, true, true, true, true, false, false, false, false] rfl (by kernel_rfl) (by rfl) (fun K hK => ?_)
        obtain ⟨s0, s1, s2, s3⟩ := hHeld
        repeat go_step
        ((with_reducible refine (HK.out _).mono ?_); rintro e w2 ⟨rfl, hb2⟩; have hcur := Lib.hid ((Fr.of_below (S := fun _ => False) hb2).row id hcur.out); have c1 : w2.cell? ⟨w.heap.size, 1, none⟩ = some (.int .i64 sw) := (by rw [Lib.cell_of_heap hcur.out]; rfl); have f1 := Lib.frozen_of_heap hcur.out 1)
        try dsimp only
        refine hK.out _ _ ?_ (fun hHeld => ?_)
        · exact ⟨(hb2.cell (p := ⟨wr.heap.size, _, none⟩) s3).trans s0, (hb2.cell (p := ⟨wr.heap.size, _, none⟩) s3).trans s1, below_next s2 hb2, Nat.lt_of_lt_of_le s3 hb2.size⟩
        clear hK K
        clear s0 s1 s2 s3
        refine rg_take (i := 6) (N := (some 21)) (v := ?_) (a' := ?_) #[true, true, true, true, true, true, true, false, false, false] rfl rfl (by kernel_rfl) (fun _ _ _ h => h) (by rfl) ?_ hHeld ?_ ?_
        rotate_left 2
        · rintro w' ⟨s0, s1, s2, s3⟩
          go_simp
          try with_reducible rfl
        · simp only [Act.put, List.setIfInBounds_toArray, List.set_cons_zero, List.set_cons_succ]
          rfl
        refine rg_take (i := 7) (N := (some 22)) (v := ?_) (a' := ?_) #[true, true, true, true, true, true, true, true, false, false] rfl rfl (by kernel_rfl) (fun _ _ _ h => h) (by rfl) ?_ hHeld ?_ ?_
        rotate_left 2
        · rintro w' ⟨s0, s1, s2, s3⟩
          go_simp
          try with_reducible rfl
        · simp only [Act.put, List.setIfInBounds_toArray, List.set_cons_zero, List.set_cons_succ]
          rfl
        refine rg_take (i := 8) (N := (some 23)) (v := ?_) (a' := ?_) #[true, true, true, true, true, true, true, true, true, false] rfl rfl (by kernel_rfl) (fun _ _ _ h => h) (by rfl) ?_ hHeld ?_ ?_
        rotate_left 2
        · rintro w' ⟨s0, s1, s2, s3⟩
          go_simp
          try with_reducible rfl
        · simp only [Act.put, List.setIfInBounds_toArray, List.set_cons_zero, List.set_cons_succ]
          rfl
        refine rg_one (i := 9) #[true, true, true, true, true, true, true, true, true, true] rfl (by kernel_rfl) (by rfl) (fun K hK => ?_)
        obtain ⟨s0, s1, s2, s3⟩ := hHeld
        repeat go_step
        (skip)
        try dsimp only
        refine hK.out _ _ ?_ (fun hHeld => ?_)
        · have hf := (Fr.refl (fun k => k = w.heap.size) w2).setCell (p := ⟨w.heap.size, 1, none⟩) (fun _ => rfl) (.int .i64 (sw + iw)); exact ⟨hf.cell s3 (by omega) s0, hf.cell s3 (by omega) s1, s2.trans (hf.to_below s2.size (fun i hi e => by omega)), Nat.lt_of_lt_of_le s3 hf.size⟩
        clear hK K
        clear s0 s1 s2 s3
        refine rg_done (by kernel_rfl) ?_
        have hrow : (w2.setCell ⟨w.heap.size, 1, none⟩ (.int .i64 (sw + iw))).heap[w.heap.size]? = some (.cells #[.slice (some ⟨b, off, none⟩) l.length cap, .int .i64 (sw + iw)] 139 (0, 0)) := setCell_row hcur.out 1 (.int .i64 (sw + iw))
        have HW := Lib.hid hrow
        have HBL := Lib.hid hHeld.2.2.1
        clear hrow hHeld c1 f1 hcur
        go_wp2
        refine ⟨⟨k + 1, by go_num, by omega, by rw [HST.out]; exact HW.out, HBL.out⟩, ?_⟩
        simp [intOf]
        omega
      · skip
        obtain ⟨s0, s1, s2, s3⟩ := hHeld
        repeat go_step
        ((with_reducible refine (HK.out _).mono ?_); rintro e w2 ⟨rfl, hb2⟩; have hcur := Lib.hid ((Fr.of_below (S := fun _ => False) hb2).row id hcur.out); have c1 : w2.cell? ⟨w.heap.size, 1, none⟩ = some (.int .i64 sw) := (by rw [Lib.cell_of_heap hcur.out]; rfl); have f1 := Lib.frozen_of_heap hcur.out 1)
        try dsimp only
        refine hK.out _ _ ?_ (fun hHeld => ?_)
        · exact ⟨(hb2.cell (p := ⟨wr.heap.size, _, none⟩) s3).trans s0, (hb2.cell (p := ⟨wr.heap.size, _, none⟩) s3).trans s1, below_next s2 hb2, Nat.lt_of_lt_of_le s3 hb2.size⟩
        clear hK K
        clear s0 s1 s2 s3
        refine rg_one (i := 3) #[true, true, true, true, true, true, false, false, false, false] rfl (by kernel_rfl) (by rfl) (fun K hK => ?_)
        obtain ⟨s0, s1, s2, s3⟩ := hHeld
        repeat go_step
        (skip)
        try dsimp only
        refine hK.out _ _ ?_ (fun hHeld => ?_)
        · exact ⟨s0, s1, s2, s3⟩
        clear hK K
        clear s0 s1 s2 s3
        refine rg_take (i := 6) (N := (some 21)) (v := ?_) (a' := ?_) #[true, true, true, true, true, true, true, false, false, false] rfl rfl (by kernel_rfl) (fun _ _ _ h => h) (by rfl) ?_ hHeld ?_ ?_
        rotate_left 2
        · rintro w' ⟨s0, s1, s2, s3⟩
          go_simp
          try with_reducible rfl
        · simp only [Act.put, List.setIfInBounds_toArray, List.set_cons_zero, List.set_cons_succ]
          rfl
        refine rg_take (i := 7) (N := (some 22)) (v := ?_) (a' := ?_) #[true, true, true, true, true, true, true, true, false, false] rfl rfl (by kernel_rfl) (fun _ _ _ h => h) (by rfl) ?_ hHeld ?_ ?_
        rotate_left 2
        · rintro w' ⟨s0, s1, s2, s3⟩
          go_simp
          try with_reducible rfl
        · simp only [Act.put, List.setIfInBounds_toArray, List.set_cons_zero, List.set_cons_succ]
          rfl
        refine rg_take (i := 8) (N := (some 23)) (v := ?_) (a' := ?_) #[true, true, true, true, true, true, true, true, true, false] rfl rfl (by kernel_rfl) (fun _ _ _ h => h) (by rfl) ?_ hHeld ?_ ?_
        rotate_left 2
        · rintro w' ⟨s0, s1, s2, s3⟩
          go_simp
          try with_reducible rfl
        · simp only [Act.put, List.setIfInBounds_toArray, List.set_cons_zero, List.set_cons_succ]
          rfl
        refine rg_one (i := 9) #[true, true, true, true, true, true, true, true, true, true] rfl (by kernel_rfl) (by rfl) (fun K hK => ?_)
        obtain ⟨s0, s1, s2, s3⟩ := hHeld
        repeat go_step
        (skip)
        try dsimp only
        refine hK.out _ _ ?_ (fun hHeld => ?_)
        · have hf := (Fr.refl (fun k => k = w.heap.size) w2).setCell (p := ⟨w.heap.size, 1, none⟩) (fun _ => rfl) (.int .i64 (sw + iw)); exact ⟨hf.cell s3 (by omega) s0, hf.cell s3 (by omega) s1, s2.trans (hf.to_below s2.size (fun i hi e => by omega)), Nat.lt_of_lt_of_le s3 hf.size⟩
        clear hK K
        clear s0 s1 s2 s3
        refine rg_done (by kernel_rfl) ?_
        have hrow : (w2.setCell ⟨w.heap.size, 1, none⟩ (.int .i64 (sw + iw))).heap[w.heap.size]? = some (.cells #[.slice (some ⟨b, off, none⟩) l.length cap, .int .i64 (sw + iw)] 139 (0, 0)) := setCell_row hcur.out 1 (.int .i64 (sw + iw))
        have HW := Lib.hid hrow
        have HBL := Lib.hid hHeld.2.2.1
        clear hrow hHeld c1 f1 hcur
        go_wp2
        refine ⟨⟨k + 1, by go_num, by omega, by rw [HST.out]; exact HW.out, HBL.out⟩, ?_⟩
        simp [intOf]
        omega
    · obtain rfl : k = l.length := by omega
      rw [List.take_length] at hcell
      go_wp2
      go_ret
      exact ⟨_, rfl, ⟨hcell, HE.out.below hbel, HR.out, HO.out, HNL.out⟩, Nat.le_refl _, hbel⟩
end Go.Proofs.YtdfgdnaejnngoaaGreat
