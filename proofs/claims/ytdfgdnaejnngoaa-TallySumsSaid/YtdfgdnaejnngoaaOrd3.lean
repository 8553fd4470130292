import Derived.Test.YtdfgdnaejnngoaaOrd2
import Derived.Test.YtdfgdnaejnngoaaReg
namespace Go.Proofs.Ytdfgdnaejnngoaa
open Go.RowKit

def tooLong (o : Ord) : Bool := [o.key, o.val, o.lo, o.hi].any fun s => decide (255 < (s.size : Int))
def isOrd (o : Ord) : Bool := okKind o.kind && (decide (bareOf o = o) && !tooLong o)

theorem is_kind (o : Ord) (w : World) (h1 : okKind o.kind = false) : Calls Try.prog 13 #[o.v] w fun e w' => e = .returned (.bool (isOrd o)) ∧ Below w.heap.size w w' := by
  have hr : isOrd o = false := by simp [isOrd, h1]
  have Hr := Lib.hid hr
  clear hr
  have hf := fun W => fields_any o.kind W
  rw [Ord.v_def]
  go_enter Try.func13, Try.ntmps13
  go_wp2_with (go_at_call 36; (with_reducible refine (hf _).mono ?_); rintro e w1 ⟨A, c, rfl, hE, hAd, hb⟩; clear hE hAd; clear hf)
  go_quiet (fail)
  go_wp2
  go_ret
  exact ⟨ret_bool Hr.out.symm, (by repeat (first | assumption | exact Below.refl _ _ | (refine below_step (w := ?_) ?_ ?_ ?_; rotate_left 2; assumption) | refine Below.drew ?_ | refine below_drewN ?_ _ | refine Below.alloc ?_ ?_ _ | refine Below.setCell ?_ ?_ _ | (focus (simp; done)) | (focus (simp; omega)) | omega))⟩

theorem is_bare (o : Ord) (w : World) (h1 : okKind o.kind = true) (h2 : bareOf o ≠ o) : Calls Try.prog 13 #[o.v] w fun e w' => e = .returned (.bool (isOrd o)) ∧ Below w.heap.size w w' := by
  have hr : isOrd o = false := by simp [isOrd, h2]
  have Hr := Lib.hid hr
  clear hr
  have hf := fun W => fields_any o.kind W
  have hbr : ∀ W, Calls Try.prog 38 #[o.v] W fun e w' => e = .returned (bareOf o).v ∧ Below W.heap.size W w' := fun W => bare_any o W
  have heq := fun W => eql_ord (bareOf o) o W
  have hd : decide (bareOf o = o) = false := by simp [h2]
  simp only [hd] at heq
  have hgu : Try.prog.eqGuardType Try.prog.depth 24 = false := by kernel_rfl
  have Hd := Lib.hid hd
  clear h2 hd
  generalize hB : bareOf o = B at hbr heq Hd
  clear hB
  simp only [Ord.v_def] at hbr heq
  have Hbr := Lib.hid hbr
  clear hbr
  rw [Ord.v_def]
  go_enter Try.func13, Try.ntmps13
  go_wp2_with (go_at_call 36; (with_reducible refine (hf _).mono ?_); rintro e w1 ⟨A, c, rfl, hE, hAd, hb⟩; clear hE hAd; clear hf)
  obtain ⟨hlt, c0⟩ := new_cells hb
  have d0 := c0 0 _ rfl
  have d1 := c0 1 _ rfl
  have d2 := c0 2 _ rfl
  have d3 := c0 3 _ rfl
  have d4 := c0 4 _ rfl
  have d5 := c0 5 _ rfl
  clear c0
  refine rg_start (n := 21) (fun w' => w.heap.size < w'.heap.size ∧ w'.cell? ⟨w.heap.size, 0, none⟩ = some (.int .i64 o.kind) ∧ w'.cell? ⟨w.heap.size, 1, none⟩ = some (.string o.key) ∧ w'.cell? ⟨w.heap.size, 2, none⟩ = some (.string o.val) ∧ w'.cell? ⟨w.heap.size, 3, none⟩ = some (.int .u64 o.n) ∧ w'.cell? ⟨w.heap.size, 4, none⟩ = some (.string o.lo) ∧ w'.cell? ⟨w.heap.size, 5, none⟩ = some (.string o.hi)) #[false, false, false, false, false, false, false, false, false, false, false, false, false, false, false, false, false, false, false, false, false] (by kernel_rfl) rfl rfl ⟨hlt, d0, d1, d2, d3, d4, d5⟩ (fun hHeld => ?_)
  refine rg_take (i := 0) (N := (some 11)) (v := ?_) (a' := ?_) #[true, false, false, false, false, false, false, false, false, false, false, false, false, false, false, false, false, false, false, false, false] rfl rfl (by kernel_rfl) (fun _ _ _ h => h) (by rfl) ?_ hHeld ?_ ?_
  rotate_left 2
  · rintro w' ⟨s0, s1, s2, s3, s4, s5, s6⟩
    go_simp
    try with_reducible rfl
  · simp only [Act.put, List.setIfInBounds_toArray, List.set_cons_zero, List.set_cons_succ]
    rfl
  refine rg_take (i := 1) (N := (some 12)) (v := ?_) (a' := ?_) #[true, true, false, false, false, false, false, false, false, false, false, false, false, false, false, false, false, false, false, false, false] rfl rfl (by kernel_rfl) (fun _ _ _ h => h) (by rfl) ?_ hHeld ?_ ?_
  rotate_left 2
  · rintro w' ⟨s0, s1, s2, s3, s4, s5, s6⟩
    go_simp
    try with_reducible rfl
  · simp only [Act.put, List.setIfInBounds_toArray, List.set_cons_zero, List.set_cons_succ]
    rfl
  refine rg_take (i := 2) (N := (some 13)) (v := ?_) (a' := ?_) #[true, true, true, false, false, false, false, false, false, false, false, false, false, false, false, false, false, false, false, false, false] rfl rfl (by kernel_rfl) (fun _ _ _ h => h) (by rfl) ?_ hHeld ?_ ?_
  rotate_left 2
  · rintro w' ⟨s0, s1, s2, s3, s4, s5, s6⟩
    go_simp
    try with_reducible rfl
  · simp only [Act.put, List.setIfInBounds_toArray, List.set_cons_zero, List.set_cons_succ]
    rfl
  refine rg_take (i := 4) (N := (some 15)) (v := ?_) (a' := ?_) #[true, true, true, false, true, false, false, false, false, false, false, false, false, false, false, false, false, false, false, false, false] rfl rfl (by kernel_rfl) (fun _ _ _ h => h) (by rfl) ?_ hHeld ?_ ?_
  rotate_left 2
  · rintro w' ⟨s0, s1, s2, s3, s4, s5, s6⟩
    go_simp
    try with_reducible rfl
  · simp only [Act.put, List.setIfInBounds_toArray, List.set_cons_zero, List.set_cons_succ]
    rfl
  refine rg_one (i := 3) #[true, true, true, true, true, false, false, false, false, false, false, false, false, false, false, false, false, false, false, false, false] rfl (by kernel_rfl) (by rfl) (fun K hK => ?_)
  obtain ⟨s0, s1, s2, s3, s4, s5, s6⟩ := hHeld
  repeat go_step
  ((with_reducible refine (Hbr.out _).mono ?_); rintro e w2 ⟨rfl, hb2⟩)
  try dsimp only
  refine hK.out _ _ ?_ (fun hHeld => ?_)
  · (repeat (first | (with_reducible assumption) | (with_reducible apply And.intro) | (with_reducible refine keep_cell (w := ?_) ?_ ?_ ?_; rotate_left; with_reducible assumption) | (with_reducible refine keep_cell_alloc ?_ ?_) | (with_reducible refine keep_lt (w := ?_) ?_ ?_; rotate_left; with_reducible assumption) | (with_reducible refine keep_lt_alloc ?_) | (with_reducible refine below_next (w := ?_) ?_ ?_; rotate_left 2; with_reducible assumption) | (with_reducible refine below_alloc ?_) | (with_reducible refine Below.drew ?_) | (with_reducible refine keep_lt_drew ?_) | (with_reducible refine keep_cell_drew ?_)))
  clear hK K
  clear s0 s1 s2 s3 s4 s5 s6
  refine rg_take (i := 5) (N := (some 16)) (v := ?_) (a' := ?_) #[true, true, true, true, true, true, false, false, false, false, false, false, false, false, false, false, false, false, false, false, false] rfl rfl (by kernel_rfl) (fun _ _ _ h => h) (by rfl) ?_ hHeld ?_ ?_
  rotate_left 2
  · rintro w' ⟨s0, s1, s2, s3, s4, s5, s6⟩
    go_simp
    try with_reducible rfl
  · simp only [Act.put, List.setIfInBounds_toArray, List.set_cons_zero, List.set_cons_succ]
    rfl
  refine rg_take (i := 6) (N := (some 17)) (v := ?_) (a' := ?_) #[true, true, true, true, true, true, true, false, false, false, false, false, false, false, false, false, false, false, false, false, false] rfl rfl (by kernel_rfl) (fun _ _ _ h => h) (by rfl) ?_ hHeld ?_ ?_
  rotate_left 2
  · rintro w' ⟨s0, s1, s2, s3, s4, s5, s6⟩
    go_simp
    try with_reducible rfl
  · simp only [Act.put, List.setIfInBounds_toArray, List.set_cons_zero, List.set_cons_succ]
    rfl
  refine rg_take (i := 7) (N := (some 18)) (v := ?_) (a' := ?_) #[true, true, true, true, true, true, true, true, false, false, false, false, false, false, false, false, false, false, false, false, false] rfl rfl (by kernel_rfl) (fun _ _ _ h => h) (by rfl) ?_ hHeld ?_ ?_
  rotate_left 2
  · rintro w' ⟨s0, s1, s2, s3, s4, s5, s6⟩
    go_simp
    try with_reducible rfl
  · simp only [Act.put, List.setIfInBounds_toArray, List.set_cons_zero, List.set_cons_succ]
    rfl
  refine rg_skip (i := 8) (N := (some 19)) (a' := ?_) #[true, true, true, true, true, true, true, true, true, false, false, false, false, false, false, false, false, false, false, false, false] rfl rfl (by kernel_rfl) (fun _ _ _ h => h) (by rfl) hHeld ?_ ?_
  rotate_left
  · simp only [Act.put, List.setIfInBounds_toArray, List.set_cons_zero, List.set_cons_succ]
    rfl
  refine rg_skip (i := 9) (N := (some 20)) (a' := ?_) #[true, true, true, true, true, true, true, true, true, true, false, false, false, false, false, false, false, false, false, false, false] rfl rfl (by kernel_rfl) (fun _ _ _ h => h) (by rfl) hHeld ?_ ?_
  rotate_left
  · simp only [Act.put, List.setIfInBounds_toArray, List.set_cons_zero, List.set_cons_succ]
    rfl
  refine rg_skip (i := 10) (N := (some 21)) (a' := ?_) #[true, true, true, true, true, true, true, true, true, true, true, false, false, false, false, false, false, false, false, false, false] rfl rfl (by kernel_rfl) (fun _ _ _ h => h) (by rfl) hHeld ?_ ?_
  rotate_left
  · simp only [Act.put, List.setIfInBounds_toArray, List.set_cons_zero, List.set_cons_succ]
    rfl
  refine rg_skip (i := 11) (N := (some 22)) (a' := ?_) #[true, true, true, true, true, true, true, true, true, true, true, true, false, false, false, false, false, false, false, false, false] rfl rfl (by kernel_rfl) (fun _ _ _ h => h) (by rfl) hHeld ?_ ?_
  rotate_left
  · simp only [Act.put, List.setIfInBounds_toArray, List.set_cons_zero, List.set_cons_succ]
    rfl
  refine rg_skip (i := 12) (N := (some 23)) (a' := ?_) #[true, true, true, true, true, true, true, true, true, true, true, true, true, false, false, false, false, false, false, false, false] rfl rfl (by kernel_rfl) (fun _ _ _ h => h) (by rfl) hHeld ?_ ?_
  rotate_left
  · simp only [Act.put, List.setIfInBounds_toArray, List.set_cons_zero, List.set_cons_succ]
    rfl
  refine rg_skip (i := 13) (N := (some 24)) (a' := ?_) #[true, true, true, true, true, true, true, true, true, true, true, true, true, true, false, false, false, false, false, false, false] rfl rfl (by kernel_rfl) (fun _ _ _ h => h) (by rfl) hHeld ?_ ?_
  rotate_left
  · simp only [Act.put, List.setIfInBounds_toArray, List.set_cons_zero, List.set_cons_succ]
    rfl
  refine rg_skip (i := 14) (N := (some 25)) (a' := ?_) #[true, true, true, true, true, true, true, true, true, true, true, true, true, true, true, false, false, false, false, false, false] rfl rfl (by kernel_rfl) (fun _ _ _ h => h) (by rfl) hHeld ?_ ?_
  rotate_left
  · simp only [Act.put, List.setIfInBounds_toArray, List.set_cons_zero, List.set_cons_succ]
    rfl
  refine rg_skip (i := 15) (N := (some 26)) (a' := ?_) #[true, true, true, true, true, true, true, true, true, true, true, true, true, true, true, true, false, false, false, false, false] rfl rfl (by kernel_rfl) (fun _ _ _ h => h) (by rfl) hHeld ?_ ?_
  rotate_left
  · simp only [Act.put, List.setIfInBounds_toArray, List.set_cons_zero, List.set_cons_succ]
    rfl
  refine rg_skip (i := 16) (N := (some 27)) (a' := ?_) #[true, true, true, true, true, true, true, true, true, true, true, true, true, true, true, true, true, false, false, false, false] rfl rfl (by kernel_rfl) (fun _ _ _ h => h) (by rfl) hHeld ?_ ?_
  rotate_left
  · simp only [Act.put, List.setIfInBounds_toArray, List.set_cons_zero, List.set_cons_succ]
    rfl
  refine rg_skip (i := 17) (N := (some 28)) (a' := ?_) #[true, true, true, true, true, true, true, true, true, true, true, true, true, true, true, true, true, true, false, false, false] rfl rfl (by kernel_rfl) (fun _ _ _ h => h) (by rfl) hHeld ?_ ?_
  rotate_left
  · simp only [Act.put, List.setIfInBounds_toArray, List.set_cons_zero, List.set_cons_succ]
    rfl
  refine rg_skip (i := 18) (N := (some 29)) (a' := ?_) #[true, true, true, true, true, true, true, true, true, true, true, true, true, true, true, true, true, true, true, false, false] rfl rfl (by kernel_rfl) (fun _ _ _ h => h) (by rfl) hHeld ?_ ?_
  rotate_left
  · simp only [Act.put, List.setIfInBounds_toArray, List.set_cons_zero, List.set_cons_succ]
    rfl
  refine rg_take (i := 19) (N := (some 30)) (v := ?_) (a' := ?_) #[true, true, true, true, true, true, true, true, true, true, true, true, true, true, true, true, true, true, true, true, false] rfl rfl (by kernel_rfl) (fun _ _ _ h => h) (by rfl) ?_ hHeld ?_ ?_
  rotate_left 2
  · rintro w' ⟨s0, s1, s2, s3, s4, s5, s6⟩
    go_simp
    try with_reducible rfl
  · simp only [Act.put, List.setIfInBounds_toArray, List.set_cons_zero, List.set_cons_succ]
    rfl
  refine rg_take (i := 20) (N := (some 2)) (v := ?_) (a' := ?_) #[true, true, true, true, true, true, true, true, true, true, true, true, true, true, true, true, true, true, true, true, true] rfl rfl (by kernel_rfl) (fun _ _ _ h => h) (by rfl) ?_ hHeld ?_ ?_
  rotate_left 2
  · rintro w' ⟨s0, s1, s2, s3, s4, s5, s6⟩
    go_simp
    try with_reducible rfl
  · simp only [Act.put, List.setIfInBounds_toArray, List.set_cons_zero, List.set_cons_succ]
    rfl
  refine rg_done (by kernel_rfl) ?_
  all_goals go_wp2
  all_goals go_ret
  all_goals exact ⟨ret_bool Hr.out.symm, (by repeat (first | assumption | exact Below.refl _ _ | (refine below_step (w := ?_) ?_ ?_ ?_; rotate_left 2; assumption) | refine Below.drew ?_ | refine below_drewN ?_ _ | refine Below.alloc ?_ ?_ _ | refine Below.setCell ?_ ?_ _ | (focus (simp; done)) | (focus (simp; omega)) | omega))⟩

def longV : Value → Bool := fun v => match v with | .string s => decide (255 < (s.size : Int)) | _ => false
theorem longV_s (s : ByteArray) : longV (.string s) = decide (255 < (s.size : Int)) := rfl
theorem isLong_pred (ss : List ByteArray) (w : World) : PredB Try.prog 40 #[] w (ss.map Value.string) longV := by
  intro W hb v hv
  obtain ⟨s, hs, rfl⟩ := List.mem_map.1 hv
  exact (isLong_any s W).mono fun e w' ⟨he, hw⟩ => ⟨he, hw ▸ Below.refl _ _⟩

theorem four_long (a b c d : ByteArray) (W : World) : Calls Try.prog 39 #[.slice (some ⟨W.heap.size, 0, none⟩) 4 4, .func (.func 40) #[] #[]] (W.alloc (.cells #[.string a, .string b, .string c, .string d] 9))
    fun e w' => e = .returned (.bool ([a, b, c, d].any fun s => decide (255 < (s.size : Int)))) ∧ Below (W.alloc (.cells #[.string a, .string b, .string c, .string d] 9)).heap.size (W.alloc (.cells #[.string a, .string b, .string c, .string d] 9)) w' := by
  have h := containsFunc_str (some ⟨W.heap.size, 0, none⟩) 4 [a, b, c, d] longV 40 #[] (W.alloc (.cells #[.string a, .string b, .string c, .string d] 9))
    (enters_of Try.func40 (by kernel_rfl) rfl) (by simp) (Elems.of_block (heap_alloc_new _ _) (by simp) (by simp)) (isLong_pred _ _)
  exact h

set_option maxRecDepth 100000 in
theorem is_all (o : Ord) (w : World) (h1 : okKind o.kind = true) (h2 : bareOf o = o) : Calls Try.prog 13 #[o.v] w fun e w' => e = .returned (.bool (isOrd o)) ∧ Below w.heap.size w w' := by
  have hr : isOrd o = !tooLong o := by simp [isOrd, h1, h2]
  have Hr := Lib.hid hr
  clear hr
  have hf := fun W => fields_any o.kind W
  have hbr : ∀ W, Calls Try.prog 38 #[o.v] W fun e w' => e = .returned (bareOf o).v ∧ Below W.heap.size W w' := fun W => bare_any o W
  have heq := fun W => eql_ord (bareOf o) o W
  have h4 := fun W => four_long o.key o.val o.lo o.hi W
  generalize hT : ([o.key, o.val, o.lo, o.hi].any fun s => decide (255 < (s.size : Int))) = T at h4
  have HT := Lib.hid hT
  clear hT
  simp only [h2, decide_true] at heq hbr
  have hgu : Try.prog.eqGuardType Try.prog.depth 24 = false := by kernel_rfl
  simp only [Ord.v_def] at hbr heq
  have Hbr := Lib.hid hbr
  have H4 := Lib.hid h4
  clear hbr h2 h4
  rw [Ord.v_def]
  go_enter Try.func13, Try.ntmps13
  go_wp2_with (go_at_call 36; (with_reducible refine (hf _).mono ?_); rintro e w1 ⟨A, c, rfl, hE, hAd, hb⟩; clear hE hAd; clear hf)
  obtain ⟨hlt, c0⟩ := new_cells hb
  have d0 := c0 0 _ rfl
  have d1 := c0 1 _ rfl
  have d2 := c0 2 _ rfl
  have d3 := c0 3 _ rfl
  have d4 := c0 4 _ rfl
  have d5 := c0 5 _ rfl
  clear c0
  refine rg_start (n := 21) (fun w' => w.heap.size < w'.heap.size ∧ Below w1.heap.size w1 w' ∧ w'.cell? ⟨w.heap.size, 0, none⟩ = some (.int .i64 o.kind) ∧ w'.cell? ⟨w.heap.size, 1, none⟩ = some (.string o.key) ∧ w'.cell? ⟨w.heap.size, 2, none⟩ = some (.string o.val) ∧ w'.cell? ⟨w.heap.size, 3, none⟩ = some (.int .u64 o.n) ∧ w'.cell? ⟨w.heap.size, 4, none⟩ = some (.string o.lo) ∧ w'.cell? ⟨w.heap.size, 5, none⟩ = some (.string o.hi)) #[false, false, false, false, false, false, false, false, false, false, false, false, false, false, false, false, false, false, false, false, false] (by kernel_rfl) rfl rfl ⟨hlt, (Below.refl _ _).drew, d0, d1, d2, d3, d4, d5⟩ (fun hHeld => ?_)
  refine rg_take (i := 0) (N := (some 11)) (v := ?_) (a' := ?_) #[true, false, false, false, false, false, false, false, false, false, false, false, false, false, false, false, false, false, false, false, false] rfl rfl (by kernel_rfl) (fun _ _ _ h => h) (by rfl) ?_ hHeld ?_ ?_
  rotate_left 2
  · rintro w' ⟨s0, s1, s2, s3, s4, s5, s6, s7⟩
    go_simp
    try with_reducible rfl
  · simp only [Act.put, List.setIfInBounds_toArray, List.set_cons_zero, List.set_cons_succ]
    rfl
  refine rg_take (i := 1) (N := (some 12)) (v := ?_) (a' := ?_) #[true, true, false, false, false, false, false, false, false, false, false, false, false, false, false, false, false, false, false, false, false] rfl rfl (by kernel_rfl) (fun _ _ _ h => h) (by rfl) ?_ hHeld ?_ ?_
  rotate_left 2
  · rintro w' ⟨s0, s1, s2, s3, s4, s5, s6, s7⟩
    go_simp
    try with_reducible rfl
  · simp only [Act.put, List.setIfInBounds_toArray, List.set_cons_zero, List.set_cons_succ]
    rfl
  refine rg_take (i := 2) (N := (some 13)) (v := ?_) (a' := ?_) #[true, true, true, false, false, false, false, false, false, false, false, false, false, false, false, false, false, false, false, false, false] rfl rfl (by kernel_rfl) (fun _ _ _ h => h) (by rfl) ?_ hHeld ?_ ?_
  rotate_left 2
  · rintro w' ⟨s0, s1, s2, s3, s4, s5, s6, s7⟩
    go_simp
    try with_reducible rfl
  · simp only [Act.put, List.setIfInBounds_toArray, List.set_cons_zero, List.set_cons_succ]
    rfl
  refine rg_take (i := 4) (N := (some 15)) (v := ?_) (a' := ?_) #[true, true, true, false, true, false, false, false, false, false, false, false, false, false, false, false, false, false, false, false, false] rfl rfl (by kernel_rfl) (fun _ _ _ h => h) (by rfl) ?_ hHeld ?_ ?_
  rotate_left 2
  · rintro w' ⟨s0, s1, s2, s3, s4, s5, s6, s7⟩
    go_simp
    try with_reducible rfl
  · simp only [Act.put, List.setIfInBounds_toArray, List.set_cons_zero, List.set_cons_succ]
    rfl
  refine rg_one (i := 3) #[true, true, true, true, true, false, false, false, false, false, false, false, false, false, false, false, false, false, false, false, false] rfl (by kernel_rfl) (by rfl) (fun K hK => ?_)
  obtain ⟨s0, s1, s2, s3, s4, s5, s6, s7⟩ := hHeld
  repeat go_step
  ((with_reducible refine (Hbr.out _).mono ?_); rintro e w2 ⟨rfl, hb2⟩)
  try dsimp only
  refine hK.out _ _ ?_ (fun hHeld => ?_)
  · (repeat (first | (with_reducible assumption) | (with_reducible apply And.intro) | (with_reducible refine keep_cell (w := ?_) ?_ ?_ ?_; rotate_left; with_reducible assumption) | (with_reducible refine keep_cell_alloc ?_ ?_) | (with_reducible refine keep_lt (w := ?_) ?_ ?_; rotate_left; with_reducible assumption) | (with_reducible refine keep_lt_alloc ?_) | (with_reducible refine below_next (w := ?_) ?_ ?_; rotate_left 2; with_reducible assumption) | (with_reducible refine below_alloc ?_) | (with_reducible refine Below.drew ?_) | (with_reducible refine keep_lt_drew ?_) | (with_reducible refine keep_cell_drew ?_)))
  clear hK K
  clear s0 s1 s2 s3 s4 s5 s6 s7
  refine rg_take (i := 5) (N := (some 16)) (v := ?_) (a' := ?_) #[true, true, true, true, true, true, false, false, false, false, false, false, false, false, false, false, false, false, false, false, false] rfl rfl (by kernel_rfl) (fun _ _ _ h => h) (by rfl) ?_ hHeld ?_ ?_
  rotate_left 2
  · rintro w' ⟨s0, s1, s2, s3, s4, s5, s6, s7⟩
    go_simp
    try with_reducible rfl
  · simp only [Act.put, List.setIfInBounds_toArray, List.set_cons_zero, List.set_cons_succ]
    rfl
  refine rg_take (i := 6) (N := (some 17)) (v := ?_) (a' := ?_) #[true, true, true, true, true, true, true, false, false, false, false, false, false, false, false, false, false, false, false, false, false] rfl rfl (by kernel_rfl) (fun _ _ _ h => h) (by rfl) ?_ hHeld ?_ ?_
  rotate_left 2
  · rintro w' ⟨s0, s1, s2, s3, s4, s5, s6, s7⟩
    go_simp
    try with_reducible rfl
  · simp only [Act.put, List.setIfInBounds_toArray, List.set_cons_zero, List.set_cons_succ]
    rfl
  refine rg_take (i := 7) (N := (some 18)) (v := ?_) (a' := ?_) #[true, true, true, true, true, true, true, true, false, false, false, false, false, false, false, false, false, false, false, false, false] rfl rfl (by kernel_rfl) (fun _ _ _ h => h) (by rfl) ?_ hHeld ?_ ?_
  rotate_left 2
  · rintro w' ⟨s0, s1, s2, s3, s4, s5, s6, s7⟩
    go_simp
    try with_reducible rfl
  · simp only [Act.put, List.setIfInBounds_toArray, List.set_cons_zero, List.set_cons_succ]
    rfl
  refine rg_take (i := 8) (N := (some 19)) (v := ?_) (a' := ?_) #[true, true, true, true, true, true, true, true, true, false, false, false, false, false, false, false, false, false, false, false, false] rfl rfl (by kernel_rfl) (fun _ _ _ h => h) (by rfl) ?_ hHeld ?_ ?_
  rotate_left 2
  · rintro w' ⟨s0, s1, s2, s3, s4, s5, s6, s7⟩
    go_simp
    try with_reducible rfl
  · simp only [Act.put, List.setIfInBounds_toArray, List.set_cons_zero, List.set_cons_succ]
    rfl
  refine rg_take (i := 9) (N := (some 20)) (v := ?_) (a' := ?_) #[true, true, true, true, true, true, true, true, true, true, false, false, false, false, false, false, false, false, false, false, false] rfl rfl (by kernel_rfl) (fun _ _ _ h => h) (by rfl) ?_ hHeld ?_ ?_
  rotate_left 2
  · rintro w' ⟨s0, s1, s2, s3, s4, s5, s6, s7⟩
    go_simp
    try with_reducible rfl
  · simp only [Act.put, List.setIfInBounds_toArray, List.set_cons_zero, List.set_cons_succ]
    rfl
  refine rg_take (i := 10) (N := (some 21)) (v := ?_) (a' := ?_) #[true, true, true, true, true, true, true, true, true, true, true, false, false, false, false, false, false, false, false, false, false] rfl rfl (by kernel_rfl) (fun _ _ _ h => h) (by rfl) ?_ hHeld ?_ ?_
  rotate_left 2
  · rintro w' ⟨s0, s1, s2, s3, s4, s5, s6, s7⟩
    go_simp
    try with_reducible rfl
  · simp only [Act.put, List.setIfInBounds_toArray, List.set_cons_zero, List.set_cons_succ]
    rfl
  refine rg_take (i := 11) (N := (some 22)) (v := ?_) (a' := ?_) #[true, true, true, true, true, true, true, true, true, true, true, true, false, false, false, false, false, false, false, false, false] rfl rfl (by kernel_rfl) (fun _ _ _ h => h) (by rfl) ?_ hHeld ?_ ?_
  rotate_left 2
  · rintro w' ⟨s0, s1, s2, s3, s4, s5, s6, s7⟩
    go_simp
    try with_reducible rfl
  · simp only [Act.put, List.setIfInBounds_toArray, List.set_cons_zero, List.set_cons_succ]
    rfl
  refine rg_take (i := 12) (N := (some 23)) (v := ?_) (a' := ?_) #[true, true, true, true, true, true, true, true, true, true, true, true, true, false, false, false, false, false, false, false, false] rfl rfl (by kernel_rfl) (fun _ _ _ h => h) (by rfl) ?_ hHeld ?_ ?_
  rotate_left 2
  · rintro w' ⟨s0, s1, s2, s3, s4, s5, s6, s7⟩
    go_simp
    try with_reducible rfl
  · simp only [Act.put, List.setIfInBounds_toArray, List.set_cons_zero, List.set_cons_succ]
    rfl
  refine rg_take (i := 13) (N := (some 24)) (v := ?_) (a' := ?_) #[true, true, true, true, true, true, true, true, true, true, true, true, true, true, false, false, false, false, false, false, false] rfl rfl (by kernel_rfl) (fun _ _ _ h => h) (by rfl) ?_ hHeld ?_ ?_
  rotate_left 2
  · rintro w' ⟨s0, s1, s2, s3, s4, s5, s6, s7⟩
    go_simp
    try with_reducible rfl
  · simp only [Act.put, List.setIfInBounds_toArray, List.set_cons_zero, List.set_cons_succ]
    rfl
  refine rg_take (i := 14) (N := (some 25)) (v := ?_) (a' := ?_) #[true, true, true, true, true, true, true, true, true, true, true, true, true, true, true, false, false, false, false, false, false] rfl rfl (by kernel_rfl) (fun _ _ _ h => h) (by rfl) ?_ hHeld ?_ ?_
  rotate_left 2
  · rintro w' ⟨s0, s1, s2, s3, s4, s5, s6, s7⟩
    go_simp
    try with_reducible rfl
  · simp only [Act.put, List.setIfInBounds_toArray, List.set_cons_zero, List.set_cons_succ]
    rfl
  refine rg_take (i := 15) (N := (some 26)) (v := ?_) (a' := ?_) #[true, true, true, true, true, true, true, true, true, true, true, true, true, true, true, true, false, false, false, false, false] rfl rfl (by kernel_rfl) (fun _ _ _ h => h) (by rfl) ?_ hHeld ?_ ?_
  rotate_left 2
  · rintro w' ⟨s0, s1, s2, s3, s4, s5, s6, s7⟩
    go_simp
    try with_reducible rfl
  · simp only [Act.put, List.setIfInBounds_toArray, List.set_cons_zero, List.set_cons_succ]
    rfl
  refine rg_one (i := 16) #[true, true, true, true, true, true, true, true, true, true, true, true, true, true, true, true, true, false, false, false, false] rfl (by kernel_rfl) (by rfl) (fun K hK => ?_)
  obtain ⟨s0, s1, s2, s3, s4, s5, s6, s7⟩ := hHeld
  repeat go_step
  refine hK.out _ _ ?_ (fun hHeld => ?_)
  · (repeat (first | (with_reducible assumption) | (with_reducible apply And.intro) | (with_reducible refine keep_cell (w := ?_) ?_ ?_ ?_; rotate_left; with_reducible assumption) | (with_reducible refine keep_cell_alloc ?_ ?_) | (with_reducible refine keep_lt (w := ?_) ?_ ?_; rotate_left; with_reducible assumption) | (with_reducible refine keep_lt_alloc ?_) | (with_reducible refine below_next (w := ?_) ?_ ?_; rotate_left 2; with_reducible assumption) | (with_reducible refine below_alloc ?_) | (with_reducible refine Below.drew ?_) | (with_reducible refine keep_lt_drew ?_) | (with_reducible refine keep_cell_drew ?_)))
  clear hK K
  clear s0 s1 s2 s3 s4 s5 s6 s7
  refine rg_one (i := 17) #[true, true, true, true, true, true, true, true, true, true, true, true, true, true, true, true, true, true, false, false, false] rfl (by kernel_rfl) (by rfl) (fun K hK => ?_)
  obtain ⟨s0, s1, s2, s3, s4, s5, s6, s7⟩ := hHeld
  repeat go_step
  ((with_reducible refine (H4.out _).mono ?_); rintro e w3 ⟨rfl, hb3⟩)
  try dsimp only
  refine hK.out _ _ ?_ (fun hHeld => ?_)
  · (repeat (first | (with_reducible assumption) | (with_reducible apply And.intro) | (with_reducible refine keep_cell (w := ?_) ?_ ?_ ?_; rotate_left; with_reducible assumption) | (with_reducible refine keep_cell_alloc ?_ ?_) | (with_reducible refine keep_lt (w := ?_) ?_ ?_; rotate_left; with_reducible assumption) | (with_reducible refine keep_lt_alloc ?_) | (with_reducible refine below_next (w := ?_) ?_ ?_; rotate_left 2; with_reducible assumption) | (with_reducible refine below_alloc ?_) | (with_reducible refine Below.drew ?_) | (with_reducible refine keep_lt_drew ?_) | (with_reducible refine keep_cell_drew ?_)))
  clear hK K
  clear s0 s1 s2 s3 s4 s5 s6 s7
  refine rg_take (i := 18) (N := (some 29)) (v := ?_) (a' := ?_) #[true, true, true, true, true, true, true, true, true, true, true, true, true, true, true, true, true, true, true, false, false] rfl rfl (by kernel_rfl) (fun _ _ _ h => h) (by rfl) ?_ hHeld ?_ ?_
  rotate_left 2
  · rintro w' ⟨s0, s1, s2, s3, s4, s5, s6, s7⟩
    go_simp
    try with_reducible rfl
  · simp only [Act.put, List.setIfInBounds_toArray, List.set_cons_zero, List.set_cons_succ]
    rfl
  refine rg_take (i := 19) (N := (some 30)) (v := ?_) (a' := ?_) #[true, true, true, true, true, true, true, true, true, true, true, true, true, true, true, true, true, true, true, true, false] rfl rfl (by kernel_rfl) (fun _ _ _ h => h) (by rfl) ?_ hHeld ?_ ?_
  rotate_left 2
  · rintro w' ⟨s0, s1, s2, s3, s4, s5, s6, s7⟩
    go_simp
    try with_reducible rfl
  · simp only [Act.put, List.setIfInBounds_toArray, List.set_cons_zero, List.set_cons_succ]
    rfl
  refine rg_take (i := 20) (N := (some 2)) (v := ?_) (a' := ?_) #[true, true, true, true, true, true, true, true, true, true, true, true, true, true, true, true, true, true, true, true, true] rfl rfl (by kernel_rfl) (fun _ _ _ h => h) (by rfl) ?_ hHeld ?_ ?_
  rotate_left 2
  · rintro w' ⟨s0, s1, s2, s3, s4, s5, s6, s7⟩
    go_simp
    try with_reducible rfl
  · simp only [Act.put, List.setIfInBounds_toArray, List.set_cons_zero, List.set_cons_succ]
    rfl
  refine rg_done (by kernel_rfl) ?_
  go_wp2
  go_ret
  exact ⟨ret_bool (by rw [Hr.out]; unfold tooLong; rw [HT.out]), by obtain ⟨_, hbb, _⟩ := hHeld; exact (by repeat (first | assumption | exact Below.refl _ _ | (refine below_step (w := ?_) ?_ ?_ ?_; rotate_left 2; assumption) | refine Below.drew ?_ | refine below_drewN ?_ _ | refine Below.alloc ?_ ?_ _ | refine Below.setCell ?_ ?_ _ | (focus (simp; done)) | (focus (simp; omega)) | omega))⟩

theorem is_any (o : Ord) (w : World) : Calls Try.prog 13 #[o.v] w fun e w' => e = .returned (.bool (isOrd o)) ∧ Below w.heap.size w w' := by
  cases h1 : okKind o.kind
  · exact is_kind o w h1
  · by_cases h2 : bareOf o = o
    · exact is_all o w h1 h2
    · exact is_bare o w h1 h2
end Go.Proofs.Ytdfgdnaejnngoaa
