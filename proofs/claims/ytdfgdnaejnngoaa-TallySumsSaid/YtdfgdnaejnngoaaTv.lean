import Derived.Test.YtdfgdnaejnngoaaTu
namespace Go.Proofs.Ytdfgdnaejnngoaa
open Go.RowKit
/-! TallySums. -/
def plN (k : Nat) : Nat := (plL 21)[k]?.getD 0
theorem plL_range : plL 21 = (List.range 25).map plN := by decide
theorem plN_lt : ∀ k, k < 25 → plN k < 25 := by decide
theorem plN_sur (i : Nat) (h : i < 25) : ∃ j, j < 25 ∧ plN j = i := by
  have := plL_all i h
  rw [plL_range, List.mem_map] at this
  obtain ⟨j, hj, e⟩ := this
  exact ⟨j, List.mem_range.1 hj, e⟩
theorem alV_range (v : Nat → Int) : alV v = (List.range 25).map fun j => v (plN j) := by
  unfold alV
  rw [plL_range, List.map_map]
  rfl
theorem range_get (f : Nat → Int) (k : Nat) (h : k < 25) : ((List.range 25).map f)[k]? = some (f k) := by
  rw [List.getElem?_map, List.getElem?_range h]
  rfl
theorem alV_get (v : Nat → Int) (k : Nat) (h : k < 25) : (alV v)[k]? = some (v (plN k)) := by rw [alV_range, range_get _ k h]
theorem VAt.el {T : TypeId} {w : World} {b : Nat} {v f : Nat → Int} (h : VAt T 25 w b v) (e : ∀ j, j < 25 → v j = f (plN j)) : Elems w (some ⟨b, 0, none⟩) 1 ((alV f).map intC) := by
  intro i r hr
  rw [List.getElem?_map, Option.map_eq_some_iff] at hr
  obtain ⟨x, hx, rfl⟩ := hr
  have hi : i < 25 := by have := (List.getElem?_eq_some_iff.1 hx).1; rw [alV_len] at this; exact this
  rw [alV_get f i hi] at hx
  cases hx
  refine ⟨b, 0, rfl, h.lt, fun j u hu => ?_⟩
  have hj : j = 0 := by have := (List.getElem?_eq_some_iff.1 hu).1; simp [intC] at this; exact this
  subst hj
  have := h.cell hi
  rw [e i hi] at this
  simp [intC] at hu
  rw [← hu]
  simpa using this
/-- so far taken off -/
def alD (v u : Nat → Int) (k : Nat) : List Int := (List.range 25).map fun j => v (plN j) - if j < k then u (plN j) else 0
theorem alD_0 (v u : Nat → Int) : alD v u 0 = alV v := by
  rw [alV_range]
  unfold alD
  simp
theorem alD_len (v u : Nat → Int) (k : Nat) : (alD v u k).length = 25 := by simp [alD]
theorem alD_get (v u : Nat → Int) (k : Nat) (h : k < 25) : (alD v u k)[k]? = some (v (plN k)) := by
  unfold alD
  rw [range_get _ k h]
  simp
theorem alD_set (v u : Nat → Int) (k : Nat) (h : k < 25) : (alD v u k).set k (v (plN k) - u (plN k)) = alD v u (k + 1) := by
  apply List.ext_getElem?
  intro j
  rw [List.getElem?_set]
  by_cases hj : j < 25
  · unfold alD
    rw [range_get _ j hj, range_get _ j hj]
    by_cases hk : k = j
    · subst hk
      simp [h]
    · rw [if_neg hk]
      have : (j < k) ↔ (j < k + 1) := by omega
      simp [this]
  · have e1 : (alD v u k)[j]? = none := List.getElem?_eq_none (by rw [alD_len]; omega)
    have e2 : (alD v u (k + 1))[j]? = none := List.getElem?_eq_none (by rw [alD_len]; omega)
    rw [e1, e2]
    split
    · rw [if_neg (by rw [alD_len]; omega)]
    · rfl
theorem alD_all (v u : Nat → Int) : alD v u 25 = alV (fun i => v i + -1 * u i) := by
  rw [alV_range]
  unfold alD
  apply List.map_congr_left
  intro j hj
  rw [if_pos (List.mem_range.1 hj)]
  omega
theorem take_plN (k : Nat) (h : k < 25) : (plL 21).take (k + 1) = (plL 21).take k ++ [plN k] := by
  have h1 : (plL 21)[k]? = some (plN k) := by
    unfold plN
    obtain ⟨x, hx⟩ := get_lt (l := plL 21) (i := k) (by rw [plL_len]; omega)
    rw [hx]
    rfl
  rw [List.take_add_one, h1]
  rfl
theorem sumV_le {v u : Nat → Int} (h : ∀ i, v i ≤ u i) (o : Nat) : ∀ n, sumV v o n ≤ sumV u o n
  | 0 => Int.le_refl _
  | n + 1 => by
    have := sumV_le h o n
    have := h (o + n)
    show sumV v o n + v (o + n) ≤ sumV u o n + u (o + n)
    omega
theorem make25 (W : World) : (Instr.makeSlice 75 (.int .i64 25) (.int .i64 25)).run Try.prog W = .ok (.slice (some ⟨W.heap.size, 0, none⟩) 25 25) (W.alloc (.cells (nv 25 (fun _ => 0)) 3)) := by
  obtain ⟨i0, hi0, hz0, hz1, hz2⟩ := info_parts I_info
  have h := run_makeSlice (P := Try.prog) W 75 3 i0 _ Try.underlying75 hi0 hz0 .i64 .i64 25 25 (by omega) (by omega) (by rw [hz1]; decide) (by rw [hz2]; decide) (by omega)
  rw [hz1] at h
  have e : madeCells (Value.int .i64 0).cells (Int.toNat 25 * 1) = nv 25 (fun _ => 0) := by kernel_rfl
  rw [e] at h
  exact h
set_option maxHeartbeats 4000000 in
set_option maxRecDepth 100000 in
theorem sums_any (A : Option Addr) (cap : Nat) (l : List (Nat → Int)) (v1 v2 : Nat → Int) (w : World) (hel : Elems w A 25 (l.map tC)) (hnil : A = none → cap = 0) (h1 : ∀ i, 25 ≤ i → v1 i = 0) (h2 : ∀ i, 25 ≤ i → v2 i = 0) : Calls Try.prog 7 #[.slice A l.length cap, .agg (nv 25 v1), .agg (nv 25 v2)] w
    fun e' w' => e' = .returned (.bool true) ∧ Below w.heap.size w w' := by
  have HAW := Lib.hid (fun W => awake_any W)
  have HE := Lib.hid hel
  have hA := (VAt.new (T := 71) (n := 25) w v1).fr ((Fr.refl (fun _ => False) _).alloc (.cells (nv 25 v2) 71)) id
  have hB := VAt.new (T := 71) (n := 25) (w.alloc (.cells (nv 25 v1) 71)) v2
  rw [show (w.alloc (.cells (nv 25 v1) 71)).heap.size = w.heap.size + 1 by simp] at hB
  have hBel : Below w.heap.size w ((w.alloc (.cells (nv 25 v1) 71)).alloc (.cells (nv 25 v2) 71)) := Below.alloc (Below.alloc (Below.refl _ _) (Nat.le_refl _) _) (by simp) _
  have HA := Lib.hid hA
  have HB := Lib.hid hB
  have HBE := Lib.hid hBel
  clear hA hB hBel hel
  by_cases h10 : 10 < l.length
  · have h10I : (10 : Int) < (l.length : Int) := by omega
    go_enter Try.func7, Try.ntmps7
    go_wp2_with (go_at_call 20; (with_reducible refine (HAW.out _).mono ?_); rintro e w1 ⟨rfl, hb1⟩)
    go_ret
    exact ⟨rfl, below_next HBE.out hb1⟩
  have h10I : (l.length : Int) ≤ 10 := by omega
  go_enter Try.func7, Try.ntmps7
  go_wp2_with (go_at_call 20; (with_reducible refine (HAW.out _).mono ?_); rintro e w1 ⟨rfl, hb1⟩)
  have HA1 := Lib.hid (HA.out.below hb1)
  have HB1 := Lib.hid (HB.out.below hb1)
  have HE1 := Lib.hid (below_next HBE.out hb1)
  clear hb1
  have hlt1 := HB1.out.lt
  refine region_cut [23, 24, 25, 26, 27, 28, 29, 7] (fun vs w' => ∃ x0 x1 x2 x3 x4 x5 A7 c7, vs = [x0, x1, x2, x3, x4, x5, .slice A7 (l.length + 2) c7, .slice A7 (l.length + 2) c7] ∧ OwnsT w' w1.heap.size (.slice A7 (l.length + 2) c7) (l ++ [v1, v2]) ∧ VAt 71 25 w' w.heap.size v1 ∧ VAt 71 25 w' (w.heap.size + 1) v2 ∧ Below w.heap.size w w' ∧ w1.heap.size ≤ w'.heap.size) ?_ ?_
  · skip
    refine rg_start (n := 8) (fun w' => VAt 71 25 w' w.heap.size v1 ∧ VAt 71 25 w' (w.heap.size + 1) v2 ∧ Below w.heap.size w w' ∧ w1.heap.size ≤ w'.heap.size) #[false, false, false, false, false, false, false, false] (by kernel_rfl) rfl rfl ⟨HA1.out.drew, HB1.out.drew, HE1.out.drew, Nat.le_refl _⟩ (fun hHeld => ?_)
    refine rg_take (i := 1) (N := (some 24)) (v := ?_) (a' := ?_) #[false, true, false, false, false, false, false, false] rfl rfl (by kernel_rfl) (fun _ _ _ h => h) (by rfl) ?_ hHeld ?_ ?_
    rotate_left 2
    · rintro w' ⟨s0, s1, s2, s3⟩
      go_simp
      try with_reducible rfl
    · simp only [Act.put, List.setIfInBounds_toArray, List.set_cons_zero, List.set_cons_succ]
      rfl
    refine rg_take (i := 3) (N := (some 26)) (v := ?_) (a' := ?_) #[false, true, false, true, false, false, false, false] rfl rfl (by kernel_rfl) (fun _ _ _ h => h) (by rfl) ?_ hHeld ?_ ?_
    rotate_left 2
    · rintro w' ⟨s0, s1, s2, s3⟩
      (refine Eq.trans (b := Result.ok (Next.value (.agg (nv 25 v1))) w') ?_ ?_; exact exec_loadn (n := 25) (k := 25) rfl rfl s0 (by omega) Try.underlying71 rfl tally_size; with_reducible rfl)
    · simp only [Act.put, List.setIfInBounds_toArray, List.set_cons_zero, List.set_cons_succ]
      rfl
    refine rg_take (i := 4) (N := (some 27)) (v := ?_) (a' := ?_) #[false, true, false, true, true, false, false, false] rfl rfl (by kernel_rfl) (fun _ _ _ h => h) (by rfl) ?_ hHeld ?_ ?_
    rotate_left 2
    · rintro w' ⟨s0, s1, s2, s3⟩
      (refine Eq.trans (b := Result.ok (Next.value (.agg (nv 25 v2))) w') ?_ ?_; exact exec_loadn (n := 25) (k := 25) rfl rfl s1 (by omega) Try.underlying71 rfl tally_size; with_reducible rfl)
    · simp only [Act.put, List.setIfInBounds_toArray, List.set_cons_zero, List.set_cons_succ]
      rfl
    refine rg_two (i := 0) (j := 5) #[true, true, false, true, true, false, false, false] #[false, true, false, true, true, true, false, false] rfl rfl (by kernel_rfl) (by rfl) (by rfl) (fun K hK => ?_) (fun K hK => ?_)
    · skip
      obtain ⟨s0, s1, s2, s3⟩ := hHeld
      (refine oper_empty (some 23) rfl rfl ?_; intro g0 w0 hg0 hz0 hf0; (try have hz50 : g5 < g0 := Nat.lt_of_lt_of_le hl5 hz0); have hz1 : w1.heap.size ≤ g0 := Nat.le_trans s3 hz0; (try have he5 := he5.fr hf0 (fun _ _ => id)); simp only [Act.put, List.setIfInBounds_toArray, List.set_cons_zero, List.set_cons_succ])
      repeat go_step
      refine hK.out _ _ ?_ (fun hHeld => ?_)
      · exact ⟨s0.fr hf0 id, s1.fr hf0 id, s2.trans (hf0.to_below s2.size (fun _ _ => id)), Nat.le_trans s3 hf0.size⟩
      clear hK K
      clear s0 s1 s2 s3
      refine rg_two (i := 2) (j := 5) #[true, true, true, true, true, false, false, false] #[true, true, false, true, true, true, false, false] rfl rfl (by kernel_rfl) (by rfl) (by rfl) (fun K hK => ?_) (fun K hK => ?_)
      · skip
        obtain ⟨s0, s1, s2, s3⟩ := hHeld
        (refine tl_copy (some 25) rfl (Operand.tmp 23) (Operand.tmp 24) rfl w1.heap.size g0 l A cap rfl rfl hg0 hz1 (HE.out.below s2) hnil (by omega) s3 ?_; intro A2 c2 w2 ho2 hf2; (try have he5 := he5.fr hf2 (fun ad e h => by cases e; have h : g0 = g5 := h; omega)); simp only [Act.put, List.setIfInBounds_toArray, List.set_cons_zero, List.set_cons_succ])
        repeat go_step
        refine hK.out _ _ ?_ (fun hHeld => ?_)
        · exact ⟨s0.fr hf2 (fun h => by have h : g0 = _ := h; omega), s1.fr hf2 (fun h => by have h : g0 = _ := h; omega), s2.trans (hf2.to_below s2.size (fun i hi h => by have h : g0 = i := h; omega)), Nat.le_trans s3 hf2.size⟩
        clear hK K
        clear s0 s1 s2 s3
        refine rg_one (i := 5) #[true, true, true, true, true, true, false, false] rfl (by kernel_rfl) (by rfl) (fun K hK => ?_)
        obtain ⟨s0, s1, s2, s3⟩ := hHeld
        (refine oper_two (some 28) rfl (Operand.tmp 26) (Operand.tmp 27) v1 v2 rfl rfl rfl ?_; intro g5 w5 he5 hz5 hl5 hf5; (try have hz05 : g0 < g5 := Nat.lt_of_lt_of_le (lt_of_row hg0) hz5); (try have hg0 := hf5.row id hg0); (try have ho2 := ho2.fr hf5 (fun _ _ h => h)); simp only [Act.put, List.setIfInBounds_toArray, List.set_cons_zero, List.set_cons_succ])
        repeat go_step
        refine hK.out _ _ ?_ (fun hHeld => ?_)
        · exact ⟨s0.fr hf5 id, s1.fr hf5 id, s2.trans (hf5.to_below s2.size (fun _ _ => id)), Nat.le_trans s3 hf5.size⟩
        clear hK K
        clear s0 s1 s2 s3
        refine rg_one (i := 6) #[true, true, true, true, true, true, true, false] rfl (by kernel_rfl) (by rfl) (fun K hK => ?_)
        obtain ⟨s0, s1, s2, s3⟩ := hHeld
        (refine tl_append (some 29) rfl (Operand.tmp 25) (Operand.tmp 28) rfl w1.heap.size (.slice A2 l.length c2) l [v1, v2] 2 ⟨g5, 0, none⟩ 2 rfl rfl rfl ho2 (fun j u hj => by rw [Addr.add_mid]; exact he5.flat (by decide) (fun r hr => by obtain ⟨v, _, rfl⟩ := List.mem_map.1 hr; exact tC_len v) j u hj) (by simp; omega) s3 (l.length + 2) (by simp) ?_; intro A6 c6 w6 ho6 hf6; have hob : ∀ k, (Value.slice A2 l.length c2).ownBlock = some k → w1.heap.size ≤ k := (fun k hk => (ho2.lt k hk).1); simp only [Act.put, List.setIfInBounds_toArray, List.set_cons_zero, List.set_cons_succ])
        repeat go_step
        refine hK.out _ _ ?_ (fun hHeld => ?_)
        · exact ⟨s0.fr hf6 (fun h => by have := hob _ h; omega), s1.fr hf6 (fun h => by have := hob _ h; omega), s2.trans (hf6.to_below s2.size (fun i hi h => by have := hob _ h; omega)), Nat.le_trans s3 hf6.size⟩
        clear hK K
        clear s0 s1 s2 s3
        refine rg_take (i := 7) (N := (some 7)) (v := ?_) (a' := ?_) #[true, true, true, true, true, true, true, true] rfl rfl (by kernel_rfl) (fun _ _ _ h => h) (by rfl) ?_ hHeld ?_ ?_
        rotate_left 2
        · rintro w' ⟨s0, s1, s2, s3⟩
          go_simp
          try with_reducible rfl
        · simp only [Act.put, List.setIfInBounds_toArray, List.set_cons_zero, List.set_cons_succ]
          rfl
        refine rg_done (by kernel_rfl) ?_
        exact ⟨_, ⟨.slice (some ⟨g0, 0, none⟩) 0 0, .slice A l.length cap, .slice A2 l.length c2, .agg (nv 25 v1), .agg (nv 25 v2), .slice (some ⟨g5, 0, none⟩) 2 2, A6, c6, rfl, ho6, hHeld⟩, by simp only [putAll, Act.put, List.setIfInBounds_toArray, List.set_cons_zero, List.set_cons_succ]⟩
      · skip
        obtain ⟨s0, s1, s2, s3⟩ := hHeld
        (refine oper_two (some 28) rfl (Operand.tmp 26) (Operand.tmp 27) v1 v2 rfl rfl rfl ?_; intro g5 w5 he5 hz5 hl5 hf5; (try have hz05 : g0 < g5 := Nat.lt_of_lt_of_le (lt_of_row hg0) hz5); (try have hg0 := hf5.row id hg0); (try have ho2 := ho2.fr hf5 (fun _ _ h => h)); simp only [Act.put, List.setIfInBounds_toArray, List.set_cons_zero, List.set_cons_succ])
        repeat go_step
        refine hK.out _ _ ?_ (fun hHeld => ?_)
        · exact ⟨s0.fr hf5 id, s1.fr hf5 id, s2.trans (hf5.to_below s2.size (fun _ _ => id)), Nat.le_trans s3 hf5.size⟩
        clear hK K
        clear s0 s1 s2 s3
        refine rg_one (i := 2) #[true, true, true, true, true, true, false, false] rfl (by kernel_rfl) (by rfl) (fun K hK => ?_)
        obtain ⟨s0, s1, s2, s3⟩ := hHeld
        (refine tl_copy (some 25) rfl (Operand.tmp 23) (Operand.tmp 24) rfl w1.heap.size g0 l A cap rfl rfl hg0 hz1 (HE.out.below s2) hnil (by omega) s3 ?_; intro A2 c2 w2 ho2 hf2; (try have he5 := he5.fr hf2 (fun ad e h => by cases e; have h : g0 = g5 := h; omega)); simp only [Act.put, List.setIfInBounds_toArray, List.set_cons_zero, List.set_cons_succ])
        repeat go_step
        refine hK.out _ _ ?_ (fun hHeld => ?_)
        · exact ⟨s0.fr hf2 (fun h => by have h : g0 = _ := h; omega), s1.fr hf2 (fun h => by have h : g0 = _ := h; omega), s2.trans (hf2.to_below s2.size (fun i hi h => by have h : g0 = i := h; omega)), Nat.le_trans s3 hf2.size⟩
        clear hK K
        clear s0 s1 s2 s3
        refine rg_one (i := 6) #[true, true, true, true, true, true, true, false] rfl (by kernel_rfl) (by rfl) (fun K hK => ?_)
        obtain ⟨s0, s1, s2, s3⟩ := hHeld
        (refine tl_append (some 29) rfl (Operand.tmp 25) (Operand.tmp 28) rfl w1.heap.size (.slice A2 l.length c2) l [v1, v2] 2 ⟨g5, 0, none⟩ 2 rfl rfl rfl ho2 (fun j u hj => by rw [Addr.add_mid]; exact he5.flat (by decide) (fun r hr => by obtain ⟨v, _, rfl⟩ := List.mem_map.1 hr; exact tC_len v) j u hj) (by simp; omega) s3 (l.length + 2) (by simp) ?_; intro A6 c6 w6 ho6 hf6; have hob : ∀ k, (Value.slice A2 l.length c2).ownBlock = some k → w1.heap.size ≤ k := (fun k hk => (ho2.lt k hk).1); simp only [Act.put, List.setIfInBounds_toArray, List.set_cons_zero, List.set_cons_succ])
        repeat go_step
        refine hK.out _ _ ?_ (fun hHeld => ?_)
        · exact ⟨s0.fr hf6 (fun h => by have := hob _ h; omega), s1.fr hf6 (fun h => by have := hob _ h; omega), s2.trans (hf6.to_below s2.size (fun i hi h => by have := hob _ h; omega)), Nat.le_trans s3 hf6.size⟩
        clear hK K
        clear s0 s1 s2 s3
        refine rg_take (i := 7) (N := (some 7)) (v := ?_) (a' := ?_) #[true, true, true, true, true, true, true, true] rfl rfl (by kernel_rfl) (fun _ _ _ h => h) (by rfl) ?_ hHeld ?_ ?_
        rotate_left 2
        · rintro w' ⟨s0, s1, s2, s3⟩
          go_simp
          try with_reducible rfl
        · simp only [Act.put, List.setIfInBounds_toArray, List.set_cons_zero, List.set_cons_succ]
          rfl
        refine rg_done (by kernel_rfl) ?_
        exact ⟨_, ⟨.slice (some ⟨g0, 0, none⟩) 0 0, .slice A l.length cap, .slice A2 l.length c2, .agg (nv 25 v1), .agg (nv 25 v2), .slice (some ⟨g5, 0, none⟩) 2 2, A6, c6, rfl, ho6, hHeld⟩, by simp only [putAll, Act.put, List.setIfInBounds_toArray, List.set_cons_zero, List.set_cons_succ]⟩
    · skip
      obtain ⟨s0, s1, s2, s3⟩ := hHeld
      (refine oper_two (some 28) rfl (Operand.tmp 26) (Operand.tmp 27) v1 v2 rfl rfl rfl ?_; intro g5 w5 he5 hz5 hl5 hf5; (try have hz05 : g0 < g5 := Nat.lt_of_lt_of_le (lt_of_row hg0) hz5); (try have hg0 := hf5.row id hg0); (try have ho2 := ho2.fr hf5 (fun _ _ h => h)); simp only [Act.put, List.setIfInBounds_toArray, List.set_cons_zero, List.set_cons_succ])
      repeat go_step
      refine hK.out _ _ ?_ (fun hHeld => ?_)
      · exact ⟨s0.fr hf5 id, s1.fr hf5 id, s2.trans (hf5.to_below s2.size (fun _ _ => id)), Nat.le_trans s3 hf5.size⟩
      clear hK K
      clear s0 s1 s2 s3
      refine rg_one (i := 0) #[true, true, false, true, true, true, false, false] rfl (by kernel_rfl) (by rfl) (fun K hK => ?_)
      obtain ⟨s0, s1, s2, s3⟩ := hHeld
      (refine oper_empty (some 23) rfl rfl ?_; intro g0 w0 hg0 hz0 hf0; (try have hz50 : g5 < g0 := Nat.lt_of_lt_of_le hl5 hz0); have hz1 : w1.heap.size ≤ g0 := Nat.le_trans s3 hz0; (try have he5 := he5.fr hf0 (fun _ _ => id)); simp only [Act.put, List.setIfInBounds_toArray, List.set_cons_zero, List.set_cons_succ])
      repeat go_step
      refine hK.out _ _ ?_ (fun hHeld => ?_)
      · exact ⟨s0.fr hf0 id, s1.fr hf0 id, s2.trans (hf0.to_below s2.size (fun _ _ => id)), Nat.le_trans s3 hf0.size⟩
      clear hK K
      clear s0 s1 s2 s3
      refine rg_one (i := 2) #[true, true, true, true, true, true, false, false] rfl (by kernel_rfl) (by rfl) (fun K hK => ?_)
      obtain ⟨s0, s1, s2, s3⟩ := hHeld
      (refine tl_copy (some 25) rfl (Operand.tmp 23) (Operand.tmp 24) rfl w1.heap.size g0 l A cap rfl rfl hg0 hz1 (HE.out.below s2) hnil (by omega) s3 ?_; intro A2 c2 w2 ho2 hf2; (try have he5 := he5.fr hf2 (fun ad e h => by cases e; have h : g0 = g5 := h; omega)); simp only [Act.put, List.setIfInBounds_toArray, List.set_cons_zero, List.set_cons_succ])
      repeat go_step
      refine hK.out _ _ ?_ (fun hHeld => ?_)
      · exact ⟨s0.fr hf2 (fun h => by have h : g0 = _ := h; omega), s1.fr hf2 (fun h => by have h : g0 = _ := h; omega), s2.trans (hf2.to_below s2.size (fun i hi h => by have h : g0 = i := h; omega)), Nat.le_trans s3 hf2.size⟩
      clear hK K
      clear s0 s1 s2 s3
      refine rg_one (i := 6) #[true, true, true, true, true, true, true, false] rfl (by kernel_rfl) (by rfl) (fun K hK => ?_)
      obtain ⟨s0, s1, s2, s3⟩ := hHeld
      (refine tl_append (some 29) rfl (Operand.tmp 25) (Operand.tmp 28) rfl w1.heap.size (.slice A2 l.length c2) l [v1, v2] 2 ⟨g5, 0, none⟩ 2 rfl rfl rfl ho2 (fun j u hj => by rw [Addr.add_mid]; exact he5.flat (by decide) (fun r hr => by obtain ⟨v, _, rfl⟩ := List.mem_map.1 hr; exact tC_len v) j u hj) (by simp; omega) s3 (l.length + 2) (by simp) ?_; intro A6 c6 w6 ho6 hf6; have hob : ∀ k, (Value.slice A2 l.length c2).ownBlock = some k → w1.heap.size ≤ k := (fun k hk => (ho2.lt k hk).1); simp only [Act.put, List.setIfInBounds_toArray, List.set_cons_zero, List.set_cons_succ])
      repeat go_step
      refine hK.out _ _ ?_ (fun hHeld => ?_)
      · exact ⟨s0.fr hf6 (fun h => by have := hob _ h; omega), s1.fr hf6 (fun h => by have := hob _ h; omega), s2.trans (hf6.to_below s2.size (fun i hi h => by have := hob _ h; omega)), Nat.le_trans s3 hf6.size⟩
      clear hK K
      clear s0 s1 s2 s3
      refine rg_take (i := 7) (N := (some 7)) (v := ?_) (a' := ?_) #[true, true, true, true, true, true, true, true] rfl rfl (by kernel_rfl) (fun _ _ _ h => h) (by rfl) ?_ hHeld ?_ ?_
      rotate_left 2
      · rintro w' ⟨s0, s1, s2, s3⟩
        go_simp
        try with_reducible rfl
      · simp only [Act.put, List.setIfInBounds_toArray, List.set_cons_zero, List.set_cons_succ]
        rfl
      refine rg_done (by kernel_rfl) ?_
      exact ⟨_, ⟨.slice (some ⟨g0, 0, none⟩) 0 0, .slice A l.length cap, .slice A2 l.length c2, .agg (nv 25 v1), .agg (nv 25 v2), .slice (some ⟨g5, 0, none⟩) 2 2, A6, c6, rfl, ho6, hHeld⟩, by simp only [putAll, Act.put, List.setIfInBounds_toArray, List.set_cons_zero, List.set_cons_succ]⟩
  · rintro _ w2 ⟨x0, x1, x2, x3, x4, x5, A7, c7, rfl, hown2, hA2, hB2, hb2, hz2⟩
    simp only [putAll, Act.put, List.setIfInBounds_toArray, List.set_cons_zero, List.set_cons_succ]
    have hrl : (l ++ [v1, v2]).length = l.length + 2 := by simp
    have hm1 : v1 ∈ l ++ [v1, v2] := by simp
    have hm2 : v2 ∈ l ++ [v1, v2] := by simp
    generalize l ++ [v1, v2] = row at *
    rw [← hrl] at hown2 ⊢
    have hr12 : row.length ≤ 12 := by omega
    have hlo2 := hown2.lt
    have hmk := make25
    have HO2 := Lib.hid hown2
    have HA2 := Lib.hid hA2
    have HB2 := Lib.hid hB2
    have HE2 := Lib.hid hb2
    have HM1 := Lib.hid hm1
    have HM2 := Lib.hid hm2
    have HLO := Lib.hid hlo2
    clear hown2 hA2 hB2 hb2 hm1 hm2 hrl h10 h10I HE HA HB HBE HA1 HB1 HE1 hlo2 hnil
    go_wp2_with fail
    go_loopw [9, 10, 11] (fun i _ _ wr => ∃ j : Nat, i = .int .i64 j ∧ j ≤ row.length ∧ VAt 3 25 wr w2.heap.size (fun p => sumT (row.take j) (plN p)) ∧ (∀ v ∈ row.take j, TGood v) ∧ OwnsT wr w1.heap.size (.slice A7 row.length c7) row ∧ VAt 71 25 wr w.heap.size v1 ∧ VAt 71 25 wr (w.heap.size + 1) v2 ∧ Below w.heap.size w wr) (fun i _ _ _ => row.length + 1 - (intOf i).toNat)
    case atStart => exact ⟨0, rfl, Nat.zero_le _, by rw [List.take_zero]; exact heap_alloc_new w2 _, by simp, HO2.out.alloc _, HA2.out.fr ((Fr.refl (fun _ => False) w2).alloc _) id, HB2.out.fr ((Fr.refl (fun _ => False) w2).alloc _) id, below_alloc HE2.out⟩
    case round =>
      rename World => wrA
      obtain ⟨j, rfl, hj, hva, hgd, how, hxa, hxb, hbel⟩ := hrel
      have hwl := hva.lt
      by_cases hjl : j < row.length
      · have hjI : (j : Int) < (row.length : Int) := by omega
        obtain ⟨e, he⟩ := get_lt hjl
        obtain ⟨g, rfl, hBg, hgl, hcap, hcells⟩ := how.row tC_len he
        have hgw := (HLO.out g rfl).2
        have hR : wrA.rangeAt g (j * 25) (tC e) := fun q u hq => hcells q u hq
        have hsm := sumT_range (row.take j) hgd
        have hnx := sumT_take row j e he
        have hall := fun W => all_any e W
        have hL : (Try.prog.info? 71).map (·.size) = some (tC e).length := by rw [tC_len]; exact tally_size
        have hj12 : (row.take j).length ≤ 12 := by rw [List.length_take]; omega
        have hnvt : nv 25 e = (tC e).toArray := by simp [tC]
        rw [hnvt] at hall
        generalize tC e = cs at hR hall hL
        have HR := Lib.hid hR
        have HALL := Lib.hid hall
        have HL := Lib.hid hL
        have HN := Lib.hid hnx
        have HSM := Lib.hid hsm
        have HVA := Lib.hid hva
        have HGD := Lib.hid hgd
        have HOW := Lib.hid how
        have HXA := Lib.hid hxa
        have HXB := Lib.hid hxb
        have HEE := Lib.hid he
        clear hR hall hL hnx hsm hva hgd how hxa hxb hcells he hnvt
        go_wp2_with (first | (refine wpList_load_mid rfl 71 (Operand.tmp 39) rfl g (j * 25) rfl cs _ HR.out Try.underlying71 rfl HL.out ?_) | (go_at_call 30; (with_reducible refine (HALL.out _).mono ?_); rintro e' w3 ⟨A3, cap3, rfl, ho3, hb3⟩))
        have hbel3 := below_next hbel hb3
        have hva3 := HVA.out.below hb3
        have how3 := HOW.out.below hb3
        have hxa3 := HXA.out.below hb3
        have hxb3 := HXB.out.below hb3
        obtain ⟨g3, rfl, hB3, hg3, _, _⟩ := ho3.row intC_len (alV_get e 0 (by omega))
        have hva4 : VAt 3 25 w3 w2.heap.size (fun p => sumT (row.take j) (plN p) + if p < 0 then e (plN p) else 0) := hva3.eq (fun p => by simp)
        have HVA3 := Lib.hid hva4
        have HOW3 := Lib.hid how3
        have HXA3 := Lib.hid hxa3
        have HXB3 := Lib.hid hxb3
        have HO3 := Lib.hid ho3
        have HB3 := Lib.hid hbel3
        clear hva3 hva4 how3 hxa3 hxb3 ho3 hb3 hbel hbel3
        go_wp2
        go_loopw [11] (fun k wr2 => ∃ q : Nat, k = .int .i64 q ∧ q ≤ 25 ∧ VAt 3 25 wr2 w2.heap.size (fun p => sumT (row.take j) (plN p) + if p < q then e (plN p) else 0) ∧ (∀ p, p < q → 0 ≤ e (plN p) ∧ e (plN p) ≤ 1099511627776) ∧ OwnsI wr2 wrA.heap.size (.slice (some ⟨g3, 0, none⟩) 25 cap3) (alV e) ∧ OwnsT wr2 w1.heap.size (.slice (some ⟨g, 0, none⟩) row.length c7) row ∧ VAt 71 25 wr2 w.heap.size v1 ∧ VAt 71 25 wr2 (w.heap.size + 1) v2 ∧ Below w.heap.size w wr2) (fun k _ => 26 - (intOf k).toNat)
        case atStart => exact ⟨0, rfl, by omega, HVA3.out, fun p hp => by omega, HO3.out, HOW3.out, HXA3.out, HXB3.out, HB3.out⟩
        case round =>
          obtain ⟨q, rfl, hq, hva, hgq, ho3, how, hxa, hxb, hbel⟩ := hrel
          by_cases hq25 : q < 25
          · have hqI : (q : Int) < 25 := by omega
            obtain ⟨_, e3, _, _, _, c3⟩ := ho3.row intC_len (alV_get e q hq25)
            cases e3
            have q1 : wr.cell? ⟨g3, q, none⟩ = some (.int .i64 (e (plN q))) := by have := c3 0 _ rfl; simpa using this
            have q2 : wr.cell? ⟨w2.heap.size, q, none⟩ = some (.int .i64 (sumT (row.take j) (plN q))) := by have := hva.cell hq25; simpa using this
            have q3 := hva.f q
            obtain ⟨s0, s1⟩ := HSM.out (plN q) (plN_lt q hq25)
            have s2 : sumT (row.take j) (plN q) ≤ 13194139533312 := by omega
            have HVA4 := Lib.hid hva
            have HGQ := Lib.hid hgq
            have HO4 := Lib.hid ho3
            have HOW4 := Lib.hid how
            have HXA4 := Lib.hid hxa
            have HXB4 := Lib.hid hxb
            have hne : g3 ≠ w2.heap.size := by omega
            have hlt2 := hva.lt
            clear hva hgq ho3 how hxa hxb c3 s1
            have hfin : ∀ x s : Int, x = e (plN q) → s = sumT (row.take j) (plN q) → 0 ≤ x → x ≤ 1099511627776 → (VAt 3 25 (wr.setCell ⟨w2.heap.size, q, none⟩ (.int .i64 (s + x))).drew w2.heap.size (fun p => sumT (row.take j) (plN p) + if p < q + 1 then e (plN p) else 0) ∧ (∀ p, p < q + 1 → 0 ≤ e (plN p) ∧ e (plN p) ≤ 1099511627776) ∧ OwnsI (wr.setCell ⟨w2.heap.size, q, none⟩ (.int .i64 (s + x))).drew wrA.heap.size (.slice (some ⟨g3, 0, none⟩) 25 cap3) (alV e) ∧ OwnsT (wr.setCell ⟨w2.heap.size, q, none⟩ (.int .i64 (s + x))).drew w1.heap.size (.slice (some ⟨g, 0, none⟩) row.length c7) row ∧ VAt 71 25 (wr.setCell ⟨w2.heap.size, q, none⟩ (.int .i64 (s + x))).drew w.heap.size v1 ∧ VAt 71 25 (wr.setCell ⟨w2.heap.size, q, none⟩ (.int .i64 (s + x))).drew (w.heap.size + 1) v2 ∧ Below w.heap.size w (wr.setCell ⟨w2.heap.size, q, none⟩ (.int .i64 (s + x))).drew) := by
              intro x s hx hs h0 h1
              have hf : Fr (fun k => k = w2.heap.size) wr (wr.setCell ⟨w2.heap.size, q, none⟩ (.int .i64 (s + x))).drew := ((Fr.refl (fun k => k = w2.heap.size) wr).setCell (p := ⟨w2.heap.size, q, none⟩) (fun _ => rfl) _).drew
              refine ⟨(HVA4.out.set q (s + x)).eq fun p => ?_, fun p hp => ?_, HO4.out.fr' hf (fun k hk e => by have hk2 : g3 = k := (by simpa [Value.ownBlock] using hk); omega), HOW4.out.fr' hf (fun k hk e => by have hk2 : g = k := (by simpa [Value.ownBlock] using hk); omega), HXA4.out.fr hf (by omega), HXB4.out.fr hf (by omega), hbel.trans (hf.to_below (B := w.heap.size) hbel.size (fun i hi e => by omega))⟩
              · unfold updI
                by_cases hp : p = q
                · subst hp
                  simp [hx, hs]
                · rw [if_neg hp]
                  have : (p < q) ↔ (p < q + 1) := by omega
                  simp [this]
              · by_cases hp2 : p < q
                · exact HGQ.out p hp2
                · obtain rfl : p = q := by omega
                  rw [← hx]
                  exact ⟨h0, h1⟩
            generalize e (plN q) = x at hfin q1
            generalize sumT (row.take j) (plN q) = s at hfin q2 s0 s2
            have hfin2 := hfin x s rfl rfl
            have HFIN := Lib.hid hfin2
            clear hfin hfin2
            by_cases hx0 : x < 0
            · go_wp2
              go_ret
              exact ⟨rfl, hbel⟩
            by_cases hx1 : 1099511627776 < x
            · have hx2 : decide (x < 0) = false := by simp [hx0]
              go_wp2
              go_ret
              exact ⟨rfl, hbel⟩
            have hx0' : 0 ≤ x := by omega
            have hx1' : x ≤ 1099511627776 := by omega
            have hx2 : decide (x < 0) = false := by simp [hx0]
            have hx3 : decide (1099511627776 < x) = false := by simp [hx1]
            have HF := Lib.hid (HFIN.out hx0' hx1')
            go_wp2
            go_region
            go_wp2
            refine ⟨⟨q + 1, by go_num, by omega, HF.out⟩, ?_⟩
            simp [intOf]
            omega
          · obtain rfl : q = 25 := by omega
            have hva2 : VAt 3 25 wr w2.heap.size (fun p => sumT (row.take (j + 1)) (plN p)) := VAt.eqn hva (fun p hp => by rw [if_pos hp, HN.out])
            have hgd2 : ∀ v ∈ row.take (j + 1), TGood v := by
              intro v hv
              rw [List.take_add_one, HEE.out, Option.toList_some, List.mem_append, List.mem_singleton] at hv
              rcases hv with hv | rfl
              · exact HGD.out v hv
              · intro i hi
                obtain ⟨p, hp, rfl⟩ := plN_sur i hi
                exact hgq p hp
            have HVA5 := Lib.hid hva2
            have HGD5 := Lib.hid hgd2
            have HOW5 := Lib.hid how
            have HXA5 := Lib.hid hxa
            have HXB5 := Lib.hid hxb
            clear hva hva2 hgd2 how hxa hxb hgq ho3
            go_wp2
            refine ⟨⟨j + 1, by go_num, by omega, HVA5.out, HGD5.out, HOW5.out, HXA5.out, HXB5.out, hbel⟩, ?_⟩
            simp [intOf]
            omega
      · obtain rfl : j = row.length := by omega
        rw [List.take_length] at hva hgd
        have hj := fun A c W h => join_any A c row W h hgd (by omega)
        have hgV := sumT_range row hgd
        have hel := how.elems tC_len
        have hwe := hva.el (f := sumT row) (fun _ _ => rfl)
        have hi := fun A c A' c' W h h' => ints_any A A' c c' (alV (sumT row)) W h h' (by rw [alV_len]; omega)
        rw [alV_len] at hi
        have hg1 := hgd v1 HM1.out
        have hg2 := hgd v2 HM2.out
        have hla := fun W h => less_any v1 v2 W h (fun i hi => by have := hg2 i hi; omega)
        have hla2 := fun W => hla W (fun i hi => by have := hg1 i hi; omega)
        have HJ := Lib.hid hj
        have HI := Lib.hid hi
        have HEL := Lib.hid hel
        have HWE := Lib.hid hwe
        have HG1 := Lib.hid hg1
        have HG2 := Lib.hid hg2
        have HLA := Lib.hid hla2
        have HXA := Lib.hid hxa
        have HXB := Lib.hid hxb
        clear hj hi hel hwe hg1 hg2 hla hla2 hxa hxb hva hgd how hgV HM1 HM2 HO2 HA2 HB2 HE2
        have HL : (Try.prog.info? 71).map (·.size) = some (nv 25 v1).toList.length := by rw [nv_len]; exact tally_size
        have HL2 : (Try.prog.info? 71).map (·.size) = some (nv 25 v2).toList.length := by rw [nv_len]; exact tally_size
        have HL := Lib.hid HL
        have HL2 := Lib.hid HL2
        go_wp2_with fail
        refine Calls.mono (HJ.out _ _ _ HEL.out) ?_
        rintro e w3 ⟨rfl, hb3⟩
        go_wp2_with fail
        refine Calls.mono (all_any _ _) ?_
        rintro e w4 ⟨A4, cap4, rfl, ho4, hb4⟩
        have hwe4 := (HWE.out.below hb3).below hb4
        go_wp2_with fail
        refine Calls.mono (HI.out _ _ _ _ _ ho4.el hwe4) ?_
        rintro e w5 ⟨rfl, hb5⟩
        have HXA5 := Lib.hid (((HXA.out.below hb3).below hb4).below hb5)
        have HXB5 := Lib.hid (((HXB.out.below hb3).below hb4).below hb5)
        have hw5b := HXB5.out.lt
        have HB5 := Lib.hid (below_next (below_next (below_next hbel hb3) hb4) hb5)
        clear hb3 hb4 hb5 ho4 hwe4 HJ HI HEL HWE HXA HXB hbel
        have HRA := Lib.hid HXA5.out.range
        go_wp2_with (refine wpList_load_mid rfl 71 (Operand.tmp 4) rfl w.heap.size 0 rfl _ _ HRA.out Try.underlying71 rfl HL.out ?_)
        refine Calls.mono (all_any _ _) ?_
        rintro e w6 ⟨A6, cap6, rfl, ho6, hb6⟩
        have HXA6 := Lib.hid (HXA5.out.below hb6)
        have HXB6 := Lib.hid (HXB5.out.below hb6)
        have HB6 := Lib.hid (below_next HB5.out hb6)
        obtain ⟨gx, rfl, hBx, hgx, _, _⟩ := ho6.row intC_len (alV_get v1 0 (by omega))
        rw [← alD_0 v1 v2] at ho6
        have HO6 := Lib.hid ho6
        clear hb6 ho6 HXA5 HXB5 HB5 HRA
        have HRB := Lib.hid HXB6.out.range
        go_wp2_with (refine wpList_load_mid rfl 71 (Operand.tmp 5) rfl (w.heap.size + 1) 0 rfl _ _ HRB.out Try.underlying71 rfl HL2.out ?_)
        refine Calls.mono (all_any _ _) ?_
        rintro e w7 ⟨A7', cap7, rfl, ho7, hb7⟩
        have HXA7 := Lib.hid (HXA6.out.below hb7)
        have HXB7 := Lib.hid (HXB6.out.below hb7)
        have HB7 := Lib.hid (below_next HB6.out hb7)
        have HO67 := Lib.hid (HO6.out.below hb7)
        have hz67 := hb7.size
        obtain ⟨gy, rfl, hBy, hgy, _, _⟩ := ho7.row intC_len (alV_get v2 0 (by omega))
        have HO7 := Lib.hid ho7
        have hw5 := HXB6.out.lt
        clear hb7 ho7 HXA6 HXB6 HB6 HRB HO6
        go_wp2
        go_loopw [14, 15] (fun f i wr => ∃ q : Nat, i = .int .i64 q ∧ q ≤ 25 ∧ f = .bool (okW v1 v2 (-1) ((plL 21).take q)) ∧ OwnsI wr w5.heap.size (.slice (some ⟨gx, 0, none⟩) 25 cap6) (alD v1 v2 q) ∧ OwnsI wr w6.heap.size (.slice (some ⟨gy, 0, none⟩) 25 cap7) (alV v2) ∧ VAt 71 25 wr w.heap.size v1 ∧ VAt 71 25 wr (w.heap.size + 1) v2 ∧ Below w.heap.size w wr) (fun _ i _ => 26 - (intOf i).toNat)
        case atStart => exact ⟨0, rfl, by omega, rfl, HO67.out, HO7.out, HXA7.out, HXB7.out, HB7.out⟩
        case round =>
          obtain ⟨q, rfl, hq, rfl, hox, hoy, hxa, hxb, hbel⟩ := hrel
          by_cases hq25 : q < 25
          · have hqI : (q : Int) < 25 := by omega
            obtain ⟨_, e3, _, hgx2, _, c3⟩ := hox.row intC_len (alD_get v1 v2 q hq25)
            cases e3
            obtain ⟨_, e4, _, _, _, c4⟩ := hoy.row intC_len (alV_get v2 q hq25)
            cases e4
            have q1 : wr.cell? ⟨gx, q, none⟩ = some (.int .i64 (v1 (plN q))) := by have := c3 0 _ rfl; simpa using this
            have q2 : wr.cell? ⟨gy, q, none⟩ = some (.int .i64 (v2 (plN q))) := by have := c4 0 _ rfl; simpa using this
            have q3 := hox.unfrozen q
            obtain ⟨a0, a1⟩ := HG1.out (plN q) (plN_lt q hq25)
            obtain ⟨b0, b1⟩ := HG2.out (plN q) (plN_lt q hq25)
            have hne : gy ≠ gx := by omega
            have hok := okW_snoc v1 v2 (-1) ((plL 21).take q) (plN q)
            rw [← take_plN q hq25] at hok
            have hfin : ∀ d : Int, d = v1 (plN q) - v2 (plN q) → (OwnsI (wr.setCell ⟨gx, q, none⟩ (.int .i64 d)).drew w5.heap.size (.slice (some ⟨gx, 0, none⟩) 25 cap6) (alD v1 v2 (q + 1)) ∧ OwnsI (wr.setCell ⟨gx, q, none⟩ (.int .i64 d)).drew w6.heap.size (.slice (some ⟨gy, 0, none⟩) 25 cap7) (alV v2) ∧ VAt 71 25 (wr.setCell ⟨gx, q, none⟩ (.int .i64 d)).drew w.heap.size v1 ∧ VAt 71 25 (wr.setCell ⟨gx, q, none⟩ (.int .i64 d)).drew (w.heap.size + 1) v2 ∧ Below w.heap.size w (wr.setCell ⟨gx, q, none⟩ (.int .i64 d)).drew) := by
              intro d hd
              have hf : Fr (fun k => k = gx) wr (wr.setCell ⟨gx, q, none⟩ (.int .i64 d)).drew := ((Fr.refl (fun k => k = gx) wr).setCell (p := ⟨gx, q, none⟩) (fun _ => rfl) _).drew
              have hw := hox.write intC_len (i := q) (by rw [alD_len]; exact hq25) d
              rw [Nat.mul_one, hd, alD_set v1 v2 q hq25, ← hd] at hw
              refine ⟨hw, hoy.fr' hf (fun k hk e => by have hk2 : gy = k := (by simpa [Value.ownBlock] using hk); omega), hxa.fr hf (by omega), hxb.fr hf (by omega), hbel.trans (hf.to_below (B := w.heap.size) hbel.size (fun i hi e => by omega))⟩
            have hce : ∀ d : Int, (wr.setCell ⟨gx, q, none⟩ (.int .i64 d)).drew.cell? ⟨gx, q, none⟩ = some (.int .i64 d) := by
              intro d
              have hw := hox.write intC_len (i := q) (by rw [alD_len]; exact hq25) d
              rw [Nat.mul_one] at hw
              obtain ⟨_, e5, _, _, _, c5⟩ := hw.row intC_len (j := q) (p := d) (by rw [List.getElem?_set]; simp [alD_len, hq25])
              cases e5
              have := c5 0 _ rfl
              show (wrW wr gx q (intC d)).cell? ⟨gx, q, none⟩ = _
              simpa using this
            have hfin2 := hfin _ rfl
            have hce2 := hce (v1 (plN q) - v2 (plN q))
            clear hfin hce c3 c4 hox hoy hxa hxb hbel
            generalize v1 (plN q) = a at *
            generalize v2 (plN q) = b at *
            generalize okW v1 v2 (-1) ((plL 21).take q) = is at hok ⊢
            have hE : a + -1 * b = a - b := by omega
            rw [hE, show decide (0 ≤ a - b) = decide (b ≤ a) from by simp] at hok
            have HOK := Lib.hid hok
            have HFIN := Lib.hid hfin2
            have HCE := Lib.hid hce2
            clear hok hfin2 hce2 hE
            go_wp2
            go_region
            have HC2 := HCE.out
            have HF2 := HFIN.out
            generalize (wr.setCell ⟨gx, q, none⟩ (.int .i64 (a - b))).drew = W at *
            have HF := Lib.hid HF2
            clear HF2 HCE HFIN q1 q2 q3
            cases is
            · have hok2 : okW v1 v2 (-1) ((plL 21).take (q + 1)) = false := by rw [HOK.out]; rfl
              have HOK2 := Lib.hid hok2
              clear hok2
              go_wp2
              refine ⟨⟨q + 1, by go_num, by omega, by rw [HOK2.out], HF.out⟩, ?_⟩
              simp [intOf]
              omega
            · by_cases hge : b ≤ a
              · have hok2 : okW v1 v2 (-1) ((plL 21).take (q + 1)) = true := by rw [HOK.out]; simp [hge]
                have HOK2 := Lib.hid hok2
                clear hok2
                go_wp2
                refine ⟨⟨q + 1, by go_num, by omega, by rw [HOK2.out], HF.out⟩, ?_⟩
                simp [intOf]
                omega
              · have hok2 : okW v1 v2 (-1) ((plL 21).take (q + 1)) = false := by rw [HOK.out]; simp [hge]
                have HOK2 := Lib.hid hok2
                have hge2 : decide (b ≤ a) = false := by simp [hge]
                clear hok2
                go_wp2
                refine ⟨⟨q + 1, by go_num, by omega, by rw [HOK2.out], HF.out⟩, ?_⟩
                simp [intOf]
                omega
          · obtain rfl : q = 25 := by omega
            have htk : (plL 21).take 25 = plL 21 := List.take_of_length_le (by rw [plL_len]; omega)
            rw [htk]
            rw [alD_all] at hox
            have HOX := Lib.hid hox
            have HXA := Lib.hid hxa
            have HXB := Lib.hid hxb
            have HRA := Lib.hid hxa.range
            have HRB := Lib.hid hxb.range
            have hst := fun W zs hz => any_store 71 (lessV v1 v2) W zs tally_size hz
            have hsz := nv_size 25 (lessV v1 v2)
            have hlv : lessV v1 v2 = if okW v1 v2 (-1) (plL 21) then (fun i => v1 i + -1 * v2 i) else (fun _ => 0) := rfl
            have hokE : okW v1 v2 (-1) (plL 21) = true → ∀ i, i < 25 → 0 ≤ v1 i + -1 * v2 i := fun h i hi => by
              unfold okW at h
              rw [List.all_eq_true] at h
              simpa using h i (plL_all i hi)
            have HLA2 := Lib.hid (HLA.out)
            generalize lessV v1 v2 = V at hst hsz hlv HLA2
            generalize okW v1 v2 (-1) (plL 21) = ok at hlv hokE HLA2 ⊢
            have HLV := Lib.hid hlv
            have HOKE := Lib.hid hokE
            clear htk hox hxa hxb hoy hlv hokE
            go_wp2_with (first | (refine wpList_load_mid rfl 71 (Operand.tmp 4) rfl w.heap.size 0 rfl _ _ HRA.out Try.underlying71 rfl HL.out ?_) | (refine wpList_load_mid rfl 71 (Operand.tmp 5) rfl (w.heap.size + 1) 0 rfl _ _ HRB.out Try.underlying71 rfl HL2.out ?_))
            refine Calls.mono (HLA2.out _) ?_
            rintro e w8 ⟨rfl, hb8⟩
            have HX9 := Lib.hid ((HOX.out.below hb8).alloc (.cells (nv 25 V) 71))
            have HA9 := Lib.hid ((HXA.out.below hb8).fr ((Fr.refl (fun _ => False) w8).alloc (.cells (nv 25 V) 71)) id)
            have HB9 := Lib.hid (below_alloc (o := .cells (nv 25 V) 71) (below_next hbel hb8))
            have HV9 := Lib.hid (VAt.new (T := 71) (n := 25) w8 V)
            clear HOX HXA HXB HRA HRB HLA2 HL HL2 hb8 hbel
            have hgu : Try.prog.eqGuardType Try.prog.depth 71 = false := by kernel_rfl
            cases ok
            · have hV : V = fun _ => 0 := by rw [HLV.out]; rfl
              have HRV := Lib.hid HV9.out.range
              have hL : (Try.prog.info? 71).map (·.size) = some (nv 25 V).toList.length := by rw [nv_len]; exact tally_size
              have HL := Lib.hid hL
              have heq : ∀ W, (binOp .eql 71 (.agg (nv 25 V)) (.agg #[.int .i64 0, .int .i64 0, .int .i64 0, .int .i64 0, .int .i64 0, .int .i64 0, .int .i64 0, .int .i64 0, .int .i64 0, .int .i64 0, .int .i64 0, .int .i64 0, .int .i64 0, .int .i64 0, .int .i64 0, .int .i64 0, .int .i64 0, .int .i64 0, .int .i64 0, .int .i64 0, .int .i64 0, .int .i64 0, .int .i64 0, .int .i64 0, .int .i64 0])).run Try.prog W = .ok (.bool true) W := fun W => by rw [hV]; exact eql_tally (fun _ => 0) W
              clear hL hV
              go_wp2_with (refine wpList_load_w (by rfl) 71 (Operand.tmp 16) rfl w8.heap.size 0 rfl (nv 25 V).toList _ HRV.out Try.underlying71 rfl HL.out ?_)
              go_ret
              exact ⟨rfl, HB9.out⟩
            · have hV : V = fun i => v1 i + -1 * v2 i := by rw [HLV.out]; rfl
              have hrV : ∀ i, 0 ≤ V i ∧ V i ≤ v1 i := fun i => by
                rw [hV]
                by_cases hi : i < 25
                · have := HOKE.out rfl i hi
                  have := HG2.out i hi
                  dsimp only
                  omega
                · have := h1 i (by omega)
                  have := h2 i (by omega)
                  dsimp only
                  omega
              have hr1 : ∀ i, 0 ≤ v1 i ∧ v1 i ≤ 72057594037927936 := fun i => by
                by_cases hi : i < 25
                · have := HG1.out i hi
                  omega
                · have := h1 i (by omega)
                  omega
              have hr2 : ∀ i, 0 ≤ V i ∧ V i ≤ 72057594037927936 := fun i => by have := hrV i; have := hr1 i; omega
              have hsl : sumV V 9 12 ≤ sumV v1 9 12 := sumV_le (fun i => (hrV i).2) 9 12
              have hdl : decide (sumV V 9 12 ≤ sumV v1 9 12) = true := by simp [hsl]
              have hi := fun A c A' c' W h h' => ints_any A A' c c' (alV V) W h h' (by rw [alV_len]; omega)
              rw [alV_len] at hi
              rw [← hV] at HX9
              have HI := Lib.hid hi
              have HR1 := Lib.hid hr1
              have HR2 := Lib.hid hr2
              clear hV hrV hr1 hr2 hsl hi
              go_wp2
              refine rg_start (n := 17) (fun w' => VAt 71 25 w' w8.heap.size V ∧ VAt 71 25 w' w.heap.size v1 ∧ OwnsI w' w5.heap.size (.slice (some ⟨gx, 0, none⟩) 25 cap6) (alV V) ∧ Below w.heap.size w w') #[false, false, false, false, false, false, false, false, false, false, false, false, false, false, false, false, false] (by kernel_rfl) rfl rfl ⟨HV9.out.drew, HA9.out.drew, HX9.out.drew, HB9.out.drew⟩ (fun hHeld => ?_)
              refine rg_take (i := 0) (N := (some 123)) (v := ?_) (a' := ?_) #[true, false, false, false, false, false, false, false, false, false, false, false, false, false, false, false, false] rfl rfl (by kernel_rfl) (fun _ _ _ h => h) (by rfl) ?_ hHeld ?_ ?_
              rotate_left 2
              · rintro w' ⟨s0, s1, s2, s3⟩
                go_simp
                try with_reducible rfl
              · simp only [Act.put, List.setIfInBounds_toArray, List.set_cons_zero, List.set_cons_succ]
                rfl
              refine rg_take (i := 1) (N := (some 124)) (v := ?_) (a' := ?_) #[true, true, false, false, false, false, false, false, false, false, false, false, false, false, false, false, false] rfl rfl (by kernel_rfl) (fun _ _ _ h => h) (by rfl) ?_ hHeld ?_ ?_
              rotate_left 2
              · rintro w' ⟨s0, s1, s2, s3⟩
                go_simp
                try with_reducible rfl
              · simp only [Act.put, List.setIfInBounds_toArray, List.set_cons_zero, List.set_cons_succ]
                rfl
              refine rg_take (i := 2) (N := (some 125)) (v := ?_) (a' := ?_) #[true, true, true, false, false, false, false, false, false, false, false, false, false, false, false, false, false] rfl rfl (by kernel_rfl) (fun _ _ _ h => h) (by rfl) ?_ hHeld ?_ ?_
              rotate_left 2
              · rintro w' ⟨s0, s1, s2, s3⟩
                (refine Eq.trans (b := Result.ok (Next.value (.agg (nv 25 V))) w') ?_ ?_; exact exec_loadn (n := 25) (k := 25) rfl rfl s0 (by omega) Try.underlying71 rfl tally_size; with_reducible rfl)
              · simp only [Act.put, List.setIfInBounds_toArray, List.set_cons_zero, List.set_cons_succ]
                rfl
              refine rg_take (i := 4) (N := (some 127)) (v := ?_) (a' := ?_) #[true, true, true, false, true, false, false, false, false, false, false, false, false, false, false, false, false] rfl rfl (by kernel_rfl) (fun _ _ _ h => h) (by rfl) ?_ hHeld ?_ ?_
              rotate_left 2
              · rintro w' ⟨s0, s1, s2, s3⟩
                go_simp
                try with_reducible rfl
              · simp only [Act.put, List.setIfInBounds_toArray, List.set_cons_zero, List.set_cons_succ]
                rfl
              refine rg_one (i := 3) #[true, true, true, true, true, false, false, false, false, false, false, false, false, false, false, false, false] rfl (by kernel_rfl) (by rfl) (fun K hK => ?_)
              obtain ⟨s0, s1, s2, s3⟩ := hHeld
              repeat go_step
              ((with_reducible refine (all_any V _).mono ?_); rintro e w10 ⟨A10, cap10, rfl, ho10, hb10⟩; have HO10 := Lib.hid ho10; clear ho10)
              try dsimp only
              refine hK.out _ _ ?_ (fun hHeld => ?_)
              · exact ⟨s0.below hb10, s1.below hb10, s2.below hb10, below_next s3 hb10⟩
              clear hK K
              clear s0 s1 s2 s3
              refine rg_one (i := 5) #[true, true, true, true, true, true, false, false, false, false, false, false, false, false, false, false, false] rfl (by kernel_rfl) (by rfl) (fun K hK => ?_)
              obtain ⟨s0, s1, s2, s3⟩ := hHeld
              repeat go_step
              ((with_reducible refine (HI.out _ _ _ _ _ (OwnsI.el HO10.out) (OwnsI.el s2)).mono ?_); rintro e w11 ⟨rfl, hb11⟩)
              try dsimp only
              refine hK.out _ _ ?_ (fun hHeld => ?_)
              · exact ⟨s0.below hb11, s1.below hb11, s2.below hb11, below_next s3 hb11⟩
              clear hK K
              clear s0 s1 s2 s3
              refine rg_take (i := 6) (N := (some 129)) (v := ?_) (a' := ?_) #[true, true, true, true, true, true, true, false, false, false, false, false, false, false, false, false, false] rfl rfl (by kernel_rfl) (fun _ _ _ h => h) (by rfl) ?_ hHeld ?_ ?_
              rotate_left 2
              · rintro w' ⟨s0, s1, s2, s3⟩
                go_simp
                try with_reducible rfl
              · simp only [Act.put, List.setIfInBounds_toArray, List.set_cons_zero, List.set_cons_succ]
                rfl
              refine rg_take (i := 7) (N := (some 130)) (v := ?_) (a' := ?_) #[true, true, true, true, true, true, true, true, false, false, false, false, false, false, false, false, false] rfl rfl (by kernel_rfl) (fun _ _ _ h => h) (by rfl) ?_ hHeld ?_ ?_
              rotate_left 2
              · rintro w' ⟨s0, s1, s2, s3⟩
                go_simp
                try with_reducible rfl
              · simp only [Act.put, List.setIfInBounds_toArray, List.set_cons_zero, List.set_cons_succ]
                rfl
              refine rg_take (i := 8) (N := (some 131)) (v := ?_) (a' := ?_) #[true, true, true, true, true, true, true, true, true, false, false, false, false, false, false, false, false] rfl rfl (by kernel_rfl) (fun _ _ _ h => h) (by rfl) ?_ hHeld ?_ ?_
              rotate_left 2
              · rintro w' ⟨s0, s1, s2, s3⟩
                (refine Eq.trans (b := Result.ok (Next.value (.agg (nv 25 v1))) w') ?_ ?_; exact exec_loadn (n := 25) (k := 25) rfl rfl s1 (by omega) Try.underlying71 rfl tally_size; with_reducible rfl)
              · simp only [Act.put, List.setIfInBounds_toArray, List.set_cons_zero, List.set_cons_succ]
                rfl
              refine rg_take (i := 10) (N := (some 133)) (v := ?_) (a' := ?_) #[true, true, true, true, true, true, true, true, true, false, true, false, false, false, false, false, false] rfl rfl (by kernel_rfl) (fun _ _ _ h => h) (by rfl) ?_ hHeld ?_ ?_
              rotate_left 2
              · rintro w' ⟨s0, s1, s2, s3⟩
                (refine Eq.trans (b := Result.ok (Next.value (.agg (nv 25 V))) w') ?_ ?_; exact exec_loadn (n := 25) (k := 25) rfl rfl s0 (by omega) Try.underlying71 rfl tally_size; with_reducible rfl)
              · simp only [Act.put, List.setIfInBounds_toArray, List.set_cons_zero, List.set_cons_succ]
                rfl
              refine rg_one (i := 9) #[true, true, true, true, true, true, true, true, true, true, true, false, false, false, false, false, false] rfl (by kernel_rfl) (by rfl) (fun K hK => ?_)
              obtain ⟨s0, s1, s2, s3⟩ := hHeld
              repeat go_step
              ((with_reducible refine (tErrors_any v1 _ HR1.out).mono ?_); rintro e w12 ⟨rfl, hb12⟩)
              try dsimp only
              refine hK.out _ _ ?_ (fun hHeld => ?_)
              · exact ⟨s0.below hb12, s1.below hb12, s2.below hb12, below_next s3 hb12⟩
              clear hK K
              clear s0 s1 s2 s3
              refine rg_one (i := 11) #[true, true, true, true, true, true, true, true, true, true, true, true, false, false, false, false, false] rfl (by kernel_rfl) (by rfl) (fun K hK => ?_)
              obtain ⟨s0, s1, s2, s3⟩ := hHeld
              repeat go_step
              ((with_reducible refine (tErrors_any V _ HR2.out).mono ?_); rintro e w13 ⟨rfl, hb13⟩)
              try dsimp only
              refine hK.out _ _ ?_ (fun hHeld => ?_)
              · exact ⟨s0.below hb13, s1.below hb13, s2.below hb13, below_next s3 hb13⟩
              clear hK K
              clear s0 s1 s2 s3
              refine rg_take (i := 12) (N := (some 135)) (v := ?_) (a' := ?_) #[true, true, true, true, true, true, true, true, true, true, true, true, true, false, false, false, false] rfl rfl (by kernel_rfl) (fun _ _ _ h => h) (by rfl) ?_ hHeld ?_ ?_
              rotate_left 2
              · rintro w' ⟨s0, s1, s2, s3⟩
                go_simp
                try with_reducible rfl
              · simp only [Act.put, List.setIfInBounds_toArray, List.set_cons_zero, List.set_cons_succ]
                rfl
              refine rg_take (i := 13) (N := (some 136)) (v := ?_) (a' := ?_) #[true, true, true, true, true, true, true, true, true, true, true, true, true, true, false, false, false] rfl rfl (by kernel_rfl) (fun _ _ _ h => h) (by rfl) ?_ hHeld ?_ ?_
              rotate_left 2
              · rintro w' ⟨s0, s1, s2, s3⟩
                go_simp
                try with_reducible rfl
              · simp only [Act.put, List.setIfInBounds_toArray, List.set_cons_zero, List.set_cons_succ]
                rfl
              refine rg_take (i := 14) (N := (some 137)) (v := ?_) (a' := ?_) #[true, true, true, true, true, true, true, true, true, true, true, true, true, true, true, false, false] rfl rfl (by kernel_rfl) (fun _ _ _ h => h) (by rfl) ?_ hHeld ?_ ?_
              rotate_left 2
              · rintro w' ⟨s0, s1, s2, s3⟩
                go_simp
                try with_reducible rfl
              · simp only [Act.put, List.setIfInBounds_toArray, List.set_cons_zero, List.set_cons_succ]
                rfl
              refine rg_take (i := 15) (N := (some 138)) (v := ?_) (a' := ?_) #[true, true, true, true, true, true, true, true, true, true, true, true, true, true, true, true, false] rfl rfl (by kernel_rfl) (fun _ _ _ h => h) (by rfl) ?_ hHeld ?_ ?_
              rotate_left 2
              · rintro w' ⟨s0, s1, s2, s3⟩
                go_simp
                try with_reducible rfl
              · simp only [Act.put, List.setIfInBounds_toArray, List.set_cons_zero, List.set_cons_succ]
                rfl
              refine rg_take (i := 16) (N := (some 6)) (v := ?_) (a' := ?_) #[true, true, true, true, true, true, true, true, true, true, true, true, true, true, true, true, true] rfl rfl (by kernel_rfl) (fun _ _ _ h => h) (by rfl) ?_ hHeld ?_ ?_
              rotate_left 2
              · rintro w' ⟨s0, s1, s2, s3⟩
                go_simp
                try with_reducible rfl
              · simp only [Act.put, List.setIfInBounds_toArray, List.set_cons_zero, List.set_cons_succ]
                rfl
              refine rg_done (by kernel_rfl) ?_
              go_wp2
              go_ret
              exact ⟨rfl, hHeld.2.2.2⟩
end Go.Proofs.Ytdfgdnaejnngoaa
