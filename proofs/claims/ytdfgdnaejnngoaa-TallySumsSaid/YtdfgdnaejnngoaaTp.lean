import Derived.Test.YtdfgdnaejnngoaaTx
namespace Go.Proofs.Ytdfgdnaejnngoaa
open Go.RowKit
/-! A tally's places; one tally with another one. -/
theorem P_info : (Try.prog.info? 152).map (fun i => (i.zero, i.size, i.bytes)) = some (some (.pointer none), 1, 8) := by kernel_rfl
def ptrC (b : Nat) (o : Nat) : List Value := [.pointer (some ⟨b, o, none⟩)]
theorem ptrC_len (b o : Nat) : (ptrC b o).length = 1 := rfl
theorem ptr_new_at (w : World) (b o n : Nat) (h : w.heap.size = n) : ∀ (j : Nat) (u : Value), (ptrC b o)[j]? = some u → (w.alloc (.cells #[.pointer (some ⟨b, o, none⟩)] 152)).cell? ((⟨n, 0, none⟩ : Addr).add j) = some u := by
  intro j u hj
  have hh := heap_new_at (o := .cells #[.pointer (some ⟨b, o, none⟩)] 152) h
  have ha : (⟨n, 0, none⟩ : Addr).add j = ⟨n, j, none⟩ := by unfold Addr.add; split <;> simp_all
  rw [ha, Lib.cell_of_heap hh]
  rw [← hj]
  simp [ptrC]
theorem ptr_one (b o : Nat) : ∀ u ∈ ptrC b o, u.oneCell' = true := by
  intro u hu
  simp [ptrC] at hu
  rw [hu]
  rfl
abbrev OwnsP (b : Nat) := OwnsG (ptrC b) 1 152
theorem OwnsP.add {b : Nat} {w : World} {B : Nat} {v : Value} {l : List Nat} {n : Nat} {x : Nat} (hn : l.length = n) (h : w.ownsRow B 152 1 v (n + 1) ((l.map (ptrC b)).flatten ++ ptrC b x)) : OwnsP b w B v (l ++ [x]) := by
  subst hn
  unfold OwnsP OwnsG
  rw [flatten_add, List.length_append]
  exact h
def plL (k : Nat) : List Nat := [21, 22, 23, 24] ++ List.range k
theorem plL_len (k : Nat) : (plL k).length = 4 + k := by simp [plL]; omega
theorem plL_succ (k : Nat) : plL (k + 1) = plL k ++ [k] := by simp [plL, List.range_succ]
set_option maxHeartbeats 1000000 in
set_option maxRecDepth 100000 in
theorem places_any (b : Nat) (w : World) : Calls Try.prog 80 #[.pointer (some ⟨b, 0, none⟩)] w fun e w' => ∃ A cap, e = .returned (.slice A 25 cap) ∧ OwnsP b w' w.heap.size (.slice A 25 cap) (plL 21) ∧ Below w.heap.size w w' := by
  obtain ⟨i0, hi0, hz0, hz1, hz2⟩ := info_parts P_info
  go_enter Try.func80, Try.ntmps80
  go_wp2
  refine rg_start (n := 14) (fun w' => True) #[false, false, false, false, false, false, false, false, false, false, false, false, false, false] (by kernel_rfl) rfl rfl trivial (fun hHeld => ?_)
  refine rg_take (i := 0) (N := (some 6)) (v := ?_) (a' := ?_) #[true, false, false, false, false, false, false, false, false, false, false, false, false, false] rfl rfl (by kernel_rfl) (fun _ _ _ h => h) (by rfl) ?_ hHeld ?_ ?_
  rotate_left 2
  · rintro w' _s
    go_simp
    try with_reducible rfl
  · simp only [Act.put, List.setIfInBounds_toArray, List.set_cons_zero, List.set_cons_succ]
    rfl
  refine rg_take (i := 1) (N := (some 7)) (v := ?_) (a' := ?_) #[true, true, false, false, false, false, false, false, false, false, false, false, false, false] rfl rfl (by kernel_rfl) (fun _ _ _ h => h) (by rfl) ?_ hHeld ?_ ?_
  rotate_left 2
  · rintro w' _s
    go_simp
    try with_reducible rfl
  · simp only [Act.put, List.setIfInBounds_toArray, List.set_cons_zero, List.set_cons_succ]
    rfl
  refine rg_take (i := 2) (N := (some 8)) (v := ?_) (a' := ?_) #[true, true, true, false, false, false, false, false, false, false, false, false, false, false] rfl rfl (by kernel_rfl) (fun _ _ _ h => h) (by rfl) ?_ hHeld ?_ ?_
  rotate_left 2
  · rintro w' _s
    go_simp
    try with_reducible rfl
  · simp only [Act.put, List.setIfInBounds_toArray, List.set_cons_zero, List.set_cons_succ]
    rfl
  refine rg_take (i := 3) (N := (some 9)) (v := ?_) (a' := ?_) #[true, true, true, true, false, false, false, false, false, false, false, false, false, false] rfl rfl (by kernel_rfl) (fun _ _ _ h => h) (by rfl) ?_ hHeld ?_ ?_
  rotate_left 2
  · rintro w' _s
    go_simp
    try with_reducible rfl
  · simp only [Act.put, List.setIfInBounds_toArray, List.set_cons_zero, List.set_cons_succ]
    rfl
  refine rg_take (i := 4) (N := (some 10)) (v := ?_) (a' := ?_) #[true, true, true, true, true, false, false, false, false, false, false, false, false, false] rfl rfl (by kernel_rfl) (fun _ _ _ h => h) (by rfl) ?_ hHeld ?_ ?_
  rotate_left 2
  · rintro w' _s
    go_simp
    try with_reducible rfl
  · simp only [Act.put, List.setIfInBounds_toArray, List.set_cons_zero, List.set_cons_succ]
    rfl
  refine rg_take (i := 5) (N := (some 11)) (v := ?_) (a' := ?_) #[true, true, true, true, true, true, false, false, false, false, false, false, false, false] rfl rfl (by kernel_rfl) (fun _ _ _ h => h) (by rfl) ?_ hHeld ?_ ?_
  rotate_left 2
  · rintro w' _s
    go_simp
    try with_reducible rfl
  · simp only [Act.put, List.setIfInBounds_toArray, List.set_cons_zero, List.set_cons_succ]
    rfl
  refine rg_take (i := 6) (N := (some 12)) (v := ?_) (a' := ?_) #[true, true, true, true, true, true, true, false, false, false, false, false, false, false] rfl rfl (by kernel_rfl) (fun _ _ _ h => h) (by rfl) ?_ hHeld ?_ ?_
  rotate_left 2
  · rintro w' _s
    go_simp
    try with_reducible rfl
  · simp only [Act.put, List.setIfInBounds_toArray, List.set_cons_zero, List.set_cons_succ]
    rfl
  refine rg_take (i := 7) (N := (some 13)) (v := ?_) (a' := ?_) #[true, true, true, true, true, true, true, true, false, false, false, false, false, false] rfl rfl (by kernel_rfl) (fun _ _ _ h => h) (by rfl) ?_ hHeld ?_ ?_
  rotate_left 2
  · rintro w' _s
    go_simp
    try with_reducible rfl
  · simp only [Act.put, List.setIfInBounds_toArray, List.set_cons_zero, List.set_cons_succ]
    rfl
  refine rg_take (i := 8) (N := (some 14)) (v := ?_) (a' := ?_) #[true, true, true, true, true, true, true, true, true, false, false, false, false, false] rfl rfl (by kernel_rfl) (fun _ _ _ h => h) (by rfl) ?_ hHeld ?_ ?_
  rotate_left 2
  · rintro w' _s
    go_simp
    try with_reducible rfl
  · simp only [Act.put, List.setIfInBounds_toArray, List.set_cons_zero, List.set_cons_succ]
    rfl
  refine rg_take (i := 9) (N := (some 15)) (v := ?_) (a' := ?_) #[true, true, true, true, true, true, true, true, true, true, false, false, false, false] rfl rfl (by kernel_rfl) (fun _ _ _ h => h) (by rfl) ?_ hHeld ?_ ?_
  rotate_left 2
  · rintro w' _s
    go_simp
    try with_reducible rfl
  · simp only [Act.put, List.setIfInBounds_toArray, List.set_cons_zero, List.set_cons_succ]
    rfl
  refine rg_take (i := 10) (N := (some 16)) (v := ?_) (a' := ?_) #[true, true, true, true, true, true, true, true, true, true, true, false, false, false] rfl rfl (by kernel_rfl) (fun _ _ _ h => h) (by rfl) ?_ hHeld ?_ ?_
  rotate_left 2
  · rintro w' _s
    go_simp
    try with_reducible rfl
  · simp only [Act.put, List.setIfInBounds_toArray, List.set_cons_zero, List.set_cons_succ]
    rfl
  refine rg_take (i := 11) (N := (some 17)) (v := ?_) (a' := ?_) #[true, true, true, true, true, true, true, true, true, true, true, true, false, false] rfl rfl (by kernel_rfl) (fun _ _ _ h => h) (by rfl) ?_ hHeld ?_ ?_
  rotate_left 2
  · rintro w' _s
    go_simp
    try with_reducible rfl
  · simp only [Act.put, List.setIfInBounds_toArray, List.set_cons_zero, List.set_cons_succ]
    rfl
  refine rg_one (i := 12) #[true, true, true, true, true, true, true, true, true, true, true, true, true, false] rfl (by kernel_rfl) (by rfl) (fun K hK => ?_)
  repeat go_step
  refine hK.out _ _ ?_ (fun hHeld => ?_)
  · trivial
  clear hK K
  refine rg_take (i := 13) (N := (some 3)) (v := ?_) (a' := ?_) #[true, true, true, true, true, true, true, true, true, true, true, true, true, true] rfl rfl (by kernel_rfl) (fun _ _ _ h => h) (by rfl) ?_ hHeld ?_ ?_
  rotate_left 2
  · rintro w' _s
    go_simp
    try with_reducible rfl
  · simp only [Act.put, List.setIfInBounds_toArray, List.set_cons_zero, List.set_cons_succ]
    rfl
  refine rg_done (by kernel_rfl) ?_
  clear hHeld
  go_wp2
  go_loopw [3, 4, 19] (fun v _ i wr => ∃ k : Nat, i = .int .i64 k ∧ k ≤ 9 ∧ OwnsP b wr w.heap.size v (plL k) ∧ Below w.heap.size w wr) (fun _ _ i _ => 10 - (intOf i).toNat)
  case atStart =>
    refine ⟨0, rfl, by omega, ⟨by simp [plL, ptrC], .inr ⟨w.heap.size, 4, _, rfl, Nat.le_refl _, heap_new_at (by simp), by simp [plL], by unfold maxLen; omega, by simp, by simp [plL, ptrC]⟩⟩, Below.alloc (Below.refl _ _).drew (Nat.le_refl _) _⟩
  case round =>
    obtain ⟨k, rfl, hk, how, hbel⟩ := hrel
    obtain ⟨A, cap, rfl⟩ := how.slice
    have HOW := Lib.hid how
    have hll : (plL k).length = 4 + k := by have := plL_len (k); omega
    have HLL := Lib.hid hll
    clear hll
    clear how
    by_cases hkl : k < 9
    · have hkI : (k : Int) < 9 := by omega
      have hsucc : plL (k + 1) = plL k ++ [k] := plL_succ _
      have HSU := Lib.hid hsucc
      clear hsucc
      generalize plL k = l at *
      go_wp2_with (at_builtin; refine wpList_append_own _ rfl _ _ 150 rfl w.heap.size 152 i0 _ 1 8 Try.underlying150 hi0 hz0 hz1 hz2 rfl (by decide) _ _ _ rfl (HOW.out.alloc _) ⟨wr.heap.size, 0, none⟩ 1 1 (ptrC b (k)) rfl rfl ?c1 ?c2 ?c3 ?c4 ?c5 ?_)
      case c1 => exact ptr_new_at _ b _ _ rfl
      case c2 => exact ptr_one b _
      case c3 => unfold maxLen; have := HLL.out; omega
      case c4 => have := HLL.out; omega
      case c5 => have := hbel.size; simp; omega
      intro v' w3 hown3 hgrow _
      have hf3 : Fr (fun k => w.heap.size ≤ k) wr w3 := ((Fr.refl _ wr).alloc _).grown hgrow (fun i hi e => (HOW.out.lt i e).1)
      have hb3 := hbel.trans (hf3.to_below (B := w.heap.size) hbel.size (fun i hi h => by omega))
      have ho3 : OwnsP b w3 w.heap.size v' (l ++ [k]) := OwnsP.add rfl hown3
      have HO3 := Lib.hid ho3
      clear hown3 hgrow hf3 ho3
      go_wp2
      refine ⟨⟨k + 1, by go_num, by omega, by rw [HSU.out]; exact HO3.out, hb3⟩, ?_⟩
      simp [intOf]
      omega
    · obtain rfl : k = 9 := by omega
      rw [show ((9 : Nat) : Int) = 9 from rfl]
      have HOW0 := Lib.hid HOW.out
      go_wp2
      go_loopw [3, 5, 31] (fun v _ i wr => ∃ k : Nat, i = .int .i64 k ∧ k ≤ 12 ∧ OwnsP b wr w.heap.size v (plL (9 + k)) ∧ Below w.heap.size w wr) (fun _ _ i _ => 13 - (intOf i).toNat)
      case atStart => exact ⟨0, rfl, by omega, HOW0.out, hbel⟩
      case round =>
        obtain ⟨k, rfl, hk, how, hbel⟩ := hrel
        obtain ⟨A, cap, rfl⟩ := how.slice
        have HOW := Lib.hid how
        have hll : (plL (9 + k)).length = 4 + 9 + k := by have := plL_len ((9 + k)); omega
        have HLL := Lib.hid hll
        clear hll
        clear how
        by_cases hkl : k < 12
        · have hkI : (k : Int) < 12 := by omega
          have hsucc : plL (9 + (k + 1)) = plL (9 + k) ++ [9 + k] := plL_succ _
          have HSU := Lib.hid hsucc
          clear hsucc
          generalize plL (9 + k) = l at *
          go_wp2_with (at_builtin; refine wpList_append_own _ rfl _ _ 150 rfl w.heap.size 152 i0 _ 1 8 Try.underlying150 hi0 hz0 hz1 hz2 rfl (by decide) _ _ _ rfl (HOW.out.alloc _) ⟨wr.heap.size, 0, none⟩ 1 1 (ptrC b (9 + k)) rfl rfl ?c1 ?c2 ?c3 ?c4 ?c5 ?_)
          case c1 => exact ptr_new_at _ b _ _ rfl
          case c2 => exact ptr_one b _
          case c3 => unfold maxLen; have := HLL.out; omega
          case c4 => have := HLL.out; omega
          case c5 => have := hbel.size; simp; omega
          intro v' w3 hown3 hgrow _
          have hf3 : Fr (fun k => w.heap.size ≤ k) wr w3 := ((Fr.refl _ wr).alloc _).grown hgrow (fun i hi e => (HOW.out.lt i e).1)
          have hb3 := hbel.trans (hf3.to_below (B := w.heap.size) hbel.size (fun i hi h => by omega))
          have ho3 : OwnsP b w3 w.heap.size v' (l ++ [9 + k]) := OwnsP.add rfl hown3
          have HO3 := Lib.hid ho3
          clear hown3 hgrow hf3 ho3
          go_wp2
          refine ⟨⟨k + 1, by go_num, by omega, by rw [HSU.out]; exact HO3.out, hb3⟩, ?_⟩
          simp [intOf]
          omega
        · obtain rfl : k = 12 := by omega
          go_wp2
          go_ret
          rw [HLL.out]
          exact ⟨A, cap, rfl, by have := HOW.out; rw [HLL.out] at this; exact this, hbel⟩
end Go.Proofs.Ytdfgdnaejnngoaa
