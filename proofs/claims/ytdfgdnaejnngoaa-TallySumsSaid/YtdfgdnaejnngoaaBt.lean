import Derived.Test.YtdfgdnaejnngoaaBz
import Derived.Test.YtdfgdnaejnngoaaReg
namespace Go.Proofs.Ytdfgdnaejnngoaa
open Go.RowKit
/-! tally.Busiest. -/
theorem RK_info : (Try.prog.info? 124).map (fun i => (i.zero, i.size, i.bytes)) = some (some (.agg #[.int .i64 0, .int .i64 0]), 2, 16) := by kernel_rfl
theorem rk_one (x : Rk) : ∀ u ∈ x.cells, u.oneCell' = true := by
  intro u hu
  simp [Rk.cells] at hu
  rcases hu with rfl | rfl <;> rfl
theorem rk_append {o : Oper} {a : Act} {w : World} {K : Act → World → Prop} {Q : Exit → Act → World → Prop} (s x : Operand) (ho : o.op = .call { callee := .builtin .append, args := #[s, x], argTypes := #[122, 122] })
    (B g : Nat) (v : Value) (l : List Rk) (r : Rk) (hs : a.eval s = v) (hx : a.eval x = .slice (some ⟨g, 0, none⟩) 1 1) (hown : OwnsG Rk.cells 2 124 w B v l) (hg : w.heap[g]? = some (.cells #[.int .i64 r.kind, .int .i64 r.times] 124 (0, 0))) (hl : l.length ≤ 1000) (hB : B ≤ w.heap.size)
    (h : ∀ v' w', OwnsG Rk.cells 2 124 w' B v' (l ++ [r]) → Fr (fun k => B ≤ k) w w' → K (a.put o.dst v') w') : Oper.wp Try.prog o a w K Q := by
  obtain ⟨i0, hi0, hz0, hz1, hz2⟩ := info_parts RK_info
  refine wp_append_own w s x 122 ho B 124 i0 _ 2 16 Try.underlying122 hi0 hz0 hz1 hz2 rfl (by decide) v l.length _ hs hown ⟨g, 0, none⟩ 1 1 r.cells hx rfl ?_ (rk_one r) ?_ ?_ hB ?_
  · intro j u hj
    have ha : (⟨g, 0, none⟩ : Addr).add j = ⟨g, j, none⟩ := by unfold Addr.add; split <;> simp_all
    rw [ha, Lib.cell_of_heap hg, ← hj]
    simp [Rk.cells]
  · unfold maxLen; omega
  · omega
  · intro v' w' h1 h2 _
    refine h v' w' ?_ ((Fr.refl _ w).grown h2 (fun i hi e => (hown.lt i e).1))
    unfold OwnsG
    rw [flatten_add, List.length_append]
    exact h1
theorem rst_set {w : World} {bh cap : Nat} {A : Option Addr} {l : List Rk} {x : Value} (h : w.heap[bh]? = some (.cells #[x] 122 (0, 0))) (ho : OwnsG Rk.cells 2 124 w (bh + 1) (.slice A l.length cap) l) : RSt (w.setCell ⟨bh, 0, none⟩ (.slice A l.length cap)) bh A l.length cap l :=
  ⟨rfl, setCell_row h 0 _, ho.fr ((Fr.refl (fun k => k = bh) w).setCell (p := ⟨bh, 0, none⟩) (fun _ => rfl) _) (fun k hk e => by omega)⟩
set_option maxHeartbeats 1000000 in
set_option maxRecDepth 100000 in
theorem tBz_any (a : Nat → Int) (w : World) : Calls Try.prog 28 #[.agg (nv 25 a)] w fun e w' => ∃ v, e = .returned v ∧ OwnsI w' w.heap.size v (bz a) ∧ Below w.heap.size w w' := by
  obtain ⟨i0, hi0, hz0, hz1, hz2⟩ := info_parts I_info
  have eA : ∀ (v : Value) (W : World), (Instr.typeAssert (.iface 124 v) 20 124 false).run Try.prog W = .ok v W := fun v W => by kernel_rfl
  have eF : ∀ (x y : Value) (W : World), (Instr.field 124 (.agg #[x, y]) 0).run Try.prog W = .ok x W := fun x y W => by kernel_rfl
  have hv := fun (W : World) => VAt.new (T := 71) (n := 25) W a
  generalize hnv : nv 25 a = cs
  rw [hnv] at hv
  have HV := Lib.hid hv
  clear hv hnv
  go_enter Try.func28, Try.ntmps28
  go_wp2
  go_loopw [4] (fun i wr => ∃ (k cap : Nat) (A : Option Addr), i = .int .i64 k ∧ 1 ≤ k ∧ k ≤ 9 ∧ RSt wr (w.heap.size + 1) A (ranksOf a (k - 1)).length cap (ranksOf a (k - 1)) ∧ VAt 71 25 wr w.heap.size a ∧ Below w.heap.size w wr) (fun i _ => 10 - (intOf i).toNat)
  case atStart =>
    refine ⟨1, 0, none, rfl, by omega, by omega, ⟨rfl, heap_new_at (by simp), OwnsG.nil _ _⟩, (HV.out w).fr ((Fr.refl (fun _ => False) _).alloc _) id, Below.alloc (Below.alloc (Below.refl _ _) (Nat.le_refl _) _) (by simp) _⟩
  case round =>
    obtain ⟨k, cap, A, rfl, hk1, hk9, hst, hva, hbel⟩ := hrel
    by_cases h9 : k < 9
    · have hkI : (k : Int) < 9 := by omega
      have hrl := ranksOf_length a (k - 1)
      have hrk : ranksOf a k = ranksOf a (k - 1) ++ (if 0 < a k then [⟨(k : Int), a k⟩] else []) := by
        obtain ⟨j, rfl⟩ : ∃ j, k = j + 1 := ⟨k - 1, by omega⟩
        rfl
      generalize ranksOf a (k - 1) = l at hst hrk hrl
      have ck := hva.cell (i := k) (by omega)
      have hblt := hva.lt
      have hlt := hst.lt
      have c0 := hst.c0
      have f0 := hst.f0
      have HRK := Lib.hid hrk
      have HST := Lib.hid hst
      have HVA := Lib.hid hva
      clear hrk hst hva
      by_cases h1 : 0 < a k
      · go_wp2
        refine rg_start (n := 10) (fun w' => w'.cell? ⟨w.heap.size, k, none⟩ = some (.int .i64 (a k))) #[false, false, false, false, false, false, false, false, false, false] (by kernel_rfl) rfl rfl ck (fun hHeld => ?_)
        refine rg_take (i := 1) (N := (some 16)) (v := ?_) (a' := ?_) #[false, true, false, false, false, false, false, false, false, false] rfl rfl (by kernel_rfl) (fun _ _ _ h => h) (by rfl) ?_ hHeld ?_ ?_
        rotate_left 2
        · rintro w' s0
          go_simp
          try with_reducible rfl
        · simp only [Act.put, List.setIfInBounds_toArray, List.set_cons_zero, List.set_cons_succ]
          rfl
        refine rg_take (i := 2) (N := (some 17)) (v := ?_) (a' := ?_) #[false, true, true, false, false, false, false, false, false, false] rfl rfl (by kernel_rfl) (fun _ _ _ h => h) (by rfl) ?_ hHeld ?_ ?_
        rotate_left 2
        · rintro w' s0
          go_simp
          try with_reducible rfl
        · simp only [Act.put, List.setIfInBounds_toArray, List.set_cons_zero, List.set_cons_succ]
          rfl
        refine rg_take (i := 3) (N := (some 18)) (v := ?_) (a' := ?_) #[false, true, true, true, false, false, false, false, false, false] rfl rfl (by kernel_rfl) (fun _ _ _ h => h) (by rfl) ?_ hHeld ?_ ?_
        rotate_left 2
        · rintro w' s0
          go_simp
          try with_reducible rfl
        · simp only [Act.put, List.setIfInBounds_toArray, List.set_cons_zero, List.set_cons_succ]
          rfl
        refine rg_take (i := 4) (N := (some 19)) (v := ?_) (a' := ?_) #[false, true, true, true, true, false, false, false, false, false] rfl rfl (by kernel_rfl) (fun _ _ _ h => h) (by rfl) ?_ hHeld ?_ ?_
        rotate_left 2
        · rintro w' s0
          go_simp
          try with_reducible rfl
        · simp only [Act.put, List.setIfInBounds_toArray, List.set_cons_zero, List.set_cons_succ]
          rfl
        refine rg_take (i := 5) (N := (some 20)) (v := ?_) (a' := ?_) #[false, true, true, true, true, true, false, false, false, false] rfl rfl (by kernel_rfl) (fun _ _ _ h => h) (by rfl) ?_ hHeld ?_ ?_
        rotate_left 2
        · rintro w' s0
          go_simp
          try with_reducible rfl
        · simp only [Act.put, List.setIfInBounds_toArray, List.set_cons_zero, List.set_cons_succ]
          rfl
        refine rg_take (i := 6) (N := (some 21)) (v := ?_) (a' := ?_) #[false, true, true, true, true, true, true, false, false, false] rfl rfl (by kernel_rfl) (fun _ _ _ h => h) (by rfl) ?_ hHeld ?_ ?_
        rotate_left 2
        · rintro w' s0
          go_simp
          try with_reducible rfl
        · simp only [Act.put, List.setIfInBounds_toArray, List.set_cons_zero, List.set_cons_succ]
          rfl
        refine rg_two (i := 0) (j := 7) #[true, true, true, true, true, true, true, false, false, false] #[false, true, true, true, true, true, true, true, false, false] rfl rfl (by kernel_rfl) (by rfl) (by rfl) (fun K hK => ?_) (fun K hK => ?_)
        · skip
          have s0 := hHeld
          clear hHeld
          repeat go_step
          (skip)
          try dsimp only
          refine hK.out _ _ ?_ (fun hHeld => ?_)
          · (repeat (first | (with_reducible assumption) | (with_reducible apply And.intro) | (with_reducible refine keep_cell (w := ?_) ?_ ?_ ?_; rotate_left; with_reducible assumption) | (with_reducible refine keep_cell_alloc ?_ ?_) | (with_reducible refine keep_lt (w := ?_) ?_ ?_; rotate_left; with_reducible assumption) | (with_reducible refine keep_lt_alloc ?_) | (with_reducible refine below_next (w := ?_) ?_ ?_; rotate_left 2; with_reducible assumption) | (with_reducible refine below_alloc ?_) | (with_reducible refine Below.drew ?_) | (with_reducible refine keep_lt_drew ?_) | (with_reducible refine keep_cell_drew ?_)))
          clear hK K
          clear s0
          refine rg_one (i := 7) #[true, true, true, true, true, true, true, true, false, false] rfl (by kernel_rfl) (by rfl) (fun K hK => ?_)
          have s0 := hHeld
          clear hHeld
          repeat go_step
          refine hK.out _ _ ?_ (fun hHeld => ?_)
          · (repeat (first | (with_reducible assumption) | (with_reducible apply And.intro) | (with_reducible refine keep_cell (w := ?_) ?_ ?_ ?_; rotate_left; with_reducible assumption) | (with_reducible refine keep_cell_alloc ?_ ?_) | (with_reducible refine keep_lt (w := ?_) ?_ ?_; rotate_left; with_reducible assumption) | (with_reducible refine keep_lt_alloc ?_) | (with_reducible refine below_next (w := ?_) ?_ ?_; rotate_left 2; with_reducible assumption) | (with_reducible refine below_alloc ?_) | (with_reducible refine Below.drew ?_) | (with_reducible refine keep_lt_drew ?_) | (with_reducible refine keep_cell_drew ?_)))
          clear hK K
          clear s0
          refine rg_one (i := 8) #[true, true, true, true, true, true, true, true, true, false] rfl (by kernel_rfl) (by rfl) (fun K hK => ?_)
          have s0 := hHeld
          clear hHeld
          (refine rk_append _ _ rfl (w.heap.size + 2) wr.heap.size (.slice A l.length cap) l ⟨k, a k⟩ (by rfl) (by rfl) (HST.out.2.2.alloc _) (heap_new_at rfl) (by omega) (by simp; omega) ?_; intro v3 w3 ho3 hf3; obtain ⟨A3, cap3, rfl⟩ := ho3.slice; have r3 : w3.heap[w.heap.size + 1]? = some (.cells #[.slice A l.length cap] 122 (0, 0)) := hf3.row (by omega) (((Fr.refl (fun _ => False) wr).alloc _).row id HST.out.2.1); have c3 : w3.cell? ⟨w.heap.size + 1, 0, none⟩ = some (.slice A l.length cap) := (by rw [Lib.cell_of_heap r3]; rfl); have f3 := Lib.frozen_of_heap r3 0; have R3 := Lib.hid r3; clear r3; have HO3 := Lib.hid ho3; clear ho3)
          repeat go_step
          refine hK.out _ _ ?_ (fun hHeld => ?_)
          · exact hf3.cell (by simp; omega) (by omega) s0
          clear hK K
          clear s0
          refine rg_one (i := 9) #[true, true, true, true, true, true, true, true, true, true] rfl (by kernel_rfl) (by rfl) (fun K hK => ?_)
          have s0 := hHeld
          clear hHeld
          repeat go_step
          refine hK.out _ _ ?_ (fun hHeld => ?_)
          · exact ((Fr.refl (fun k => k = w.heap.size + 1) _).setCell (p := ⟨w.heap.size + 1, 0, none⟩) (fun _ => rfl) _).cell (by have := hf3.size; simp at this; omega) (by omega) s0
          clear hK K
          clear s0
          refine rg_done (by kernel_rfl) ?_
          go_wp2
          have hf4 := ((((Fr.refl (fun k => w.heap.size + 1 ≤ k) wr).alloc _).drew).trans hf3 (fun i _ h => by omega)).setCell (p := ⟨w.heap.size + 1, 0, none⟩) (fun _ => Nat.le_refl _) (.slice A3 (l.length + 1) cap3)
          have h4 := rst_set R3.out HO3.out
          simp only [List.length_append, List.length_singleton] at h4
          refine ⟨⟨k + 1, cap3, A3, by go_num, by omega, by omega, ?_, HVA.out.fr hf4 (by omega), hbel.trans (hf4.to_below hbel.size (fun i hi h => by omega))⟩, ?_⟩
          · rw [Nat.add_sub_cancel, HRK.out, if_pos h1]
            simp only [List.length_append, List.length_singleton]
            exact h4
          · simp [intOf]; omega
        · skip
          have s0 := hHeld
          clear hHeld
          repeat go_step
          refine hK.out _ _ ?_ (fun hHeld => ?_)
          · (repeat (first | (with_reducible assumption) | (with_reducible apply And.intro) | (with_reducible refine keep_cell (w := ?_) ?_ ?_ ?_; rotate_left; with_reducible assumption) | (with_reducible refine keep_cell_alloc ?_ ?_) | (with_reducible refine keep_lt (w := ?_) ?_ ?_; rotate_left; with_reducible assumption) | (with_reducible refine keep_lt_alloc ?_) | (with_reducible refine below_next (w := ?_) ?_ ?_; rotate_left 2; with_reducible assumption) | (with_reducible refine below_alloc ?_) | (with_reducible refine Below.drew ?_) | (with_reducible refine keep_lt_drew ?_) | (with_reducible refine keep_cell_drew ?_)))
          clear hK K
          clear s0
          refine rg_one (i := 0) #[true, true, true, true, true, true, true, true, false, false] rfl (by kernel_rfl) (by rfl) (fun K hK => ?_)
          have s0 := hHeld
          clear hHeld
          repeat go_step
          (skip)
          try dsimp only
          refine hK.out _ _ ?_ (fun hHeld => ?_)
          · (repeat (first | (with_reducible assumption) | (with_reducible apply And.intro) | (with_reducible refine keep_cell (w := ?_) ?_ ?_ ?_; rotate_left; with_reducible assumption) | (with_reducible refine keep_cell_alloc ?_ ?_) | (with_reducible refine keep_lt (w := ?_) ?_ ?_; rotate_left; with_reducible assumption) | (with_reducible refine keep_lt_alloc ?_) | (with_reducible refine below_next (w := ?_) ?_ ?_; rotate_left 2; with_reducible assumption) | (with_reducible refine below_alloc ?_) | (with_reducible refine Below.drew ?_) | (with_reducible refine keep_lt_drew ?_) | (with_reducible refine keep_cell_drew ?_)))
          clear hK K
          clear s0
          refine rg_one (i := 8) #[true, true, true, true, true, true, true, true, true, false] rfl (by kernel_rfl) (by rfl) (fun K hK => ?_)
          have s0 := hHeld
          clear hHeld
          (refine rk_append _ _ rfl (w.heap.size + 2) wr.heap.size (.slice A l.length cap) l ⟨k, a k⟩ (by rfl) (by rfl) (HST.out.2.2.alloc _) (heap_new_at rfl) (by omega) (by simp; omega) ?_; intro v3 w3 ho3 hf3; obtain ⟨A3, cap3, rfl⟩ := ho3.slice; have r3 : w3.heap[w.heap.size + 1]? = some (.cells #[.slice A l.length cap] 122 (0, 0)) := hf3.row (by omega) (((Fr.refl (fun _ => False) wr).alloc _).row id HST.out.2.1); have c3 : w3.cell? ⟨w.heap.size + 1, 0, none⟩ = some (.slice A l.length cap) := (by rw [Lib.cell_of_heap r3]; rfl); have f3 := Lib.frozen_of_heap r3 0; have R3 := Lib.hid r3; clear r3; have HO3 := Lib.hid ho3; clear ho3)
          repeat go_step
          refine hK.out _ _ ?_ (fun hHeld => ?_)
          · exact hf3.cell (by simp; omega) (by omega) s0
          clear hK K
          clear s0
          refine rg_one (i := 9) #[true, true, true, true, true, true, true, true, true, true] rfl (by kernel_rfl) (by rfl) (fun K hK => ?_)
          have s0 := hHeld
          clear hHeld
          repeat go_step
          refine hK.out _ _ ?_ (fun hHeld => ?_)
          · exact ((Fr.refl (fun k => k = w.heap.size + 1) _).setCell (p := ⟨w.heap.size + 1, 0, none⟩) (fun _ => rfl) _).cell (by have := hf3.size; simp at this; omega) (by omega) s0
          clear hK K
          clear s0
          refine rg_done (by kernel_rfl) ?_
          go_wp2
          have hf4 := ((((Fr.refl (fun k => w.heap.size + 1 ≤ k) wr).alloc _).drew).trans hf3 (fun i _ h => by omega)).setCell (p := ⟨w.heap.size + 1, 0, none⟩) (fun _ => Nat.le_refl _) (.slice A3 (l.length + 1) cap3)
          have h4 := rst_set R3.out HO3.out
          simp only [List.length_append, List.length_singleton] at h4
          refine ⟨⟨k + 1, cap3, A3, by go_num, by omega, by omega, ?_, HVA.out.fr hf4 (by omega), hbel.trans (hf4.to_below hbel.size (fun i hi h => by omega))⟩, ?_⟩
          · rw [Nat.add_sub_cancel, HRK.out, if_pos h1]
            simp only [List.length_append, List.length_singleton]
            exact h4
          · simp [intOf]; omega
      · have d1 : decide (0 < a k) = false := by simp [h1]
        rw [if_neg h1, List.append_nil] at HRK
        go_wp2
        refine ⟨⟨k + 1, cap, A, by go_num, by omega, by omega, ?_, HVA.out, hbel⟩, ?_⟩
        · rw [Nat.add_sub_cancel, HRK.out]
          exact HST.out
        · simp [intOf]; omega
    · obtain rfl : k = 9 := by omega
      rw [show 9 - 1 = 8 from rfl] at hst
      have h8 := ranksOf_length a 8
      have hbz : ∀ l : List Rk, l.Perm (ranksOf a 8) → True := fun _ _ => trivial
      clear hbz
      generalize hm : (ranksOf a 8).length = m at hst h8
      have hl := hst.1
      have HST := Lib.hid hst
      have HM := Lib.hid hm
      clear hst hm hl
      go_wp2_with fail
      refine Calls.mono (init_any _ (w.heap.size + 1) m cap A _ HST.out (by omega)) ?_
      rintro e w1 ⟨rfl, l1, hs1, hh1, hp1, hb1⟩
      have hp0 := hp1.trans (List.Perm.refl _)
      have hb1' := hbel.trans (hb1.to_below (B := w.heap.size) hbel.size (fun i hi h => by have := (HST.out.lt2 h).1; omega))
      have hlt1 : ∀ k, w1.heap.size ≤ k → ¬ RS (w.heap.size + 1) A k := fun k hk h => by have := (hs1.lt2 h).2; omega
      have hsz1 : w.heap.size + 1 < w1.heap.size := hs1.lt
      have HS1 := Lib.hid hs1
      have HH1 := Lib.hid hh1
      have HP1 := Lib.hid hp1
      have HLT := Lib.hid hlt1
      clear hs1 hh1 hp1 hp0 hb1 hva hbel hlt1
      go_wp2
      go_loopw [5] (fun v wr2 => ∃ (m' : Nat) (l' : List Rk) (a' : Nat → Int) (out : List Int), m' ≤ 8 ∧ out.length ≤ 8 ∧ RSt wr2 (w.heap.size + 1) A m' cap l' ∧ HeapFrom Rk.lt 0 m' l' ∧ l'.Perm (ranksOf a' 8) ∧ out ++ bz a' = bz a ∧ OwnsI wr2 w1.heap.size v out ∧ Below w.heap.size w wr2 ∧ w1.heap.size ≤ wr2.heap.size) (fun v _ => 9 - (match v with | .slice _ n _ => n | _ => 0))
      case atStart => exact ⟨m, l1, a, [], by omega, by simp, HS1.out, HH1.out, HP1.out, rfl, OwnsG.nil _ _, hb1', Nat.le_refl _⟩
      case round =>
        obtain ⟨m', l', a', out, hm8, ho8, hs2, hh2, hp2, hout, how, hbel2, hsz2⟩ := hrel
        obtain ⟨A5, cap5, rfl⟩ := how.slice
        have c2 := hs2.c0
        have HS2 := Lib.hid hs2
        have HH2 := Lib.hid hh2
        have HP2 := Lib.hid hp2
        have HO2 := Lib.hid hout
        have HW2 := Lib.hid how
        clear hs2 hh2 hp2 hout how
        rcases Nat.eq_zero_or_pos m' with h0 | h0
        · have hl0 := List.eq_nil_of_length_eq_zero (HS2.out.1.trans h0)
          have hp := HP2.out
          rw [hl0] at hp
          have E0 := Lib.hid (bz_none a' (ranks_end a' hp.symm.eq_nil))
          clear hp hl0
          subst h0
          go_wp2_with (go_at_call 54; (with_reducible refine (rkLen_any _ _ _ _).mono ?_); rintro e w2 ⟨rfl, rfl⟩)
          go_ret
          have e := HO2.out
          rw [E0.out, List.append_nil] at e
          exact ⟨_, rfl, by rw [← e]; exact HW2.out.base (by omega), hbel2⟩
        · obtain ⟨m2, rfl⟩ : ∃ j, m' = j + 1 := ⟨m' - 1, by omega⟩
          have hmI : (0 : Int) < ((m2 + 1 : Nat) : Int) := by omega
          go_wp2_with (go_at_call 54; (with_reducible refine (rkLen_any _ _ _ _).mono ?_); rintro e w2 ⟨rfl, rfl⟩)
          refine Calls.mono (hpop_any _ (w.heap.size + 1) m2 cap A l' HS2.out (by omega) HH2.out) ?_
          rintro e w3 ⟨x, l3, rfl, hs3, hh3, hp3, hx3, hf3⟩
          obtain ⟨hb0, hxk, hp4⟩ := ranks_pop a' HP2.out hp3 hx3
          have hbz := bz_some a' hb0
          rw [← hxk] at hbz
          have how3 := HW2.out.fr hf3 (fun k hk h => HLT.out k hk h)
          have hbel3 := hbel2.trans (hf3.to_below (B := w.heap.size) hbel2.size (fun i hi h => by have := (HS2.out.lt2 h).1; omega))
          have hsz3 := hf3.size
          have hlen4 := ranksOf_length (upd0 a' (bestAt a' 8)) 8
          have hlen5 := hp4.length_eq
          have hbl := bz_length a
          have hbo : out.length < 8 := by
            have := congrArg List.length HO2.out
            rw [hbz] at this
            simp at this
            omega
          generalize upd0 a' (bestAt a' 8) = a2 at hbz hp4 hlen4 hlen5
          obtain ⟨xk, xt⟩ := x
          dsimp only at hbz
          have HS3 := Lib.hid hs3
          have HH3 := Lib.hid hh3
          have HP4 := Lib.hid hp4
          have HBZ := Lib.hid hbz
          have HW3 := Lib.hid how3
          clear hs3 hh3 hp3 hp4 hx3 hxk hbz how3 hf3 hb0
          go_wp2_with (at_builtin; refine wpList_append_own _ rfl _ _ 75 rfl w1.heap.size 3 i0 _ 1 8 Try.underlying75 hi0 hz0 hz1 hz2 rfl (by decide) _ _ _ rfl (HW3.out.alloc _) ⟨w3.heap.size, 0, none⟩ 1 1 (intC xk) rfl rfl ?c1 ?c2 ?c3 ?c4 ?c5 ?_)
          case c1 => exact int_new_at _ xk _ rfl
          case c2 => exact int_one xk
          case c3 => unfold maxLen; omega
          case c4 => omega
          case c5 => simp; omega
          intro v' w4 hown4 hgrow _
          have hf4 : Fr (fun k => w1.heap.size ≤ k) w3 w4 := ((Fr.refl _ w3).alloc _).grown hgrow (fun i hi e => (HW3.out.lt i e).1)
          have hb4 := hbel3.trans (hf4.to_below (B := w.heap.size) (by omega) (fun i hi h => by omega))
          have ho4 : OwnsI w4 w1.heap.size v' (out ++ [xk]) := OwnsI.add rfl hown4
          obtain ⟨A6, cap6, rfl⟩ := ho4.slice
          have hs4 : RSt w4 (w.heap.size + 1) A m2 cap l3 := by
            refine ⟨HS3.out.1, hf4.row (by omega) HS3.out.2.1, HS3.out.2.2.fr' hf4 (fun g hg h => ?_)⟩
            have : RS (w.heap.size + 1) A g := by
              right
              cases A with
              | none => cases hg
              | some ad => 
                rcases HS3.out.2.2.2 with ⟨he, _⟩ | ⟨g', cap', cur, he, _⟩
                · cases he
                · cases he
                  cases hg
                  rfl
            exact HLT.out g h this
          have Hs4 := Lib.hid hs4
          have Ho4 := Lib.hid ho4
          have Hb4 := Lib.hid hb4
          have hsz4 := hf4.size
          clear hown4 hgrow hf4 hs4 ho4 hb4
          go_wp2
          refine ⟨⟨m2, l3, a2, out ++ [xk], by omega, by simp; omega, Hs4.out, HH3.out, HP4.out, ?_, Ho4.out, Hb4.out, by omega⟩, ?_⟩
          · rw [List.append_assoc, ← HO2.out, HBZ.out]
            rfl
          · simp
            omega
end Go.Proofs.Ytdfgdnaejnngoaa
