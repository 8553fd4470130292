import Derived.Test.YtdfgdnaejnngoaaGreatJx7
import Derived.Test.YtdfgdnaejnngoaaGreatJx5
import Derived.Shelf.SlSortCmp.NoneTotal
import Derived.Maps.OwnSet
set_option linter.unusedVariables false
set_option linter.unusedSimpArgs false
namespace Go.Proofs.YtdfgdnaejnngoaaGreat
open Go.RowKit
/-! slices.CompactFunc over items, where two have one key. -/
def zs0 (m : Nat) : List Value := (Builtin.zeroCells (Value.agg #[.string ⟨#[]⟩, .string ⟨#[]⟩]).cells m).toList
theorem zs0_len (m : Nat) : (zs0 m).length = m * 2 := by
  have hc2 : (Value.agg #[.string ⟨#[]⟩, .string ⟨#[]⟩]).cells.size = 2 := by kernel_rfl
  unfold zs0
  rw [Array.length_toList, size_zeroCells, hc2]
theorem zs0_one (m : Nat) : ∀ u ∈ zs0 m, u.oneCell' = true := by
  intro u hu
  have hc : (Value.agg #[.string ⟨#[]⟩, .string ⟨#[]⟩]).cells = #[.string ⟨#[]⟩, .string ⟨#[]⟩] := by kernel_rfl
  unfold zs0 Builtin.zeroCells at hu
  rw [hc] at hu
  simp only [Array.toList_map, List.mem_map] at hu
  obtain ⟨i, _, rfl⟩ := hu
  have h2 : i % 2 = 0 ∨ i % 2 = 1 := by omega
  show ((#[Value.string ⟨#[]⟩, .string ⟨#[]⟩] : Array Value)[i % 2]!).oneCell' = true
  rcases h2 with h | h <;> rw [h] <;> rfl
theorem clear_many (w : World) (g o m c : Nat) (ty : TypeId) (cur : List Value) (h : w.heap[g]? = some (.cells cur.toArray 41 (0, 0))) (hn : o + m * 2 ≤ cur.length) (hm : 0 < m) :
    (Builtin.clear_ #[29] ty #[.slice (some ⟨g, o, none⟩) m c]).run Tryz.prog w = .ok (.tuple #[]) (w.setCells g o (zs0 m)) := by
  obtain ⟨m, rfl⟩ : ∃ m', m = m' + 1 := ⟨m - 1, by omega⟩
  have hst := run_storeCells_cells (P := Tryz.prog) g o (zs0 (m + 1)) 0 w (by simp only [Nat.add_zero]; exact blk_there h o _ (by rw [zs0_len]; exact hn)) (fun j _ => Lib.frozen_of_heap h _) (zs0_one (m + 1))
  simp only [Nat.add_zero] at hst
  have hz := item_zero w
  have hzc : (Builtin.zeroCells (Value.agg #[.string ⟨#[]⟩, .string ⟨#[]⟩]).cells (m + 1)).toList = zs0 (m + 1) := rfl
  simp [Builtin.clear_, run_underlying Tryz.underlying29, hz, hzc, hst]
def CompRes (g n : Nat) (w : World) (e : Ending) (w' : World) : Prop := ∃ m cap', e = .returned (.slice (some ⟨g, 0, none⟩) m cap') ∧ m < n ∧ Fr (fun k => k = g) w w'
set_option maxHeartbeats 2000000 in
set_option maxRecDepth 100000 in
theorem compact_dup (g cap : Nat) (l : List Itm) (w : World) (B : Nat) (h : OwnsM w B (.slice (some ⟨g, 0, none⟩) l.length cap) l) (hl : l.length ≤ 100000) (hadj : adjB l = true) :
    Calls Tryz.prog 87 #[.slice (some ⟨g, 0, none⟩) l.length cap, .func (.func 88) #[] #[]] w (CompRes g l.length w) := by
  obtain ⟨cur0, hg0, hB0, hcl0, hcm0, hlc0, ht0, hz0⟩ := h.block
  have hcap : cap ≤ 9223372036854775807 := by unfold maxLen at hcm0; omega
  have hlcI : (l.length : Int) ≤ (cap : Int) := by omega
  have h2 : 2 ≤ l.length := by
    obtain ⟨k, x, y, _, hy, _⟩ := adj_of hadj
    have := (List.getElem?_eq_some_iff.1 hy).1
    omega
  have HO := Lib.hid h
  have HA := Lib.hid hadj
  have HT := Lib.hid (fun x y W => isTwin_any x y W)
  have hnI : (2 : Int) ≤ (l.length : Int) := by omega
  clear h hadj hg0 hcl0 hB0 hlc0 ht0 hz0 cur0
  go_enter Tryz.func87, Tryz.ntmps87
  go_wp2
  go_loopw [5] (fun i wr => ∃ k : Nat, i = .int .i64 k ∧ 1 ≤ k ∧ k ≤ l.length ∧ (∀ (m : Nat) (x y : Itm), m + 1 < k → l[m]? = some x → l[m + 1]? = some y → decide (y.key = x.key) = false) ∧ Below w.heap.size w wr) (fun i _ => l.length + 1 - (intOf i).toNat)
  case atStart => exact ⟨1, rfl, by omega, by omega, fun m x y hm => by omega, (by repeat (first | assumption | exact Below.refl _ _ | (refine below_step (w := ?_) ?_ ?_ ?_; rotate_left 2; assumption) | refine Below.drew ?_ | refine below_drewN ?_ _ | refine Below.alloc ?_ ?_ _ | refine Below.setCell ?_ ?_ _ | (focus (simp; done)) | (focus (simp; omega)) | omega))⟩
  case round =>
    obtain ⟨k, rfl, hk1, hk, hno, hbel⟩ := hrel
    by_cases hkl : k < l.length
    · have hkI : (k : Int) < (l.length : Int) := by omega
      obtain ⟨y, hy⟩ := get_lt hkl
      obtain ⟨m, hmk⟩ : ∃ m, k = m + 1 := ⟨k - 1, by omega⟩
      obtain ⟨x, hx⟩ := get_lt (l := l) (i := m) (by omega)
      obtain ⟨g1, e1, _, hglt, _, hcx⟩ := HO.out.row Itm.clen hx
      cases e1
      obtain ⟨g2, e2, _, _, _, hcy⟩ := HO.out.row Itm.clen hy
      cases e2
      have d0 := (hbel.cell (p := ⟨g, _, none⟩) hglt).trans (hcx 0 _ rfl)
      have d1 := (hbel.cell (p := ⟨g, _, none⟩) hglt).trans (hcx 1 _ rfl)
      have d2 := (hbel.cell (p := ⟨g, _, none⟩) hglt).trans (hcy 0 _ rfl)
      have d3 := (hbel.cell (p := ⟨g, _, none⟩) hglt).trans (hcy 1 _ rfl)
      simp only [Nat.add_zero] at d0 d2
      have hc := fun W => HT.out y x W
      have hnx : decide (y.key = x.key) = false → ∀ (m' : Nat) (x' y' : Itm), m' + 1 < k + 1 → l[m']? = some x' → l[m' + 1]? = some y' → decide (y'.key = x'.key) = false := by
        intro hq m' x' y' hm' hx' hy'
        by_cases e : m' = m
        · subst e
          rw [hx] at hx'
          rw [← hmk, hy] at hy'
          cases hx'
          cases hy'
          exact hq
        · exact hno m' x' y' (by omega) hx' hy'
      generalize decide (y.key = x.key) = q at hc hnx
      obtain ⟨xk, xv⟩ := x
      obtain ⟨yk, yv⟩ := y
      rw [Itm.v_def, Itm.v_def] at hc
      dsimp only at d0 d1 d2 d3
      have HC := Lib.hid hc
      have HNX := Lib.hid hnx
      have hglt2 : g < wr.heap.size := Nat.lt_of_lt_of_le hglt hbel.size
      have hw1 : IntKind.i64.wrap ((k : Int) - 1) = (m : Int) := by rw [IntKind.wrap_i64]; omega
      have hm0 : (m : Int) < (l.length : Int) := by omega
      have hck : ¬ (cap = k) := by omega
      have hkn : k ≤ l.length := by omega
      clear hc hcx hcy hx hy hglt hno hnx
      have HMK := Lib.hid hmk
      clear hmk
      go_wp2
      refine rg_start (n := 11) (fun w' => w'.cell? ⟨g, m * 2, none⟩ = some (.string xk) ∧ w'.cell? ⟨g, m * 2 + 1, none⟩ = some (.string xv) ∧ w'.cell? ⟨g, k * 2, none⟩ = some (.string yk) ∧ w'.cell? ⟨g, k * 2 + 1, none⟩ = some (.string yv) ∧ Below w.heap.size w w' ∧ g < w'.heap.size) #[false, false, false, false, false, false, false, false, false, false, false] (by kernel_rfl) rfl rfl ⟨d0, d1, d2, d3, hbel.drew, hglt2⟩ (fun hHeld => ?_)
      refine rg_take (i := 0) (N := (some 18)) (v := ?_) (a' := ?_) #[true, false, false, false, false, false, false, false, false, false, false] rfl rfl (by kernel_rfl) (fun _ _ _ h => h) (by rfl) ?_ hHeld ?_ ?_
      rotate_left 2
      · rintro w' ⟨s0, s1, s2, s3, s4, s5⟩
        go_simp
        try with_reducible rfl
      · simp only [Act.put, List.setIfInBounds_toArray, List.set_cons_zero, List.set_cons_succ]
        rfl
      refine rg_take (i := 1) (N := (some 19)) (v := ?_) (a' := ?_) #[true, true, false, false, false, false, false, false, false, false, false] rfl rfl (by kernel_rfl) (fun _ _ _ h => h) (by rfl) ?_ hHeld ?_ ?_
      rotate_left 2
      · rintro w' ⟨s0, s1, s2, s3, s4, s5⟩
        go_simp
        try with_reducible rfl
      · simp only [Act.put, List.setIfInBounds_toArray, List.set_cons_zero, List.set_cons_succ]
        rfl
      refine rg_take (i := 2) (N := (some 20)) (v := ?_) (a' := ?_) #[true, true, true, false, false, false, false, false, false, false, false] rfl rfl (by kernel_rfl) (fun _ _ _ h => h) (by rfl) ?_ hHeld ?_ ?_
      rotate_left 2
      · rintro w' ⟨s0, s1, s2, s3, s4, s5⟩
        go_simp
        try with_reducible rfl
      · simp only [Act.put, List.setIfInBounds_toArray, List.set_cons_zero, List.set_cons_succ]
        rfl
      refine rg_take (i := 3) (N := (some 21)) (v := ?_) (a' := ?_) #[true, true, true, true, false, false, false, false, false, false, false] rfl rfl (by kernel_rfl) (fun _ _ _ h => h) (by rfl) ?_ hHeld ?_ ?_
      rotate_left 2
      · rintro w' ⟨s0, s1, s2, s3, s4, s5⟩
        go_simp
        try with_reducible rfl
      · simp only [Act.put, List.setIfInBounds_toArray, List.set_cons_zero, List.set_cons_succ]
        rfl
      refine rg_take (i := 4) (N := (some 22)) (v := ?_) (a' := ?_) #[true, true, true, true, true, false, false, false, false, false, false] rfl rfl (by kernel_rfl) (fun _ _ _ h => h) (by rfl) ?_ hHeld ?_ ?_
      rotate_left 2
      · rintro w' ⟨s0, s1, s2, s3, s4, s5⟩
        go_simp
        try with_reducible rfl
      · simp only [Act.put, List.setIfInBounds_toArray, List.set_cons_zero, List.set_cons_succ]
        rfl
      refine rg_take (i := 5) (N := (some 23)) (v := ?_) (a' := ?_) #[true, true, true, true, true, true, false, false, false, false, false] rfl rfl (by kernel_rfl) (fun _ _ _ h => h) (by rfl) ?_ hHeld ?_ ?_
      rotate_left 2
      · rintro w' ⟨s0, s1, s2, s3, s4, s5⟩
        go_simp
        try with_reducible rfl
      · simp only [Act.put, List.setIfInBounds_toArray, List.set_cons_zero, List.set_cons_succ]
        rfl
      refine rg_take (i := 6) (N := (some 24)) (v := ?_) (a' := ?_) #[true, true, true, true, true, true, true, false, false, false, false] rfl rfl (by kernel_rfl) (fun _ _ _ h => h) (by rfl) ?_ hHeld ?_ ?_
      rotate_left 2
      · rintro w' ⟨s0, s1, s2, s3, s4, s5⟩
        go_simp
        try with_reducible rfl
      · simp only [Act.put, List.setIfInBounds_toArray, List.set_cons_zero, List.set_cons_succ]
        rfl
      refine rg_take (i := 7) (N := (some 25)) (v := ?_) (a' := ?_) #[true, true, true, true, true, true, true, true, false, false, false] rfl rfl (by kernel_rfl) (fun _ _ _ h => h) (by rfl) ?_ hHeld ?_ ?_
      rotate_left 2
      · rintro w' ⟨s0, s1, s2, s3, s4, s5⟩
        go_simp
        try with_reducible rfl
      · simp only [Act.put, List.setIfInBounds_toArray, List.set_cons_zero, List.set_cons_succ]
        rfl
      refine rg_take (i := 8) (N := (some 26)) (v := ?_) (a' := ?_) #[true, true, true, true, true, true, true, true, true, false, false] rfl rfl (by kernel_rfl) (fun _ _ _ h => h) (by rfl) ?_ hHeld ?_ ?_
      rotate_left 2
      · rintro w' ⟨s0, s1, s2, s3, s4, s5⟩
        go_simp
        try with_reducible rfl
      · simp only [Act.put, List.setIfInBounds_toArray, List.set_cons_zero, List.set_cons_succ]
        rfl
      refine rg_take (i := 9) (N := (some 27)) (v := ?_) (a' := ?_) #[true, true, true, true, true, true, true, true, true, true, false] rfl rfl (by kernel_rfl) (fun _ _ _ h => h) (by rfl) ?_ hHeld ?_ ?_
      rotate_left 2
      · rintro w' ⟨s0, s1, s2, s3, s4, s5⟩
        go_simp
        try with_reducible rfl
      · simp only [Act.put, List.setIfInBounds_toArray, List.set_cons_zero, List.set_cons_succ]
        rfl
      refine rg_one (i := 10) #[true, true, true, true, true, true, true, true, true, true, true] rfl (by kernel_rfl) (by rfl) (fun K hK => ?_)
      obtain ⟨s0, s1, s2, s3, s4, s5⟩ := hHeld
      repeat go_step
      ((with_reducible refine (HC.out _).mono ?_); rintro e w2 ⟨rfl, hb2⟩)
      try dsimp only
      refine hK.out _ _ ?_ (fun hHeld => ?_)
      · (repeat (first | (with_reducible assumption) | (with_reducible apply And.intro) | (with_reducible refine keep_cell (w := ?_) ?_ ?_ ?_; rotate_left; with_reducible assumption) | (with_reducible refine keep_cell_alloc ?_ ?_) | (with_reducible refine keep_lt (w := ?_) ?_ ?_; rotate_left; with_reducible assumption) | (with_reducible refine keep_lt_alloc ?_) | (with_reducible refine below_next (w := ?_) ?_ ?_; rotate_left 2; with_reducible assumption) | (with_reducible refine below_alloc ?_) | (with_reducible refine Below.drew ?_) | (with_reducible refine keep_lt_drew ?_) | (with_reducible refine keep_cell_drew ?_)))
      clear hK K
      clear s0 s1 s2 s3 s4 s5
      refine rg_done (by kernel_rfl) ?_
      obtain ⟨_, _, _, _, t4, _⟩ := hHeld
      clear d0 d1 d2 d3 hw1
      cases q
      · go_wp2
        refine ⟨⟨k + 1, by go_num, by omega, by omega, HNX.out rfl, t4⟩, ?_⟩
        simp [intOf]
        omega
      have HOW := Lib.hid (HO.out.below t4)
      have HFR := Lib.hid (Fr.of_below (S := fun q => q = g) t4)
      clear t4 HC HNX hbel
      go_wp2
      go_loopw [7, 5] (fun p q wr => ∃ (k2 kk : Nat) (l' : List Itm), p = .int .i64 k2 ∧ q = .int .i64 kk ∧ 1 ≤ k2 ∧ k2 ≤ l.length - k ∧ k ≤ kk ∧ kk < k + k2 ∧ l'.length = l.length ∧ OwnsM wr B (.slice (some ⟨g, 0, none⟩) l'.length cap) l' ∧ Fr (fun q => q = g) w wr) (fun p _ _ => l.length + 1 - (intOf p).toNat)
      case atStart => exact ⟨1, k, l, rfl, rfl, by omega, by omega, by omega, by omega, rfl, HOW.out, HFR.out⟩
      case round =>
        obtain ⟨k2, kk, l', rfl, rfl, hk21, hk2, hkk1, hkk2, hll, how, hfr⟩ := hrel
        have HOW2 := Lib.hid how
        have HFR2 := Lib.hid hfr
        have HLL := Lib.hid hll
        by_cases hk2l : k2 < l.length - k
        · have hk2I : (k2 : Int) < ((l.length - k : Nat) : Int) := by omega
          have hkkI : (kk : Int) < (l.length : Int) := by omega
          obtain ⟨y2, hy2⟩ := get_lt (l := l') (i := k + k2) (by omega)
          obtain ⟨m2, hm2⟩ : ∃ m2, k2 = m2 + 1 := ⟨k2 - 1, by omega⟩
          obtain ⟨x2, hx2⟩ := get_lt (l := l') (i := k + m2) (by omega)
          obtain ⟨z2, hz2⟩ := get_lt (l := l') (i := kk) (by omega)
          obtain ⟨g1, e1, _, hglt, _, hcx⟩ := how.row Itm.clen hx2
          cases e1
          obtain ⟨g2, e2, _, _, _, hcy⟩ := how.row Itm.clen hy2
          cases e2
          obtain ⟨g3, e3, _, _, _, hcz⟩ := how.row Itm.clen hz2
          cases e3
          have d0 := hcx 0 _ rfl
          have d1 := hcx 1 _ rfl
          have d2 := hcy 0 _ rfl
          have d3 := hcy 1 _ rfl
          have d4 := hcz 0 _ rfl
          have d5 := hcz 1 _ rfl
          simp only [Nat.add_zero, Nat.add_mul] at d0 d1 d2 d3 d4 d5
          have hc := fun W => HT.out y2 x2 W
          generalize decide (y2.key = x2.key) = q at hc
          obtain ⟨x2k, x2v⟩ := x2
          obtain ⟨y2k, y2v⟩ := y2
          obtain ⟨z2k, z2v⟩ := z2
          rw [Itm.v_def, Itm.v_def] at hc
          dsimp only at d0 d1 d2 d3 d4 d5
          have HC2 := Lib.hid hc
          have hw2 : IntKind.i64.wrap ((k2 : Int) - 1) = (m2 : Int) := by rw [IntKind.wrap_i64]; omega
          have hm20 : (m2 : Int) < ((l.length - k : Nat) : Int) := by omega
          have hkkl : kk < l'.length := by omega
          have HKK := Lib.hid hkkl
          clear hc hcx hcy hcz hx2 hy2 hz2 how hfr hll hm2 hkkl
          go_wp2
          refine rg_start (n := 12) (fun w' => w'.cell? ⟨g, k * 2 + m2 * 2, none⟩ = some (.string x2k) ∧ w'.cell? ⟨g, k * 2 + m2 * 2 + 1, none⟩ = some (.string x2v) ∧ w'.cell? ⟨g, k * 2 + k2 * 2, none⟩ = some (.string y2k) ∧ w'.cell? ⟨g, k * 2 + k2 * 2 + 1, none⟩ = some (.string y2v) ∧ w'.cell? ⟨g, kk * 2, none⟩ = some (.string z2k) ∧ w'.cell? ⟨g, kk * 2 + 1, none⟩ = some (.string z2v) ∧ Below wr.heap.size wr w' ∧ g < w'.heap.size) #[false, false, false, false, false, false, false, false, false, false, false, false] (by kernel_rfl) rfl rfl ⟨d0, d1, d2, d3, d4, d5, (Below.refl _ _).drew, hglt⟩ (fun hHeld => ?_)
          refine rg_take (i := 0) (N := (some 38)) (v := ?_) (a' := ?_) #[true, false, false, false, false, false, false, false, false, false, false, false] rfl rfl (by kernel_rfl) (fun _ _ _ h => h) (by rfl) ?_ hHeld ?_ ?_
          rotate_left 2
          · rintro w' ⟨s0, s1, s2, s3, s4, s5, s6, s7⟩
            go_simp
            try with_reducible rfl
          · simp only [Act.put, List.setIfInBounds_toArray, List.set_cons_zero, List.set_cons_succ]
            rfl
          refine rg_take (i := 1) (N := (some 39)) (v := ?_) (a' := ?_) #[true, true, false, false, false, false, false, false, false, false, false, false] rfl rfl (by kernel_rfl) (fun _ _ _ h => h) (by rfl) ?_ hHeld ?_ ?_
          rotate_left 2
          · rintro w' ⟨s0, s1, s2, s3, s4, s5, s6, s7⟩
            go_simp
            try with_reducible rfl
          · simp only [Act.put, List.setIfInBounds_toArray, List.set_cons_zero, List.set_cons_succ]
            rfl
          refine rg_take (i := 2) (N := (some 40)) (v := ?_) (a' := ?_) #[true, true, true, false, false, false, false, false, false, false, false, false] rfl rfl (by kernel_rfl) (fun _ _ _ h => h) (by rfl) ?_ hHeld ?_ ?_
          rotate_left 2
          · rintro w' ⟨s0, s1, s2, s3, s4, s5, s6, s7⟩
            go_simp
            try with_reducible rfl
          · simp only [Act.put, List.setIfInBounds_toArray, List.set_cons_zero, List.set_cons_succ]
            rfl
          refine rg_take (i := 3) (N := (some 41)) (v := ?_) (a' := ?_) #[true, true, true, true, false, false, false, false, false, false, false, false] rfl rfl (by kernel_rfl) (fun _ _ _ h => h) (by rfl) ?_ hHeld ?_ ?_
          rotate_left 2
          · rintro w' ⟨s0, s1, s2, s3, s4, s5, s6, s7⟩
            go_simp
            try with_reducible rfl
          · simp only [Act.put, List.setIfInBounds_toArray, List.set_cons_zero, List.set_cons_succ]
            rfl
          refine rg_take (i := 4) (N := (some 42)) (v := ?_) (a' := ?_) #[true, true, true, true, true, false, false, false, false, false, false, false] rfl rfl (by kernel_rfl) (fun _ _ _ h => h) (by rfl) ?_ hHeld ?_ ?_
          rotate_left 2
          · rintro w' ⟨s0, s1, s2, s3, s4, s5, s6, s7⟩
            go_simp
            try with_reducible rfl
          · simp only [Act.put, List.setIfInBounds_toArray, List.set_cons_zero, List.set_cons_succ]
            rfl
          refine rg_take (i := 5) (N := (some 43)) (v := ?_) (a' := ?_) #[true, true, true, true, true, true, false, false, false, false, false, false] rfl rfl (by kernel_rfl) (fun _ _ _ h => h) (by rfl) ?_ hHeld ?_ ?_
          rotate_left 2
          · rintro w' ⟨s0, s1, s2, s3, s4, s5, s6, s7⟩
            go_simp
            try with_reducible rfl
          · simp only [Act.put, List.setIfInBounds_toArray, List.set_cons_zero, List.set_cons_succ]
            rfl
          refine rg_take (i := 6) (N := (some 44)) (v := ?_) (a' := ?_) #[true, true, true, true, true, true, true, false, false, false, false, false] rfl rfl (by kernel_rfl) (fun _ _ _ h => h) (by rfl) ?_ hHeld ?_ ?_
          rotate_left 2
          · rintro w' ⟨s0, s1, s2, s3, s4, s5, s6, s7⟩
            go_simp
            try with_reducible rfl
          · simp only [Act.put, List.setIfInBounds_toArray, List.set_cons_zero, List.set_cons_succ]
            rfl
          refine rg_take (i := 7) (N := (some 45)) (v := ?_) (a' := ?_) #[true, true, true, true, true, true, true, true, false, false, false, false] rfl rfl (by kernel_rfl) (fun _ _ _ h => h) (by rfl) ?_ hHeld ?_ ?_
          rotate_left 2
          · rintro w' ⟨s0, s1, s2, s3, s4, s5, s6, s7⟩
            go_simp
            try with_reducible rfl
          · simp only [Act.put, List.setIfInBounds_toArray, List.set_cons_zero, List.set_cons_succ]
            rfl
          refine rg_take (i := 8) (N := (some 46)) (v := ?_) (a' := ?_) #[true, true, true, true, true, true, true, true, true, false, false, false] rfl rfl (by kernel_rfl) (fun _ _ _ h => h) (by rfl) ?_ hHeld ?_ ?_
          rotate_left 2
          · rintro w' ⟨s0, s1, s2, s3, s4, s5, s6, s7⟩
            go_simp
            try with_reducible rfl
          · simp only [Act.put, List.setIfInBounds_toArray, List.set_cons_zero, List.set_cons_succ]
            rfl
          refine rg_take (i := 9) (N := (some 47)) (v := ?_) (a' := ?_) #[true, true, true, true, true, true, true, true, true, true, false, false] rfl rfl (by kernel_rfl) (fun _ _ _ h => h) (by rfl) ?_ hHeld ?_ ?_
          rotate_left 2
          · rintro w' ⟨s0, s1, s2, s3, s4, s5, s6, s7⟩
            go_simp
            try with_reducible rfl
          · simp only [Act.put, List.setIfInBounds_toArray, List.set_cons_zero, List.set_cons_succ]
            rfl
          refine rg_one (i := 10) #[true, true, true, true, true, true, true, true, true, true, true, false] rfl (by kernel_rfl) (by rfl) (fun K hK => ?_)
          obtain ⟨s0, s1, s2, s3, s4, s5, s6, s7⟩ := hHeld
          repeat go_step
          ((with_reducible refine (HC2.out _).mono ?_); rintro e w4 ⟨rfl, hb4⟩)
          try dsimp only
          refine hK.out _ _ ?_ (fun hHeld => ?_)
          · exact ⟨keep_cell hb4 s7 s0, keep_cell hb4 s7 s1, keep_cell hb4 s7 s2, keep_cell hb4 s7 s3, keep_cell hb4 s7 s4, keep_cell hb4 s7 s5, below_next s6 hb4, Nat.lt_of_lt_of_le s7 hb4.size⟩
          clear hK K
          clear s0 s1 s2 s3 s4 s5 s6 s7
          refine rg_take (i := 11) (N := (some 49)) (v := ?_) (a' := ?_) #[true, true, true, true, true, true, true, true, true, true, true, true] rfl rfl (by kernel_rfl) (fun _ _ _ h => h) (by rfl) ?_ hHeld ?_ ?_
          rotate_left 2
          · rintro w' ⟨s0, s1, s2, s3, s4, s5, s6, s7⟩
            go_simp
            try with_reducible rfl
          · simp only [Act.put, List.setIfInBounds_toArray, List.set_cons_zero, List.set_cons_succ]
            rfl
          refine rg_done (by kernel_rfl) ?_
          obtain ⟨t0, t1, t2, t3, t4, t5, t6, t7⟩ := hHeld
          have HO4 := Lib.hid (HOW2.out.below t6)
          have HF4 := Lib.hid (HFR2.out.tr (Fr.of_below t6))
          have f4 := HO4.out.unfrozen (kk * 2)
          have f5 := HO4.out.unfrozen (kk * 2 + 1)
          clear d0 d1 d2 d3 d4 d5 t6 hw2
          cases q
          · have e5 : (w4.setCell ⟨g, kk * 2, none⟩ (.string y2k)).cell? ⟨g, kk * 2 + 1, none⟩ = some (.string z2v) := by rw [World.cell?_setCell_other _ _ _ _ (by simp)]; exact t5
            go_wp2
            have how := HO4.out.write Itm.clen (i := kk) HKK.out ⟨y2k, y2v⟩
            have hf : Fr (fun q => q = g) w4 (wrW w4 g (kk * 2) (Itm.cells ⟨y2k, y2v⟩)) := wrW_fr (g := g) _ w4 (kk * 2)
            have hls : (l'.set kk ⟨y2k, y2v⟩).length = l'.length := List.length_set
            refine ⟨⟨k2 + 1, kk + 1, l'.set kk ⟨y2k, y2v⟩, by go_num, by go_num, by omega, by omega, by omega, by omega, by rw [hls]; exact HLL.out, by rw [hls]; exact how, HF4.out.tr hf⟩, ?_⟩
            simp [intOf]
            omega
          · go_wp2
            refine ⟨⟨k2 + 1, kk, l', by go_num, rfl, by omega, by omega, by omega, by omega, HLL.out, HO4.out, HF4.out⟩, ?_⟩
            simp [intOf]
            omega
        · obtain rfl : k2 = l.length - k := by omega
          obtain ⟨cur, hg, _, hcl, hcm, hlc, _, _⟩ := how.block
          have hclr : ∀ ty c, (Builtin.clear_ #[29] ty #[.slice (some ⟨g, kk * 2, none⟩) (l.length - kk) c]).run Tryz.prog wr = .ok (.tuple #[]) (wr.setCells g (kk * 2) (zs0 (l.length - kk))) := fun ty c => clear_many wr g (kk * 2) (l.length - kk) c ty cur hg (by omega) (by omega)
          have hkkI : (kk : Int) ≤ (l.length : Int) := by omega
          have hckk : ¬ (cap = kk) := by omega
          have hkkc : (kk : Int) ≤ (cap : Int) := by omega
          clear how hg hcl hlc hfr hll
          go_wp2
          go_ret
          exact ⟨kk, cap, rfl, by omega, HFR2.out.tr (setCells_is_fr g _ _ _)⟩
    · exfalso
      obtain ⟨m, x, y, h1, h2, h3⟩ := adj_of HA.out
      have := hno m x y (by have := (List.getElem?_eq_some_iff.1 h2).1; omega) h1 h2
      rw [h3] at this
      cases this
end Go.Proofs.YtdfgdnaejnngoaaGreat
namespace Go.Proofs.YtdfgdnaejnngoaaGreat
open Go.RowKit
/-! leaf.Of: the pure law. -/
def isoA (a : List Itm) (l : List Itm) : List Itm := l.foldl (fun a x => insR x.key x.val a) a
def isoL (l : List Itm) : List Itm := isoA [] l
def keysL (l : List Itm) : List ByteArray := l.map Itm.key
def errL (l : List Itm) : Int := if l.any badI = true then 1 else if (keysL l).Nodup then 0 else 11
theorem rises_iso : ∀ (l a : List Itm), Rises a → Rises (isoA a l)
  | [], _, h => h
  | x :: l, a, h => rises_iso l _ (rises_ins x.key x.val h)
theorem getL_some_iff {l : List Itm} (hr : Rises l) (k v : ByteArray) : getL l k = some v ↔ (⟨k, v⟩ : Itm) ∈ l :=
  ⟨getL_mem, fun h => getL_of_mem hr h⟩
theorem get_iso : ∀ (l a : List Itm) (k : ByteArray), (∀ x ∈ l, getL a x.key = none) → (keysL l).Nodup → getL (isoA a l) k = match getL l k with | some v => some v | none => getL a k
  | [], a, k, _, _ => by simp [isoA, getL]
  | x :: l, a, k, ha, hn => by
    have hn2 : (keysL l).Nodup ∧ ∀ y ∈ l, y.key ≠ x.key := by
      unfold keysL at hn ⊢
      rw [List.map_cons, List.nodup_cons] at hn
      refine ⟨hn.2, fun y hy e => hn.1 ?_⟩
      rw [← e]
      exact List.mem_map_of_mem hy
    have ih := get_iso l (insR x.key x.val a) k (fun y hy => by
      rw [get_ins, if_neg (hn2.2 y hy)]
      exact ha y (by simp [hy])) hn2.1
    show getL (isoA (insR x.key x.val a) l) k = _
    rw [ih, getL_cons, get_ins]
    by_cases e : x.key = k
    · subst e
      rw [getL_none hn2.2, if_pos rfl, if_pos rfl]
    · rw [if_neg e, if_neg (fun h => e h.symm)]
theorem get_isoL {l : List Itm} (hn : (keysL l).Nodup) (k : ByteArray) : getL (isoL l) k = getL l k := by
  unfold isoL
  rw [get_iso l [] k (fun _ _ => rfl) hn]
  cases getL l k <;> rfl
theorem getL_key_iff (l : List Itm) (k : ByteArray) : (getL l k).isSome = true ↔ k ∈ keysL l := by
  induction l with
  | nil => simp [getL, keysL]
  | cons x l ih =>
    rw [getL_cons]
    unfold keysL at ih ⊢
    rw [List.map_cons, List.mem_cons]
    by_cases e : x.key = k
    · simp [e]
    · rw [if_neg e, ih]
      have : ¬ k = x.key := fun h => e h.symm
      simp [this]
theorem rises_nodup : ∀ {l : List Itm}, Rises l → (keysL l).Nodup
  | [], _ => List.nodup_nil
  | x :: l, h => by
    unfold keysL
    rw [List.map_cons, List.nodup_cons]
    refine ⟨fun hm => ?_, rises_nodup h.2⟩
    obtain ⟨y, hy, e⟩ := List.mem_map.1 hm
    exact h.tail_ne y hy e
theorem iso_perm {l l' : List Itm} (hp : l'.Perm l) (hr : Rises l') : l' = isoL l := by
  have hn : (keysL l).Nodup := ((hp.map Itm.key).nodup_iff).1 (rises_nodup hr)
  refine rises_ext hr (rises_iso l [] trivial) (fun k => ?_)
  rw [get_isoL hn]
  apply Option.ext
  intro v
  rw [getL_some_iff hr, hp.mem_iff]
  constructor
  · intro h
    have h1 : ∀ {l : List Itm} {x : Itm}, (keysL l).Nodup → x ∈ l → getL l x.key = some x.val := by
      intro l
      induction l with
      | nil => intro x _ h; cases h
      | cons y l ih =>
        intro x hn h
        unfold keysL at hn
        rw [List.map_cons, List.nodup_cons] at hn
        rw [getL_cons]
        rcases List.mem_cons.1 h with rfl | h
        · rw [if_pos rfl]
        · have hne : ¬ y.key = x.key := fun e => hn.1 (by rw [e]; exact List.mem_map_of_mem h)
          rw [if_neg hne]
          exact ih hn.2 h
    exact h1 hn h
  · exact getL_mem
theorem sorted_rises : ∀ {l : List Itm}, SortedL l → adjB l = false → Rises l
  | [], _, _ => trivial
  | [x], _, _ => ⟨fun y hy => (by cases hy), trivial⟩
  | x :: y :: l, hs, ha => by
    rw [adjB, Bool.or_eq_false_iff] at ha
    have ih : Rises (y :: l) := sorted_rises (fun i j a b hij h1 h2 => hs (i + 1) (j + 1) a b (by omega) (by simpa using h1) (by simpa using h2)) ha.2
    have h0 := hs 0 1 x y (by omega) rfl rfl
    have hxy : klt x.key y.key = true := by
      cases h : klt x.key y.key
      · have := klt_tri h0 h
        simp [this] at ha
      · rfl
    refine ⟨fun z hz => ?_, ih⟩
    rcases List.mem_cons.1 hz with rfl | hz
    · exact hxy
    · exact klt_trans hxy (ih.1 z hz)
theorem adj_dup {l : List Itm} (h : adjB l = true) : ¬ (keysL l).Nodup := by
  intro hn
  obtain ⟨k, x, y, h1, h2, h3⟩ := adj_of h
  have hk : k + 1 < (keysL l).length := by
    unfold keysL
    rw [List.length_map]
    exact (List.getElem?_eq_some_iff.1 h2).1
  have := (List.getElem_inj (h₀ := (by omega : k < (keysL l).length)) (h₁ := hk) hn).1 (by
    have e1 : (keysL l)[k]? = some x.key := by unfold keysL; rw [List.getElem?_map, h1]; rfl
    have e2 : (keysL l)[k + 1]? = some y.key := by unfold keysL; rw [List.getElem?_map, h2]; rfl
    have e3 : y.key = x.key := by simpa using h3
    rw [List.getElem?_eq_getElem (by omega)] at e1
    rw [List.getElem?_eq_getElem hk] at e2
    simp only [Option.some.injEq] at e1 e2
    rw [e1, e2, e3])
  omega
theorem bad_ok {l : List Itm} (h : l.any badI = false) : ∀ x ∈ l, x.ok := by
  intro x hx
  rw [List.any_eq_false] at h
  have := h x hx
  unfold badI at this
  unfold Itm.ok
  simpa using this
theorem iso_self {l : List Itm} (h : Rises l) : isoL l = l := (iso_perm (List.Perm.refl l) h).symm
theorem iso_snoc (l : List Itm) (x : Itm) : isoL (l ++ [x]) = insR x.key x.val (isoL l) := by simp [isoL, isoA, List.foldl_append]
theorem iso_take (l : List Itm) (k : Nat) (x : Itm) (h : l[k]? = some x) : isoL (l.take (k + 1)) = insR x.key x.val (isoL (l.take k)) := by
  rw [take_snoc' h, iso_snoc]
end Go.Proofs.YtdfgdnaejnngoaaGreat
namespace Go.Proofs.YtdfgdnaejnngoaaGreat
open Go.RowKit
/-! leaf.Of. -/
theorem collect_any (A : Option Addr) (cap Bs : Nat) (zs : List Itm) (w : World) (hl : zs.length ≤ 90000) (hBs : w.cell? ⟨Bs, 0, none⟩ = some (.slice A zs.length cap)) (hv : VI w.heap.size w A zs) :
    Calls Tryz.prog 113 #[.func (.func 115) #[] #[.pointer (some ⟨Bs, 0, none⟩)]] w fun e w' => ∃ A' cap', e = .returned (.slice A' zs.length cap') ∧ OwnsM w' w.heap.size (.slice A' zs.length cap') zs ∧ Below w.heap.size w w' := by
  have hc := callsIn_wide.1 (appendSeq_in A cap Bs zs w hl hBs hv)
  have HC := Lib.hid hc
  clear hc hBs hv
  go_enter Tryz.func113, Tryz.ntmps113
  go_wp2_with (go_at_call 130; (with_reducible refine HC.out.mono ?_); rintro e w1 ⟨v, rfl, ho1, hb1⟩; obtain ⟨A1, c1, rfl⟩ := ho1.slice)
  go_ret
  exact ⟨A1, c1, rfl, ho1, hb1⟩
theorem sort_all (B cap : Nat) (A : Option Addr) (l : List Itm) (w : World) (h : OwnsM w B (.slice A l.length cap) l) (hl : l.length ≤ 100000) :
    Calls Tryz.prog 114 #[.slice A l.length cap, .func (.func 86) #[] #[]] w
    fun e w' => e = .returned (.tuple #[]) ∧ ∃ l', l'.Perm l ∧ SortedL l' ∧ OwnsM w' B (.slice A l.length cap) l' ∧ Fr (fun k => (Value.slice A l.length cap).ownBlock = some k) w w' := by
  rcases h.2 with ⟨he, h0⟩ | ⟨g, cap', cur, he, _⟩
  · simp only [Value.slice.injEq] at he
    obtain ⟨rfl, _, rfl⟩ := he
    obtain rfl : l = [] := List.eq_nil_of_length_eq_zero h0
    refine Calls.mono (Go.Proofs.AnyF.slices_SortFunc_none Tryz.sortIt none 0 (.func (.func 86) #[] #[]) w) ?_
    rintro e w' ⟨rfl, rfl⟩
    exact ⟨rfl, [], List.Perm.refl _, fun i j x y _ hx => by simp at hx, h, Fr.refl _ _⟩
  · simp only [Value.slice.injEq] at he
    obtain ⟨rfl, _, rfl⟩ := he
    refine (sort_any B g cap l w h hl).mono ?_
    rintro e w' ⟨he, l', h1, h2, h3, h4⟩
    exact ⟨he, l', h1, h2, h3, h4.mono (fun k _ e => by subst e; rfl)⟩
theorem sorted_any (A : Option Addr) (cap Bs : Nat) (zs : List Itm) (w : World) (hl : zs.length ≤ 90000) (hBs : w.cell? ⟨Bs, 0, none⟩ = some (.slice A zs.length cap)) (hv : VI w.heap.size w A zs) :
    Calls Tryz.prog 84 #[.func (.func 115) #[] #[.pointer (some ⟨Bs, 0, none⟩)], .func (.func 86) #[] #[]] w fun e w' => ∃ A' cap' l', e = .returned (.slice A' zs.length cap') ∧ l'.Perm zs ∧ SortedL l' ∧ OwnsM w' w.heap.size (.slice A' zs.length cap') l' ∧ Below w.heap.size w w' := by
  have hc := collect_any A cap Bs zs w hl hBs hv
  have HC := Lib.hid hc
  have HS := Lib.hid (fun B cap A W (h : OwnsM W B (.slice A zs.length cap) zs) => sort_all B cap A zs W h (by omega))
  clear hc hBs hv
  go_enter Tryz.func84, Tryz.ntmps84
  go_wp2_with (first | (go_at_call 113; (with_reducible refine HC.out.mono ?_); rintro e w1 ⟨A1, c1, rfl, ho1, hb1⟩; have HB1 := Lib.hid hb1; have HO1 := Lib.hid ho1; clear hb1 ho1) | (go_at_call 114; (with_reducible refine (HS.out _ _ _ _ HO1.out).mono ?_); rintro e w2 ⟨rfl, l', h1, h2, h3, h4⟩))
  go_ret
  refine ⟨A1, c1, l', rfl, h1, h2, h3, HB1.out.trans (h4.to_below HB1.out.size (fun i hi e => ?_))⟩
  rcases HO1.out.2 with ⟨he, _⟩ | ⟨g, cap', cur, he, hb, _⟩
  · rw [he] at e; cases e
  · rw [he] at e
    simp only [Value.ownBlock, Option.some.injEq] at e
    omega
def OfRes (w : World) (zs : List Itm) (e : Ending) (w' : World) : Prop := Below w.heap.size w w' ∧ ((errL zs ≠ 0 ∧ e = .returned (.tuple #[.pointer none, .int .i64 (errL zs)])) ∨ (errL zs = 0 ∧ ∃ b A cap, e = .returned (.tuple #[.pointer (some ⟨b, 0, none⟩), .int .i64 0]) ∧ LeafAt w' b A cap (isoL zs) ∧ w.heap.size ≤ b))
def CmpAny (B : Nat) (A : Option Addr) (cap : Nat) (l : List Itm) (w : World) (e : Ending) (w' : World) : Prop := ∃ A2 m cap2, e = .returned (.slice A2 m cap2) ∧ decide ((m : Int) < (l.length : Int)) = adjB l ∧ Fr (fun k => (Value.slice A l.length cap).ownBlock = some k) w w' ∧ (adjB l = false → OwnsM w' B (.slice A l.length cap) l)
theorem compact_any (B cap : Nat) (A : Option Addr) (l : List Itm) (w : World) (h : OwnsM w B (.slice A l.length cap) l) (hl : l.length ≤ 100000) :
    Calls Tryz.prog 87 #[.slice A l.length cap, .func (.func 88) #[] #[]] w (CmpAny B A cap l w) := by
  by_cases h2 : l.length < 2
  · refine (compact_few A l.length cap _ w h2).mono ?_
    rintro e w' ⟨rfl, rfl⟩
    have ha : adjB l = false := by
      rcases l with _ | ⟨x, _ | ⟨y, l⟩⟩
      · rfl
      · rfl
      · simp at h2; omega
    exact ⟨A, l.length, cap, rfl, by rw [ha]; simp, Fr.refl _ _, fun _ => h⟩
  · rcases h.2 with ⟨he, h0⟩ | ⟨g, cap', cur, he, _⟩
    · omega
    · simp only [Value.slice.injEq] at he
      obtain ⟨rfl, _, rfl⟩ := he
      cases ha : adjB l with
      | false =>
        refine (compact_none g cap l w B h hl (by omega) ha).mono ?_
        rintro e w' ⟨rfl, hb⟩
        exact ⟨_, _, _, rfl, by rw [ha]; simp, Fr.of_below hb, fun _ => h.below hb⟩
      | true =>
        refine (compact_dup g cap l w B h hl ha).mono ?_
        rintro e w' ⟨m, cap', rfl, hm, hf⟩
        exact ⟨_, m, cap', rfl, by rw [ha]; simp; omega, hf.mono (fun k _ e => by subst e; rfl), fun h => by rw [ha] at h; cases h⟩
theorem badV_v (x : Itm) : badV x.v = badI x := rfl
set_option maxHeartbeats 1000000 in
set_option maxRecDepth 100000 in
theorem leafOf_any (A : Option Addr) (cap : Nat) (zs : List Itm) (w : World) (hel : Elems w A 2 (zs.map Itm.cells)) (hl : zs.length ≤ 90000) :
    Calls Tryz.prog 52 #[.slice A zs.length cap] w (OfRes w zs) := by
  have eg : ∀ args w, (callFunc 83 args).run Tryz.prog w = .ok (.enter 83 args) w := enters_of Tryz.func83 (by kernel_rfl) rfl
  have hcf := containsFunc_item A cap zs badV 83 #[] w eg (by omega) hel (fun W _ v hv => by
    obtain ⟨x, _, rfl⟩ := List.mem_map.1 hv
    exact isBad_any x W)
  have hany : (zs.any fun x => badV (Itm.v x)) = zs.any badI := rfl
  rw [hany] at hcf
  cases hbad : zs.any badI with
  | true =>
    rw [hbad] at hcf
    have he : errL zs = 1 := by unfold errL; rw [if_pos hbad]
    have HCF := Lib.hid hcf
    have HE := Lib.hid he
    clear hcf he hbad hany hel
    go_enter Tryz.func52, Tryz.ntmps52
    go_wp2_with (go_at_call 82; (with_reducible refine HCF.out.mono ?_); rintro e w1 ⟨rfl, hb1⟩)
    (try simp only [Exit.inBlock, Exit.then])
    refine bodyPost_ret (results_tmp2 rfl _ _ _) rfl ⟨hb1, .inl ⟨by rw [HE.out]; decide, by rw [HE.out]; rfl⟩⟩
  | false =>
    rw [hbad] at hcf
    have hok := bad_ok hbad
    have hE : errL zs = if (keysL zs).Nodup then 0 else 11 := by unfold errL; rw [if_neg (by rw [hbad]; decide)]
    have hEL := Lib.hid hel
    have hso : ∀ W, Below w.heap.size w W → ∀ W2, W.alloc (.cells #[.slice A zs.length cap] 29) = W2 → Calls Tryz.prog 84 #[.func (.func 115) #[] #[.pointer (some ⟨W.heap.size, 0, none⟩)], .func (.func 86) #[] #[]] W2 fun e w' => ∃ A' cap' l', e = .returned (.slice A' zs.length cap') ∧ l'.Perm zs ∧ SortedL l' ∧ OwnsM w' W2.heap.size (.slice A' zs.length cap') l' ∧ Below W2.heap.size W2 w' := by
      intro W hW W2 e
      subst e
      exact sorted_any A cap W.heap.size zs _ hl (by rw [Lib.cell_of_heap (heap_alloc_new W _)]; rfl) (VI.of ((hEL.out.below hW).below (Below.alloc (Below.refl _ W) (Nat.le_refl _) _)))
    have HCF := Lib.hid hcf
    have HS := Lib.hid hso
    have HE := Lib.hid hE
    have HOK := Lib.hid hok
    clear hcf hE hbad hany hel hso hok
    go_enter Tryz.func52, Tryz.ntmps52
    go_wp2_with fail
    refine Calls.mono HCF.out ?_
    rintro e w1 ⟨rfl, hb1⟩
    have HB1 := Lib.hid hb1
    clear hb1
    go_wp2_with fail
    refine Calls.mono (vals_any A zs.length cap _) ?_
    rintro e w2 ⟨rfl, hw2⟩
    have hso := HS.out w1 HB1.out w2 hw2
    have HB2 := Lib.hid (show Below w.heap.size w w2 by rw [← hw2]; exact below_alloc HB1.out)
    clear hw2 HS
    go_wp2_with fail
    refine Calls.mono hso ?_
    rintro e w3 ⟨A3, c3, l3, rfl, hp3, hs3, ho3, hb3⟩
    have hl3 : l3.length = zs.length := hp3.length_eq
    have HL3 := Lib.hid hl3
    rw [← hl3] at ho3
    have hco := compact_any w2.heap.size c3 A3 l3 w3 ho3 (by omega)
    rw [hl3] at hco
    have HCO := Lib.hid hco
    have HB3 := Lib.hid (below_next HB2.out hb3)
    have HP3 := Lib.hid hp3
    have HS3 := Lib.hid hs3
    have HO3 := Lib.hid ho3
    clear hso hp3 hs3 ho3 hb3 hl3 hco
    go_wp2_with fail
    refine Calls.mono HCO.out ?_
    rintro e w4 ⟨A4, m4, c4, rfl, hm4, hf4, ho4⟩
    have hb4 : Below w.heap.size w w4 := HB3.out.trans (hf4.to_below HB3.out.size (fun i hi e => by
      have hw2 := HB2.out.size
      rcases HO3.out.2 with ⟨he, _⟩ | ⟨g, cap', cur, he, hb, _⟩
      · rw [he] at e; cases e
      · rw [he] at e
        simp only [Value.ownBlock, Option.some.injEq] at e
        omega))
    have HB4 := Lib.hid hb4
    clear hb4 hf4
    cases ha : adjB l3 with
    | true =>
      rw [ha] at hm4
      rw [HL3.out] at hm4
      have hm5 : decide (m4 < zs.length) = true := by simpa using hm4
      clear hm4
      have hnd : ¬ (keysL zs).Nodup := fun hn => adj_dup ha (((HP3.out.map Itm.key).nodup_iff).2 hn)
      have he := HE.out
      rw [if_neg hnd] at he
      have HE2 := Lib.hid he
      clear he hnd ha ho4
      go_wp2
      (try simp only [Exit.inBlock, Exit.then])
      refine bodyPost_ret (results_tmp2 rfl _ _ _) rfl ⟨HB4.out, .inl ⟨by rw [HE2.out]; decide, by rw [HE2.out]; rfl⟩⟩
    | false =>
      rw [ha] at hm4
      rw [HL3.out] at hm4
      have hm5 : decide (m4 < zs.length) = false := by simpa using hm4
      clear hm4
      have how := ho4 ha
      have hri := sorted_rises HS3.out ha
      have hnd : (keysL zs).Nodup := ((HP3.out.map Itm.key).nodup_iff).1 (rises_nodup hri)
      have he := HE.out
      rw [if_pos hnd] at he
      have hnil : A3 = none → c3 = 0 := by
        intro e
        subst e
        rcases how.2 with ⟨he, _⟩ | ⟨g, cap', cur, he, _⟩
        · simp at he; exact he.2
        · simp at he
      have hma := made_any A3 c3 l3 w4 (how.elems Itm.clen) hri (fun x hx => HOK.out x (HP3.out.mem_iff.1 hx)) hnil (by rw [HL3.out]; omega)
      rw [HL3.out, iso_perm HP3.out hri] at hma
      have HE2 := Lib.hid he
      have HMA := Lib.hid hma
      clear he hnd ha ho4 how hri hma hnil
      go_wp2_with (go_at_call 89; (with_reducible refine HMA.out.mono ?_); rintro e w5 ⟨b5, rfl, hla, hle, hb5⟩)
      (try simp only [Exit.inBlock, Exit.then])
      refine bodyPost_ret (results_tmp2 rfl _ _ _) rfl ⟨below_next HB4.out hb5, .inr ⟨HE2.out, b5, A3, c3, rfl, hla, Nat.le_trans HB4.out.size hle⟩⟩
end Go.Proofs.YtdfgdnaejnngoaaGreat
namespace Go.Proofs.YtdfgdnaejnngoaaGreat
open Go.RowKit
theorem mdlDo_any (bm g : Nat) (N : Int) (ls : List (List Itm)) (l : List Itm) (o : Ord) (w : World) (h : ModelAt w bm g N ls) (hl : ls[ls.length - 1]? = some l) (hn : ls.length ≤ 90000) (hln : l.length ≤ 60000) (h0 : 0 ≤ o.n) (h1 : o.n < 18446744073709551616) :
    Calls Tryz.prog 12 #[.pointer (some ⟨bm, 0, none⟩), o.v] w (DoRes2 bm g N (ansO (pCap N) l o) (rowsO (pCap N) ls l o) w) := by
  unfold ansO rowsO
  by_cases ho : isOrd o = true
  · rw [if_pos ho, if_pos ho]
    cases hm : msgO o with
    | some m => exact do_msg bm g N ls l o m w h hl hn hln h0 h1 ho hm
    | none =>
      have n1 : ¬ o.kind = 1 := fun e => by unfold msgO at hm; simp [e] at hm
      have n2 : ¬ o.kind = 2 := fun e => by unfold msgO at hm; simp [e] at hm
      have n3 : ¬ o.kind = 3 := fun e => by unfold msgO at hm; simp [e] at hm
      clear hm
      obtain ⟨kind, key, val, n, lo, hi⟩ := o
      dsimp only at n1 n2 n3 h0 h1 ⊢
      by_cases n4 : kind = 4
      · subst n4
        rw [if_pos rfl, if_pos (Or.inl rfl)]
        cases hk : isKey key with
        | true => rw [if_pos rfl]; exact do_get_ok bm g N ls l key val n lo hi w h hl hn hln h0 h1 ho hk
        | false => rw [if_neg (by decide)]; exact do_get_bad bm g N ls l key val n lo hi w h hl hn hln h0 h1 ho hk
      · by_cases n5 : kind = 5
        · subst n5
          rw [if_neg n4, if_pos rfl, if_pos (Or.inr (Or.inl rfl))]
          cases hk : isRng lo hi with
          | true => rw [if_pos rfl]; exact do_scan_ok bm g N ls l key val n lo hi w h hl hn hln h0 h1 ho hk
          | false => rw [if_neg (by decide)]; exact do_scan_bad bm g N ls l key val n lo hi w h hl hn hln h0 h1 ho hk
        · by_cases n8 : kind = 8
          · subst n8
            rw [if_neg n4, if_neg n5, if_pos rfl, if_pos (Or.inr (Or.inr rfl))]
            exact do_stat bm g N ls l key val n lo hi w h hl hn hln h0 h1 ho
          · rw [if_neg n4, if_neg n5, if_neg n8, if_neg (by rintro (e | e | e); exact n4 e; exact n5 e; exact n8 e)]
            exact do_safe bm g N ls l kind key val n lo hi w h hl hn hln h0 h1 ho n1 n2 n3 n4 n5 n8
  · rw [if_neg ho, if_neg ho]
    exact do_bad bm g N ls o w h (by simpa using ho)
/-! model.New. -/
/-- a plan, raw ones too -/
structure Pl where
  a0 : Int
  a1 : Int
  a2 : Int
  a3 : Int
  a4 : Int
  a5 : Int
  a6 : Int
  deriving DecidableEq
def Pl.v (p : Pl) : Value := .agg #[.int .i64 p.a0, .int .i64 p.a1, .int .i64 p.a2, .int .i64 p.a3, .int .i64 p.a4, .int .i64 p.a5, .int .i64 p.a6]
theorem Pl.v_def (p : Pl) : p.v = .agg #[.int .i64 p.a0, .int .i64 p.a1, .int .i64 p.a2, .int .i64 p.a3, .int .i64 p.a4, .int .i64 p.a5, .int .i64 p.a6] := rfl
def planP (N : Int) : Pl := ⟨N, pLog N, 2 + pLog N, pData N, pHalf N, pLeaves N, pCap N⟩
theorem planP_v (N : Int) : (planP N).v = .agg (planA N) := rfl
theorem neq_plan (a b : Pl) (w : World) : (binOp .neq 26 a.v b.v).run Tryz.prog w = .ok (.bool (!decide (a = b))) w := by
  have u3 := Tryz.underlying3
  have a3 := Tryz.isAgg3
  have z3 := Tryz.sizeOf3
  have hS : Tryz.prog.underlying 26 = some (.struct (Tryz.prog.fieldsOf 26)) := by kernel_rfl
  have hp : Tryz.prog.stoodInHeld 26 = false := by kernel_rfl
  rw [Pl.v_def, Pl.v_def]
  rw [run_neq_struct, show (10000 : Nat) = 9999 + 1 from rfl, run_equalIn_agg w 9999 26 _ _ hS hp]
  simp only [Program.fieldsOf, Tryz.underlying26]
  go_simp
  obtain ⟨x0, x1, x2, x3, x4, x5, x6⟩ := a
  obtain ⟨y0, y1, y2, y3, y4, y5, y6⟩ := b
  by_cases h0 : x0 = y0
  rotate_left
  · simp [h0]
  subst h0
  by_cases h1 : x1 = y1
  rotate_left
  · simp [h1]
  subst h1
  by_cases h2 : x2 = y2
  rotate_left
  · simp [h2]
  subst h2
  by_cases h3 : x3 = y3
  rotate_left
  · simp [h3]
  subst h3
  by_cases h4 : x4 = y4
  rotate_left
  · simp [h4]
  subst h4
  by_cases h5 : x5 = y5
  rotate_left
  · simp [h5]
  subst h5
  by_cases h6 : x6 = y6
  rotate_left
  · simp [h6]
  subst h6
  simp
theorem eql_plan (a b : Pl) (w : World) : (binOp .eql 26 a.v b.v).run Tryz.prog w = .ok (.bool (decide (a = b))) w := by
  have u3 := Tryz.underlying3
  have a3 := Tryz.isAgg3
  have z3 := Tryz.sizeOf3
  have hS : Tryz.prog.underlying 26 = some (.struct (Tryz.prog.fieldsOf 26)) := by kernel_rfl
  have hp : Tryz.prog.stoodInHeld 26 = false := by kernel_rfl
  rw [Pl.v_def, Pl.v_def]
  rw [run_eql_struct, show (10000 : Nat) = 9999 + 1 from rfl, run_equalIn_agg w 9999 26 _ _ hS hp]
  simp only [Program.fieldsOf, Tryz.underlying26]
  go_simp
  obtain ⟨x0, x1, x2, x3, x4, x5, x6⟩ := a
  obtain ⟨y0, y1, y2, y3, y4, y5, y6⟩ := b
  by_cases h0 : x0 = y0
  rotate_left
  · simp [h0]
  subst h0
  by_cases h1 : x1 = y1
  rotate_left
  · simp [h1]
  subst h1
  by_cases h2 : x2 = y2
  rotate_left
  · simp [h2]
  subst h2
  by_cases h3 : x3 = y3
  rotate_left
  · simp [h3]
  subst h3
  by_cases h4 : x4 = y4
  rotate_left
  · simp [h4]
  subst h4
  by_cases h5 : x5 = y5
  rotate_left
  · simp [h5]
  subst h5
  by_cases h6 : x6 = y6
  rotate_left
  · simp [h6]
  subst h6
  simp
theorem new_model {w2 : World} {b2 k2 : Nat} {A2 : Option Addr} (N : Int) (hla : LeafAt w2 b2 A2 k2 []) :
    ModelAt ((w2.alloc (.cells #[.pointer (some ⟨b2, 0, none⟩)] 98)).alloc (.cells #[.int .i64 N, .int .i64 (pLog N), .int .i64 (2 + pLog N), .int .i64 (pData N), .int .i64 (pHalf N), .int .i64 (pLeaves N), .int .i64 (pCap N), .slice (some ⟨w2.heap.size, 0, none⟩) 1 1] 102)) (w2.heap.size + 1) w2.heap.size N [[]] := by
  have hb : Below w2.heap.size w2 ((w2.alloc (.cells #[.pointer (some ⟨b2, 0, none⟩)] 98)).alloc (.cells #[.int .i64 N, .int .i64 (pLog N), .int .i64 (2 + pLog N), .int .i64 (pData N), .int .i64 (pHalf N), .int .i64 (pLeaves N), .int .i64 (pCap N), .slice (some ⟨w2.heap.size, 0, none⟩) 1 1] 102)) := below_alloc (below_alloc (Below.refl _ w2))
  refine ⟨⟨0, 1, 1, [b2], heap_new_at (by simp), ⟨rfl, ⟨[.pointer (some ⟨b2, 0, none⟩)], ((Fr.refl (fun _ => False) _).alloc _).row id (heap_alloc_new w2 _), by simp, ?_⟩, by omega, by decide⟩, rfl, ?_⟩, by simp⟩
  · intro j p hp
    rcases j with _ | j
    · simp at hp
      subst hp
      rfl
    · simp at hp
  · intro j p l hp hl
    rcases j with _ | j
    · simp at hp hl
      subst hp hl
      exact ⟨A2, k2, hla.below hb, fun hn => absurd rfl hn⟩
    · simp at hp
set_option maxRecDepth 100000 in
theorem new_ok (N : Int) (w : World) (h1 : 64 ≤ N) (h2 : N ≤ 512) : Calls Tryz.prog 42 #[.agg (planA N)] w fun e w' => ∃ bm g, e = .returned (.pointer (some ⟨bm, 0, none⟩)) ∧ ModelAt w' bm g N [[]] ∧ w.heap.size ≤ bm ∧ w.heap.size ≤ g ∧ Below w.heap.size w w' := by
  have hc := fun W => capaOf_ok N W (by omega) (by omega)
  have hq := fun W => neq_plan (planP N) (planP N) W
  simp only [planP_v, decide_true, Bool.not_true] at hq
  rw [planA_def] at hc hq ⊢
  have hlf : ∀ W, Calls Tryz.prog 52 #[.slice none 0 0] W (OfRes W []) := fun W => leafOf_any none 0 [] W (by intro i r hr; simp at hr) (by simp)
  have HC := Lib.hid hc
  have HLF := Lib.hid hlf
  have hgu : Tryz.prog.eqGuardType Tryz.prog.depth 26 = false := by kernel_rfl
  clear hc hlf
  go_enter Tryz.func42, Tryz.ntmps42
  go_wp2_with (first
    | (go_at_call 21; (with_reducible refine (HC.out _).mono ?_); rintro e w1 ⟨rfl, hb1⟩; obtain ⟨c0, c1, c2, c3, c4, c5, c6⟩ : w1.cell? ⟨w.heap.size, 0, none⟩ = some (.int .i64 N) ∧ w1.cell? ⟨w.heap.size, 1, none⟩ = some (.int .i64 (pLog N)) ∧ w1.cell? ⟨w.heap.size, 2, none⟩ = some (.int .i64 (2 + pLog N)) ∧ w1.cell? ⟨w.heap.size, 3, none⟩ = some (.int .i64 (pData N)) ∧ w1.cell? ⟨w.heap.size, 4, none⟩ = some (.int .i64 (pHalf N)) ∧ w1.cell? ⟨w.heap.size, 5, none⟩ = some (.int .i64 (pLeaves N)) ∧ w1.cell? ⟨w.heap.size, 6, none⟩ = some (.int .i64 (pCap N)) := (by have hbx := box_cells hb1; refine ⟨?_, ?_, ?_, ?_, ?_, ?_, ?_⟩ <;> (rw [Lib.cell_of_heap hbx]; rfl)); have HB1 := Lib.hid (below_next (below_alloc (Below.refl _ w)) hb1); have HBX := Lib.hid (box_cells hb1); have hl1 := lt_of_row (box_cells hb1); clear hb1)
    | (go_at_call 52; (with_reducible refine (HLF.out _).mono ?_); rintro e w2 ⟨hb2, h2⟩; rcases h2 with ⟨h2, _⟩ | ⟨_, b2, A2, k2, rfl, hla2, hle2⟩; exact absurd rfl h2; have HB2 := Lib.hid hb2; have HLA2 := Lib.hid hla2; have HLE2 := Lib.hid hle2; have hbx2 := box_below (((Fr.refl (fun _ => False) _).alloc _).row id HBX.out) hb2; obtain ⟨z0, z1, z2, z3, z4, z5, z6⟩ : w2.cell? ⟨w.heap.size, 0, none⟩ = some (.int .i64 N) ∧ w2.cell? ⟨w.heap.size, 1, none⟩ = some (.int .i64 (pLog N)) ∧ w2.cell? ⟨w.heap.size, 2, none⟩ = some (.int .i64 (2 + pLog N)) ∧ w2.cell? ⟨w.heap.size, 3, none⟩ = some (.int .i64 (pData N)) ∧ w2.cell? ⟨w.heap.size, 4, none⟩ = some (.int .i64 (pHalf N)) ∧ w2.cell? ⟨w.heap.size, 5, none⟩ = some (.int .i64 (pLeaves N)) ∧ w2.cell? ⟨w.heap.size, 6, none⟩ = some (.int .i64 (pCap N)) := (by refine ⟨?_, ?_, ?_, ?_, ?_, ?_, ?_⟩ <;> (rw [Lib.cell_of_heap hbx2]; rfl)); clear hb2 hla2 hle2 hbx2))
  go_ret
  have hb2 := below_next (below_alloc HB1.out) HB2.out
  have hs2 := hb2.size
  exact ⟨w2.heap.size + 1, w2.heap.size, by simp, new_model N HLA2.out, by omega, hs2, below_alloc (below_alloc hb2)⟩
/-- a raw plan that is none -/
def okPlan (p : Pl) : Bool := decide (64 ≤ p.a0) && (decide (p.a0 ≤ 512) && decide (planP p.a0 = p))
set_option maxRecDepth 100000 in
theorem new_bad (p : Pl) (w : World) (hp : okPlan p = false) : Calls Tryz.prog 42 #[p.v] w fun e w' => e = .returned (.pointer none) ∧ Below w.heap.size w w' := by
  have hgu : Tryz.prog.eqGuardType Tryz.prog.depth 26 = false := by kernel_rfl
  by_cases hr : p.a0 < 64 ∨ 512 < p.a0
  · have hc := fun W => capaOf_bad p.a0 W hr
    simp only [plan0] at hc
    have HC := Lib.hid hc
    clear hc hr hp
    rw [Pl.v_def]
    obtain ⟨x0, x1, x2, x3, x4, x5, x6⟩ := p
    dsimp only at HC ⊢
    go_enter Tryz.func42, Tryz.ntmps42
    go_wp2_with (go_at_call 21; (with_reducible refine (HC.out _).mono ?_); rintro e w1 ⟨rfl, hb1⟩; have HB1 := Lib.hid (below_next (below_alloc (Below.refl _ w)) hb1); clear hb1)
    go_ret
    exact ⟨rfl, below_alloc HB1.out⟩
  · have hc := fun W => capaOf_ok p.a0 W (by omega) (by omega)
    have hne : planP p.a0 ≠ p := fun e => by
      unfold okPlan at hp
      rw [decide_eq_true e, decide_eq_true (by omega : 64 ≤ p.a0), decide_eq_true (by omega : p.a0 ≤ 512)] at hp
      cases hp
    have hq := fun W => neq_plan (planP p.a0) p W
    simp only [planP_v, decide_eq_false hne, Bool.not_false] at hq
    rw [planA_def] at hc hq
    rw [Pl.v_def] at hq ⊢
    have HC := Lib.hid hc
    clear hc hr hp hne
    obtain ⟨x0, x1, x2, x3, x4, x5, x6⟩ := p
    dsimp only at HC hq ⊢
    go_enter Tryz.func42, Tryz.ntmps42
    go_wp2_with (go_at_call 21; (with_reducible refine (HC.out _).mono ?_); rintro e w1 ⟨rfl, hb1⟩; have hbx1 := box_cells hb1; obtain ⟨z0, z1, z2, z3, z4, z5, z6⟩ : w1.cell? ⟨w.heap.size, 0, none⟩ = some (.int .i64 x0) ∧ w1.cell? ⟨w.heap.size, 1, none⟩ = some (.int .i64 x1) ∧ w1.cell? ⟨w.heap.size, 2, none⟩ = some (.int .i64 x2) ∧ w1.cell? ⟨w.heap.size, 3, none⟩ = some (.int .i64 x3) ∧ w1.cell? ⟨w.heap.size, 4, none⟩ = some (.int .i64 x4) ∧ w1.cell? ⟨w.heap.size, 5, none⟩ = some (.int .i64 x5) ∧ w1.cell? ⟨w.heap.size, 6, none⟩ = some (.int .i64 x6) := (by refine ⟨?_, ?_, ?_, ?_, ?_, ?_, ?_⟩ <;> (rw [Lib.cell_of_heap hbx1]; rfl)); have hl1 := lt_of_row hbx1; have HB1 := Lib.hid (below_next (below_alloc (Below.refl _ w)) hb1); clear hb1 hbx1)
    go_ret
    exact ⟨rfl, below_alloc HB1.out⟩
end Go.Proofs.YtdfgdnaejnngoaaGreat
namespace Go.Proofs.YtdfgdnaejnngoaaGreat
open Go.RowKit
/-! prune.Items. -/
def okN (os : List Ord) : Prop := ∀ o ∈ os, 0 ≤ o.n ∧ o.n < 18446744073709551616
theorem items_take {os : List Ord} {k : Nat} {o : Ord} (h : os[k]? = some o) : itemsO (os.take (k + 1)) = stepI (itemsO (os.take k)) o := by
  rw [take_snocR h]
  unfold itemsO
  rw [List.foldl_append]
  rfl
theorem items_len : ∀ (os : List Ord) {l : List Itm}, Rises l → (os.foldl stepI l).length ≤ l.length + os.length
  | [], l, _ => by simp
  | o :: os, l, h => by
    rw [List.foldl_cons]
    have h1 := items_len os (rises_step h o)
    have h2 := step_len h o
    simp only [List.length_cons]
    omega
theorem ord_row {w : World} {A : Option Addr} {os : List Ord} (hel : Elems w A 6 (os.map Ord.cells)) {k : Nat} {o : Ord} (ho : os[k]? = some o) : ∃ b off, A = some ⟨b, off, none⟩ ∧ b < w.heap.size ∧ w.cell? ⟨b, off + k * 6, none⟩ = some (.int .i64 o.kind) ∧ w.cell? ⟨b, off + k * 6 + 1, none⟩ = some (.string o.key) ∧ w.cell? ⟨b, off + k * 6 + 2, none⟩ = some (.string o.val) ∧ w.cell? ⟨b, off + k * 6 + 3, none⟩ = some (.int .u64 o.n) ∧ w.cell? ⟨b, off + k * 6 + 4, none⟩ = some (.string o.lo) ∧ w.cell? ⟨b, off + k * 6 + 5, none⟩ = some (.string o.hi) := by
  obtain ⟨b, off, rfl, hlt, hc⟩ := hel k o.cells (by simp [ho])
  exact ⟨b, off, rfl, hlt, by simpa using hc 0 _ rfl, hc 1 _ rfl, hc 2 _ rfl, hc 3 _ rfl, hc 4 _ rfl, hc 5 _ rfl⟩
theorem msgZ_some {o : Ord} {m : Mg} (h : msgO o = some m) : msgZ o = m := by unfold msgZ; rw [h]; rfl
set_option maxHeartbeats 2000000 in
set_option maxRecDepth 100000 in
theorem pruneItems_any (A : Option Addr) (cap : Nat) (os : List Ord) (w : World) (hel : Elems w A 6 (os.map Ord.cells)) (hl : os.length ≤ 1000) (hn : okN os) :
    Calls Tryz.prog 29 #[.slice A os.length cap] w fun e w' => ∃ A' cap', e = .returned (.slice A' (itemsO os).length cap') ∧ OwnsM w' w.heap.size (.slice A' (itemsO os).length cap') (itemsO os) ∧ Below w.heap.size w w' := by
  have hlf : ∀ W, Calls Tryz.prog 52 #[.slice none 0 0] W (OfRes W []) := fun W => leafOf_any none 0 [] W (by intro i r hr; simp at hr) (by simp)
  have HLF := Lib.hid hlf
  have HEL := Lib.hid hel
  have HN := Lib.hid hn
  clear hlf hel hn
  go_enter Tryz.func29, Tryz.ntmps29
  go_wp2_with (go_at_call 52; (with_reducible refine (HLF.out _).mono ?_); rintro e w2 ⟨hb2, h2⟩; rcases h2 with ⟨h2, _⟩ | ⟨_, b2, A2, k2, rfl, hla2, hle2⟩; exact absurd rfl h2; have HB2 := Lib.hid hb2; have HLA2 := Lib.hid hla2; clear hb2 hla2 hle2)
  go_loopw [17, 3, 6, 7, 8, 9, 10] (fun i v _ _ _ _ _ wr => ∃ (k p c : Nat) (A2 : Option Addr), i = .int .i64 k ∧ k ≤ os.length ∧ v = .pointer (some ⟨p, 0, none⟩) ∧ LeafAt wr p A2 c (itemsO (os.take k)) ∧ Below w.heap.size w wr) (fun i _ _ _ _ _ _ _ => os.length + 1 - (intOf i).toNat)
  case atStart => exact ⟨0, b2, k2, A2, rfl, Nat.zero_le _, rfl, HLA2.out, HB2.out⟩
  case round =>
    obtain ⟨k, p, c, A3, rfl, hk, rfl, hla, hbel⟩ := hrel
    have hln : (itemsO (os.take k)).length ≤ 1000 := by
      have := items_len (os.take k) (l := []) trivial
      rw [List.length_take] at this
      unfold itemsO
      simp at this
      omega
    by_cases hkl : k < os.length
    · have hkI : (k : Int) < (os.length : Int) := by omega
      obtain ⟨o, ho⟩ := get_lt hkl
      obtain ⟨b, off, rfl, hblt, d0, d1, d2, d3, d4, d5⟩ := ord_row (HEL.out.below hbel) ho
      obtain ⟨n0, n1⟩ := HN.out o (List.mem_of_getElem? ho)
      have hmsg := fun W => prn_message o W n0 n1
      have hit := items_take ho
      have hme : msgO o = some (msgZ o) ∨ (msgO o = none) := by
        cases hm : msgO o with
        | none => exact .inr rfl
        | some m => rw [msgZ_some hm]; exact .inl rfl
      have hst : stepI (itemsO (os.take k)) o = if (msgO o).isSome = true ∧ isMsg (msgZ o) = true then doL (itemsO (os.take k)) (msgZ o) else itemsO (os.take k) := by
        unfold stepI
        rcases hme with h | h
        · rw [h]
          simp
        · rw [h]
          simp
      rw [hst] at hit
      have hwi := fun W p A c vb (hla : LeafAt W p A c (itemsO (os.take k))) hx hv => with_one p c vb A (itemsO (os.take k)) (msgZ o) W hla (by omega) hx hv
      generalize msgZ o = x at *
      generalize (msgO o).isSome = is at *
      generalize itemsO (os.take k) = L at *
      rw [Ord.v_def, Mg.v_def] at hmsg
      have hcl : x.cells = [.int .i64 x.kind, .string x.key, .string x.val] := Mg.cells_def x
      have HMSG := Lib.hid hmsg
      have HIT := Lib.hid hit
      have HW := Lib.hid hwi
      have HLA := Lib.hid hla
      have HB := Lib.hid hbel
      have HCL := Lib.hid hcl
      clear hmsg hit hst hme hwi hla hbel n0 n1 ho hcl hln
      obtain ⟨kind, key, val, n, lo, hi⟩ := o
      dsimp only at d0 d1 d2 d3 d4 d5 HMSG
      generalize hxk : x.kind = xk at *
      generalize hxy : x.key = xy at *
      generalize hxv : x.val = xv at *
      clear hxk hxy hxv
      cases hm : isMsg x with
      | false =>
        have hw2 : ∀ W p A c vb, LeafAt W p A c L → (∀ j u, x.cells[j]? = some u → W.cell? ⟨vb, j, none⟩ = some u) → vb < W.heap.size → Calls Tryz.prog 58 #[.pointer (some ⟨p, 0, none⟩), .slice (some ⟨vb, 0, none⟩) 1 1] W fun e w' => ∃ q, e = .returned (.tuple #[q, .int .i64 1]) ∧ Below W.heap.size W w' := fun W p A c vb h1 h2 h3 => by
          refine (HW.out W p A c vb h1 h2 h3).mono ?_
          rintro e w' ⟨hb, q, r, rfl, ⟨_, rfl⟩ | ⟨h, _⟩⟩
          · exact ⟨q, rfl, hb⟩
          · rw [hm] at h; cases h
        rw [hm, if_neg (by rintro ⟨_, h⟩; cases h)] at HIT
        have HW2 := Lib.hid hw2
        clear hw2 hm HW
        cases is <;>
        · go_wp2_with (first
            | (go_at_call 57; (with_reducible refine (HMSG.out _).mono ?_); rintro e w3 ⟨rfl, hb3⟩; have HB3 := Lib.hid (below_next (below_alloc (Below.refl _ wr)) hb3); clear hb3)
            | (go_at_call 58; (with_reducible refine (HW2.out _ _ _ _ _ (HLA.out.below (below_alloc (below_alloc HB3.out))) (fun j u hu => by rw [HCL.out] at hu; rw [Lib.cell_of_heap (heap_new_at (by simp))]; simpa using hu) (by simp)).mono ?_); rintro e w5 ⟨q, rfl, hb5⟩; have HB5 := Lib.hid (below_next (below_alloc (below_alloc HB3.out)) hb5); clear hb5))
          refine ⟨⟨k + 1, p, c, A3, by go_num, by omega, rfl, by rw [HIT.out]; exact HLA.out.below HB5.out, below_next HB.out HB5.out⟩, ?_⟩
          simp [intOf]
          omega
      | true =>
        have hw2 : ∀ W p A c vb, LeafAt W p A c L → (∀ j u, x.cells[j]? = some u → W.cell? ⟨vb, j, none⟩ = some u) → vb < W.heap.size → Calls Tryz.prog 58 #[.pointer (some ⟨p, 0, none⟩), .slice (some ⟨vb, 0, none⟩) 1 1] W fun e w' => ∃ b' A' c', e = .returned (.tuple #[.pointer (some ⟨b', 0, none⟩), .int .i64 0]) ∧ LeafAt w' b' A' c' (doL L x) ∧ Below W.heap.size W w' := fun W p A c vb h1 h2 h3 => by
          refine (HW.out W p A c vb h1 h2 h3).mono ?_
          rintro e w' ⟨hb, q, r, rfl, ⟨h, _⟩ | ⟨_, rfl, b', A', c', rfl, hla, _⟩⟩
          · rw [hm] at h; cases h
          · exact ⟨b', A', c', rfl, hla, hb⟩
        have HW2 := Lib.hid hw2
        cases is with
        | false =>
          rw [if_neg (by rintro ⟨h, _⟩; cases h)] at HIT
          clear hw2 hm HW
          go_wp2_with (first
            | (go_at_call 57; (with_reducible refine (HMSG.out _).mono ?_); rintro e w3 ⟨rfl, hb3⟩; have HB3 := Lib.hid (below_next (below_alloc (Below.refl _ wr)) hb3); clear hb3)
            | (go_at_call 58; (with_reducible refine (HW2.out _ _ _ _ _ (HLA.out.below (below_alloc (below_alloc HB3.out))) (fun j u hu => by rw [HCL.out] at hu; rw [Lib.cell_of_heap (heap_new_at (by simp))]; simpa using hu) (by simp)).mono ?_); rintro e w5 ⟨b', A', c', rfl, _, hb5⟩; have HB5 := Lib.hid (below_next (below_alloc (below_alloc HB3.out)) hb5); clear hb5))
          refine ⟨⟨k + 1, p, c, A3, by go_num, by omega, rfl, by rw [HIT.out]; exact HLA.out.below HB5.out, below_next HB.out HB5.out⟩, ?_⟩
          simp [intOf]
          omega
        | true =>
          rw [hm, if_pos ⟨rfl, rfl⟩] at HIT
          clear hw2 hm HW
          go_wp2_with (first
            | (go_at_call 57; (with_reducible refine (HMSG.out _).mono ?_); rintro e w3 ⟨rfl, hb3⟩; have HB3 := Lib.hid (below_next (below_alloc (Below.refl _ wr)) hb3); clear hb3)
            | (go_at_call 58; (with_reducible refine (HW2.out _ _ _ _ _ (HLA.out.below (below_alloc (below_alloc HB3.out))) (fun j u hu => by rw [HCL.out] at hu; rw [Lib.cell_of_heap (heap_new_at (by simp))]; simpa using hu) (by simp)).mono ?_); rintro e w5 ⟨b', A', c', rfl, hla5, hb5⟩; have HLA5 := Lib.hid hla5; clear hla5; have HB5 := Lib.hid (below_next (below_alloc (below_alloc HB3.out)) hb5); clear hb5))
          refine ⟨⟨k + 1, b', c', A', by go_num, by omega, rfl, by rw [HIT.out]; exact HLA5.out, below_next HB.out HB5.out⟩, ?_⟩
          simp [intOf]
          omega
    · obtain rfl : k = os.length := by omega
      rw [List.take_length] at hla hln
      have hit := items_any p c A3 _ wr hla (by omega)
      generalize hD : itemsO os = D at *
      have HIT := Lib.hid hit
      have HD := Lib.hid hD
      have HB := Lib.hid hbel
      clear hit hD hla hbel
      go_wp2_with (go_at_call 54; (with_reducible refine HIT.out.mono ?_); rintro e w3 ⟨A4, c4, rfl, ho4, hb4⟩)
      go_ret
      rw [HD.out]
      exact ⟨A4, c4, rfl, ho4.base HB.out.size, below_next HB.out hb4⟩
end Go.Proofs.YtdfgdnaejnngoaaGreat
namespace Go.Proofs.YtdfgdnaejnngoaaGreat
open Go.RowKit
/-! prune.IsPlain. -/
theorem del_absent {l : List Itm} {k : ByteArray} (h : getL l k = none) : delR k l = l := by
  induction l with
  | nil => rfl
  | cons x l ih =>
    rw [getL_cons] at h
    split at h
    · cases h
    · next e =>
      unfold delR at ih ⊢
      rw [List.filter_cons, ih h]
      simp [e]
theorem rowsO_last {c : Int} {ls : List (List Itm)} {l : List Itm} {o : Ord} (hr : Rises l) (hl : ls[ls.length - 1]? = some l) :
    ∃ l', (rowsO c ls l o)[(rowsO c ls l o).length - 1]? = some l' ∧ (errO c l o = 0 → l' = stepI l o) ∧ (rowsO c ls l o).length ≤ ls.length + 1 ∧ l'.length ≤ l.length + 1 := by
  have hpos : 0 < ls.length := by
    rcases Nat.eq_zero_or_pos ls.length with e | e
    · rw [List.getElem?_eq_none (by omega)] at hl; cases hl
    · exact e
  unfold rowsO errO
  by_cases ho : isOrd o = true
  · rw [if_pos ho, if_pos ho]
    cases hm : msgO o with
    | some m =>
      dsimp only
      have hsI : stepI l o = if isMsg m = true then doL l m else l := by unfold stepI; rw [hm]
      unfold rowsU
      by_cases ha : addsU c l m = true
      · rw [if_pos ha]
        have he : errU c l m = 0 := by unfold addsU at ha; simp at ha; exact ha.1
        have hg : isMsg m = true := by
          cases h : isMsg m with
          | true => rfl
          | false => unfold errU at he; rw [h] at he; simp at he
        refine ⟨doL l m, by simp, fun _ => by rw [hsI, if_pos hg], by simp, put_len hr _ _⟩
      · rw [if_neg ha]
        refine ⟨l, hl, fun he => ?_, by omega, by omega⟩
        have ha2 : addsU c l m = false := by simpa using ha
        unfold addsU at ha2
        rw [he] at ha2
        simp at ha2
        rw [hsI]
        split
        · next hg =>
          unfold doL
          rw [ha2.2, applyO_del hg ha2.1]
          exact (del_absent ha2.2).symm
        · rfl
    | none =>
      dsimp only
      have hsI : stepI l o = l := by unfold stepI; rw [hm]
      split
      · exact ⟨l, hl, fun _ => hsI.symm, by omega, by omega⟩
      · exact ⟨l, rfl, fun _ => hsI.symm, by simp, by omega⟩
  · rw [if_neg ho, if_neg ho]
    exact ⟨l, hl, fun h => absurd h (by decide), by omega, by omega⟩
theorem plain_drop {c : Int} {os : List Ord} {k : Nat} {o : Ord} (now : List Itm) (h : os[k]? = some o) : plainL c now (os.drop k) = (decide (errO c now o = 0) && plainL c (stepI now o) (os.drop (k + 1))) := by
  have : os.drop k = o :: os.drop (k + 1) := by
    obtain ⟨hk, rfl⟩ := List.getElem?_eq_some_iff.1 h
    exact List.drop_eq_getElem_cons hk
  rw [this, plainL]
set_option maxHeartbeats 2000000 in
set_option maxRecDepth 100000 in
theorem isPlain_ok (N : Int) (A : Option Addr) (cap : Nat) (os : List Ord) (w : World) (h1 : 64 ≤ N) (h2 : N ≤ 512) (hel : Elems w A 6 (os.map Ord.cells)) (hl : os.length ≤ 1000) (hn : okN os) :
    Calls Tryz.prog 26 #[.agg (planA N), .slice A os.length cap] w fun e w' => e = .returned (.bool (plainL (pCap N) [] os)) ∧ Below w.heap.size w w' := by
  have hnw := fun W => new_ok N W h1 h2
  rw [planA_def] at hnw ⊢
  have HNW := Lib.hid hnw
  have HEL := Lib.hid hel
  have HN := Lib.hid hn
  have eF : ∀ (e : Int) (has : Bool) (vv : ByteArray) (A : Option Addr) (m c : Nat) (x y : Int) (W : World), (Instr.field 35 (.agg #[.int .i64 e, .bool has, .string vv, .slice A m c, .int .i64 x, .int .i64 y, .int .i64 0, .int .i64 0, .int .i64 0, .int .i64 0, .int .i64 0, .int .i64 0, .int .i64 0]) 0).run Tryz.prog W = .ok (.int .i64 e) W := fun e has vv A m c x y W => by kernel_rfl
  obtain ⟨R, hR⟩ : ∃ R, plainL (pCap N) [] os = R := ⟨_, rfl⟩
  rw [hR]
  have HR := Lib.hid hR
  clear hnw hel hn hR h1 h2
  go_enter Tryz.func26, Tryz.ntmps26
  go_wp2_with (go_at_call 42; (with_reducible refine (HNW.out _).mono ?_); rintro e w1 ⟨bm, g, rfl, hm1, hbm, hg1, hb1⟩; have HM1 := Lib.hid hm1; have HBM := Lib.hid hbm; have HG1 := Lib.hid hg1; have HB1 := Lib.hid (below_next (below_alloc (Below.refl _ w)) hb1); clear hb1 hm1 hbm hg1)
  have hbw : w.heap.size ≤ bm := by have := HBM.out; simp at this; omega
  have hgw : w.heap.size ≤ g := by have := HG1.out; simp at this; omega
  go_loopw [17, 8] (fun i _ wr => ∃ (k g' : Nat) (ls : List (List Itm)), i = .int .i64 k ∧ k ≤ os.length ∧ ModelAt wr bm g' N ls ∧ w.heap.size ≤ g' ∧ ls[ls.length - 1]? = some (itemsO (os.take k)) ∧ ls.length ≤ k + 1 ∧ plainL (pCap N) (itemsO (os.take k)) (os.drop k) = R ∧ Below w.heap.size w wr) (fun i _ _ => os.length + 1 - (intOf i).toNat)
  case atStart => exact ⟨0, g, [[]], rfl, Nat.zero_le _, HM1.out, hgw, rfl, Nat.le_refl _, HR.out, HB1.out⟩
  case round =>
    obtain ⟨k, g', ls, rfl, hk, hmo, hg', hlast, hlsl, hpl, hbel⟩ := hrel
    by_cases hkl : k < os.length
    · have hkI : (k : Int) < (os.length : Int) := by omega
      obtain ⟨o, ho⟩ := get_lt hkl
      obtain ⟨b, off, rfl, hblt, d0, d1, d2, d3, d4, d5⟩ := ord_row (HEL.out.below hbel) ho
      obtain ⟨n0, n1⟩ := HN.out o (List.mem_of_getElem? ho)
      have hri : Rises (itemsO (os.take k)) := rises_items _
      have hln : (itemsO (os.take k)).length ≤ 1000 := by
        have := items_len (os.take k) (l := []) trivial
        rw [List.length_take] at this
        unfold itemsO
        simp at this
        omega
      have hdo : ∀ W, Below wr.heap.size wr W → Calls Tryz.prog 12 #[.pointer (some ⟨bm, 0, none⟩), o.v] W fun e w' => ∃ (has : Bool) (val : ByteArray) (A : Option Addr) (m c : Nat) (x y : Int) (g2 : Nat), e = .returned (.agg #[.int .i64 (errO (pCap N) (itemsO (os.take k)) o), .bool has, .string val, .slice A m c, .int .i64 x, .int .i64 y, .int .i64 0, .int .i64 0, .int .i64 0, .int .i64 0, .int .i64 0, .int .i64 0, .int .i64 0]) ∧ ModelAt w' bm g2 N (rowsO (pCap N) ls (itemsO (os.take k)) o) ∧ w.heap.size ≤ g2 ∧ Below w.heap.size w w' := fun W hW => by
        refine (mdlDo_any bm g' N ls _ o W (hmo.below hW) hlast (by omega) (by omega) n0 n1).mono ?_
        rintro e w' ⟨A, m, c, rfl, _, g2, hm2, hg2, hf2⟩
        have hWw := below_next hbel hW
        refine ⟨_, _, A, m, c, _, _, g2, by rw [← ansO_err]; rfl, hm2, ?_, hWw.trans (hf2.to_below hWw.size (fun i hi e => by omega))⟩
        have := hWw.size
        omega
      obtain ⟨l', hl', hst, hlen', _⟩ := rowsO_last (c := pCap N) (o := o) hri hlast
      rw [plain_drop _ ho] at hpl
      generalize rowsO (pCap N) ls (itemsO (os.take k)) o = R2 at *
      have hit := items_take ho
      rw [← hit] at hst hpl
      generalize errO (pCap N) (itemsO (os.take k)) o = E at *
      have HDO := Lib.hid hdo
      have HST := Lib.hid hst
      have HPL := Lib.hid hpl
      have HL2 := Lib.hid hl'
      have HLN := Lib.hid (show R2.length ≤ k + 1 + 1 by omega)
      clear hdo hst hpl hl' hit hri hln hmo hlast hbel ho n0 n1 hlsl hlen'
      obtain ⟨kind, key, val, n, lo, hi⟩ := o
      rw [Ord.v_def] at HDO
      dsimp only at d0 d1 d2 d3 d4 d5
      by_cases hE : E = 0
      · subst hE
        go_wp2_with (go_at_call 12; (with_reducible refine (HDO.out _ (below_alloc (Below.refl _ wr))).mono ?_); rintro e w3 ⟨has, vv, A3, m3, c3, x3, y3, g3, rfl, hm3, hg3, hb3⟩; have HM3 := Lib.hid hm3; have HG3 := Lib.hid hg3; have HB3 := Lib.hid hb3; clear hm3 hg3 hb3)
        have hp := HPL.out
        rw [decide_true, Bool.true_and] at hp
        refine ⟨⟨k + 1, g3, R2, by go_num, by omega, HM3.out, HG3.out, by rw [HL2.out, HST.out (by first | trivial | rfl)], HLN.out, hp, HB3.out⟩, ?_⟩
        simp [intOf]
        omega
      · have hE2 : (E != 0) = true := by simp [hE]
        have hRf : R = false := by rw [← HPL.out, decide_eq_false hE]; rfl
        subst hRf
        clear hE
        go_wp2_with (go_at_call 12; (with_reducible refine (HDO.out _ (below_alloc (Below.refl _ wr))).mono ?_); rintro e w3 ⟨has, vv, A3, m3, c3, x3, y3, g3, rfl, hm3, hg3, hb3⟩; have HB3 := Lib.hid hb3; clear hm3 hg3 hb3)
        go_ret
        exact ⟨rfl, HB3.out⟩
    · obtain rfl : k = os.length := by omega
      rw [List.drop_length] at hpl
      have hRt : R = true := by rw [← hpl]; rfl
      subst hRt
      have HB := Lib.hid hbel
      clear hbel hmo hlast hlsl hpl
      go_wp2
      go_ret
      exact ⟨rfl, HB.out⟩
set_option maxRecDepth 100000 in
theorem isPlain_none (p : Pl) (A : Option Addr) (cap n : Nat) (w : World) (hp : okPlan p = false) :
    Calls Tryz.prog 26 #[p.v, .slice A n cap] w fun e w' => e = .returned (.bool false) ∧ Below w.heap.size w w' := by
  have hnw := fun W => new_bad p W hp
  rw [Pl.v_def] at hnw ⊢
  have HNW := Lib.hid hnw
  clear hnw hp
  obtain ⟨x0, x1, x2, x3, x4, x5, x6⟩ := p
  dsimp only at HNW ⊢
  go_enter Tryz.func26, Tryz.ntmps26
  go_wp2_with (go_at_call 42; (with_reducible refine (HNW.out _).mono ?_); rintro e w1 ⟨rfl, hb1⟩; have HB1 := Lib.hid (below_next (below_alloc (Below.refl _ w)) hb1); clear hb1)
  go_ret
  exact ⟨rfl, HB1.out⟩
end Go.Proofs.YtdfgdnaejnngoaaGreat
namespace Go.Proofs.YtdfgdnaejnngoaaGreat
open Go.RowKit Go.Maps
/-! prune.Alive. -/
def natC (n : Nat) : List Value := [.int .i64 n]
theorem natLen (n : Nat) : (natC n).length = 1 := rfl
theorem natOne (x : Nat) : ∀ u ∈ natC x, u.oneCell' = true := by
  intro u hu
  simp [natC] at hu
  subst hu
  rfl
theorem ordLen (o : Ord) : o.cells.length = 6 := rfl
theorem ordOne (x : Ord) : ∀ u ∈ x.cells, u.oneCell' = true := by
  intro u hu
  simp [Ord.cells] at hu
  rcases hu with rfl | rfl | rfl | rfl | rfl | rfl <;> rfl
theorem intInfo : (Tryz.prog.info? 3).map (fun i => (i.zero, i.size, i.bytes)) = some (some (.int .i64 0), 1, 8) := by kernel_rfl
theorem ordInfo : (Tryz.prog.info? 39).map (fun i => (i.zero, i.size, i.bytes)) = some (some (.agg #[.int .i64 0, .string ⟨#[]⟩, .string ⟨#[]⟩, .int .u64 0, .string ⟨#[]⟩, .string ⟨#[]⟩]), 6, 80) := by kernel_rfl
abbrev OwnsN := OwnsG natC 1 3
abbrev OwnsO := OwnsG Ord.cells 6 39
theorem nat_append {ops : Array Oper} {rest : List Oper} {o : Oper} {a : Act} {w : World} {Q : Exit → Act → World → Prop} (hgd : o.guard = none) (N : Option Tmp) (hN : o.dst = N) (s x : Operand) (ho : o.op = .call { callee := .builtin .append, args := #[s, x], argTypes := #[56, 56] })
    (B : Nat) (v : Value) (l m : List Nat) (n : Nat) (ad : Addr) (c : Nat) (hn : m.length = n) (hs : a.eval s = v) (hx : a.eval x = .slice (some ad) n c) (hown : OwnsN w B v l) (hel : ∀ j u, ((m.map natC).flatten)[j]? = some u → w.cell? (ad.add j) = some u) (hl : l.length + m.length ≤ 100000) (hB : B ≤ w.heap.size) (n2 : Nat) (hn2 : (l ++ m).length = n2)
    (h : ∀ A' c' w', OwnsN w' B (.slice A' n2 c') (l ++ m) → Fr (fun k => v.ownBlock = some k) w w' → wpList Tryz.prog ops Q rest (a.put N (.slice A' n2 c')) w') : wpList Tryz.prog ops Q (o :: rest) a w := by
  subst hn hN hn2
  obtain ⟨i0, hi0, hz0, hz1, hz2⟩ := info_parts intInfo
  refine wpList_append_own w hgd s x 56 ho B 3 i0 _ 1 8 Tryz.underlying56 hi0 hz0 hz1 hz2 rfl (by decide) v l.length _ hs hown ad m.length c ((m.map natC).flatten) hx (flatten_length natLen m) hel ?_ ?_ ?_ hB ?_
  · intro u hu
    obtain ⟨r, hr, hu⟩ := List.mem_flatten.1 hu
    obtain ⟨e, _, rfl⟩ := List.mem_map.1 hr
    exact natOne e u hu
  · unfold maxLen; omega
  · omega
  · intro v' w' h1 h2 _
    have ho : OwnsN w' B v' (l ++ m) := by
      unfold OwnsN OwnsG
      rw [List.map_append, List.flatten_append, List.length_append]
      exact h1
    obtain ⟨A', c', rfl⟩ := ho.slice
    exact h A' c' w' ho ((Fr.refl _ w).grown h2 (fun i hi e => e))
theorem ord_append {ops : Array Oper} {rest : List Oper} {o : Oper} {a : Act} {w : World} {Q : Exit → Act → World → Prop} (hgd : o.guard = none) (N : Option Tmp) (hN : o.dst = N) (s x : Operand) (ho : o.op = .call { callee := .builtin .append, args := #[s, x], argTypes := #[47, 47] })
    (B : Nat) (v : Value) (l m : List Ord) (n : Nat) (ad : Addr) (c : Nat) (hn : m.length = n) (hs : a.eval s = v) (hx : a.eval x = .slice (some ad) n c) (hown : OwnsO w B v l) (hel : ∀ j u, ((m.map Ord.cells).flatten)[j]? = some u → w.cell? (ad.add j) = some u) (hl : l.length + m.length ≤ 100000) (hB : B ≤ w.heap.size) (n2 : Nat) (hn2 : (l ++ m).length = n2)
    (h : ∀ A' c' w', OwnsO w' B (.slice A' n2 c') (l ++ m) → Fr (fun k => v.ownBlock = some k) w w' → wpList Tryz.prog ops Q rest (a.put N (.slice A' n2 c')) w') : wpList Tryz.prog ops Q (o :: rest) a w := by
  subst hn hN hn2
  obtain ⟨i0, hi0, hz0, hz1, hz2⟩ := info_parts ordInfo
  refine wpList_append_own w hgd s x 47 ho B 39 i0 _ 6 80 Tryz.underlying47 hi0 hz0 hz1 hz2 rfl (by decide) v l.length _ hs hown ad m.length c ((m.map Ord.cells).flatten) hx (flatten_length ordLen m) hel ?_ ?_ ?_ hB ?_
  · intro u hu
    obtain ⟨r, hr, hu⟩ := List.mem_flatten.1 hu
    obtain ⟨e, _, rfl⟩ := List.mem_map.1 hr
    exact ordOne e u hu
  · unfold maxLen; omega
  · omega
  · intro v' w' h1 h2 _
    have ho : OwnsO w' B v' (l ++ m) := by
      unfold OwnsO OwnsG
      rw [List.map_append, List.flatten_append, List.length_append]
      exact h1
    obtain ⟨A', c', rfl⟩ := ho.slice
    exact h A' c' w' ho ((Fr.refl _ w).grown h2 (fun i hi e => e))
/-- where a key was told last -/
def lastK (os : List Ord) (key : ByteArray) : Nat → Option Nat
  | 0 => none
  | k + 1 => if (os[k]?).any (resetB key) = true then some k else lastK os key k
theorem lastK_spec (os : List Ord) (key : ByteArray) : ∀ n : Nat, (∀ m, lastK os key n = some m → m < n ∧ (os[m]?).any (resetB key) = true) ∧ ∀ j, j < n → (os[j]?).any (resetB key) = true → ∃ m, lastK os key n = some m ∧ j ≤ m
  | 0 => ⟨fun m h => by simp [lastK] at h, fun j h => by omega⟩
  | n + 1 => by
    obtain ⟨ih1, ih2⟩ := lastK_spec os key n
    rw [lastK]
    by_cases h : (os[n]?).any (resetB key) = true
    · rw [if_pos h]
      refine ⟨fun m e => ?_, fun j hj _ => ⟨n, rfl, by omega⟩⟩
      cases e
      exact ⟨Nat.lt_succ_self _, h⟩
    · rw [if_neg h]
      refine ⟨fun m e => ?_, fun j hj hr => ?_⟩
      · have := ih1 m e
        exact ⟨by omega, this.2⟩
      · by_cases e : j = n
        · subst e; exact absurd hr h
        · exact ih2 j (by omega) hr
theorem alive_last {os : List Ord} {k : Nat} {o : Ord} (ho : os[k]? = some o) : aliveB o (os.drop (k + 1)) = ((decide (o.kind = 1) || decide (o.kind = 3)) && (match lastK os o.key os.length with | none => true | some m => decide (m ≤ k))) := by
  unfold aliveB
  obtain ⟨h1, h2⟩ := lastK_spec os o.key os.length
  have hkl := (List.getElem?_eq_some_iff.1 ho).1
  congr 1
  cases hl : lastK os o.key os.length with
  | none =>
    dsimp only
    rw [Bool.not_eq_true', List.any_eq_false]
    intro x hx hr
    obtain ⟨j, hj⟩ := List.getElem?_of_mem hx
    rw [List.getElem?_drop] at hj
    have hjl := (List.getElem?_eq_some_iff.1 hj).1
    obtain ⟨m, hm, _⟩ := h2 (k + 1 + j) hjl (by rw [hj]; exact hr)
    rw [hl] at hm
    cases hm
  | some m =>
    dsimp only
    obtain ⟨g1, g2⟩ := h1 m hl
    by_cases hmk : m ≤ k
    · rw [decide_eq_true hmk, Bool.not_eq_true', List.any_eq_false]
      intro x hx hr
      obtain ⟨j, hj⟩ := List.getElem?_of_mem hx
      rw [List.getElem?_drop] at hj
      have hjl := (List.getElem?_eq_some_iff.1 hj).1
      obtain ⟨m', hm', hle⟩ := h2 (k + 1 + j) hjl (by rw [hj]; exact hr)
      rw [hl] at hm'
      cases hm'
      omega
    · rw [decide_eq_false hmk, Bool.not_eq_false', List.any_eq_true]
      obtain ⟨x, hx⟩ := get_lt g1
      rw [hx] at g2
      refine ⟨x, List.mem_of_getElem? (i := m - (k + 1)) (by rw [List.getElem?_drop, show k + 1 + (m - (k + 1)) = m by omega]; exact hx), by simpa using g2⟩
/-! The map. -/
def keyL (k : ByteArray) : Lit := .string k.data.toList
theorem keyL_lit (k : ByteArray) : WideAt.IsKeyLit (keyL k) := trivial
theorem keyL_inj {a b : ByteArray} (h : keyL a = keyL b) : a = b := by
  unfold keyL at h
  obtain ⟨⟨a⟩⟩ := a
  obtain ⟨⟨b⟩⟩ := b
  simpa using h
theorem lawS : Keyed Tryz.prog 9 := string_keyed Tryz.underlying9
theorem zeroI (w : World) : (zeroValue 3).run Tryz.prog w = .ok (.int .i64 0) w := by kernel_rfl
def EndD (D : DataW Unit) (f : ByteArray → Option Nat) : Prop := IsMap D ∧ ∀ k, has D (keyL k) = (f k).isSome ∧ ∀ m : Nat, f k = some m → D.atKey (keyL k) (.lit (.int .i64 0)) = .lit (.int .i64 m)
theorem EndD.put {D : DataW Unit} {f : ByteArray → Option Nat} (h : EndD D f) (key : ByteArray) (i : Nat) : EndD (D.put (keyL key) (.lit (.int .i64 i))) (fun k => if k = key then some i else f k) := by
  refine ⟨h.1.put _ _, fun k => ?_⟩
  by_cases e : k = key
  · subst e
    dsimp only
    rw [if_pos rfl]
    refine ⟨by rw [has_put_same h.1 (keyL_lit _)]; rfl, fun m hm => ?_⟩
    cases hm
    exact atKey_put_same h.1 (keyL_lit _) _ _
  · dsimp only
    rw [if_neg e]
    have hne : keyL k ≠ keyL key := fun h => e (keyL_inj h)
    refine ⟨by rw [has_put_other hne]; exact (h.2 k).1, fun m hm => ?_⟩
    rw [atKey_put_other hne]
    exact (h.2 k).2 m hm
theorem EndD.nil : EndD (.map []) (fun _ => none) := ⟨isMap_empty, fun k => ⟨rfl, fun m h => by cases h⟩⟩
abbrev MapAt (w : World) (b n : Nat) (D : DataW Unit) : Prop := w.ownsMap Tryz.prog 9 (plainElem Tryz.prog 3) b n D
theorem MapAt.fr {S : Nat → Prop} {w w' : World} {b n : Nat} {D : DataW Unit} (h : MapAt w b n D) (hf : Fr S w w') (hs : ¬ S b) : MapAt w' b n D := by
  obtain ⟨es, clock, hb, rest⟩ := h
  exact ⟨es, clock, hf.row hs hb, rest⟩
end Go.Proofs.YtdfgdnaejnngoaaGreat
namespace Go.Proofs.YtdfgdnaejnngoaaGreat
open Go.RowKit Go.Maps
theorem nat_ge {w : World} {B q : Nat} {v : Value} {l : List Nat} (h : OwnsN w B v l) (hq : q < B) (e : v.ownBlock = some q) : False := by
  rcases h.2 with ⟨he, _⟩ | ⟨g, cap', cur, he, hb, _⟩
  · rw [he] at e; cases e
  · rw [he] at e
    simp only [Value.ownBlock, Option.some.injEq] at e
    omega
theorem nat_news {W : World} {b k : Nat} {T : TypeId} {fz : Nat × Nat} (h : W.heap[b]? = some (.cells #[.int .i64 (k : Int)] T fz)) : ∀ j u, (([k].map natC).flatten)[j]? = some u → W.cell? ((⟨b, 0, none⟩ : Addr).add j) = some u := by
  intro j u hj
  rcases j with _ | j
  · simp [natC] at hj
    subst hj
    rw [Addr.add_mid, Lib.cell_of_heap h]
    rfl
  · simp [natC] at hj
def okK (os : List Ord) : Prop := ∀ o ∈ os, o.key.size ≤ 512
set_option maxHeartbeats 2000000 in
set_option maxRecDepth 100000 in
theorem alive_any (A : Option Addr) (cap : Nat) (os : List Ord) (w : World) (hel : Elems w A 6 (os.map Ord.cells)) (hl : os.length ≤ 1000) (hks : okK os) :
    Calls Tryz.prog 23 #[.slice A os.length cap] w fun e w' => ∃ A' c', e = .returned (.slice A' (aliveL 0 os).length c') ∧ OwnsN w' w.heap.size (.slice A' (aliveL 0 os).length c') (aliveL 0 os) ∧ Below w.heap.size w w' := by
  have HEL := Lib.hid hel
  have HKS := Lib.hid hks
  have hmm := @run_makeMap Tryz.prog
  clear hel hks
  go_enter Tryz.func23, Tryz.ntmps23
  go_wp2
  go_loopw [14, 4, 5] (fun i _ _ wr => ∃ (k : Nat) (D : DataW Unit), i = .int .i64 k ∧ k ≤ os.length ∧ MapAt wr w.heap.size k D ∧ EndD D (fun key => lastK os key k) ∧ Below w.heap.size w wr) (fun i _ _ _ => os.length + 1 - (intOf i).toNat)
  case atStart => exact ⟨0, .map [], rfl, Nat.zero_le _, World.ownsMap_made _ _ _ _, EndD.nil, below_alloc (Below.refl _ w)⟩
  case round =>
    obtain ⟨k, D, rfl, hk, hmp, hD, hbel⟩ := hrel
    by_cases hkl : k < os.length
    · have hkI : (k : Int) < (os.length : Int) := by omega
      obtain ⟨o, ho⟩ := get_lt hkl
      obtain ⟨b, off, rfl, hblt, d0, d1, d2, d3, d4, d5⟩ := ord_row (HEL.out.below hbel) ho
      have hkey : keyOf Tryz.prog 9 (.string o.key) = some (keyL o.key) := WideMaps.keyOf_string_mk Tryz.underlying9 (by have := HKS.out o (List.mem_of_getElem? ho); unfold maxLen; omega)
      have hwf : (Lit.int .i64 (k : Int)).wf = true := by
        simp only [Lit.wf, IntKind.min, IntKind.max, IntKind.signed, IntKind.bits, Bool.and_eq_true, decide_eq_true_eq, if_true]
        omega
      have hst : EndD (if o.kind = 1 ∨ o.kind = 2 then D.put (keyL o.key) (.lit (.int .i64 k)) else D) (fun key => lastK os key (k + 1)) := by
        have hf : (fun key => lastK os key (k + 1)) = fun key => if resetB key o = true then some k else lastK os key k := by
          funext key
          rw [lastK, ho]
          rfl
        rw [hf]
        by_cases hc : o.kind = 1 ∨ o.kind = 2
        · rw [if_pos hc]
          have := hD.put o.key k
          have hg : (fun key => if resetB key o = true then some k else lastK os key k) = fun key => if key = o.key then some k else lastK os key k := by
            funext key
            by_cases e : key = o.key
            · subst e
              rw [if_pos rfl, if_pos (by unfold resetB; rcases hc with h | h <;> simp [h])]
            · have e' : ¬ o.key = key := fun h => e h.symm
              rw [if_neg e, if_neg (by unfold resetB; simp [e'])]
          rw [hg]
          exact this
        · rw [if_neg hc]
          have hg : (fun key => if resetB key o = true then some k else lastK os key k) = fun key => lastK os key k := by
            funext key
            rw [if_neg]
            unfold resetB
            intro h
            simp at h
            exact hc h.2
          rw [hg]
          exact hD
      have HM := Lib.hid hmp
      have HB := Lib.hid hbel
      have HK := Lib.hid hkey
      have HST := Lib.hid hst
      clear hmp hbel hkey hst hD ho
      obtain ⟨kind, key, val, n, lo, hi⟩ := o
      dsimp only at d0 d1 d2 d3 d4 d5 HK HST
      have hwfI := hwf
      by_cases hc : kind = 1 ∨ kind = 2
      · rw [if_pos hc] at HST
        have fin : ∀ w2 : World, (wr.alloc (.cells #[.int .i64 kind, .string key, .string val, .int .u64 n, .string lo, .string hi] 39)).grownBy w2 (some w.heap.size) → Below w.heap.size w w2 := fun w2 hg => (below_alloc HB.out).trans ((Fr.refl (fun q => q = w.heap.size) _).grown hg (fun i hi e => by cases e; rfl) |>.to_below (below_alloc HB.out).size (fun i hi e => by omega))
        have FIN := Lib.hid fin
        clear fin hwfI
        rcases hc with rfl | rfl
        all_goals
          go_wp2_with (at_mapUpdate; refine wpList_mapUpdate_own _ rfl _ _ _ 108 rfl 9 3 lawS Tryz.underlying108 _ w.heap.size k D rfl (HM.out.alloc _) (by unfold maxLen; omega) _ _ _ rfl rfl HK.out _ [] (plainElem_int Tryz.underlying3 hwf) ?_; intro w2 hown2 hgrow2; have HO2 := Lib.hid hown2; have HG2 := Lib.hid hgrow2; clear hown2 hgrow2)
          refine ⟨⟨k + 1, _, by go_num, by omega, HO2.out, HST.out, FIN.out _ HG2.out⟩, ?_⟩
          simp [intOf]
          omega
      · rw [if_neg hc] at HST
        have e1 : (kind == 1) = false := by simp; omega
        have e2 : (kind == 2) = false := by simp; omega
        clear hc hwf hwfI
        go_wp2
        refine ⟨⟨k + 1, D, by go_num, by omega, (HM.out.alloc _).mono (Nat.le_succ _), HST.out, below_alloc HB.out⟩, ?_⟩
        simp [intOf]
        omega
    · obtain rfl : k = os.length := by omega
      have HM := Lib.hid hmp
      have HB := Lib.hid hbel
      have HD := Lib.hid hD
      clear hmp hbel hD
      go_wp2
      go_loopw [34, 6, 7, 8, 9, 10] (fun i v _ _ _ _ w2 => ∃ (k c2 : Nat) (A2 : Option Addr) (L : List Nat), i = .int .i64 k ∧ k ≤ os.length ∧ v = .slice A2 L.length c2 ∧ OwnsN w2 (w.heap.size + 1) (.slice A2 L.length c2) L ∧ L.length ≤ k ∧ aliveL 0 os = L ++ aliveL k (os.drop k) ∧ MapAt w2 w.heap.size os.length D ∧ Below w.heap.size w w2) (fun i _ _ _ _ _ _ => os.length + 1 - (intOf i).toNat)
      case atStart => exact ⟨0, 0, none, [], rfl, Nat.zero_le _, rfl, OwnsG.nil _ _, Nat.le_refl _, rfl, HM.out, HB.out⟩
      case round =>
        rename World => wr2
        obtain ⟨k, c2, A2, L, rfl, hk, rfl, how, hLk, hal, hmp, hbel⟩ := hrel
        by_cases hkl : k < os.length
        · have hkI : (k : Int) < (os.length : Int) := by omega
          obtain ⟨o, ho⟩ := get_lt hkl
          obtain ⟨b, off, rfl, hblt, d0, d1, d2, d3, d4, d5⟩ := ord_row (HEL.out.below hbel) ho
          have hkey : keyOf Tryz.prog 9 (.string o.key) = some (keyL o.key) := WideMaps.keyOf_string_mk Tryz.underlying9 (by have := HKS.out o (List.mem_of_getElem? ho); unfold maxLen; omega)
          have hlk := alive_last ho
          have hdr : os.drop k = o :: os.drop (k + 1) := by
            obtain ⟨hk', rfl⟩ := List.getElem?_eq_some_iff.1 ho
            exact List.drop_eq_getElem_cons hk'
          rw [hdr, aliveL, hlk] at hal
          obtain ⟨hhas, hatk⟩ := HD.out.2 o.key
          dsimp only at hhas hatk
          have hlt2 := hmp.lt
          generalize lastK os o.key os.length = lk at *
          have HOW := Lib.hid how
          have HB2 := Lib.hid hbel
          have HM2 := Lib.hid hmp
          have HB4 := Lib.hid (fun o1 o2 => below_alloc (o := o2) (below_alloc (o := o1) hbel))
          have HK := Lib.hid hkey
          have HAT := Lib.hid hatk
          have HLT := Lib.hid hlt2
          clear how hbel hmp hkey hatk hlk hdr ho hlt2
          obtain ⟨kind, key, val, n, lo, hi⟩ := o
          dsimp only at d0 d1 d2 d3 d4 d5 HK HAT hhas hal
          by_cases hc : kind = 1 ∨ kind = 3
          · have hkk : (decide (kind = 1) || decide (kind = 3)) = true := by simpa using hc
            rw [hkk, Bool.true_and] at hal
            clear hkk
            cases lk with
            | none =>
              dsimp only at hal
              rw [if_pos rfl, ← List.singleton_append, ← List.append_assoc] at hal
              have HAL := Lib.hid hal
              have hh : has D (keyL key) = false := hhas
              clear hal hhas
              rcases hc with rfl | rfl
              all_goals
                go_wp2_with (first
                  | (at_lookup; refine wpList_lookup_own_ok_int _ rfl _ _ 108 rfl 9 3 .i64 lawS Tryz.underlying108 Tryz.underlying3 (zeroI _) w.heap.size os.length D rfl (HM2.out.alloc _) _ _ rfl HK.out ?_; intro c hat _; clear hat)
                  | (at_builtin; go_loud (refine nat_append rfl (some 66) rfl _ _ rfl (w.heap.size + 1) (.slice A2 L.length c2) L [k] 1 ⟨wr2.heap.size + 1, 0, none⟩ 1 rfl rfl (by simp [Act.eval]) ((HOW.out.alloc _).alloc _) (nat_news (heap_new_at (by simp))) (by simp; omega) (by have := HB2.out.size; have := HLT.out; simp; omega) (L.length + 1) (by simp) ?_; intro A3 c3 w3 ho3 hf3; have HO3 := Lib.hid ho3; have HF3 := Lib.hid hf3; clear ho3 hf3)))
                refine ⟨⟨k + 1, c3, A3, L ++ [k], by go_num, by omega, by simp, by rw [List.length_append]; exact HO3.out, by simp; omega, HAL.out, MapAt.fr ((HM2.out.alloc _).alloc _) HF3.out (fun e => nat_ge HOW.out (Nat.lt_succ_self _) e), (HB4.out _ _).trans (HF3.out.to_below (HB4.out _ _).size (fun i hi e => nat_ge HOW.out (by omega) e))⟩, ?_⟩
                simp [intOf]
                omega
            | some m =>
              have hh : has D (keyL key) = true := hhas
              dsimp only at hal
              by_cases hmk : m ≤ k
              · rw [if_pos (decide_eq_true hmk), ← List.singleton_append, ← List.append_assoc] at hal
                have HAL := Lib.hid hal
                have hmI : (m : Int) ≤ (k : Int) := by omega
                clear hal hhas hmk
                rcases hc with rfl | rfl
                all_goals
                  go_wp2_with (first
                    | (at_lookup; refine wpList_lookup_own_ok_int _ rfl _ _ 108 rfl 9 3 .i64 lawS Tryz.underlying108 Tryz.underlying3 (zeroI _) w.heap.size os.length D rfl (HM2.out.alloc _) _ _ rfl HK.out ?_; intro c hat _; have hcm : c = (m : Int) := (by have := HAT.out m rfl; rw [hat] at this; simpa using this); subst hcm; clear hat)
                    | (at_builtin; go_loud (refine nat_append rfl (some 66) rfl _ _ rfl (w.heap.size + 1) (.slice A2 L.length c2) L [k] 1 ⟨wr2.heap.size + 1, 0, none⟩ 1 rfl rfl (by simp [Act.eval]) ((HOW.out.alloc _).alloc _) (nat_news (heap_new_at (by simp))) (by simp; omega) (by have := HB2.out.size; have := HLT.out; simp; omega) (L.length + 1) (by simp) ?_; intro A3 c3 w3 ho3 hf3; have HO3 := Lib.hid ho3; have HF3 := Lib.hid hf3; clear ho3 hf3)))
                  refine ⟨⟨k + 1, c3, A3, L ++ [k], by go_num, by omega, by simp, by rw [List.length_append]; exact HO3.out, by simp; omega, HAL.out, MapAt.fr ((HM2.out.alloc _).alloc _) HF3.out (fun e => nat_ge HOW.out (Nat.lt_succ_self _) e), (HB4.out _ _).trans (HF3.out.to_below (HB4.out _ _).size (fun i hi e => nat_ge HOW.out (by omega) e))⟩, ?_⟩
                  simp [intOf]
                  omega
              · rw [if_neg (by rw [decide_eq_false hmk]; decide)] at hal
                have HAL := Lib.hid hal
                have hmI : ¬ (m : Int) ≤ (k : Int) := by omega
                clear hal hhas hmk
                rcases hc with rfl | rfl
                all_goals
                  go_wp2_with ((at_lookup; refine wpList_lookup_own_ok_int _ rfl _ _ 108 rfl 9 3 .i64 lawS Tryz.underlying108 Tryz.underlying3 (zeroI _) w.heap.size os.length D rfl (HM2.out.alloc _) _ _ rfl HK.out ?_; intro c hat _; have hcm : c = (m : Int) := (by have := HAT.out m rfl; rw [hat] at this; simpa using this); subst hcm; clear hat))
                  refine ⟨⟨k + 1, c2, A2, L, by go_num, by omega, rfl, HOW.out.alloc _, by omega, HAL.out, HM2.out.alloc _, below_alloc HB2.out⟩, ?_⟩
                  simp [intOf]
                  omega
          · have hkk : (decide (kind = 1) || decide (kind = 3)) = false := by simpa using hc
            rw [hkk, Bool.false_and, if_neg (by decide)] at hal
            have HAL := Lib.hid hal
            have e1 : (kind == 1) = false := by simp; omega
            have e3 : (kind == 3) = false := by simp; omega
            clear hkk hal hc hhas
            go_wp2_with ((at_lookup; refine wpList_lookup_own_ok_int _ rfl _ _ 108 rfl 9 3 .i64 lawS Tryz.underlying108 Tryz.underlying3 (zeroI _) w.heap.size os.length D rfl (HM2.out.alloc _) _ _ rfl HK.out ?_; intro c hat _; clear hat))
            refine ⟨⟨k + 1, c2, A2, L, by go_num, by omega, rfl, HOW.out.alloc _, by omega, HAL.out, HM2.out.alloc _, below_alloc HB2.out⟩, ?_⟩
            simp [intOf]
            omega
        · obtain rfl : k = os.length := by omega
          rw [List.drop_length] at hal
          simp only [aliveL, List.append_nil] at hal
          have HOW := Lib.hid how
          have HB2 := Lib.hid hbel
          have HAL := Lib.hid hal
          clear how hbel hal
          go_wp2
          go_ret
          rw [HAL.out]
          exact ⟨A2, c2, rfl, HOW.out.base (Nat.le_succ _), HB2.out⟩
end Go.Proofs.YtdfgdnaejnngoaaGreat
namespace Go.Proofs.YtdfgdnaejnngoaaGreat
open Go.RowKit
/-! prune.Prune. -/
theorem alive_at {os : List Ord} {k j : Nat} (h : (aliveL 0 os)[k]? = some j) : ∃ o, (pruneL os)[k]? = some o ∧ os[j]? = some o := by
  have hg := alive_get os []
  have h1 := congrArg (fun l : List (Option Ord) => l[k]?) hg
  simp only [List.length_nil, List.nil_append, List.getElem?_map] at h1
  rw [h] at h1
  cases hp : (pruneL os)[k]? with
  | none => rw [hp] at h1; simp at h1
  | some o =>
    rw [hp] at h1
    simp at h1
    exact ⟨o, rfl, h1⟩
theorem ord_news {W : World} {b : Nat} {o : Ord} {T : TypeId} {fz : Nat × Nat} (h : W.heap[b]? = some (.cells #[.int .i64 o.kind, .string o.key, .string o.val, .int .u64 o.n, .string o.lo, .string o.hi] T fz)) : ∀ j u, (([o].map Ord.cells).flatten)[j]? = some u → W.cell? ((⟨b, 0, none⟩ : Addr).add j) = some u := by
  intro j u hj
  rw [Addr.add_mid, Lib.cell_of_heap h, Nat.zero_add]
  simpa [Ord.cells] using hj
theorem ord_ge {w : World} {B q : Nat} {v : Value} {l : List Ord} (h : OwnsO w B v l) (hq : q < B) (e : v.ownBlock = some q) : False := by
  rcases h.2 with ⟨he, _⟩ | ⟨g, cap', cur, he, hb, _⟩
  · rw [he] at e; cases e
  · rw [he] at e
    simp only [Value.ownBlock, Option.some.injEq] at e
    omega
set_option maxHeartbeats 2000000 in
set_option maxRecDepth 100000 in
theorem prune_any (A : Option Addr) (cap : Nat) (os : List Ord) (w : World) (hel : Elems w A 6 (os.map Ord.cells)) (hl : os.length ≤ 1000) (hks : okK os) :
    Calls Tryz.prog 25 #[.slice A os.length cap] w fun e w' => ∃ A' c', e = .returned (.slice A' (pruneL os).length c') ∧ OwnsO w' w.heap.size (.slice A' (pruneL os).length c') (pruneL os) ∧ Below w.heap.size w w' := by
  have hal := alive_any A cap os w hel hl hks
  have hlen := alive_len os 0
  have hsub := (prune_sub os).length_le
  have HAL := Lib.hid hal
  have HEL := Lib.hid hel
  have HLEN := Lib.hid hlen
  clear hal hel hks
  go_enter Tryz.func25, Tryz.ntmps25
  go_wp2_with (go_at_call 23; (with_reducible refine HAL.out.mono ?_); rintro e w1 ⟨A1, c1, rfl, ho1, hb1⟩; have HO1 := Lib.hid ho1; have HB1 := Lib.hid hb1; clear ho1 hb1)
  have hL := HLEN.out
  go_loopw [9, 3, 5] (fun i v _ wr => ∃ (k c2 : Nat) (A2 : Option Addr), i = .int .i64 k ∧ k ≤ (aliveL 0 os).length ∧ v = .slice A2 ((pruneL os).take k).length c2 ∧ OwnsO wr w1.heap.size (.slice A2 ((pruneL os).take k).length c2) ((pruneL os).take k) ∧ Below w1.heap.size w1 wr) (fun i _ _ _ => (aliveL 0 os).length + 1 - (intOf i).toNat)
  case atStart => exact ⟨0, 0, none, rfl, Nat.zero_le _, rfl, OwnsG.nil _ _, Below.refl _ _⟩
  case round =>
    obtain ⟨k, c2, A2, rfl, hk, rfl, how, hbel⟩ := hrel
    by_cases hkl : k < (aliveL 0 os).length
    · have hkI : (k : Int) < ((aliveL 0 os).length : Int) := by omega
      obtain ⟨j, hj⟩ := get_lt hkl
      obtain ⟨o, hp, ho⟩ := alive_at hj
      have hjl := (List.getElem?_eq_some_iff.1 ho).1
      have hjI : (j : Int) < (os.length : Int) := by omega
      obtain ⟨g, rfl, hBg, hgl, hcap, hcells⟩ := (HO1.out.below hbel).row natLen hj
      have e0 := hcells 0 _ rfl
      simp only [Nat.mul_one, Nat.add_zero] at e0
      obtain ⟨b, off, rfl, hblt, d0, d1, d2, d3, d4, d5⟩ := ord_row (HEL.out.below (below_next HB1.out hbel)) ho
      have htk := take_snocR hp
      have hpl : ((pruneL os).take k).length ≤ 1000 := by rw [List.length_take]; omega
      have HOW := Lib.hid how
      have HB := Lib.hid hbel
      have HTK := Lib.hid htk
      clear how hbel htk hp ho hj hcells
      generalize (pruneL os).take k = P at *
      obtain ⟨kind, key, val, n, lo, hi⟩ := o
      dsimp only at d0 d1 d2 d3 d4 d5
      go_wp2_with (at_builtin; go_loud (refine ord_append rfl (some 19) rfl _ _ rfl w1.heap.size (.slice A2 P.length c2) P [⟨kind, key, val, n, lo, hi⟩] 1 ⟨wr.heap.size, 0, none⟩ 1 rfl rfl (by simp [Act.eval]) (HOW.out.alloc _) (ord_news (o := ⟨kind, key, val, n, lo, hi⟩) (heap_alloc_new _ _)) (by simp; omega) (by have := HB.out.size; simp; omega) (P.length + 1) (by simp) ?_; intro A3 c3 w3 ho3 hf3; have HO3 := Lib.hid ho3; have HF3 := Lib.hid hf3; clear ho3 hf3))
      have hb3 := fun o : Obj => below_alloc (o := o) HB.out
      refine ⟨⟨k + 1, c3, A3, by go_num, by omega, by rw [HTK.out, List.length_append]; rfl, by rw [HTK.out, List.length_append]; exact HO3.out, (hb3 _).trans (HF3.out.to_below (hb3 _).size (fun i hi e => ord_ge HOW.out hi e))⟩, ?_⟩
      simp [intOf]
      omega
    · obtain rfl : k = (aliveL 0 os).length := by omega
      rw [hL, List.take_length] at how
      rw [hL, List.take_length]
      have HOW := Lib.hid how
      have HB := Lib.hid hbel
      clear how hbel
      go_wp2
      go_ret
      exact ⟨A2, c2, rfl, HOW.out.base HB1.out.size, below_next HB1.out HB.out⟩
end Go.Proofs.YtdfgdnaejnngoaaGreat
