import Derived.Test.YtdfgdnaejnngoaaGreatJa5
import Derived.Test.YtdfgdnaejnngoaaGreatJa4
import Derived.Shelf.SlSortCmp.NoneTotal
namespace Go.Proofs.YtdfgdnaejnngoaaGreat
open Go.RowKit
/-! slices.CompactFunc over items, where two have one key. -/
def zs0 (m : Nat) : List Value := (Builtin.zeroCells (Value.agg #[.string ⟨#[]⟩, .string ⟨#[]⟩]).cells m).toList
theorem zs0_len (m : Nat) : (zs0 m).length = m * 2 := by
  have hc2 : (Value.agg #[.string ⟨#[]⟩, .string ⟨#[]⟩]).cells.size = 2 := by kernel_rfl
  unfold zs0
  rw [Array.length_toList, size_zeroCells, hc2]
theorem zs0_one (m : Nat) : ∀ u ∈ zs0 m, u.oneCell' = true := by
  intro u hu
  have hc : (Value.agg #[.string ⟨#[]⟩, .string ⟨#[]⟩]).cells = #[.string ⟨#[]⟩, .string ⟨#[]⟩] := by kernel_rfl
  unfold zs0 Builtin.zeroCells at hu
  rw [hc] at hu
  simp only [Array.toList_map, List.mem_map] at hu
  obtain ⟨i, _, rfl⟩ := hu
  have h2 : i % 2 = 0 ∨ i % 2 = 1 := by omega
  show ((#[Value.string ⟨#[]⟩, .string ⟨#[]⟩] : Array Value)[i % 2]!).oneCell' = true
  rcases h2 with h | h <;> rw [h] <;> rfl
theorem clear_many (w : World) (g o m c : Nat) (ty : TypeId) (cur : List Value) (h : w.heap[g]? = some (.cells cur.toArray 41 (0, 0))) (hn : o + m * 2 ≤ cur.length) (hm : 0 < m) :
    (Builtin.clear_ #[29] ty #[.slice (some ⟨g, o, none⟩) m c]).run Tryz.prog w = .ok (.tuple #[]) (w.setCells g o (zs0 m)) := by
  obtain ⟨m, rfl⟩ : ∃ m', m = m' + 1 := ⟨m - 1, by omega⟩
  have hst := run_storeCells_cells (P := Tryz.prog) g o (zs0 (m + 1)) 0 w (by simp only [Nat.add_zero]; exact blk_there h o _ (by rw [zs0_len]; exact hn)) (fun j _ => Lib.frozen_of_heap h _) (zs0_one (m + 1))
  simp only [Nat.add_zero] at hst
  have hz := item_zero w
  have hzc : (Builtin.zeroCells (Value.agg #[.string ⟨#[]⟩, .string ⟨#[]⟩]).cells (m + 1)).toList = zs0 (m + 1) := rfl
  simp [Builtin.clear_, run_underlying Tryz.underlying29, hz, hzc, hst]
def CompRes (g n : Nat) (w : World) (e : Ending) (w' : World) : Prop := ∃ m cap', e = .returned (.slice (some ⟨g, 0, none⟩) m cap') ∧ m < n ∧ Fr (fun k => k = g) w w'
set_option maxHeartbeats 2000000 in
set_option maxRecDepth 100000 in
theorem compact_dup (g cap : Nat) (l : List Itm) (w : World) (B : Nat) (h : OwnsM w B (.slice (some ⟨g, 0, none⟩) l.length cap) l) (hl : l.length ≤ 100000) (hadj : adjB l = true) :
    Calls Tryz.prog 87 #[.slice (some ⟨g, 0, none⟩) l.length cap, .func (.func 88) #[] #[]] w (CompRes g l.length w) := by
  obtain ⟨cur0, hg0, hB0, hcl0, hcm0, hlc0, ht0, hz0⟩ := h.block
  have hcap : cap ≤ 9223372036854775807 := by unfold maxLen at hcm0; omega
  have hlcI : (l.length : Int) ≤ (cap : Int) := by omega
  have h2 : 2 ≤ l.length := by
    obtain ⟨k, x, y, _, hy, _⟩ := adj_of hadj
    have := (List.getElem?_eq_some_iff.1 hy).1
    omega
  have HO := Lib.hid h
  have HA := Lib.hid hadj
  have HT := Lib.hid (fun x y W => isTwin_any x y W)
  have hnI : (2 : Int) ≤ (l.length : Int) := by omega
  clear h hadj hg0 hcl0 hB0 hlc0 ht0 hz0 cur0
  go_enter Tryz.func87, Tryz.ntmps87
  go_wp2
  go_loopw [5] (fun i wr => ∃ k : Nat, i = .int .i64 k ∧ 1 ≤ k ∧ k ≤ l.length ∧ (∀ (m : Nat) (x y : Itm), m + 1 < k → l[m]? = some x → l[m + 1]? = some y → decide (y.key = x.key) = false) ∧ Below w.heap.size w wr) (fun i _ => l.length + 1 - (intOf i).toNat)
  case atStart => exact ⟨1, rfl, by omega, by omega, fun m x y hm => by omega, (by repeat (first | assumption | exact Below.refl _ _ | (refine below_step (w := ?_) ?_ ?_ ?_; rotate_left 2; assumption) | refine Below.drew ?_ | refine below_drewN ?_ _ | refine Below.alloc ?_ ?_ _ | refine Below.setCell ?_ ?_ _ | (focus (simp; done)) | (focus (simp; omega)) | omega))⟩
  case round =>
    obtain ⟨k, rfl, hk1, hk, hno, hbel⟩ := hrel
    by_cases hkl : k < l.length
    · have hkI : (k : Int) < (l.length : Int) := by omega
      obtain ⟨y, hy⟩ := get_lt hkl
      obtain ⟨m, hmk⟩ : ∃ m, k = m + 1 := ⟨k - 1, by omega⟩
      obtain ⟨x, hx⟩ := get_lt (l := l) (i := m) (by omega)
      obtain ⟨g1, e1, _, hglt, _, hcx⟩ := HO.out.row Itm.clen hx
      cases e1
      obtain ⟨g2, e2, _, _, _, hcy⟩ := HO.out.row Itm.clen hy
      cases e2
      have d0 := (hbel.cell (p := ⟨g, _, none⟩) hglt).trans (hcx 0 _ rfl)
      have d1 := (hbel.cell (p := ⟨g, _, none⟩) hglt).trans (hcx 1 _ rfl)
      have d2 := (hbel.cell (p := ⟨g, _, none⟩) hglt).trans (hcy 0 _ rfl)
      have d3 := (hbel.cell (p := ⟨g, _, none⟩) hglt).trans (hcy 1 _ rfl)
      simp only [Nat.add_zero] at d0 d2
      have hc := fun W => HT.out y x W
      have hnx : decide (y.key = x.key) = false → ∀ (m' : Nat) (x' y' : Itm), m' + 1 < k + 1 → l[m']? = some x' → l[m' + 1]? = some y' → decide (y'.key = x'.key) = false := by
        intro hq m' x' y' hm' hx' hy'
        by_cases e : m' = m
        · subst e
          rw [hx] at hx'
          rw [← hmk, hy] at hy'
          cases hx'
          cases hy'
          exact hq
        · exact hno m' x' y' (by omega) hx' hy'
      generalize decide (y.key = x.key) = q at hc hnx
      obtain ⟨xk, xv⟩ := x
      obtain ⟨yk, yv⟩ := y
      rw [Itm.v_def, Itm.v_def] at hc
      dsimp only at d0 d1 d2 d3
      have HC := Lib.hid hc
      have HNX := Lib.hid hnx
      have hglt2 : g < wr.heap.size := Nat.lt_of_lt_of_le hglt hbel.size
      have hw1 : IntKind.i64.wrap ((k : Int) - 1) = (m : Int) := by rw [IntKind.wrap_i64]; omega
      have hm0 : (m : Int) < (l.length : Int) := by omega
      have hck : ¬ (cap = k) := by omega
      have hkn : k ≤ l.length := by omega
      clear hc hcx hcy hx hy hglt hno hnx
      have HMK := Lib.hid hmk
      clear hmk
      go_wp2
      refine rg_start (n := 11) (fun w' => w'.cell? ⟨g, m * 2, none⟩ = some (.string xk) ∧ w'.cell? ⟨g, m * 2 + 1, none⟩ = some (.string xv) ∧ w'.cell? ⟨g, k * 2, none⟩ = some (.string yk) ∧ w'.cell? ⟨g, k * 2 + 1, none⟩ = some (.string yv) ∧ Below w.heap.size w w' ∧ g < w'.heap.size) #[false, false, false, false, false, false, false, false, false, false, false] (by kernel_rfl) rfl rfl ⟨d0, d1, d2, d3, hbel.drew, hglt2⟩ (fun hHeld => ?_)
      refine rg_take (i := 0) (N := (some 18)) (v := ?_) (a' := ?_) #[true, false, false, false, false, false, false, false, false, false, false] rfl rfl (by kernel_rfl) (fun _ _ _ h => h) (by rfl) ?_ hHeld ?_ ?_
      rotate_left 2
      · rintro w' ⟨s0, s1, s2, s3, s4, s5⟩
        go_simp
        try with_reducible rfl
      · simp only [Act.put, List.setIfInBounds_toArray, List.set_cons_zero, List.set_cons_succ]
        rfl
      refine rg_take (i := 1) (N := (some 19)) (v := ?_) (a' := ?_) #[true, true, false, false, false, false, false, false, false, false, false] rfl rfl (by kernel_rfl) (fun _ _ _ h => h) (by rfl) ?_ hHeld ?_ ?_
      rotate_left 2
      · rintro w' ⟨s0, s1, s2, s3, s4, s5⟩
        go_simp
        try with_reducible rfl
      · simp only [Act.put, List.setIfInBounds_toArray, List.set_cons_zero, List.set_cons_succ]
        rfl
      refine rg_take (i := 2) (N := (some 20)) (v := ?_) (a' := ?_) #[true, true, true, false, false, false, false, false, false, false, false] rfl rfl (by kernel_rfl) (fun _ _ _ h => h) (by rfl) ?_ hHeld ?_ ?_
      rotate_left 2
      · rintro w' ⟨s0, s1, s2, s3, s4, s5⟩
        go_simp
        try with_reducible rfl
      · simp only [Act.put, List.setIfInBounds_toArray, List.set_cons_zero, List.set_cons_succ]
        rfl
      refine rg_take (i := 3) (N := (some 21)) (v := ?_) (a' := ?_) #[true, true, true, true, false, false, false, false, false, false, false] rfl rfl (by kernel_rfl) (fun _ _ _ h => h) (by rfl) ?_ hHeld ?_ ?_
      rotate_left 2
      · rintro w' ⟨s0, s1, s2, s3, s4, s5⟩
        go_simp
        try with_reducible rfl
      · simp only [Act.put, List.setIfInBounds_toArray, List.set_cons_zero, List.set_cons_succ]
        rfl
      refine rg_take (i := 4) (N := (some 22)) (v := ?_) (a' := ?_) #[true, true, true, true, true, false, false, false, false, false, false] rfl rfl (by kernel_rfl) (fun _ _ _ h => h) (by rfl) ?_ hHeld ?_ ?_
      rotate_left 2
      · rintro w' ⟨s0, s1, s2, s3, s4, s5⟩
        go_simp
        try with_reducible rfl
      · simp only [Act.put, List.setIfInBounds_toArray, List.set_cons_zero, List.set_cons_succ]
        rfl
      refine rg_take (i := 5) (N := (some 23)) (v := ?_) (a' := ?_) #[true, true, true, true, true, true, false, false, false, false, false] rfl rfl (by kernel_rfl) (fun _ _ _ h => h) (by rfl) ?_ hHeld ?_ ?_
      rotate_left 2
      · rintro w' ⟨s0, s1, s2, s3, s4, s5⟩
        go_simp
        try with_reducible rfl
      · simp only [Act.put, List.setIfInBounds_toArray, List.set_cons_zero, List.set_cons_succ]
        rfl
      refine rg_take (i := 6) (N := (some 24)) (v := ?_) (a' := ?_) #[true, true, true, true, true, true, true, false, false, false, false] rfl rfl (by kernel_rfl) (fun _ _ _ h => h) (by rfl) ?_ hHeld ?_ ?_
      rotate_left 2
      · rintro w' ⟨s0, s1, s2, s3, s4, s5⟩
        go_simp
        try with_reducible rfl
      · simp only [Act.put, List.setIfInBounds_toArray, List.set_cons_zero, List.set_cons_succ]
        rfl
      refine rg_take (i := 7) (N := (some 25)) (v := ?_) (a' := ?_) #[true, true, true, true, true, true, true, true, false, false, false] rfl rfl (by kernel_rfl) (fun _ _ _ h => h) (by rfl) ?_ hHeld ?_ ?_
      rotate_left 2
      · rintro w' ⟨s0, s1, s2, s3, s4, s5⟩
        go_simp
        try with_reducible rfl
      · simp only [Act.put, List.setIfInBounds_toArray, List.set_cons_zero, List.set_cons_succ]
        rfl
      refine rg_take (i := 8) (N := (some 26)) (v := ?_) (a' := ?_) #[true, true, true, true, true, true, true, true, true, false, false] rfl rfl (by kernel_rfl) (fun _ _ _ h => h) (by rfl) ?_ hHeld ?_ ?_
      rotate_left 2
      · rintro w' ⟨s0, s1, s2, s3, s4, s5⟩
        go_simp
        try with_reducible rfl
      · simp only [Act.put, List.setIfInBounds_toArray, List.set_cons_zero, List.set_cons_succ]
        rfl
      refine rg_take (i := 9) (N := (some 27)) (v := ?_) (a' := ?_) #[true, true, true, true, true, true, true, true, true, true, false] rfl rfl (by kernel_rfl) (fun _ _ _ h => h) (by rfl) ?_ hHeld ?_ ?_
      rotate_left 2
      · rintro w' ⟨s0, s1, s2, s3, s4, s5⟩
        go_simp
        try with_reducible rfl
      · simp only [Act.put, List.setIfInBounds_toArray, List.set_cons_zero, List.set_cons_succ]
        rfl
      refine rg_one (i := 10) #[true, true, true, true, true, true, true, true, true, true, true] rfl (by kernel_rfl) (by rfl) (fun K hK => ?_)
      obtain ⟨s0, s1, s2, s3, s4, s5⟩ := hHeld
      repeat go_step
      ((with_reducible refine (HC.out _).mono ?_); rintro e w2 ⟨rfl, hb2⟩)
      try dsimp only
      refine hK.out _ _ ?_ (fun hHeld => ?_)
      · (repeat (first | (with_reducible assumption) | (with_reducible apply And.intro) | (with_reducible refine keep_cell (w := ?_) ?_ ?_ ?_; rotate_left; with_reducible assumption) | (with_reducible refine keep_cell_alloc ?_ ?_) | (with_reducible refine keep_lt (w := ?_) ?_ ?_; rotate_left; with_reducible assumption) | (with_reducible refine keep_lt_alloc ?_) | (with_reducible refine below_next (w := ?_) ?_ ?_; rotate_left 2; with_reducible assumption) | (with_reducible refine below_alloc ?_) | (with_reducible refine Below.drew ?_) | (with_reducible refine keep_lt_drew ?_) | (with_reducible refine keep_cell_drew ?_)))
      clear hK K
      clear s0 s1 s2 s3 s4 s5
      refine rg_done (by kernel_rfl) ?_
      obtain ⟨_, _, _, _, t4, _⟩ := hHeld
      clear d0 d1 d2 d3 hw1
      cases q
      · go_wp2
        refine ⟨⟨k + 1, by go_num, by omega, by omega, HNX.out rfl, t4⟩, ?_⟩
        simp [intOf]
        omega
      have HOW := Lib.hid (HO.out.below t4)
      have HFR := Lib.hid (Fr.of_below (S := fun q => q = g) t4)
      clear t4 HC HNX hbel
      go_wp2
      go_loopw [7, 5] (fun p q wr => ∃ (k2 kk : Nat) (l' : List Itm), p = .int .i64 k2 ∧ q = .int .i64 kk ∧ 1 ≤ k2 ∧ k2 ≤ l.length - k ∧ k ≤ kk ∧ kk < k + k2 ∧ l'.length = l.length ∧ OwnsM wr B (.slice (some ⟨g, 0, none⟩) l'.length cap) l' ∧ Fr (fun q => q = g) w wr) (fun p _ _ => l.length + 1 - (intOf p).toNat)
      case atStart => exact ⟨1, k, l, rfl, rfl, by omega, by omega, by omega, by omega, rfl, HOW.out, HFR.out⟩
      case round =>
        obtain ⟨k2, kk, l', rfl, rfl, hk21, hk2, hkk1, hkk2, hll, how, hfr⟩ := hrel
        have HOW2 := Lib.hid how
        have HFR2 := Lib.hid hfr
        have HLL := Lib.hid hll
        by_cases hk2l : k2 < l.length - k
        · have hk2I : (k2 : Int) < ((l.length - k : Nat) : Int) := by omega
          have hkkI : (kk : Int) < (l.length : Int) := by omega
          obtain ⟨y2, hy2⟩ := get_lt (l := l') (i := k + k2) (by omega)
          obtain ⟨m2, hm2⟩ : ∃ m2, k2 = m2 + 1 := ⟨k2 - 1, by omega⟩
          obtain ⟨x2, hx2⟩ := get_lt (l := l') (i := k + m2) (by omega)
          obtain ⟨z2, hz2⟩ := get_lt (l := l') (i := kk) (by omega)
          obtain ⟨g1, e1, _, hglt, _, hcx⟩ := how.row Itm.clen hx2
          cases e1
          obtain ⟨g2, e2, _, _, _, hcy⟩ := how.row Itm.clen hy2
          cases e2
          obtain ⟨g3, e3, _, _, _, hcz⟩ := how.row Itm.clen hz2
          cases e3
          have d0 := hcx 0 _ rfl
          have d1 := hcx 1 _ rfl
          have d2 := hcy 0 _ rfl
          have d3 := hcy 1 _ rfl
          have d4 := hcz 0 _ rfl
          have d5 := hcz 1 _ rfl
          simp only [Nat.add_zero, Nat.add_mul] at d0 d1 d2 d3 d4 d5
          have hc := fun W => HT.out y2 x2 W
          generalize decide (y2.key = x2.key) = q at hc
          obtain ⟨x2k, x2v⟩ := x2
          obtain ⟨y2k, y2v⟩ := y2
          obtain ⟨z2k, z2v⟩ := z2
          rw [Itm.v_def, Itm.v_def] at hc
          dsimp only at d0 d1 d2 d3 d4 d5
          have HC2 := Lib.hid hc
          have hw2 : IntKind.i64.wrap ((k2 : Int) - 1) = (m2 : Int) := by rw [IntKind.wrap_i64]; omega
          have hm20 : (m2 : Int) < ((l.length - k : Nat) : Int) := by omega
          have hkkl : kk < l'.length := by omega
          have HKK := Lib.hid hkkl
          clear hc hcx hcy hcz hx2 hy2 hz2 how hfr hll hm2 hkkl
          go_wp2
          refine rg_start (n := 12) (fun w' => w'.cell? ⟨g, k * 2 + m2 * 2, none⟩ = some (.string x2k) ∧ w'.cell? ⟨g, k * 2 + m2 * 2 + 1, none⟩ = some (.string x2v) ∧ w'.cell? ⟨g, k * 2 + k2 * 2, none⟩ = some (.string y2k) ∧ w'.cell? ⟨g, k * 2 + k2 * 2 + 1, none⟩ = some (.string y2v) ∧ w'.cell? ⟨g, kk * 2, none⟩ = some (.string z2k) ∧ w'.cell? ⟨g, kk * 2 + 1, none⟩ = some (.string z2v) ∧ Below wr.heap.size wr w' ∧ g < w'.heap.size) #[false, false, false, false, false, false, false, false, false, false, false, false] (by kernel_rfl) rfl rfl ⟨d0, d1, d2, d3, d4, d5, (Below.refl _ _).drew, hglt⟩ (fun hHeld => ?_)
          refine rg_take (i := 0) (N := (some 38)) (v := ?_) (a' := ?_) #[true, false, false, false, false, false, false, false, false, false, false, false] rfl rfl (by kernel_rfl) (fun _ _ _ h => h) (by rfl) ?_ hHeld ?_ ?_
          rotate_left 2
          · rintro w' ⟨s0, s1, s2, s3, s4, s5, s6, s7⟩
            go_simp
            try with_reducible rfl
          · simp only [Act.put, List.setIfInBounds_toArray, List.set_cons_zero, List.set_cons_succ]
            rfl
          refine rg_take (i := 1) (N := (some 39)) (v := ?_) (a' := ?_) #[true, true, false, false, false, false, false, false, false, false, false, false] rfl rfl (by kernel_rfl) (fun _ _ _ h => h) (by rfl) ?_ hHeld ?_ ?_
          rotate_left 2
          · rintro w' ⟨s0, s1, s2, s3, s4, s5, s6, s7⟩
            go_simp
            try with_reducible rfl
          · simp only [Act.put, List.setIfInBounds_toArray, List.set_cons_zero, List.set_cons_succ]
            rfl
          refine rg_take (i := 2) (N := (some 40)) (v := ?_) (a' := ?_) #[true, true, true, false, false, false, false, false, false, false, false, false] rfl rfl (by kernel_rfl) (fun _ _ _ h => h) (by rfl) ?_ hHeld ?_ ?_
          rotate_left 2
          · rintro w' ⟨s0, s1, s2, s3, s4, s5, s6, s7⟩
            go_simp
            try with_reducible rfl
          · simp only [Act.put, List.setIfInBounds_toArray, List.set_cons_zero, List.set_cons_succ]
            rfl
          refine rg_take (i := 3) (N := (some 41)) (v := ?_) (a' := ?_) #[true, true, true, true, false, false, false, false, false, false, false, false] rfl rfl (by kernel_rfl) (fun _ _ _ h => h) (by rfl) ?_ hHeld ?_ ?_
          rotate_left 2
          · rintro w' ⟨s0, s1, s2, s3, s4, s5, s6, s7⟩
            go_simp
            try with_reducible rfl
          · simp only [Act.put, List.setIfInBounds_toArray, List.set_cons_zero, List.set_cons_succ]
            rfl
          refine rg_take (i := 4) (N := (some 42)) (v := ?_) (a' := ?_) #[true, true, true, true, true, false, false, false, false, false, false, false] rfl rfl (by kernel_rfl) (fun _ _ _ h => h) (by rfl) ?_ hHeld ?_ ?_
          rotate_left 2
          · rintro w' ⟨s0, s1, s2, s3, s4, s5, s6, s7⟩
            go_simp
            try with_reducible rfl
          · simp only [Act.put, List.setIfInBounds_toArray, List.set_cons_zero, List.set_cons_succ]
            rfl
          refine rg_take (i := 5) (N := (some 43)) (v := ?_) (a' := ?_) #[true, true, true, true, true, true, false, false, false, false, false, false] rfl rfl (by kernel_rfl) (fun _ _ _ h => h) (by rfl) ?_ hHeld ?_ ?_
          rotate_left 2
          · rintro w' ⟨s0, s1, s2, s3, s4, s5, s6, s7⟩
            go_simp
            try with_reducible rfl
          · simp only [Act.put, List.setIfInBounds_toArray, List.set_cons_zero, List.set_cons_succ]
            rfl
          refine rg_take (i := 6) (N := (some 44)) (v := ?_) (a' := ?_) #[true, true, true, true, true, true, true, false, false, false, false, false] rfl rfl (by kernel_rfl) (fun _ _ _ h => h) (by rfl) ?_ hHeld ?_ ?_
          rotate_left 2
          · rintro w' ⟨s0, s1, s2, s3, s4, s5, s6, s7⟩
            go_simp
            try with_reducible rfl
          · simp only [Act.put, List.setIfInBounds_toArray, List.set_cons_zero, List.set_cons_succ]
            rfl
          refine rg_take (i := 7) (N := (some 45)) (v := ?_) (a' := ?_) #[true, true, true, true, true, true, true, true, false, false, false, false] rfl rfl (by kernel_rfl) (fun _ _ _ h => h) (by rfl) ?_ hHeld ?_ ?_
          rotate_left 2
          · rintro w' ⟨s0, s1, s2, s3, s4, s5, s6, s7⟩
            go_simp
            try with_reducible rfl
          · simp only [Act.put, List.setIfInBounds_toArray, List.set_cons_zero, List.set_cons_succ]
            rfl
          refine rg_take (i := 8) (N := (some 46)) (v := ?_) (a' := ?_) #[true, true, true, true, true, true, true, true, true, false, false, false] rfl rfl (by kernel_rfl) (fun _ _ _ h => h) (by rfl) ?_ hHeld ?_ ?_
          rotate_left 2
          · rintro w' ⟨s0, s1, s2, s3, s4, s5, s6, s7⟩
            go_simp
            try with_reducible rfl
          · simp only [Act.put, List.setIfInBounds_toArray, List.set_cons_zero, List.set_cons_succ]
            rfl
          refine rg_take (i := 9) (N := (some 47)) (v := ?_) (a' := ?_) #[true, true, true, true, true, true, true, true, true, true, false, false] rfl rfl (by kernel_rfl) (fun _ _ _ h => h) (by rfl) ?_ hHeld ?_ ?_
          rotate_left 2
          · rintro w' ⟨s0, s1, s2, s3, s4, s5, s6, s7⟩
            go_simp
            try with_reducible rfl
          · simp only [Act.put, List.setIfInBounds_toArray, List.set_cons_zero, List.set_cons_succ]
            rfl
          refine rg_one (i := 10) #[true, true, true, true, true, true, true, true, true, true, true, false] rfl (by kernel_rfl) (by rfl) (fun K hK => ?_)
          obtain ⟨s0, s1, s2, s3, s4, s5, s6, s7⟩ := hHeld
          repeat go_step
          ((with_reducible refine (HC2.out _).mono ?_); rintro e w4 ⟨rfl, hb4⟩)
          try dsimp only
          refine hK.out _ _ ?_ (fun hHeld => ?_)
          · exact ⟨keep_cell hb4 s7 s0, keep_cell hb4 s7 s1, keep_cell hb4 s7 s2, keep_cell hb4 s7 s3, keep_cell hb4 s7 s4, keep_cell hb4 s7 s5, below_next s6 hb4, Nat.lt_of_lt_of_le s7 hb4.size⟩
          clear hK K
          clear s0 s1 s2 s3 s4 s5 s6 s7
          refine rg_take (i := 11) (N := (some 49)) (v := ?_) (a' := ?_) #[true, true, true, true, true, true, true, true, true, true, true, true] rfl rfl (by kernel_rfl) (fun _ _ _ h => h) (by rfl) ?_ hHeld ?_ ?_
          rotate_left 2
          · rintro w' ⟨s0, s1, s2, s3, s4, s5, s6, s7⟩
            go_simp
            try with_reducible rfl
          · simp only [Act.put, List.setIfInBounds_toArray, List.set_cons_zero, List.set_cons_succ]
            rfl
          refine rg_done (by kernel_rfl) ?_
          obtain ⟨t0, t1, t2, t3, t4, t5, t6, t7⟩ := hHeld
          have HO4 := Lib.hid (HOW2.out.below t6)
          have HF4 := Lib.hid (HFR2.out.tr (Fr.of_below t6))
          have f4 := HO4.out.unfrozen (kk * 2)
          have f5 := HO4.out.unfrozen (kk * 2 + 1)
          clear d0 d1 d2 d3 d4 d5 t6 hw2
          cases q
          · have e5 : (w4.setCell ⟨g, kk * 2, none⟩ (.string y2k)).cell? ⟨g, kk * 2 + 1, none⟩ = some (.string z2v) := by rw [World.cell?_setCell_other _ _ _ _ (by simp)]; exact t5
            go_wp2
            have how := HO4.out.write Itm.clen (i := kk) HKK.out ⟨y2k, y2v⟩
            have hf : Fr (fun q => q = g) w4 (wrW w4 g (kk * 2) (Itm.cells ⟨y2k, y2v⟩)) := wrW_fr (g := g) _ w4 (kk * 2)
            have hls : (l'.set kk ⟨y2k, y2v⟩).length = l'.length := List.length_set
            refine ⟨⟨k2 + 1, kk + 1, l'.set kk ⟨y2k, y2v⟩, by go_num, by go_num, by omega, by omega, by omega, by omega, by rw [hls]; exact HLL.out, by rw [hls]; exact how, HF4.out.tr hf⟩, ?_⟩
            simp [intOf]
            omega
          · go_wp2
            refine ⟨⟨k2 + 1, kk, l', by go_num, rfl, by omega, by omega, by omega, by omega, HLL.out, HO4.out, HF4.out⟩, ?_⟩
            simp [intOf]
            omega
        · obtain rfl : k2 = l.length - k := by omega
          obtain ⟨cur, hg, _, hcl, hcm, hlc, _, _⟩ := how.block
          have hclr : ∀ ty c, (Builtin.clear_ #[29] ty #[.slice (some ⟨g, kk * 2, none⟩) (l.length - kk) c]).run Tryz.prog wr = .ok (.tuple #[]) (wr.setCells g (kk * 2) (zs0 (l.length - kk))) := fun ty c => clear_many wr g (kk * 2) (l.length - kk) c ty cur hg (by omega) (by omega)
          have hkkI : (kk : Int) ≤ (l.length : Int) := by omega
          have hckk : ¬ (cap = kk) := by omega
          have hkkc : (kk : Int) ≤ (cap : Int) := by omega
          clear how hg hcl hlc hfr hll
          go_wp2
          go_ret
          exact ⟨kk, cap, rfl, by omega, HFR2.out.tr (setCells_is_fr g _ _ _)⟩
    · exfalso
      obtain ⟨m, x, y, h1, h2, h3⟩ := adj_of HA.out
      have := hno m x y (by have := (List.getElem?_eq_some_iff.1 h2).1; omega) h1 h2
      rw [h3] at this
      cases this
end Go.Proofs.YtdfgdnaejnngoaaGreat
namespace Go.Proofs.YtdfgdnaejnngoaaGreat
open Go.RowKit
/-! leaf.Of: the pure law. -/
def isoA (a : List Itm) (l : List Itm) : List Itm := l.foldl (fun a x => insR x.key x.val a) a
def isoL (l : List Itm) : List Itm := isoA [] l
def keysL (l : List Itm) : List ByteArray := l.map Itm.key
def errL (l : List Itm) : Int := if l.any badI = true then 1 else if (keysL l).Nodup then 0 else 11
theorem rises_iso : ∀ (l a : List Itm), Rises a → Rises (isoA a l)
  | [], _, h => h
  | x :: l, a, h => rises_iso l _ (rises_ins x.key x.val h)
theorem getL_some_iff {l : List Itm} (hr : Rises l) (k v : ByteArray) : getL l k = some v ↔ (⟨k, v⟩ : Itm) ∈ l :=
  ⟨getL_mem, fun h => getL_of_mem hr h⟩
theorem get_iso : ∀ (l a : List Itm) (k : ByteArray), (∀ x ∈ l, getL a x.key = none) → (keysL l).Nodup → getL (isoA a l) k = match getL l k with | some v => some v | none => getL a k
  | [], a, k, _, _ => by simp [isoA, getL]
  | x :: l, a, k, ha, hn => by
    have hn2 : (keysL l).Nodup ∧ ∀ y ∈ l, y.key ≠ x.key := by
      unfold keysL at hn ⊢
      rw [List.map_cons, List.nodup_cons] at hn
      refine ⟨hn.2, fun y hy e => hn.1 ?_⟩
      rw [← e]
      exact List.mem_map_of_mem hy
    have ih := get_iso l (insR x.key x.val a) k (fun y hy => by
      rw [get_ins, if_neg (hn2.2 y hy)]
      exact ha y (by simp [hy])) hn2.1
    show getL (isoA (insR x.key x.val a) l) k = _
    rw [ih, getL_cons, get_ins]
    by_cases e : x.key = k
    · subst e
      rw [getL_none hn2.2, if_pos rfl, if_pos rfl]
    · rw [if_neg e, if_neg (fun h => e h.symm)]
theorem get_isoL {l : List Itm} (hn : (keysL l).Nodup) (k : ByteArray) : getL (isoL l) k = getL l k := by
  unfold isoL
  rw [get_iso l [] k (fun _ _ => rfl) hn]
  cases getL l k <;> rfl
theorem getL_key_iff (l : List Itm) (k : ByteArray) : (getL l k).isSome = true ↔ k ∈ keysL l := by
  induction l with
  | nil => simp [getL, keysL]
  | cons x l ih =>
    rw [getL_cons]
    unfold keysL at ih ⊢
    rw [List.map_cons, List.mem_cons]
    by_cases e : x.key = k
    · simp [e]
    · rw [if_neg e, ih]
      have : ¬ k = x.key := fun h => e h.symm
      simp [this]
theorem rises_nodup : ∀ {l : List Itm}, Rises l → (keysL l).Nodup
  | [], _ => List.nodup_nil
  | x :: l, h => by
    unfold keysL
    rw [List.map_cons, List.nodup_cons]
    refine ⟨fun hm => ?_, rises_nodup h.2⟩
    obtain ⟨y, hy, e⟩ := List.mem_map.1 hm
    exact h.tail_ne y hy e
theorem iso_perm {l l' : List Itm} (hp : l'.Perm l) (hr : Rises l') : l' = isoL l := by
  have hn : (keysL l).Nodup := ((hp.map Itm.key).nodup_iff).1 (rises_nodup hr)
  refine rises_ext hr (rises_iso l [] trivial) (fun k => ?_)
  rw [get_isoL hn]
  apply Option.ext
  intro v
  rw [getL_some_iff hr, hp.mem_iff]
  constructor
  · intro h
    have h1 : ∀ {l : List Itm} {x : Itm}, (keysL l).Nodup → x ∈ l → getL l x.key = some x.val := by
      intro l
      induction l with
      | nil => intro x _ h; cases h
      | cons y l ih =>
        intro x hn h
        unfold keysL at hn
        rw [List.map_cons, List.nodup_cons] at hn
        rw [getL_cons]
        rcases List.mem_cons.1 h with rfl | h
        · rw [if_pos rfl]
        · have hne : ¬ y.key = x.key := fun e => hn.1 (by rw [e]; exact List.mem_map_of_mem h)
          rw [if_neg hne]
          exact ih hn.2 h
    exact h1 hn h
  · exact getL_mem
theorem sorted_rises : ∀ {l : List Itm}, SortedL l → adjB l = false → Rises l
  | [], _, _ => trivial
  | [x], _, _ => ⟨fun y hy => (by cases hy), trivial⟩
  | x :: y :: l, hs, ha => by
    rw [adjB, Bool.or_eq_false_iff] at ha
    have ih : Rises (y :: l) := sorted_rises (fun i j a b hij h1 h2 => hs (i + 1) (j + 1) a b (by omega) (by simpa using h1) (by simpa using h2)) ha.2
    have h0 := hs 0 1 x y (by omega) rfl rfl
    have hxy : klt x.key y.key = true := by
      cases h : klt x.key y.key
      · have := klt_tri h0 h
        simp [this] at ha
      · rfl
    refine ⟨fun z hz => ?_, ih⟩
    rcases List.mem_cons.1 hz with rfl | hz
    · exact hxy
    · exact klt_trans hxy (ih.1 z hz)
theorem adj_dup {l : List Itm} (h : adjB l = true) : ¬ (keysL l).Nodup := by
  intro hn
  obtain ⟨k, x, y, h1, h2, h3⟩ := adj_of h
  have hk : k + 1 < (keysL l).length := by
    unfold keysL
    rw [List.length_map]
    exact (List.getElem?_eq_some_iff.1 h2).1
  have := (List.getElem_inj (h₀ := (by omega : k < (keysL l).length)) (h₁ := hk) hn).1 (by
    have e1 : (keysL l)[k]? = some x.key := by unfold keysL; rw [List.getElem?_map, h1]; rfl
    have e2 : (keysL l)[k + 1]? = some y.key := by unfold keysL; rw [List.getElem?_map, h2]; rfl
    have e3 : y.key = x.key := by simpa using h3
    rw [List.getElem?_eq_getElem (by omega)] at e1
    rw [List.getElem?_eq_getElem hk] at e2
    simp only [Option.some.injEq] at e1 e2
    rw [e1, e2, e3])
  omega
theorem bad_ok {l : List Itm} (h : l.any badI = false) : ∀ x ∈ l, x.ok := by
  intro x hx
  rw [List.any_eq_false] at h
  have := h x hx
  unfold badI at this
  unfold Itm.ok
  simpa using this
theorem iso_self {l : List Itm} (h : Rises l) : isoL l = l := (iso_perm (List.Perm.refl l) h).symm
theorem iso_snoc (l : List Itm) (x : Itm) : isoL (l ++ [x]) = insR x.key x.val (isoL l) := by simp [isoL, isoA, List.foldl_append]
theorem iso_take (l : List Itm) (k : Nat) (x : Itm) (h : l[k]? = some x) : isoL (l.take (k + 1)) = insR x.key x.val (isoL (l.take k)) := by
  rw [take_snoc' h, iso_snoc]
end Go.Proofs.YtdfgdnaejnngoaaGreat
namespace Go.Proofs.YtdfgdnaejnngoaaGreat
open Go.RowKit
/-! leaf.Of. -/
theorem collect_any (A : Option Addr) (cap Bs : Nat) (zs : List Itm) (w : World) (hl : zs.length ≤ 90000) (hBs : w.cell? ⟨Bs, 0, none⟩ = some (.slice A zs.length cap)) (hv : VI w.heap.size w A zs) :
    Calls Tryz.prog 113 #[.func (.func 115) #[] #[.pointer (some ⟨Bs, 0, none⟩)]] w fun e w' => ∃ A' cap', e = .returned (.slice A' zs.length cap') ∧ OwnsM w' w.heap.size (.slice A' zs.length cap') zs ∧ Below w.heap.size w w' := by
  have hc := callsIn_wide.1 (appendSeq_in A cap Bs zs w hl hBs hv)
  have HC := Lib.hid hc
  clear hc hBs hv
  go_enter Tryz.func113, Tryz.ntmps113
  go_wp2_with (go_at_call 130; (with_reducible refine HC.out.mono ?_); rintro e w1 ⟨v, rfl, ho1, hb1⟩; obtain ⟨A1, c1, rfl⟩ := ho1.slice)
  go_ret
  exact ⟨A1, c1, rfl, ho1, hb1⟩
theorem sort_all (B cap : Nat) (A : Option Addr) (l : List Itm) (w : World) (h : OwnsM w B (.slice A l.length cap) l) (hl : l.length ≤ 100000) :
    Calls Tryz.prog 114 #[.slice A l.length cap, .func (.func 86) #[] #[]] w
    fun e w' => e = .returned (.tuple #[]) ∧ ∃ l', l'.Perm l ∧ SortedL l' ∧ OwnsM w' B (.slice A l.length cap) l' ∧ Fr (fun k => (Value.slice A l.length cap).ownBlock = some k) w w' := by
  rcases h.2 with ⟨he, h0⟩ | ⟨g, cap', cur, he, _⟩
  · simp only [Value.slice.injEq] at he
    obtain ⟨rfl, _, rfl⟩ := he
    obtain rfl : l = [] := List.eq_nil_of_length_eq_zero h0
    refine Calls.mono (Go.Proofs.AnyF.slices_SortFunc_none Tryz.sortIt none 0 (.func (.func 86) #[] #[]) w) ?_
    rintro e w' ⟨rfl, rfl⟩
    exact ⟨rfl, [], List.Perm.refl _, fun i j x y _ hx => by simp at hx, h, Fr.refl _ _⟩
  · simp only [Value.slice.injEq] at he
    obtain ⟨rfl, _, rfl⟩ := he
    refine (sort_any B g cap l w h hl).mono ?_
    rintro e w' ⟨he, l', h1, h2, h3, h4⟩
    exact ⟨he, l', h1, h2, h3, h4.mono (fun k _ e => by subst e; rfl)⟩
theorem sorted_any (A : Option Addr) (cap Bs : Nat) (zs : List Itm) (w : World) (hl : zs.length ≤ 90000) (hBs : w.cell? ⟨Bs, 0, none⟩ = some (.slice A zs.length cap)) (hv : VI w.heap.size w A zs) :
    Calls Tryz.prog 84 #[.func (.func 115) #[] #[.pointer (some ⟨Bs, 0, none⟩)], .func (.func 86) #[] #[]] w fun e w' => ∃ A' cap' l', e = .returned (.slice A' zs.length cap') ∧ l'.Perm zs ∧ SortedL l' ∧ OwnsM w' w.heap.size (.slice A' zs.length cap') l' ∧ Below w.heap.size w w' := by
  have hc := collect_any A cap Bs zs w hl hBs hv
  have HC := Lib.hid hc
  have HS := Lib.hid (fun B cap A W (h : OwnsM W B (.slice A zs.length cap) zs) => sort_all B cap A zs W h (by omega))
  clear hc hBs hv
  go_enter Tryz.func84, Tryz.ntmps84
  go_wp2_with (first | (go_at_call 113; (with_reducible refine HC.out.mono ?_); rintro e w1 ⟨A1, c1, rfl, ho1, hb1⟩; have HB1 := Lib.hid hb1; have HO1 := Lib.hid ho1; clear hb1 ho1) | (go_at_call 114; (with_reducible refine (HS.out _ _ _ _ HO1.out).mono ?_); rintro e w2 ⟨rfl, l', h1, h2, h3, h4⟩))
  go_ret
  refine ⟨A1, c1, l', rfl, h1, h2, h3, HB1.out.trans (h4.to_below HB1.out.size (fun i hi e => ?_))⟩
  rcases HO1.out.2 with ⟨he, _⟩ | ⟨g, cap', cur, he, hb, _⟩
  · rw [he] at e; cases e
  · rw [he] at e
    simp only [Value.ownBlock, Option.some.injEq] at e
    omega
def OfRes (w : World) (zs : List Itm) (e : Ending) (w' : World) : Prop := Below w.heap.size w w' ∧ ((errL zs ≠ 0 ∧ e = .returned (.tuple #[.pointer none, .int .i64 (errL zs)])) ∨ (errL zs = 0 ∧ ∃ b A cap, e = .returned (.tuple #[.pointer (some ⟨b, 0, none⟩), .int .i64 0]) ∧ LeafAt w' b A cap (isoL zs) ∧ w.heap.size ≤ b))
def CmpAny (B : Nat) (A : Option Addr) (cap : Nat) (l : List Itm) (w : World) (e : Ending) (w' : World) : Prop := ∃ A2 m cap2, e = .returned (.slice A2 m cap2) ∧ decide ((m : Int) < (l.length : Int)) = adjB l ∧ Fr (fun k => (Value.slice A l.length cap).ownBlock = some k) w w' ∧ (adjB l = false → OwnsM w' B (.slice A l.length cap) l)
theorem compact_any (B cap : Nat) (A : Option Addr) (l : List Itm) (w : World) (h : OwnsM w B (.slice A l.length cap) l) (hl : l.length ≤ 100000) :
    Calls Tryz.prog 87 #[.slice A l.length cap, .func (.func 88) #[] #[]] w (CmpAny B A cap l w) := by
  by_cases h2 : l.length < 2
  · refine (compact_few A l.length cap _ w h2).mono ?_
    rintro e w' ⟨rfl, rfl⟩
    have ha : adjB l = false := by
      rcases l with _ | ⟨x, _ | ⟨y, l⟩⟩
      · rfl
      · rfl
      · simp at h2; omega
    exact ⟨A, l.length, cap, rfl, by rw [ha]; simp, Fr.refl _ _, fun _ => h⟩
  · rcases h.2 with ⟨he, h0⟩ | ⟨g, cap', cur, he, _⟩
    · omega
    · simp only [Value.slice.injEq] at he
      obtain ⟨rfl, _, rfl⟩ := he
      cases ha : adjB l with
      | false =>
        refine (compact_none g cap l w B h hl (by omega) ha).mono ?_
        rintro e w' ⟨rfl, hb⟩
        exact ⟨_, _, _, rfl, by rw [ha]; simp, Fr.of_below hb, fun _ => h.below hb⟩
      | true =>
        refine (compact_dup g cap l w B h hl ha).mono ?_
        rintro e w' ⟨m, cap', rfl, hm, hf⟩
        exact ⟨_, m, cap', rfl, by rw [ha]; simp; omega, hf.mono (fun k _ e => by subst e; rfl), fun h => by rw [ha] at h; cases h⟩
theorem badV_v (x : Itm) : badV x.v = badI x := rfl
set_option maxHeartbeats 1000000 in
set_option maxRecDepth 100000 in
theorem leafOf_any (A : Option Addr) (cap : Nat) (zs : List Itm) (w : World) (hel : Elems w A 2 (zs.map Itm.cells)) (hl : zs.length ≤ 90000) :
    Calls Tryz.prog 52 #[.slice A zs.length cap] w (OfRes w zs) := by
  have eg : ∀ args w, (callFunc 83 args).run Tryz.prog w = .ok (.enter 83 args) w := enters_of Tryz.func83 (by kernel_rfl) rfl
  have hcf := containsFunc_item A cap zs badV 83 #[] w eg (by omega) hel (fun W _ v hv => by
    obtain ⟨x, _, rfl⟩ := List.mem_map.1 hv
    exact isBad_any x W)
  have hany : (zs.any fun x => badV (Itm.v x)) = zs.any badI := rfl
  rw [hany] at hcf
  cases hbad : zs.any badI with
  | true =>
    rw [hbad] at hcf
    have he : errL zs = 1 := by unfold errL; rw [if_pos hbad]
    have HCF := Lib.hid hcf
    have HE := Lib.hid he
    clear hcf he hbad hany hel
    go_enter Tryz.func52, Tryz.ntmps52
    go_wp2_with (go_at_call 82; (with_reducible refine HCF.out.mono ?_); rintro e w1 ⟨rfl, hb1⟩)
    (try simp only [Exit.inBlock, Exit.then])
    refine bodyPost_ret (results_tmp2 rfl _ _ _) rfl ⟨hb1, .inl ⟨by rw [HE.out]; decide, by rw [HE.out]; rfl⟩⟩
  | false =>
    rw [hbad] at hcf
    have hok := bad_ok hbad
    have hE : errL zs = if (keysL zs).Nodup then 0 else 11 := by unfold errL; rw [if_neg (by rw [hbad]; decide)]
    have hEL := Lib.hid hel
    have hso : ∀ W, Below w.heap.size w W → ∀ W2, W.alloc (.cells #[.slice A zs.length cap] 29) = W2 → Calls Tryz.prog 84 #[.func (.func 115) #[] #[.pointer (some ⟨W.heap.size, 0, none⟩)], .func (.func 86) #[] #[]] W2 fun e w' => ∃ A' cap' l', e = .returned (.slice A' zs.length cap') ∧ l'.Perm zs ∧ SortedL l' ∧ OwnsM w' W2.heap.size (.slice A' zs.length cap') l' ∧ Below W2.heap.size W2 w' := by
      intro W hW W2 e
      subst e
      exact sorted_any A cap W.heap.size zs _ hl (by rw [Lib.cell_of_heap (heap_alloc_new W _)]; rfl) (VI.of ((hEL.out.below hW).below (Below.alloc (Below.refl _ W) (Nat.le_refl _) _)))
    have HCF := Lib.hid hcf
    have HS := Lib.hid hso
    have HE := Lib.hid hE
    have HOK := Lib.hid hok
    clear hcf hE hbad hany hel hso hok
    go_enter Tryz.func52, Tryz.ntmps52
    go_wp2_with fail
    refine Calls.mono HCF.out ?_
    rintro e w1 ⟨rfl, hb1⟩
    have HB1 := Lib.hid hb1
    clear hb1
    go_wp2_with fail
    refine Calls.mono (vals_any A zs.length cap _) ?_
    rintro e w2 ⟨rfl, hw2⟩
    have hso := HS.out w1 HB1.out w2 hw2
    have HB2 := Lib.hid (show Below w.heap.size w w2 by rw [← hw2]; exact below_alloc HB1.out)
    clear hw2 HS
    go_wp2_with fail
    refine Calls.mono hso ?_
    rintro e w3 ⟨A3, c3, l3, rfl, hp3, hs3, ho3, hb3⟩
    have hl3 : l3.length = zs.length := hp3.length_eq
    have HL3 := Lib.hid hl3
    rw [← hl3] at ho3
    have hco := compact_any w2.heap.size c3 A3 l3 w3 ho3 (by omega)
    rw [hl3] at hco
    have HCO := Lib.hid hco
    have HB3 := Lib.hid (below_next HB2.out hb3)
    have HP3 := Lib.hid hp3
    have HS3 := Lib.hid hs3
    have HO3 := Lib.hid ho3
    clear hso hp3 hs3 ho3 hb3 hl3 hco
    go_wp2_with fail
    refine Calls.mono HCO.out ?_
    rintro e w4 ⟨A4, m4, c4, rfl, hm4, hf4, ho4⟩
    have hb4 : Below w.heap.size w w4 := HB3.out.trans (hf4.to_below HB3.out.size (fun i hi e => by
      have hw2 := HB2.out.size
      rcases HO3.out.2 with ⟨he, _⟩ | ⟨g, cap', cur, he, hb, _⟩
      · rw [he] at e; cases e
      · rw [he] at e
        simp only [Value.ownBlock, Option.some.injEq] at e
        omega))
    have HB4 := Lib.hid hb4
    clear hb4 hf4
    cases ha : adjB l3 with
    | true =>
      rw [ha] at hm4
      rw [HL3.out] at hm4
      have hm5 : decide (m4 < zs.length) = true := by simpa using hm4
      clear hm4
      have hnd : ¬ (keysL zs).Nodup := fun hn => adj_dup ha (((HP3.out.map Itm.key).nodup_iff).2 hn)
      have he := HE.out
      rw [if_neg hnd] at he
      have HE2 := Lib.hid he
      clear he hnd ha ho4
      go_wp2
      (try simp only [Exit.inBlock, Exit.then])
      refine bodyPost_ret (results_tmp2 rfl _ _ _) rfl ⟨HB4.out, .inl ⟨by rw [HE2.out]; decide, by rw [HE2.out]; rfl⟩⟩
    | false =>
      rw [ha] at hm4
      rw [HL3.out] at hm4
      have hm5 : decide (m4 < zs.length) = false := by simpa using hm4
      clear hm4
      have how := ho4 ha
      have hri := sorted_rises HS3.out ha
      have hnd : (keysL zs).Nodup := ((HP3.out.map Itm.key).nodup_iff).1 (rises_nodup hri)
      have he := HE.out
      rw [if_pos hnd] at he
      have hnil : A3 = none → c3 = 0 := by
        intro e
        subst e
        rcases how.2 with ⟨he, _⟩ | ⟨g, cap', cur, he, _⟩
        · simp at he; exact he.2
        · simp at he
      have hma := made_any A3 c3 l3 w4 (how.elems Itm.clen) hri (fun x hx => HOK.out x (HP3.out.mem_iff.1 hx)) hnil (by rw [HL3.out]; omega)
      rw [HL3.out, iso_perm HP3.out hri] at hma
      have HE2 := Lib.hid he
      have HMA := Lib.hid hma
      clear he hnd ha ho4 how hri hma hnil
      go_wp2_with (go_at_call 89; (with_reducible refine HMA.out.mono ?_); rintro e w5 ⟨b5, rfl, hla, hle, hb5⟩)
      (try simp only [Exit.inBlock, Exit.then])
      refine bodyPost_ret (results_tmp2 rfl _ _ _) rfl ⟨below_next HB4.out hb5, .inr ⟨HE2.out, b5, A3, c3, rfl, hla, Nat.le_trans HB4.out.size hle⟩⟩
end Go.Proofs.YtdfgdnaejnngoaaGreat
namespace Go.Proofs.YtdfgdnaejnngoaaGreat
open Go.RowKit
/-! The document's messages: grangerref08.Sum, Apply. -/
theorem refSum_any (v u : ByteArray) (w : World) (h1 : v.size = 8) (h2 : u.size = 8) : Calls Tryz.prog 120 #[.string v, .string u] w fun e w' => e = .returned (.string (sumS v u)) ∧ Below w.heap.size w w' := by
  have hs : sumS v u = valB ((numOf v + numOf u) % 18446744073709551616) := by unfold sumS; rw [if_pos ⟨h1, h2⟩]
  have n1 := fun W => refNumber_yes v W h1
  have n2 := fun W => refNumber_yes u W h2
  have hv := fun W => refValue_any ((numOf v + numOf u) % 18446744073709551616) W (by omega)
  have hE : ((((numOf v + numOf u) % 18446744073709551616 : Nat)) : Int) = IntKind.u64.wrap ((numOf v : Int) + (numOf u : Int)) := by
    simp [IntKind.wrap, IntKind.signed, IntKind.bits]
  rw [hE] at hv
  have hv2 : ⟨(valBytes ((numOf v + numOf u) % 18446744073709551616)).toArray⟩ = sumS v u := hs.symm
  rw [hv2] at hv
  generalize sumS v u = R at hv ⊢
  generalize numOf v = a at *
  generalize numOf u = b at *
  have N1 := Lib.hid n1
  have N2 := Lib.hid n2
  have HV := Lib.hid hv
  clear n1 n2 hv hv2 hs h1 h2 hE
  go_enter Tryz.func120, Tryz.ntmps120
  go_wp2_with fail
  refine Calls.mono (N1.out _) ?_
  rintro e w1 ⟨rfl, hb1⟩
  go_wp2_with fail
  refine Calls.mono (N2.out _) ?_
  rintro e w2 ⟨rfl, hb2⟩
  go_wp2_with fail
  refine Calls.mono (HV.out _) ?_
  rintro e w3 ⟨rfl, hb3⟩
  have hb := below_next (below_next hb1 hb2) hb3
  clear hb1 hb2 hb3
  go_wp2
  go_ret
  exact ⟨rfl, hb⟩
theorem isMsg_kinds {x : Mg} (h : isMsg x = true) (h1 : x.kind ≠ 1) (h2 : x.kind ≠ 2) : x.kind = 3 ∧ x.val.size = 8 := by
  unfold isMsg at h
  simp only [Bool.and_eq_true, Bool.or_eq_true, decide_eq_true_eq] at h
  rcases h.2 with h | h | h
  · exact absurd h.1 h1
  · exact absurd h.1 h2
  · exact ⟨h.1, by omega⟩
set_option maxHeartbeats 1000000 in
set_option maxRecDepth 100000 in
theorem refApply_any (x : Mg) (o : Option ByteArray) (w : World) : Calls Tryz.prog 93 #[x.v, .string (strO o), .bool o.isSome] w fun e w' => e = .returned (.tuple #[.string (strO (applyO x o)), .bool (applyO x o).isSome]) ∧ Below w.heap.size w w' := by
  have hn := fun W => ref08Is_any x W
  have hkk := isMsg_kinds (x := x)
  have hap : applyO x o = if isMsg x = true then (if x.kind = 2 then none else if x.kind = 1 then some x.val else match o with | none => some x.val | some v => some (sumS v x.val)) else o := rfl
  generalize applyO x o = R at hap ⊢
  generalize isMsg x = im at hn hap hkk
  obtain ⟨kind, k, v⟩ := x
  rw [Mg.v_def] at hn ⊢
  dsimp only at hap hkk
  have HN := Lib.hid hn
  clear hn
  cases im
  · rw [if_neg (by decide)] at hap
    subst hap
    clear hkk
    cases R with
    | none =>
      go_enter Tryz.func93, Tryz.ntmps93
      go_wp2_with (go_at_call 60; (with_reducible refine (HN.out _).mono ?_); rintro e w1 ⟨rfl, hb1⟩)
      (try simp only [Exit.inBlock, Exit.then])
      refine bodyPost_ret (results_tmp2 rfl _ _ _) rfl ⟨rfl, below_next (by repeat (first | assumption | exact Below.refl _ _ | (refine below_step (w := ?_) ?_ ?_ ?_; rotate_left 2; assumption) | refine Below.drew ?_ | refine below_drewN ?_ _ | refine Below.alloc ?_ ?_ _ | refine Below.setCell ?_ ?_ _ | (focus (simp; done)) | (focus (simp; omega)) | omega)) hb1⟩
    | some u =>
      go_enter Tryz.func93, Tryz.ntmps93
      go_wp2_with (go_at_call 60; (with_reducible refine (HN.out _).mono ?_); rintro e w1 ⟨rfl, hb1⟩)
      (try simp only [Exit.inBlock, Exit.then])
      refine bodyPost_ret (results_tmp2 rfl _ _ _) rfl ⟨rfl, below_next (by repeat (first | assumption | exact Below.refl _ _ | (refine below_step (w := ?_) ?_ ?_ ?_; rotate_left 2; assumption) | refine Below.drew ?_ | refine below_drewN ?_ _ | refine Below.alloc ?_ ?_ _ | refine Below.setCell ?_ ?_ _ | (focus (simp; done)) | (focus (simp; omega)) | omega)) hb1⟩
  · rw [if_pos rfl] at hap
    by_cases h2 : kind = 2
    · rw [if_pos h2] at hap
      subst hap h2
      clear hkk
      go_enter Tryz.func93, Tryz.ntmps93
      go_wp2_with (go_at_call 60; (with_reducible refine (HN.out _).mono ?_); rintro e w1 ⟨rfl, hb1⟩; obtain ⟨c0, c1, c2⟩ := box3 hb1; have HB1 := Lib.hid (below_next (Below.alloc (Below.refl _ _) (Nat.le_refl _) _) hb1); clear hb1)
      (try simp only [Exit.inBlock, Exit.then])
      refine bodyPost_ret (results_tmp2 rfl _ _ _) rfl ⟨rfl, HB1.out⟩
    · rw [if_neg h2] at hap
      by_cases h1 : kind = 1
      · rw [if_pos h1] at hap
        subst hap h1
        clear h2 hkk
        go_enter Tryz.func93, Tryz.ntmps93
        go_wp2_with (go_at_call 60; (with_reducible refine (HN.out _).mono ?_); rintro e w1 ⟨rfl, hb1⟩; obtain ⟨c0, c1, c2⟩ := box3 hb1; have HB1 := Lib.hid (below_next (Below.alloc (Below.refl _ _) (Nat.le_refl _) _) hb1); clear hb1)
        (try simp only [Exit.inBlock, Exit.then])
        refine bodyPost_ret (results_tmp2 rfl _ _ _) rfl ⟨rfl, HB1.out⟩
      · rw [if_neg h1] at hap
        obtain ⟨rfl, hv8⟩ := hkk rfl h1 h2
        clear h1 h2 hkk
        cases o with
        | none =>
          dsimp only at hap
          subst hap
          clear hv8
          go_enter Tryz.func93, Tryz.ntmps93
          go_wp2_with (go_at_call 60; (with_reducible refine (HN.out _).mono ?_); rintro e w1 ⟨rfl, hb1⟩; obtain ⟨c0, c1, c2⟩ := box3 hb1; have HB1 := Lib.hid (below_next (Below.alloc (Below.refl _ _) (Nat.le_refl _) _) hb1); clear hb1)
          (try simp only [Exit.inBlock, Exit.then])
          refine bodyPost_ret (results_tmp2 rfl _ _ _) rfl ⟨rfl, HB1.out⟩
        | some u =>
          dsimp only at hap
          show Calls Tryz.prog 93 #[.agg #[.int .i64 3, .string k, .string v], .string u, .bool true] w _
          by_cases h8 : u.size = 8
          · have e8 : ((u.size : Int) == 8) = true := by simp; omega
            have hS := fun W => refSum_any u v W h8 hv8
            have HR := Lib.hid hap
            have HS := Lib.hid hS
            clear hS h8 hv8 hap
            go_enter Tryz.func93, Tryz.ntmps93
            go_wp2_with (first | (go_at_call 60; (with_reducible refine (HN.out _).mono ?_); rintro e w1 ⟨rfl, hb1⟩; obtain ⟨c0, c1, c2⟩ := box3 hb1; have HB1 := Lib.hid (below_next (Below.alloc (Below.refl _ _) (Nat.le_refl _) _) hb1); clear hb1) | (go_at_call 120; (with_reducible refine (HS.out _).mono ?_); rintro e w2 ⟨rfl, hb2⟩))
            (try simp only [Exit.inBlock, Exit.then])
            refine bodyPost_ret (results_tmp2 rfl _ _ _) rfl ⟨by rw [HR.out]; rfl, below_next HB1.out hb2⟩
          · have e8 : ((u.size : Int) == 8) = false := by simp; omega
            have hsu : sumS u v = u := by unfold sumS; rw [if_neg (fun h => h8 h.1)]
            rw [hsu] at hap
            subst hap
            clear hsu h8 hv8
            go_enter Tryz.func93, Tryz.ntmps93
            go_wp2_with (go_at_call 60; (with_reducible refine (HN.out _).mono ?_); rintro e w1 ⟨rfl, hb1⟩; obtain ⟨c0, c1, c2⟩ := box3 hb1; have HB1 := Lib.hid (below_next (Below.alloc (Below.refl _ _) (Nat.le_refl _) _) hb1); clear hb1)
            (try simp only [Exit.inBlock, Exit.then])
            refine bodyPost_ret (results_tmp2 rfl _ _ _) rfl ⟨rfl, HB1.out⟩
end Go.Proofs.YtdfgdnaejnngoaaGreat
namespace Go.Proofs.YtdfgdnaejnngoaaGreat
open Go.RowKit
/-! The document's leaves: grangerref09.Of. -/
theorem itm_row {w : World} {A : Option Addr} {l : List Itm} (h : Elems w A 2 (l.map Itm.cells)) {k : Nat} {x : Itm} (hx : l[k]? = some x) : ∃ b off, A = some ⟨b, off, none⟩ ∧ b < w.heap.size ∧ w.cell? ⟨b, off + k * 2, none⟩ = some (.string x.key) ∧ w.cell? ⟨b, off + k * 2 + 1, none⟩ = some (.string x.val) := by
  obtain ⟨b, off, e, hlt, hc⟩ := h k x.cells (by simp [hx])
  exact ⟨b, off, e, hlt, hc 0 _ rfl, hc 1 _ rfl⟩
theorem isVal_false {v : ByteArray} (h : isVal v = false) : 16 < (v.size : Int) := by unfold isVal at h; simpa using h
theorem isVal_true {v : ByteArray} (h : isVal v = true) : (v.size : Int) ≤ 16 := by unfold isVal at h; simpa using h
set_option maxHeartbeats 1000000 in
set_option maxRecDepth 100000 in
theorem refOf_bad (A : Option Addr) (cap : Nat) (zs : List Itm) (w : World) (hel : Elems w A 2 (zs.map Itm.cells)) (hl : zs.length ≤ 80000) (hbad : zs.any badI = true) :
    Calls Tryz.prog 69 #[.slice A zs.length cap] w fun e w' => e = .returned (.tuple #[.slice none 0 0, .int .i64 1]) ∧ Below w.heap.size w w' := by
  have HEL := Lib.hid hel
  have HB := Lib.hid hbad
  have HK := Lib.hid (fun k W => ref07Is_any k W)
  clear hel hbad
  go_enter Tryz.func69, Tryz.ntmps69
  go_wp2
  go_loopw [4] (fun i wr => ∃ k : Nat, i = .int .i64 k ∧ k ≤ zs.length ∧ (∀ (j : Nat) (x : Itm), j < k → zs[j]? = some x → badI x = false) ∧ Below w.heap.size w wr) (fun i _ => zs.length + 1 - (intOf i).toNat)
  case atStart => exact ⟨0, rfl, Nat.zero_le _, fun j x hj => by omega, (by repeat (first | assumption | exact Below.refl _ _ | (refine below_step (w := ?_) ?_ ?_ ?_; rotate_left 2; assumption) | refine Below.drew ?_ | refine below_drewN ?_ _ | refine Below.alloc ?_ ?_ _ | refine Below.setCell ?_ ?_ _ | (focus (simp; done)) | (focus (simp; omega)) | omega))⟩
  case round =>
    obtain ⟨k, rfl, hk, hno, hbel⟩ := hrel
    by_cases hkl : k < zs.length
    · have hkI : (k : Int) < (zs.length : Int) := by omega
      obtain ⟨x, hx⟩ := get_lt hkl
      obtain ⟨b, off, rfl, hblt, d0, d1⟩ := itm_row (HEL.out.below hbel) hx
      have hsn := fun hq => none_snoc (q := badI) hx hq hno
      have hd1 : ∀ W, Below wr.heap.size wr W → W.cell? ⟨b, off + k * 2 + 1, none⟩ = some (.string x.val) := fun W hW => (hW.cell (p := ⟨b, _, none⟩) hblt).trans d1
      have hI := fun W => HK.out x.key W
      have hbi : badI x = (!isKey x.key || !isVal x.val) := rfl
      generalize badI x = bx at hsn hbi
      obtain ⟨xk, xv⟩ := x
      dsimp only at d0 d1 hd1 hI hbi
      cases hik : isKey xk with
      | false =>
        rw [hik] at hI hbi
        have HI := Lib.hid hI
        clear hI hsn hno hx hik hd1 hbi
        go_wp2_with (go_at_call 66; (with_reducible refine (HI.out _).mono ?_); rintro e w1 ⟨rfl, hb1⟩)
        (try simp only [Exit.inBlock, Exit.then])
        refine bodyPost_ret (results_tmp2 rfl _ _ _) rfl ⟨rfl, below_next hbel hb1⟩
      | true =>
        rw [hik] at hI hbi
        have HI := Lib.hid hI
        have HD1 := Lib.hid hd1
        cases hiv : isVal xv with
        | false =>
          have hv := isVal_false hiv
          clear hI hsn hno hx hik hiv hd1 d1 hbi
          go_wp2_with (go_at_call 66; (with_reducible refine (HI.out _).mono ?_); rintro e w1 ⟨rfl, hb1⟩; have d1 := HD1.out _ hb1; have HB1 := Lib.hid (below_next hbel hb1); clear hb1)
          (try simp only [Exit.inBlock, Exit.then])
          refine bodyPost_ret (results_tmp2 rfl _ _ _) rfl ⟨rfl, HB1.out⟩
        | true =>
          rw [hiv] at hbi
          have hv := isVal_true hiv
          have HSN := Lib.hid (hsn hbi)
          clear hI hsn hno hx hik hiv hd1 d1 hbi
          go_wp2_with (go_at_call 66; (with_reducible refine (HI.out _).mono ?_); rintro e w1 ⟨rfl, hb1⟩; have d1 := HD1.out _ hb1; have HB1 := Lib.hid (below_next hbel hb1); clear hb1)
          refine ⟨⟨k + 1, by go_num, by omega, HSN.out, HB1.out⟩, ?_⟩
          simp [intOf]
          omega
    · exfalso
      have := any_none (l := zs) (q := badI) (k := k) (by omega) hno
      rw [HB.out] at this
      cases this
end Go.Proofs.YtdfgdnaejnngoaaGreat
namespace Go.Proofs.YtdfgdnaejnngoaaGreat
open Go.RowKit
/-! The document's leaves: grangerref09.Of, where no item is bad. -/
def RefOf (zs : List Itm) (w : World) (e : Ending) (w' : World) : Prop := Below w.heap.size w w' ∧ ((errL zs ≠ 0 ∧ e = .returned (.tuple #[.slice none 0 0, .int .i64 (errL zs)])) ∨ (errL zs = 0 ∧ ∃ A cap, e = .returned (.tuple #[.slice A zs.length cap, .int .i64 0]) ∧ OwnsM w' w.heap.size (.slice A zs.length cap) (isoL zs)))
theorem iso_len_le : ∀ (l a : List Itm), Rises a → (isoA a l).length ≤ a.length + l.length
  | [], a, _ => Nat.le_refl _
  | x :: l, a, h => by
    have h1 := iso_len_le l (insR x.key x.val a) (rises_ins _ _ h)
    have h2 := len_ins x.key x.val h
    show (isoA (insR x.key x.val a) l).length ≤ _
    rw [List.length_cons]
    split at h2 <;> omega
theorem iso_len {l : List Itm} (h : (keysL l).Nodup) : (isoL l).length = l.length := by
  have h1 : ∀ (l a : List Itm), Rises a → (∀ x ∈ l, getL a x.key = none) → (keysL l).Nodup → (isoA a l).length = a.length + l.length := by
    intro l
    induction l with
    | nil => intro a _ _ _; rfl
    | cons x l ih =>
      intro a ha hn hd
      unfold keysL at hd
      rw [List.map_cons, List.nodup_cons] at hd
      show (isoA (insR x.key x.val a) l).length = _
      rw [ih _ (rises_ins _ _ ha) (fun y hy => by
        rw [get_ins, if_neg (fun e => hd.1 (by rw [← e]; exact List.mem_map_of_mem hy))]
        exact hn y (by simp [hy])) hd.2, len_ins _ _ ha, hn x (by simp), List.length_cons]
      simp
      omega
  have := h1 l [] trivial (fun _ _ => rfl) h
  simp only [List.length_nil, Nat.zero_add] at this
  exact this
theorem nodup_take_succ {l : List Itm} {k : Nat} {x : Itm} (hx : l[k]? = some x) (h : (keysL (l.take k)).Nodup) (hn : getL (isoL (l.take k)) x.key = none) : (keysL (l.take (k + 1))).Nodup := by
  rw [take_snoc' hx]
  unfold keysL at *
  rw [List.map_append]
  refine List.nodup_append.2 ⟨h, by simp, fun a ha b hb => ?_⟩
  rintro rfl
  simp only [List.map_cons, List.map_nil, List.mem_singleton] at hb
  subst hb
  rw [get_isoL h] at hn
  have := (getL_key_iff (l.take k) x.key).2 ha
  rw [hn] at this
  cases this
theorem not_nodup {l : List Itm} {k : Nat} {x : Itm} (hx : l[k]? = some x) (h : (keysL (l.take k)).Nodup) (hn : (getL (isoL (l.take k)) x.key).isSome = true) : ¬ (keysL l).Nodup := by
  intro hd
  rw [get_isoL h, getL_key_iff] at hn
  have h1 : (keysL (l.take (k + 1))).Nodup := by
    unfold keysL at *
    exact hd.sublist ((List.take_sublist _ _).map _)
  rw [take_snoc' hx] at h1
  unfold keysL at *
  rw [List.map_append, List.nodup_append] at h1
  exact h1.2.2 x.key hn x.key (by simp) rfl
theorem lb_of {l : List Itm} (hr : Rises l) {k : ByteArray} {a : Nat} (ha : a ≤ l.length) (hne : ∀ (i : Nat) (y : Itm), l[i]? = some y → y.key ≠ k) (hlo : ∀ (i : Nat) (y : Itm), i < a → l[i]? = some y → klt k y.key = false) (hhi : ∀ y, l[a]? = some y → klt k y.key = true) : lb l k = a ∧ hasK l k = false := by
  have h := lb_eq l k a ha (fun j x hj hx => by
    cases h : klt x.key k
    · exact absurd (klt_tri h (hlo j x hj hx)) (hne j x hx)
    · rfl) (fun j x hj hx => by
    have hal : a < l.length := by have := (List.getElem?_eq_some_iff.1 hx).1; omega
    obtain ⟨y, hy⟩ := get_lt hal
    have hy1 := hhi y hy
    by_cases e : j = a
    · subst e
      rw [hx] at hy
      cases hy
      exact klt_asym hy1
    · exact klt_asym (klt_trans hy1 (hr.get (by omega) hy hx)))
  refine ⟨h, ?_⟩
  rw [hasK_get k hr]
  have : getL l k = none := getL_none (fun y hy => by
    obtain ⟨i, hi⟩ := List.getElem?_of_mem hy
    exact hne i y hi)
  rw [this]
  rfl
/-- one place further on, step by step -/
def shf (o : List Itm) (m : Nat) (y : Itm) : List Itm := o.take m ++ y :: o.drop m
theorem shf_len (o : List Itm) (m : Nat) (y : Itm) (h : m ≤ o.length) : (shf o m y).length = o.length + 1 := by
  unfold shf
  rw [List.length_append, List.length_cons, List.length_take, List.length_drop]
  omega
theorem shf_at {o : List Itm} {m : Nat} {y z : Itm} (hz : o[m]? = some z) : (shf o (m + 1) y)[m]? = some z := by
  unfold shf
  have hm := (List.getElem?_eq_some_iff.1 hz).1
  rw [List.getElem?_append_left (by rw [List.length_take]; omega), List.getElem?_take, if_pos (by omega)]
  exact hz
theorem shf_set {o : List Itm} {m : Nat} (y z : Itm) (hm : m ≤ o.length) : (shf o m y).set m z = shf o m z := by
  unfold shf
  have hl : (o.take m).length = m := by rw [List.length_take]; omega
  rw [List.set_append_right _ _ (by omega), hl, Nat.sub_self, List.set_cons_zero]
theorem shf_down {o : List Itm} {m : Nat} {y z : Itm} (hz : o[m]? = some z) : (shf o (m + 1) y).set (m + 1) z = shf o m z := by
  have hm := (List.getElem?_eq_some_iff.1 hz).1
  rw [shf_set y z (by omega)]
  unfold shf
  rw [take_snoc' hz, List.drop_eq_getElem_cons hm]
  have hg : o[m] = z := (List.getElem?_eq_some_iff.1 hz).2
  rw [hg, List.append_assoc]
  rfl
theorem shf_ins (o : List Itm) (m : Nat) (y : Itm) (h : m ≤ o.length) : shf o m y = o.insertIdx m y := (insertIdx_eq y o m h).symm
end Go.Proofs.YtdfgdnaejnngoaaGreat
namespace Go.Proofs.YtdfgdnaejnngoaaGreat
open Go.RowKit
/-! The document's leaves: grangerref09.Of, the walk. -/
theorem eqB {a b : ByteArray} : (a.toList == b.toList) = decide (a = b) := by
  rw [Bool.eq_iff_iff]
  simp [bytes_inj]
set_option maxHeartbeats 4000000 in
set_option maxRecDepth 100000 in
theorem refOf_ok (A : Option Addr) (cap : Nat) (zs : List Itm) (w : World) (hel : Elems w A 2 (zs.map Itm.cells)) (hl : zs.length ≤ 80000) (hbad : zs.any badI = false) :
    Calls Tryz.prog 69 #[.slice A zs.length cap] w (RefOf zs w) := by
  have hE : errL zs = if (keysL zs).Nodup then 0 else 11 := by unfold errL; rw [if_neg (by rw [hbad]; decide)]
  have HE := Lib.hid hE
  have HEL := Lib.hid hel
  have HOK := Lib.hid (bad_ok hbad)
  have HK := Lib.hid (fun k W => ref07Is_any k W)
  clear hel hbad hE
  go_enter Tryz.func69, Tryz.ntmps69
  go_wp2
  go_loopw [4] (fun i wr => ∃ k : Nat, i = .int .i64 k ∧ k ≤ zs.length ∧ Below w.heap.size w wr) (fun i _ => zs.length + 1 - (intOf i).toNat)
  case atStart => exact ⟨0, rfl, Nat.zero_le _, (by repeat (first | assumption | exact Below.refl _ _ | (refine below_step (w := ?_) ?_ ?_ ?_; rotate_left 2; assumption) | refine Below.drew ?_ | refine below_drewN ?_ _ | refine Below.alloc ?_ ?_ _ | refine Below.setCell ?_ ?_ _ | (focus (simp; done)) | (focus (simp; omega)) | omega))⟩
  case round =>
    obtain ⟨k, rfl, hk, hbel⟩ := hrel
    by_cases hkl : k < zs.length
    · have hkI : (k : Int) < (zs.length : Int) := by omega
      obtain ⟨x, hx⟩ := get_lt hkl
      obtain ⟨b, off, rfl, hblt, d0, d1⟩ := itm_row (HEL.out.below hbel) hx
      have hd1 : ∀ W, Below wr.heap.size wr W → W.cell? ⟨b, off + k * 2 + 1, none⟩ = some (.string x.val) := fun W hW => (hW.cell (p := ⟨b, _, none⟩) hblt).trans d1
      have hI := fun W => HK.out x.key W
      obtain ⟨hik, hiv⟩ := HOK.out x (List.mem_of_getElem? hx)
      rw [hik] at hI
      have hv := isVal_true hiv
      obtain ⟨xk, xv⟩ := x
      dsimp only at d0 d1 hd1 hI hv
      have HI := Lib.hid hI
      have HD1 := Lib.hid hd1
      clear hI hx hik hiv hd1 d1
      go_wp2_with (go_at_call 66; (with_reducible refine (HI.out _).mono ?_); rintro e w1 ⟨rfl, hb1⟩; have d1 := HD1.out _ hb1; have HB1 := Lib.hid (below_next hbel hb1); clear hb1)
      refine ⟨⟨k + 1, by go_num, by omega, HB1.out⟩, ?_⟩
      simp [intOf]
      omega
    · obtain rfl : k = zs.length := by omega
      go_wp2
      have how0 : OwnsM (wr.alloc (.cells #[] 41)) w.heap.size (.slice (some ⟨wr.heap.size, 0, none⟩) (isoL (zs.take 0)).length 0) (isoL (zs.take 0)) := OwnsG.empty (heap_alloc_new wr _) hbel.size
      have hb0 : Below w.heap.size w (wr.alloc (.cells #[] 41)) := below_alloc hbel
      have HOW0 := Lib.hid how0
      have HB0 := Lib.hid hb0
      clear how0 hb0 hbel
      go_loopw [6, 5, 7, 8, 9] (fun i v _ _ _ wr => ∃ (k c2 : Nat) (A2 : Option Addr), i = .int .i64 k ∧ k ≤ zs.length ∧ v = .slice A2 (isoL (zs.take k)).length c2 ∧ OwnsM wr w.heap.size (.slice A2 (isoL (zs.take k)).length c2) (isoL (zs.take k)) ∧ (keysL (zs.take k)).Nodup ∧ Below w.heap.size w wr) (fun i _ _ _ _ _ => zs.length + 1 - (intOf i).toNat)
      case atStart => exact ⟨0, 0, some ⟨wr.heap.size, 0, none⟩, rfl, Nat.zero_le _, rfl, HOW0.out, List.nodup_nil, HB0.out⟩
      case round =>
        obtain ⟨k, c2, A2, rfl, hk, rfl, how, hnd, hbel⟩ := hrel
        by_cases hkl : k < zs.length
        · have hkI : (k : Int) < (zs.length : Int) := by omega
          obtain ⟨x, hx⟩ := get_lt hkl
          obtain ⟨b, off, rfl, hblt, d0, d1⟩ := itm_row HEL.out hx
          have hxc : ∀ W, Below w.heap.size w W → W.cell? ⟨b, off + k * 2, none⟩ = some (.string x.key) ∧ W.cell? ⟨b, off + k * 2 + 1, none⟩ = some (.string x.val) := fun W hW => ⟨(hW.cell (p := ⟨b, _, none⟩) hblt).trans d0, (hW.cell (p := ⟨b, _, none⟩) hblt).trans d1⟩
          have hri : Rises (isoL (zs.take k)) := rises_iso _ _ trivial
          have hol : (isoL (zs.take k)).length ≤ 80000 := by
            have := iso_len_le (zs.take k) [] trivial
            rw [List.length_take] at this
            simp only [List.length_nil] at this
            show (isoA [] (zs.take k)).length ≤ _
            omega
          have hdup := fun h => not_nodup hx hnd h
          have hnx := fun h => nodup_take_succ hx hnd h
          have hit := iso_take zs k x hx
          have HXC := Lib.hid hxc
          have HDUP := Lib.hid hdup
          have HNX := Lib.hid hnx
          have HIT := Lib.hid hit
          have HRI := Lib.hid hri
          have HOW := Lib.hid how
          have HBEL := Lib.hid hbel
          clear hxc hdup hnx hit hri how hbel d0 d1 hx hnd
          generalize isoL (zs.take k) = o at *
          go_wp2
          go_loopw [8, 7] (fun p a wr2 => ∃ j at_ : Nat, p = .int .i64 ((j : Int) - 1) ∧ a = .int .i64 at_ ∧ j ≤ o.length ∧ at_ ≤ o.length ∧ (∀ (i : Nat) (y : Itm), j ≤ i → o[i]? = some y → y.key ≠ x.key) ∧ (∀ (i : Nat) (y : Itm), j ≤ i → i < at_ → o[i]? = some y → klt x.key y.key = false) ∧ (∀ y, o[at_]? = some y → klt x.key y.key = true) ∧ Below wr.heap.size wr wr2) (fun p _ _ => (intOf p + 1).toNat)
          case atStart => exact ⟨o.length, o.length, rfl, rfl, Nat.le_refl _, Nat.le_refl _, fun i y hi hy => by have := (List.getElem?_eq_some_iff.1 hy).1; omega, fun i y hi _ hy => by have := (List.getElem?_eq_some_iff.1 hy).1; omega, fun y hy => by simp at hy, Below.refl _ _⟩
          case round =>
            obtain ⟨j, at_, rfl, rfl, hj, hat, hne, hlo, hhi, hb2⟩ := hrel
            rcases j with _ | j
            · have e1 : ((0 : Nat) : Int) - 1 = -1 := by omega
              rw [e1]
              obtain ⟨hlb, hhk⟩ := lb_of HRI.out hat (fun i y => hne i y (Nat.zero_le _)) (fun i y => hlo i y (Nat.zero_le _)) hhi
              have hins := insert_ins x.key x.val HRI.out hhk
              rw [hlb] at hins
              have hgn : getL o x.key = none := by
                have := hasK_get x.key HRI.out
                rw [hhk] at this
                cases h : getL o x.key
                · rfl
                · rw [h] at this; cases this
              have hnd2 := HNX.out hgn
              have how2 := (HOW.out.below hb2).alloc (.cells #[.string ⟨#[]⟩, .string ⟨#[]⟩] 41)
              have hbw : w.heap.size ≤ (wr.alloc (.cells #[.string ⟨#[]⟩, .string ⟨#[]⟩] 41)).heap.size := Nat.le_trans (HBEL.out.trans (hb2.mono HBEL.out.size)).size (by simp)
              have hbel3 : Below w.heap.size w (wr.alloc (.cells #[.string ⟨#[]⟩, .string ⟨#[]⟩] 41)) := below_alloc (below_next HBEL.out hb2)
              have HO2 := Lib.hid how2
              have HN2 := Lib.hid hnd2
              have HINS := Lib.hid hins
              have HB3 := Lib.hid hbel3
              have HBW := Lib.hid hbw
              have HXC2 := Lib.hid (fun W hW => HXC.out W hW)
              have HZ := Lib.hid (ItmAt.cells (x := ⟨⟨#[]⟩, ⟨#[]⟩⟩) (T := 41) (heap_alloc_new wr _))
              clear hlb hhk hins hgn hnd2 how2 hbw hbel3 e1 hne hlo hhi hb2
              go_wp2_with (at_builtin; refine itm_append rfl (some 74) rfl _ _ rfl w.heap.size (.slice A2 o.length c2) o [⟨⟨#[]⟩, ⟨#[]⟩⟩] 1 ⟨wr.heap.size, 0, none⟩ 1 rfl rfl rfl HO2.out (by simpa using HZ.out) (by simp; omega) HBW.out (o.length + 1) (by simp) ?_)
              intro A3 c3 w3 ho3 hf3
              have hsh : o ++ [⟨⟨#[]⟩, ⟨#[]⟩⟩] = shf o o.length ⟨⟨#[]⟩, ⟨#[]⟩⟩ := by unfold shf; simp
              rw [hsh] at ho3
              have hb4 : Below w.heap.size w w3 := HB3.out.trans (hf3.to_below HBW.out (fun q hq e => by
                rcases HO2.out.2 with ⟨he, _⟩ | ⟨g, cap', cur, he, hb, _⟩
                · rw [he] at e; cases e
                · rw [he] at e
                  simp only [Value.ownBlock, Option.some.injEq] at e
                  omega))
              have HO3 := Lib.hid ho3
              have HB4 := Lib.hid hb4
              clear ho3 hb4 hf3 hsh
              go_wp2
              go_loopw [9] (fun p wr => ∃ (m : Nat) (y : Itm), p = .int .i64 m ∧ at_ ≤ m ∧ m ≤ o.length ∧ OwnsM wr w.heap.size (.slice A3 (o.length + 1) c3) (shf o m y) ∧ Below w.heap.size w wr) (fun p _ => (intOf p).toNat)
              case atStart => exact ⟨o.length, _, by go_num, hat, Nat.le_refl _, HO3.out, HB4.out⟩
              case round =>
                obtain ⟨m, y, rfl, ham, hmo, how4, hbel4⟩ := hrel
                have hsl := shf_len o m y hmo
                by_cases hma : at_ < m
                · obtain ⟨m', hmm⟩ : ∃ m', m = m' + 1 := ⟨m - 1, by omega⟩
                  obtain ⟨z, hz⟩ := get_lt (l := o) (i := m') (by omega)
                  have hz2 : (shf o m y)[m']? = some z := by rw [hmm]; exact shf_at hz
                  obtain ⟨y', hy'⟩ := get_lt (l := shf o m y) (i := m) (by omega)
                  obtain ⟨g, rfl, hBg, hglt, hgc, hcz⟩ := how4.row Itm.clen hz2
                  obtain ⟨g2, e2, _, _, _, hcy⟩ := how4.row Itm.clen hy'
                  cases e2
                  have x0 := hcz 0 _ rfl
                  have x1 := hcz 1 _ rfl
                  have y0 := hcy 0 _ rfl
                  have y1 := hcy 1 _ rfl
                  simp only [Nat.add_zero] at x0 y0
                  have f0 := how4.unfrozen (m * 2)
                  have f1 := how4.unfrozen (m * 2 + 1)
                  have y1' : (wr.setCell ⟨g, m * 2, none⟩ (.string z.key)).cell? ⟨g, m * 2 + 1, none⟩ = some (.string y'.val) := by rw [World.cell?_setCell_other _ _ _ _ (by simp)]; exact y1
                  have hmI : (m : Int) < (o.length : Int) + 1 := by omega
                  have hmI' : (m' : Int) < (o.length : Int) + 1 := by omega
                  have hamI : (at_ : Int) < (m : Int) := by omega
                  have hw1 : (m : Int) - 1 = (m' : Int) := by omega
                  have hwr := how4.write Itm.clen (i := m) (by omega) z
                  have hf : Fr (fun q => q = g) wr (wrW wr g (m * 2) (Itm.cells z)) := wrW_fr (g := g) _ wr (m * 2)
                  have hwb : Below w.heap.size w (wrW wr g (m * 2) (Itm.cells z)) := hbel4.trans (hf.to_below hbel4.size (fun q hq e => by omega))
                  have hsd : (shf o m y).set m z = shf o m' z := by rw [hmm]; exact shf_down hz
                  rw [hsd] at hwr
                  have HWR := Lib.hid hwr
                  have HWB := Lib.hid hwb
                  have HMM := Lib.hid hmm
                  clear hwr hwb hf hcy hcz hy' hz2 how4 hbel4 hsl hsd hmm
                  obtain ⟨zk, zv⟩ := z
                  dsimp only at x0 x1 y1'
                  go_wp2
                  refine ⟨⟨m', ⟨zk, zv⟩, by go_num, by have := HMM.out; omega, by have := HMM.out; omega, HWR.out, HWB.out⟩, ?_⟩
                  simp [intOf]
                  omega
                · obtain rfl : m = at_ := by omega
                  obtain ⟨x0, x1⟩ := HXC2.out wr hbel4
                  obtain ⟨y', hy'⟩ := get_lt (l := shf o m y) (i := m) (by omega)
                  obtain ⟨g, rfl, hBg, hglt, hgc, hcy⟩ := how4.row Itm.clen hy'
                  have y0 := hcy 0 _ rfl
                  have y1 := hcy 1 _ rfl
                  simp only [Nat.add_zero] at y0
                  have f0 := how4.unfrozen (m * 2)
                  have f1 := how4.unfrozen (m * 2 + 1)
                  have y1' : (wr.setCell ⟨g, m * 2, none⟩ (.string x.key)).cell? ⟨g, m * 2 + 1, none⟩ = some (.string y'.val) := by rw [World.cell?_setCell_other _ _ _ _ (by simp)]; exact y1
                  have hmI : (m : Int) < (o.length : Int) + 1 := by omega
                  have hwr := how4.write Itm.clen (i := m) (by omega) x
                  have hf : Fr (fun q => q = g) wr (wrW wr g (m * 2) (Itm.cells x)) := wrW_fr (g := g) _ wr (m * 2)
                  have hwb : Below w.heap.size w (wrW wr g (m * 2) (Itm.cells x)) := hbel4.trans (hf.to_below hbel4.size (fun q hq e => by omega))
                  rw [shf_set y x hmo, shf_ins o m x hmo, HINS.out] at hwr
                  have hil : (isoL (zs.take (k + 1))).length = o.length + 1 := by rw [HIT.out, ← HINS.out, insertIdx_len x o m hmo]
                  have HWR := Lib.hid hwr
                  have HWB := Lib.hid hwb
                  have HIL := Lib.hid hil
                  clear hwr hwb hf hcy hy' how4 hbel4 hsl hil
                  obtain ⟨xk, xv⟩ := x
                  dsimp only at x0 x1 y1'
                  go_wp2
                  refine ⟨⟨k + 1, c3, some ⟨g, 0, none⟩, by go_num, by omega, by rw [HIL.out], by rw [HIL.out, HIT.out]; exact HWR.out, HN2.out, HWB.out⟩, ?_⟩
                  simp [intOf]
                  omega
            · have e1 : ((j + 1 : Nat) : Int) - 1 = (j : Int) := by omega
              rw [e1]
              clear e1
              obtain ⟨y, hy⟩ := get_lt (l := o) (i := j) (by omega)
              obtain ⟨g, rfl, hBg, hglt, hgc, hcy⟩ := (HOW.out.below hb2).row Itm.clen hy
              have y0 := hcy 0 _ rfl
              obtain ⟨x0, x1⟩ := HXC.out wr (below_next HBEL.out hb2)
              simp only [Nat.add_zero] at y0
              have hjI : (j : Int) < (o.length : Int) := by omega
              have hq : (y.key.toList == x.key.toList) = decide (y.key = x.key) := eqB
              have hlt : Op.bytesLess x.key.toList y.key.toList = klt x.key y.key := rfl
              by_cases hyx : y.key = x.key
              · have hds : (getL o x.key).isSome = true := by
                  have := getL_of_mem HRI.out (List.mem_of_getElem? hy)
                  rw [hyx] at this
                  rw [this]
                  rfl
                have he := HE.out
                rw [if_neg (HDUP.out hds)] at he
                have HE2 := Lib.hid he
                have hbf : Below w.heap.size w wr := below_next HBEL.out hb2
                have HBF := Lib.hid hbf
                rw [decide_eq_true hyx] at hq
                clear he hds hyx hlt hcy hy hne hlo hhi hb2 hbf
                obtain ⟨yk, yv⟩ := y
                dsimp only at y0 hq
                go_wp2
                go_quiet (fail)
                go_wp2
                (try simp only [Exit.inBlock, Exit.then])
                refine bodyPost_ret (results_tmp2 rfl _ _ _) rfl ⟨below_drewN HBF.out _, .inl ⟨by rw [HE2.out]; decide, by rw [HE2.out]; rfl⟩⟩
              · rw [decide_eq_false hyx] at hq
                cases hk2 : klt x.key y.key with
                | false =>
                  rw [hk2] at hlt
                  have hlt2 : Op.bytesLess y.key.toList x.key.toList = true := by
                    show klt y.key x.key = true
                    cases h : klt y.key x.key
                    · exact absurd (klt_tri h hk2) hyx
                    · rfl
                  have hrel2 : (∀ (i : Nat) (y : Itm), j ≤ i → o[i]? = some y → y.key ≠ x.key) ∧ (∀ (i : Nat) (y : Itm), j ≤ i → i < at_ → o[i]? = some y → klt x.key y.key = false) := by
                    refine ⟨fun i z hi hz => ?_, fun i z hi hia hz => ?_⟩
                    · by_cases e : i = j
                      · subst e
                        rw [hy] at hz
                        cases hz
                        exact hyx
                      · exact hne i z (by omega) hz
                    · by_cases e : i = j
                      · subst e
                        rw [hy] at hz
                        cases hz
                        exact hk2
                      · exact hlo i z (by omega) hia hz
                  have HR2 := Lib.hid hrel2
                  have HHI := Lib.hid hhi
                  have HB2 := Lib.hid hb2
                  clear hrel2 hyx hk2 hcy hy hne hlo hhi hb2
                  obtain ⟨yk, yv⟩ := y
                  dsimp only at y0 hq hlt hlt2
                  go_wp2
                  go_quiet (fail)
                  go_wp2
                  go_quiet (fail)
                  go_wp2
                  refine ⟨⟨j, at_, by go_num, rfl, by omega, hat, HR2.out.1, HR2.out.2, HHI.out, below_drewN HB2.out _⟩, ?_⟩
                  simp [intOf]
                | true =>
                  rw [hk2] at hlt
                  have hlt2 : Op.bytesLess y.key.toList x.key.toList = false := klt_asym hk2
                  have hrel2 : (∀ (i : Nat) (y : Itm), j ≤ i → o[i]? = some y → y.key ≠ x.key) ∧ (∀ z, o[j]? = some z → klt x.key z.key = true) := by
                    refine ⟨fun i z hi hz => ?_, fun z hz => ?_⟩
                    · by_cases e : i = j
                      · subst e
                        rw [hy] at hz
                        cases hz
                        exact hyx
                      · exact hne i z (by omega) hz
                    · rw [hy] at hz
                      cases hz
                      exact hk2
                  have HR2 := Lib.hid hrel2
                  have HB2 := Lib.hid hb2
                  clear hrel2 hyx hk2 hcy hy hne hlo hhi hb2
                  obtain ⟨yk, yv⟩ := y
                  dsimp only at y0 hq hlt hlt2
                  go_wp2
                  go_quiet (fail)
                  go_wp2
                  go_quiet (fail)
                  go_wp2
                  refine ⟨⟨j, j, by go_num, rfl, by omega, by omega, HR2.out.1, fun i z hi hij => by omega, HR2.out.2, below_drewN HB2.out _⟩, ?_⟩
                  simp [intOf]
        · obtain rfl : k = zs.length := by omega
          rw [List.take_length] at how hnd
          have he := HE.out
          rw [if_pos hnd] at he
          have hlen := iso_len hnd
          rw [hlen] at how
          have HE2 := Lib.hid he
          have HOW := Lib.hid how
          have HB2 := Lib.hid hbel
          rw [List.take_length, hlen]
          clear he how hnd hbel hlen
          go_wp2
          (try simp only [Exit.inBlock, Exit.then])
          refine bodyPost_ret (results_tmp2 rfl _ _ _) rfl ⟨HB2.out, .inr ⟨HE2.out, A2, c2, rfl, HOW.out⟩⟩
end Go.Proofs.YtdfgdnaejnngoaaGreat
namespace Go.Proofs.YtdfgdnaejnngoaaGreat
open Go.RowKit
/-! The document's leaves: grangerref09.With. -/
theorem refOf_any (A : Option Addr) (cap : Nat) (zs : List Itm) (w : World) (hel : Elems w A 2 (zs.map Itm.cells)) (hl : zs.length ≤ 80000) : Calls Tryz.prog 69 #[.slice A zs.length cap] w (RefOf zs w) := by
  cases hb : zs.any badI with
  | false => exact refOf_ok A cap zs w hel hl hb
  | true =>
    have he : errL zs = 1 := by unfold errL; rw [if_pos hb]
    refine (refOf_bad A cap zs w hel hl hb).mono ?_
    rintro e w' ⟨rfl, hb'⟩
    exact ⟨hb', .inl ⟨by rw [he]; decide, by rw [he]⟩⟩
theorem getL_append (a b : List Itm) (k : ByteArray) : getL (a ++ b) k = match getL a k with | some v => some v | none => getL b k := by
  induction a with
  | nil => simp [getL]
  | cons x a ih =>
    rw [List.cons_append, getL_cons, getL_cons]
    by_cases e : x.key = k
    · simp [e]
    · rw [if_neg e, if_neg e, ih]
theorem get_take {l : List Itm} (hr : Rises l) {k : Nat} {y : Itm} (hy : l[k]? = some y) (key : ByteArray) : getL (l.take (k + 1)) key = if y.key = key then some y.val else getL (l.take k) key := by
  rw [take_snoc' hy, getL_append]
  by_cases e : y.key = key
  · subst e
    have : getL (l.take k) y.key = none := getL_none (fun z hz => by
      obtain ⟨i, hi⟩ := List.getElem?_of_mem hz
      have hik : i < k := by have := (List.getElem?_eq_some_iff.1 hi).1; rw [List.length_take] at this; omega
      rw [List.getElem?_take, if_pos hik] at hi
      exact klt_ne (hr.get hik hi hy))
    rw [this, if_pos rfl, getL_cons, if_pos rfl]
  · rw [if_neg e, getL_cons, if_neg e, getL_nil]
    cases getL (l.take k) key <;> rfl
theorem del_take {l : List Itm} {k : Nat} {y : Itm} (hy : l[k]? = some y) (key : ByteArray) : delR key (l.take (k + 1)) = if y.key = key then delR key (l.take k) else delR key (l.take k) ++ [y] := by
  unfold delR
  rw [take_snoc' hy, List.filter_append]
  by_cases e : y.key = key
  · rw [if_pos e]; simp [e]
  · rw [if_neg e]; simp [e]
theorem ins_del {l : List Itm} (hr : Rises l) (k v : ByteArray) : insR k v (delR k l) = insR k v l := by
  refine rises_ext (rises_ins _ _ (rises_filter _ hr)) (rises_ins _ _ hr) (fun k' => ?_)
  rw [get_ins, get_ins, get_del]
  by_cases e : k' = k <;> simp [e]
theorem rest_of {l : List Itm} (hr : Rises l) (ho : ∀ y ∈ l, y.ok) (k : ByteArray) : errL (delR k l) = 0 ∧ isoL (delR k l) = delR k l := by
  have h1 : Rises (delR k l) := rises_filter _ hr
  refine ⟨?_, iso_self h1⟩
  have hb : (delR k l).any badI = false := by
    rw [List.any_eq_false]
    intro y hy
    have := ho y (List.mem_filter.1 hy).1
    unfold badI
    simp [this.1, this.2]
  unfold errL
  rw [hb, if_pos (rises_nodup h1)]
  rfl
theorem rest_with {l : List Itm} (hr : Rises l) (ho : ∀ y ∈ l, y.ok) {k v : ByteArray} (hx : (Itm.mk k v).ok) : errL (delR k l ++ [Itm.mk k v]) = 0 ∧ isoL (delR k l ++ [Itm.mk k v]) = insR k v l := by
  have h1 : Rises (delR k l) := rises_filter _ hr
  have hb : (delR k l ++ [Itm.mk k v]).any badI = false := by
    rw [List.any_eq_false]
    intro y hy
    have hok : y.ok := by
      rcases List.mem_append.1 hy with hy | hy
      · exact ho y (List.mem_filter.1 hy).1
      · simp at hy; subst hy; exact hx
    unfold badI
    simp [hok.1, hok.2]
  have hn : (keysL (delR k l ++ [Itm.mk k v])).Nodup := by
    have h2 := rises_nodup h1
    unfold keysL at *
    rw [List.map_append]
    refine List.nodup_append.2 ⟨h2, by simp, fun a ha b hb => ?_⟩
    rintro rfl
    simp only [List.map_cons, List.map_nil, List.mem_singleton] at hb
    rw [hb] at ha
    have := (getL_key_iff (delR k l) k).2 ha
    rw [get_del, if_pos rfl] at this
    cases this
  refine ⟨?_, ?_⟩
  · unfold errL
    rw [hb, if_pos hn]
    rfl
  · rw [iso_snoc, iso_self h1]
    exact ins_del hr k v
theorem own_ge {w : World} {B q : Nat} {v : Value} {l : List Itm} (h : OwnsM w B v l) (hq : q < B) (e : v.ownBlock = some q) : False := by
  rcases h.2 with ⟨he, _⟩ | ⟨g, cap', cur, he, hb, _⟩
  · rw [he] at e; cases e
  · rw [he] at e
    simp only [Value.ownBlock, Option.some.injEq] at e
    omega
theorem ownM_drewN {w : World} {B : Nat} {v : Value} {l : List Itm} (h : OwnsM w B v l) (n : Nat) : OwnsM (w.drewN n) B v l := h
def RefWith (l : List Itm) (x : Mg) (w : World) (e : Ending) (w' : World) : Prop := Below w.heap.size w w' ∧ ∃ A cap, e = .returned (.tuple #[.slice A (doL l x).length cap, .bool true]) ∧ OwnsM w' w.heap.size (.slice A (doL l x).length cap) (doL l x)
set_option maxHeartbeats 4000000 in
set_option maxRecDepth 100000 in
theorem refWith_any (A : Option Addr) (cap bm off cm : Nat) (l : List Itm) (x : Mg) (w : World) (hel : Elems w A 2 (l.map Itm.cells)) (hr : Rises l) (ho : ∀ y ∈ l, y.ok) (hl : l.length ≤ 70000) (hm : isMsg x = true) (hbm : bm < w.heap.size)
    (m0 : w.cell? ⟨bm, off, none⟩ = some (.int .i64 x.kind)) (m1 : w.cell? ⟨bm, off + 1, none⟩ = some (.string x.key)) (m2 : w.cell? ⟨bm, off + 2, none⟩ = some (.string x.val)) :
    Calls Tryz.prog 61 #[.slice A l.length cap, .slice (some ⟨bm, off, none⟩) 1 cm] w (RefWith l x w) := by
  have hI := fun W => ref08Is_any x W
  rw [hm] at hI
  have hcl : ∀ W, Below w.heap.size w W → W.cell? ⟨bm, off, none⟩ = some (.int .i64 x.kind) ∧ W.cell? ⟨bm, off + 1, none⟩ = some (.string x.key) ∧ W.cell? ⟨bm, off + 2, none⟩ = some (.string x.val) := fun W hW => ⟨(hW.cell (p := ⟨bm, _, none⟩) hbm).trans m0, (hW.cell (p := ⟨bm, _, none⟩) hbm).trans m1, (hW.cell (p := ⟨bm, _, none⟩) hbm).trans m2⟩
  have hA := fun W => refApply_any x (getL l x.key) W
  have hdo : doL l x = putO l x.key (applyO x (getL l x.key)) := rfl
  have hak := apply_ok hm ho
  have HI := Lib.hid hI
  have HCL := Lib.hid hcl
  have HA := Lib.hid hA
  have HDO := Lib.hid hdo
  have HAK := Lib.hid hak
  have HEL := Lib.hid hel
  have HR := Lib.hid hr
  have HO := Lib.hid ho
  generalize hap : applyO x (getL l x.key) = R at *
  clear hI hcl hA hdo hak hel hr ho hm m0 m1 m2 hbm hap
  obtain ⟨kind, key, val⟩ := x
  rw [Mg.v_def] at HI HA
  dsimp only at HI HCL HA HDO HAK
  go_enter Tryz.func61, Tryz.ntmps61
  go_wp2
  go_loopw [6] (fun i wr => ∃ k : Nat, i = .int .i64 k ∧ k ≤ 1 ∧ Below w.heap.size w wr) (fun i _ => 2 - (intOf i).toNat)
  case atStart => exact ⟨0, rfl, Nat.zero_le _, (by repeat (first | assumption | exact Below.refl _ _ | (refine below_step (w := ?_) ?_ ?_ ?_; rotate_left 2; assumption) | refine Below.drew ?_ | refine below_drewN ?_ _ | refine Below.alloc ?_ ?_ _ | refine Below.setCell ?_ ?_ _ | (focus (simp; done)) | (focus (simp; omega)) | omega))⟩
  case round =>
    obtain ⟨k, rfl, hk, hbel⟩ := hrel
    rcases (by omega : k = 0 ∨ k = 1) with rfl | rfl
    · have e0 : ((0 : Nat) : Int) = 0 := rfl
      rw [e0]
      clear e0
      obtain ⟨m0, m1, m2⟩ := HCL.out wr hbel
      go_wp2_with (go_at_call 60; (with_reducible refine (HI.out _).mono ?_); rintro e w1 ⟨rfl, hb1⟩; have HB1 := Lib.hid (below_next hbel hb1); clear hb1)
      exact ⟨⟨1, by go_num, by omega, HB1.out⟩, by simp [intOf]⟩
    · have e1 : ((1 : Nat) : Int) = 1 := rfl
      rw [e1]
      clear e1
      go_wp2
      have how0 : OwnsM (wr.alloc (.cells #[] 41)) w.heap.size (.slice (some ⟨wr.heap.size, 0, none⟩) (delR key (l.take 0)).length 0) (delR key (l.take 0)) := OwnsG.empty (heap_alloc_new wr _) hbel.size
      have hb0 : Below w.heap.size w (wr.alloc (.cells #[] 41)) := below_alloc hbel
      have HOW0 := Lib.hid how0
      have HB0 := Lib.hid hb0
      clear how0 hb0 hbel
      refine wp_loop_rounds 2 ?_
      rw [rounds_succ]
      go_wp2
      go_loopw [11, 8, 9, 10] (fun i v s h wr => ∃ (k c2 : Nat) (A2 : Option Addr), i = .int .i64 k ∧ k ≤ l.length ∧ v = .slice A2 (delR key (l.take k)).length c2 ∧ s = .string (strO (getL (l.take k) key)) ∧ h = .bool (getL (l.take k) key).isSome ∧ OwnsM wr w.heap.size (.slice A2 (delR key (l.take k)).length c2) (delR key (l.take k)) ∧ Below w.heap.size w wr) (fun i _ _ _ _ => l.length + 1 - (intOf i).toNat)
      case atStart => exact ⟨0, 0, some ⟨wr.heap.size, 0, none⟩, rfl, Nat.zero_le _, rfl, rfl, rfl, HOW0.out, HB0.out⟩
      case round =>
        obtain ⟨k, c2, A2, rfl, hk, rfl, rfl, rfl, how, hbel⟩ := hrel
        by_cases hkl : k < l.length
        · have hkI : (k : Int) < (l.length : Int) := by omega
          obtain ⟨y, hy⟩ := get_lt hkl
          obtain ⟨b, ofy, rfl, hblt, d0, d1⟩ := itm_row (HEL.out.below hbel) hy
          obtain ⟨m0, m1, m2⟩ := HCL.out wr hbel
          have hgt := get_take HR.out hy key
          have hdt := del_take hy key
          have hq : (y.key.toList == key.toList) = decide (y.key = key) := eqB
          have HOW := Lib.hid how
          have HBEL := Lib.hid hbel
          have hdl : (delR key (l.take k)).length ≤ 70000 := by
            have h1 := List.length_filter_le (fun x : Itm => !decide (x.key = key)) (l.take k)
            rw [List.length_take] at h1
            show ((l.take k).filter fun x : Itm => !decide (x.key = key)).length ≤ _
            omega
          by_cases e : y.key = key
          · rw [if_pos e] at hgt hdt
            rw [decide_eq_true e] at hq
            have HGT := Lib.hid hgt
            have HDT := Lib.hid hdt
            clear hgt hdt e how hbel hy
            obtain ⟨yk, yv⟩ := y
            dsimp only at d0 d1 hq HGT
            generalize delR key (l.take k) = D at *
            go_wp2
            go_quiet (fail)
            go_wp2
            refine ⟨⟨k + 1, c2, A2, by go_num, by omega, by rw [HDT.out], by rw [HGT.out]; rfl, by rw [HGT.out]; rfl, by rw [HDT.out]; exact HOW.out, below_drewN HBEL.out _⟩, ?_⟩
            simp [intOf]
            omega
          · rw [if_neg e] at hgt hdt
            rw [decide_eq_false e] at hq
            have HGT := Lib.hid hgt
            have HDT := Lib.hid hdt
            clear hgt hdt e how hbel hy
            have hxi : ∀ W, (W : World) = W → ItmAt (W.alloc (.cells #[.string y.key, .string y.val] 41)) W.heap.size y 41 := fun W _ => heap_alloc_new W _
            have HXI := Lib.hid hxi
            have HYC := Lib.hid (show [y].map Itm.cells = [y.cells] from rfl)
            clear hxi
            obtain ⟨yk, yv⟩ := y
            dsimp only at d0 d1 hq HGT HXI
            generalize delR key (l.take k) = D at *
            go_wp2
            go_quiet (fail)
            go_wp2_with (at_builtin; refine itm_append rfl (some 59) rfl _ _ rfl w.heap.size (.slice A2 D.length c2) D [⟨yk, yv⟩] 1 ⟨wr.heap.size, 0, none⟩ 1 rfl rfl rfl (OwnsG.alloc (f := Itm.cells) (k := 2) (e := 41) (ownM_drewN HOW.out nq) _) (by simpa using ItmAt.cells (x := ⟨yk, yv⟩) (T := 41) (heap_alloc_new (wr.drewN nq) _)) (by simp; omega) (Nat.le_trans HBEL.out.size (by simp)) (D.length + 1) (by simp) ?_)
            intro A3 c3 w3 ho3 hf3
            have hb4 : Below w.heap.size w w3 := (below_alloc (o := .cells #[.string yk, .string yv] 41) (below_drewN HBEL.out nq)).trans (hf3.to_below (Nat.le_trans HBEL.out.size (by simp)) (fun q hq e => by
              rcases HOW.out.2 with ⟨he, _⟩ | ⟨g, cap', cur, he, hb, _⟩
              · rw [he] at e; cases e
              · rw [he] at e
                simp only [Value.ownBlock, Option.some.injEq] at e
                omega))
            have HO3 := Lib.hid ho3
            have HB4 := Lib.hid hb4
            clear ho3 hb4 hf3
            go_wp2
            refine ⟨⟨k + 1, c3, A3, by go_num, by omega, by rw [HDT.out, List.length_append]; rfl, by rw [HGT.out], by rw [HGT.out], by rw [HDT.out, List.length_append]; exact HO3.out, HB4.out⟩, ?_⟩
            simp [intOf]
            omega
        · obtain rfl : k = l.length := by omega
          rw [List.take_length] at how
          rw [List.take_length]
          obtain ⟨m0, m1, m2⟩ := HCL.out wr hbel
          have hdl : (delR key l).length ≤ 70000 := by
            have h1 := List.length_filter_le (fun x : Itm => !decide (x.key = key)) l
            show (l.filter fun x : Itm => !decide (x.key = key)).length ≤ _
            omega
          have hro := rest_of HR.out HO.out key
          have hrw := fun v h => rest_with HR.out HO.out (k := key) (v := v) h
          have hcm : ∀ W, Below wr.heap.size wr W → W.cell? ⟨bm, off + 1, none⟩ = some (.string key) := fun W hW => (HCL.out W (below_next hbel hW)).2.1
          have HOW := Lib.hid how
          have HBEL := Lib.hid hbel
          have HRO := Lib.hid hro
          have HRW := Lib.hid hrw
          have HCM := Lib.hid hcm
          clear how hbel hro hrw hcm
          cases R with
          | none =>
            have hof := fun W (hW : Below wr.heap.size wr W) => refOf_any A2 c2 (delR key l) W ((HOW.out.below hW).elems Itm.clen) (by omega)
            have HOF := Lib.hid hof
            clear hof
            have hdd : doL l ⟨kind, key, val⟩ = delR key l := HDO.out
            have HDD := Lib.hid hdd
            clear hdd HDO
            generalize delR key l = D at *
            go_wp2_with (first | (go_at_call 93; (with_reducible refine (HA.out _).mono ?_); rintro e w1 ⟨rfl, hb1⟩; have HB1 := Lib.hid hb1; clear hb1) | (go_at_call 69; (with_reducible refine (HOF.out _ HB1.out).mono ?_); rintro e w2 ⟨hb2, h2⟩; rw [HRO.out.1] at h2; rcases h2 with ⟨h2, _⟩ | ⟨_, A4, c4, rfl, ho4⟩; exact absurd rfl h2; have HB2 := Lib.hid (below_next (below_next HBEL.out HB1.out) hb2); have HO4 := Lib.hid ho4; clear hb2 ho4))
            rw [rounds_succ]
            go_wp2
            (try simp only [Exit.inBlock, Exit.then])
            refine bodyPost_ret (results_tmp2 rfl _ _ _) rfl ⟨HB2.out, A4, c4, by rw [HDD.out]; rfl, ?_⟩
            rw [HDD.out]
            have := HO4.out.base (below_next HBEL.out HB1.out).size
            rw [HRO.out.2] at this
            exact this
          | some u =>
            have HA3 := Lib.hid (show ∀ W, Calls Tryz.prog 93 #[.agg #[.int .i64 kind, .string key, .string val], .string (strO (getL l key)), .bool (getL l key).isSome] W fun e w' => e = .returned (.tuple #[.string u, .bool true]) ∧ Below W.heap.size W w' from HA.out)
            clear HA
            have hd : doL l ⟨kind, key, val⟩ = insR key u l := HDO.out
            obtain ⟨he0, hi0⟩ := HRW.out u (HAK.out u rfl)
            have hlen : (delR key l ++ [Itm.mk key u]).length = (delR key l).length + 1 := by simp
            have hof := fun W A5 c5 (h : OwnsM W w.heap.size (.slice A5 ((delR key l).length + 1) c5) (delR key l ++ [Itm.mk key u])) => refOf_any A5 c5 (delR key l ++ [Itm.mk key u]) W (h.elems Itm.clen) (by rw [hlen]; omega)
            rw [hlen] at hof
            have hap := fun W (hW : Below wr.heap.size wr W) => HOW.out.below hW
            have hdl2 : (doL l ⟨kind, key, val⟩).length = (delR key l).length + 1 := by
              rw [hd, ← hi0]
              have hn : (keysL (delR key l ++ [Itm.mk key u])).Nodup := by
                unfold errL at he0
                split at he0
                · cases he0
                · split at he0
                  · assumption
                  · cases he0
              rw [iso_len hn, hlen]
            have HOF := Lib.hid hof
            have HD := Lib.hid (hd.trans hi0.symm)
            have HE0 := Lib.hid he0
            have HLN := Lib.hid hlen
            have HAP := Lib.hid hap
            have HDL2 := Lib.hid hdl2
            clear hof hd he0 hi0 hlen HDO HRW hap hdl2
            generalize delR key l = D at *
            go_wp2_with (first
              | (go_at_call 93; (with_reducible refine (HA3.out _).mono ?_); rintro e w1 ⟨rfl, hb1⟩; have HB1 := Lib.hid hb1; clear hb1; have m1 := HCM.out _ HB1.out)
              | (go_at_call 69; (with_reducible refine (HOF.out _ _ _ HO3.out).mono ?_); rintro e w2 ⟨hb2, h2⟩; rw [HE0.out] at h2; rcases h2 with ⟨h2, _⟩ | ⟨_, A4, c4, rfl, ho4⟩; exact absurd rfl h2; rw [HLN.out] at ho4; have HB2 := Lib.hid (below_next HB3.out hb2); have HO4 := Lib.hid ho4; clear hb2 ho4)
              | (at_builtin; go_loud (refine itm_append rfl (some 80) rfl _ _ rfl w.heap.size (.slice A2 D.length c2) D [⟨key, u⟩] 1 ⟨w1.heap.size, 0, none⟩ 1 rfl rfl rfl (OwnsG.alloc (f := Itm.cells) (k := 2) (e := 41) (HAP.out _ HB1.out) _) (by simpa using ItmAt.cells (x := ⟨key, u⟩) (T := 41) (heap_alloc_new w1 _)) (by simp; omega) (Nat.le_trans (below_next HBEL.out HB1.out).size (by simp)) (D.length + 1) (by simp) ?_; intro A3 c3 w3 ho3 hf3; have HO3 := Lib.hid ho3; have HB3 := Lib.hid ((below_alloc (o := .cells #[.string key, .string u] 41) (below_next HBEL.out HB1.out)).trans (hf3.to_below (Nat.le_trans (below_next HBEL.out HB1.out).size (by simp)) (fun q hq e => own_ge (HAP.out _ HB1.out) hq e))); clear ho3 hf3)))
            rw [rounds_succ]
            go_wp2
            (try simp only [Exit.inBlock, Exit.then])
            refine bodyPost_ret (results_tmp2 rfl _ _ _) rfl ⟨HB2.out, A4, c4, by rw [HDL2.out]; rfl, ?_⟩
            rw [HDL2.out, HD.out]
            exact HO4.out.base HB3.out.size
end Go.Proofs.YtdfgdnaejnngoaaGreat
