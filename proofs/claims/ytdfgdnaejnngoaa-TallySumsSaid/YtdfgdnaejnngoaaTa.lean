import Derived.Test.YtdfgdnaejnngoaaTo
namespace Go.Proofs.Ytdfgdnaejnngoaa
open Go.RowKit
/-! Sums of a tally's numbers. -/
def sumV (v : Nat → Int) (o : Nat) : Nat → Int
  | 0 => 0
  | n + 1 => sumV v o n + v (o + n)
theorem sumV_range (v : Nat → Int) (o : Nat) (B : Int) (h : ∀ i, 0 ≤ v i ∧ v i ≤ B) : ∀ n : Nat, 0 ≤ sumV v o n ∧ sumV v o n ≤ n * B
  | 0 => by simp [sumV]
  | n + 1 => by
    have h1 := sumV_range v o B h n
    have h2 := h (o + n)
    rw [sumV, Int.natCast_add, Int.add_mul]
    omega
set_option maxRecDepth 100000 in
theorem sum_any (b o n c : Nat) (v : Nat → Int) (w : World) (hc : ∀ i, i < n → w.cell? ⟨b, o + i, none⟩ = some (.int .i64 (v (o + i)))) (hn : n ≤ 100) (hv : ∀ i, 0 ≤ v i ∧ v i ≤ 72057594037927936) : Calls Try.prog 52 #[.slice (some ⟨b, o, none⟩) n c] w
    fun e w' => e = .returned (.int .i64 (sumV v o n)) ∧ w = w' := by
  have HC := Lib.hid hc
  have HV := Lib.hid hv
  clear hc hv
  go_enter Try.func52, Try.ntmps52
  go_wp2
  go_loop [3, 8] (fun x i => ∃ k : Nat, i = .int .i64 k ∧ k ≤ n ∧ x = .int .i64 (sumV v o k)) (fun _ i => n + 1 - (intOf i).toNat)
  case atStart => exact ⟨0, rfl, Nat.zero_le _, rfl⟩
  case round =>
    obtain ⟨k, rfl, hk, rfl⟩ := hrel
    by_cases hkn : k < n
    · have hkI : (k : Int) < (n : Int) := by omega
      have ck := HC.out k hkn
      have hs := sumV_range v o _ HV.out k
      have hv1 := HV.out (o + k)
      have hstep : sumV v o (k + 1) = sumV v o k + v (o + k) := rfl
      generalize sumV v o k = s at hs hstep ⊢
      have HS := Lib.hid hstep
      have hs2 : s ≤ 7205759403792793600 := by
        have : (k : Int) * 72057594037927936 ≤ 100 * 72057594037927936 := Int.mul_le_mul_of_nonneg_right (by omega) (by omega)
        omega
      obtain ⟨hs0, _⟩ := hs
      obtain ⟨hv0, hv2⟩ := hv1
      clear hstep
      go_wp2
      refine ⟨⟨k + 1, by go_num, by omega, by rw [HS.out]⟩, ?_⟩
      simp [intOf]
      omega
    · obtain rfl : k = n := by omega
      go_wp2
      go_ret
      exact ⟨rfl, rfl⟩
theorem VAt.loads {T : TypeId} {n : Nat} {w : World} {b : Nat} {v : Nat → Int} (P : Program) (h : VAt T n w b v) : (loadCellsFrom ⟨b, 0, none⟩ 0 n #[]).run P w = .ok (nv n v) w := by
  have := run_loadCells_list (P := P) w ⟨b, 0, none⟩ (nv n v).toList (fun j u hj => by rw [Addr.add_mid]; exact h.range j u hj)
  rw [nv_len] at this
  simpa [loadCells] using this
set_option maxRecDepth 100000 in
theorem tTotal_any (v : Nat → Int) (w : World) (hv : ∀ i, 0 ≤ v i ∧ v i ≤ 72057594037927936) : Calls Try.prog 25 #[.agg (nv 25 v)] w fun e w' => e = .returned (.int .i64 (sumV v 0 9)) ∧ Below w.heap.size w w' := by
  have hva := VAt.new (T := 71) (n := 25) w v
  have hs := sum_any w.heap.size 0 9 9 v (w.alloc (.cells (nv 25 v) 71)) (fun i hi => hva.cell (by omega)) (by omega) hv
  generalize nv 25 v = cs at hs ⊢
  have HS := Lib.hid hs
  clear hva hs hv
  go_enter Try.func25, Try.ntmps25
  go_wp2_with (go_at_call 52; (with_reducible refine HS.out.mono ?_); rintro e w1 ⟨rfl, rfl⟩)
  go_ret
  exact ⟨rfl, Below.alloc (Below.refl _ _) (Nat.le_refl _) _⟩
set_option maxRecDepth 100000 in
theorem tErrors_any (v : Nat → Int) (w : World) (hv : ∀ i, 0 ≤ v i ∧ v i ≤ 72057594037927936) : Calls Try.prog 26 #[.agg (nv 25 v)] w fun e w' => e = .returned (.int .i64 (sumV v 9 12)) ∧ Below w.heap.size w w' := by
  have hva := VAt.new (T := 71) (n := 25) w v
  have hs := sum_any w.heap.size 9 12 12 v (w.alloc (.cells (nv 25 v) 71)) (fun i hi => hva.cell (by omega)) (by omega) hv
  generalize nv 25 v = cs at hs ⊢
  have HS := Lib.hid hs
  clear hva hs hv
  go_enter Try.func26, Try.ntmps26
  go_wp2_with (go_at_call 52; (with_reducible refine HS.out.mono ?_); rintro e w1 ⟨rfl, rfl⟩)
  go_ret
  exact ⟨rfl, Below.alloc (Below.refl _ _) (Nat.le_refl _) _⟩
end Go.Proofs.Ytdfgdnaejnngoaa
