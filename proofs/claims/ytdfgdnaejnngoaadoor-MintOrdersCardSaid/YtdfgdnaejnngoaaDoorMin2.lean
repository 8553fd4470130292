import Derived.Test.YtdfgdnaejnngoaaDoorMin1
namespace Go.Proofs.YtdfgdnaejnngoaaDoor
open Go.RowKit

theorem mret_int {k : IntKind} {a b : Int} (h : a = b) : Ending.returned (.int k a) = Ending.returned (.int k b) := by rw [h]
theorem mod_small (z n : Int) (h1 : 1 ≤ n) (h2 : n < 9223372036854775808) : wrap64 (z % n) = z % n := by
  have a := Int.emod_lt_of_pos z (show 0 < n by omega)
  have b := Int.emod_nonneg z (show n ≠ 0 by omega)
  unfold wrap64
  omega
theorem mBelow_yes (b : Nat) (x n : Int) (w : World) (h : MAt w b x) (h1 : 1 ≤ n) (h2 : n < 9223372036854775808) : Calls Tryd.prog 10 #[.pointer (some ⟨b, 0, none⟩), .int .i64 n] w fun e w' => e = .returned (.int .i64 (nZ (nS x) % n)) ∧ MAt w' b (nS x) ∧ Fr (fun k => k = b) w w' := by
  have hn := fun W h => mNext_any b x W h
  have hz := nZ_range (nS x)
  generalize nZ (nS x) = z at hn hz ⊢
  generalize nS x = x' at hn ⊢
  have Hn := Lib.hid (hn w h)
  have hw : IntKind.u64.wrap n = n := wrap_self n (by omega) (by omega)
  have hne : ¬ n = 0 := by omega
  have hr := mod_small z n h1 h2
  clear hn h h2
  go_enter Tryd.func10, Tryd.ntmps10
  go_wp2_with (go_at_call 7; (with_reducible refine Hn.out.mono ?_); rintro e w1 ⟨rfl, hm, hf⟩)
  go_ret
  exact ⟨mret_int hr, hm, hf⟩
theorem uBelow_yes (b : Nat) (x n : Int) (w : World) (h : UAt w b x) (h1 : 1 ≤ n) (h2 : n < 9223372036854775808) : Calls Tryd.prog 9 #[.pointer (some ⟨b, 0, none⟩), .int .i64 n] w fun e w' => e = .returned (.int .i64 (nZ (nS x) % n)) ∧ UAt w' b (nS x) ∧ Fr (fun k => k = b) w w' := by
  have hn := fun W h => uNext_any b x W h
  have hz := nZ_range (nS x)
  generalize nZ (nS x) = z at hn hz ⊢
  generalize nS x = x' at hn ⊢
  have Hn := Lib.hid (hn w h)
  have hw : IntKind.u64.wrap n = n := wrap_self n (by omega) (by omega)
  have hne : ¬ n = 0 := by omega
  have hr := mod_small z n h1 h2
  clear hn h h2
  go_enter Tryd.func9, Tryd.ntmps9
  go_wp2_with (go_at_call 8; (with_reducible refine Hn.out.mono ?_); rintro e w1 ⟨rfl, hm, hf⟩)
  go_ret
  exact ⟨mret_int hr, hm, hf⟩
theorem mBelow_no (b : Nat) (n : Int) (w : World) (h1 : n < 1) : Calls Tryd.prog 10 #[.pointer (some ⟨b, 0, none⟩), .int .i64 n] w fun e w' => e = .returned (.int .i64 0) ∧ w = w' := by
  go_enter Tryd.func10, Tryd.ntmps10
  go_wp2
  go_ret
  exact ⟨rfl, rfl⟩
theorem mBelow_nil (n : Int) (w : World) : Calls Tryd.prog 10 #[.pointer none, .int .i64 n] w fun e w' => e = .returned (.int .i64 0) ∧ w = w' := by
  go_enter Tryd.func10, Tryd.ntmps10
  go_wp2
  go_ret
  exact ⟨rfl, rfl⟩

/-- what a number below 16 asks -/
def kindS (k : Int) : Int := if k ≤ 6 then 1 else if k ≤ 8 then 2 else if k ≤ 10 then 3 else k - 7
theorem kind_any (k : Int) (w : World) (h0 : 0 ≤ k) (h1 : k < 16) : Calls Tryd.prog 20 #[.int .i64 k] w fun e w' => e = .returned (.int .i64 (kindS k)) ∧ w = w' := by
  have HX := Lib.hid (show kindS k = if k ≤ 6 then 1 else if k ≤ 8 then 2 else if k ≤ 10 then 3 else k - 7 from rfl)
  generalize kindS k = X at HX ⊢
  have hw : wrap64 (wrap64 (4 + k) - 11) = k - 7 := by unfold wrap64; omega
  by_cases h6 : k ≤ 6
  · have HX := Lib.hid (HX.out.trans (if_pos h6))
    go_enter Tryd.func20, Tryd.ntmps20
    go_wp2
    go_ret
    exact ⟨mret_int HX.out.symm, rfl⟩
  have HX := Lib.hid (HX.out.trans (if_neg h6))
  by_cases h8 : k ≤ 8
  · have HX := Lib.hid (HX.out.trans (if_pos h8))
    go_enter Tryd.func20, Tryd.ntmps20
    go_wp2
    go_ret
    exact ⟨mret_int HX.out.symm, rfl⟩
  have HX := Lib.hid (HX.out.trans (if_neg h8))
  by_cases h10 : k ≤ 10
  · have HX := Lib.hid (HX.out.trans (if_pos h10))
    go_enter Tryd.func20, Tryd.ntmps20
    go_wp2
    go_ret
    exact ⟨mret_int HX.out.symm, rfl⟩
  have HX := Lib.hid (HX.out.trans (if_neg h10))
  go_enter Tryd.func20, Tryd.ntmps20
  go_wp2
  go_ret
  exact ⟨mret_int (by rw [HX.out]; first | exact hw | omega), rfl⟩
end Go.Proofs.YtdfgdnaejnngoaaDoor
