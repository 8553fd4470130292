import Derived.Test.YtdfgdnaejnngoaaDoorOrd3
import Derived.Test.YtdfgdnaejnngoaaDoorMin10
namespace Go.Proofs.YtdfgdnaejnngoaaDoor
open Go.RowKit

theorem keyIs_any (s : ByteArray) (w : World) (h0 : 1 ≤ (s.size : Int)) (h1 : (s.size : Int) ≤ 8) : Calls Tryd.prog 18 #[.string s] w fun e w' => e = .returned (.bool true) ∧ w = w' := by
  go_enter Tryd.func18, Tryd.ntmps18
  go_wp2
  go_ret
  exact ⟨rfl, rfl⟩
theorem isVal_any (s : ByteArray) (w : World) (h1 : (s.size : Int) ≤ 16) : Calls Tryd.prog 17 #[.string s] w fun e w' => e = .returned (.bool true) ∧ w = w' := by
  go_enter Tryd.func17, Tryd.ntmps17
  go_wp2
  go_ret
  exact ⟨ret_bool (by simp), rfl⟩
theorem turned_no (lo hi : ByteArray) (w : World) (h : (Op.bytesLess lo.toList hi.toList || lo.toList == hi.toList) = true) : Calls Tryd.prog 31 #[.agg #[.string lo, .string hi]] w fun e w' => e = .returned (.bool false) ∧ Below w.heap.size w w' := by
  cases he : hi.toList.isEmpty
  all_goals
    go_enter Tryd.func31, Tryd.ntmps31
    go_wp2
    go_ret
    exact ⟨rfl, Below.alloc (Below.refl _ _) (Nat.le_refl _) _⟩
theorem rangeIs_any (lo hi : ByteArray) (w : World) (h1 : (lo.size : Int) ≤ 8) (h2 : (hi.size : Int) ≤ 8) (h : (Op.bytesLess lo.toList hi.toList || lo.toList == hi.toList) = true) : Calls Tryd.prog 19 #[.agg #[.string lo, .string hi]] w fun e w' => e = .returned (.bool true) ∧ Below w.heap.size w w' := by
  have ht := fun W => turned_no lo hi W h
  have Ht := Lib.hid ht
  clear ht h
  go_enter Tryd.func19, Tryd.ntmps19
  go_wp2_with (go_at_call 31; (with_reducible refine (Ht.out _).mono ?_); rintro e w1 ⟨rfl, hb1⟩)
  go_ret
  exact ⟨rfl, below_next (Below.alloc (Below.refl _ _) (Nat.le_refl _) _) hb1⟩

theorem keyB_size (n : Int) (h0 : 0 ≤ n) (h1 : n < 300) : 1 ≤ (keyB n).size ∧ (keyB n).size ≤ 4 := by
  have := itoa_le n h0 (by omega)
  unfold keyB
  rw [ByteArray.size_append]
  have e : ((⟨(Lib.itoa n).toArray⟩ : ByteArray)).size = (Lib.itoa n).length := by simp [ByteArray.size]
  rw [e]
  have e1 : ((⟨#[107]⟩ : ByteArray)).size = 1 := rfl
  rw [e1]
  omega
theorem valB_size (n c : Int) (_h0 : 0 ≤ n) (h1 : n < 17) : (valB n c).size ≤ 16 := by
  unfold valB
  have e : ((⟨(Lib.repeatL [sig c] n.toNat).toArray⟩ : ByteArray)).size = (Lib.repeatL [sig c] n.toNat).length := by simp [ByteArray.size]
  rw [e, Lib.repeatL_length]
  simp
  omega
theorem minmax_le2 (a b : ByteArray) : (Op.bytesLess (Lib.minS a b).toList (Lib.maxS a b).toList || (Lib.minS a b).toList == (Lib.maxS a b).toList) = true := by
  cases h : (Op.bytesLess a.toList b.toList || a.toList == b.toList)
  · obtain ⟨e1, e2⟩ := minmax_gt h
    rw [e1, e2]
    rw [Proofs.bytesLess_eq] at h ⊢
    simp only [Bool.or_eq_false_iff, decide_eq_false_iff_not, beq_eq_false_iff_ne] at h
    simp only [Bool.or_eq_true, decide_eq_true_eq, beq_iff_eq]
    by_cases hb : b.toList < a.toList
    · exact .inl hb
    · exact absurd (List.le_antisymm hb h.1) h.2
  · obtain ⟨e1, e2⟩ := minmax_le h
    rw [e1, e2]
    exact h
/-- what MintOrders asks of an order -/
def Good (o : Ord) : Prop := isOrd o = true ∧ o.val.size ≤ 16 ∧ (o.kind ≤ 4 → 1 ≤ o.key.size ∧ o.key.size ≤ 8) ∧ o.lo.size ≤ 8 ∧ o.hi.size ≤ 8 ∧ (Op.bytesLess o.lo.toList o.hi.toList || o.lo.toList == o.hi.toList) = true
theorem Good.of (k n : Int) (key val lo hi : ByteArray) (hk : okKind k = true) (hb : bareOf ⟨k, key, val, n, lo, hi⟩ = ⟨k, key, val, n, lo, hi⟩) (h1 : key.size ≤ 8) (h2 : val.size ≤ 16) (h3 : lo.size ≤ 8) (h4 : hi.size ≤ 8) (h5 : k ≤ 4 → 1 ≤ key.size) (h6 : (Op.bytesLess lo.toList hi.toList || lo.toList == hi.toList) = true) : Good ⟨k, key, val, n, lo, hi⟩ := by
  refine ⟨?_, h2, fun h => ⟨h5 h, h1⟩, h3, h4, h6⟩
  unfold isOrd tooLong
  rw [hb]
  simp [hk]
  omega
theorem orderS_good (x : Int) : Good (orderS x).1 := by
  have h0 := Int.emod_nonneg (nZ (nS x)) (show (16 : Int) ≠ 0 by decide)
  have h1 := Int.emod_lt_of_pos (nZ (nS x)) (show (0 : Int) < 16 by decide)
  have hk := fun z : Int => keyB_size (z % 300) (Int.emod_nonneg z (by decide)) (Int.emod_lt_of_pos z (by decide))
  have hv := fun (z c : Int) => valB_size (z % 17) c (Int.emod_nonneg z (by decide)) (Int.emod_lt_of_pos z (by decide))
  have hc := kindS_cases _ h0 h1
  unfold orderS
  generalize nZ (nS x) % 16 = r at hc ⊢
  have k1 := hk (nZ (nS (nS x)))
  have k2 := hk (nZ (nS (nS (nS x))))
  have v1 := hv (nZ (nS (nS (nS x)))) (nZ (nS (nS (nS (nS x)))) % 26)
  generalize keyB (nZ (nS (nS x)) % 300) = a at k1 ⊢
  generalize keyB (nZ (nS (nS (nS x))) % 300) = b at k2 ⊢
  generalize valB (nZ (nS (nS (nS x))) % 17) (nZ (nS (nS (nS (nS x)))) % 26) = v at v1 ⊢
  generalize nZ (nS (nS (nS x))) = z
  clear hk hv
  have hm : (Lib.minS a b).size ≤ 4 ∧ (Lib.maxS a b).size ≤ 4 := by
    unfold Lib.minS Lib.maxS
    constructor
    · split <;> omega
    · split <;> omega
  have e0 : (⟨#[]⟩ : ByteArray).size = 0 := rfl
  rcases hc with hc | hc | hc | hc | hc | hc | hc | hc
  all_goals simp only [hc]
  · exact Good.of _ _ _ _ _ _ (by decide) (by simp [bareOf]) (by omega) (by omega) (by decide) (by decide) (fun _ => k1.1) (by simp)
  · exact Good.of _ _ _ _ _ _ (by decide) (by simp [bareOf]) (by omega) (by decide) (by decide) (by decide) (fun _ => k1.1) (by simp)
  · exact Good.of _ _ _ _ _ _ (by decide) (by simp [bareOf]) (by omega) (by decide) (by decide) (by decide) (fun _ => k1.1) (by simp)
  · exact Good.of _ _ _ _ _ _ (by decide) (by simp [bareOf]) (by omega) (by decide) (by decide) (by decide) (fun _ => k1.1) (by simp)
  · exact Good.of _ _ _ _ _ _ (by decide) (by simp [bareOf]) (by decide) (by decide) (by omega) (by omega) (fun h => absurd h (by decide)) (minmax_le2 a b)
  · exact Good.of _ _ _ _ _ _ (by decide) (by simp [bareOf]) (by decide) (by decide) (by decide) (by decide) (fun h => absurd h (by decide)) (by simp)
  · exact Good.of _ _ _ _ _ _ (by decide) (by simp [bareOf]) (by decide) (by decide) (by decide) (by decide) (fun h => absurd h (by decide)) (by simp)
  · exact Good.of _ _ _ _ _ _ (by decide) (by simp [bareOf]) (by decide) (by decide) (by decide) (by decide) (fun h => absurd h (by decide)) (by simp)
end Go.Proofs.YtdfgdnaejnngoaaDoor
