import Derived.Lib.Hide
namespace Go.Proofs.Ytdfgdnaejnngoaa
/-! Heaps: container/heap's, in plain lists. -/
section
variable {α : Type} {lt : α → α → Bool}

/-- an order, as a heap needs it -/
structure HLaw (lt : α → α → Bool) : Prop where
  asym : ∀ a b, lt a b = true → lt b a = false
  ntrans : ∀ a b c, lt b a = false → lt c b = false → lt c a = false
theorem HLaw.irr (H : HLaw lt) (a : α) : lt a a = false := by
  cases h : lt a a
  · rfl
  · have := H.asym a a h
    rw [h] at this
    exact this

def okAt (lt : α → α → Bool) (l : List α) (p k : Nat) : Prop := ∀ x y, l[p]? = some x → l[k]? = some y → lt y x = false
def HeapFrom (lt : α → α → Bool) (s n : Nat) (l : List α) : Prop := ∀ k, 0 < k → k < n → s ≤ (k - 1) / 2 → okAt lt l ((k - 1) / 2) k
def HeapBut (lt : α → α → Bool) (s n i : Nat) (l : List α) : Prop := (∀ k, 0 < k → k < n → s ≤ (k - 1) / 2 → (k - 1) / 2 ≠ i → okAt lt l ((k - 1) / 2) k) ∧ (∀ k, 0 < k → k < n → (k - 1) / 2 = i → 0 < i → s ≤ (i - 1) / 2 → okAt lt l ((i - 1) / 2) k)
def swapL (l : List α) (i j : Nat) : List α := match l[i]?, l[j]? with
  | some x, some y => (l.set i y).set j x
  | _, _ => l

theorem swapL_eq {l : List α} {i j : Nat} {x y : α} (hx : l[i]? = some x) (hy : l[j]? = some y) : swapL l i j = (l.set i y).set j x := by unfold swapL; rw [hx, hy]
theorem swapL_length (l : List α) (i j : Nat) : (swapL l i j).length = l.length := by
  unfold swapL
  split
  · simp
  · rfl
theorem swapL_get {l : List α} {i j : Nat} {x y : α} (hx : l[i]? = some x) (hy : l[j]? = some y) (k : Nat) : (swapL l i j)[k]? = if k = j then some x else if k = i then some y else l[k]? := by
  rw [swapL_eq hx hy]
  have hi := (List.getElem?_eq_some_iff.1 hx).1
  have hj := (List.getElem?_eq_some_iff.1 hy).1
  rw [List.getElem?_set, List.getElem?_set]
  by_cases h1 : k = j
  · subst h1
    simp [hj]
  · rw [if_neg (by omega), if_neg h1]
    by_cases h2 : k = i
    · subst h2
      simp [hi]
    · rw [if_neg (by omega), if_neg h2]
theorem swapL_perm (l : List α) (i j : Nat) : (swapL l i j).Perm l := by
  unfold swapL
  split
  · rename_i x y hx hy
    obtain ⟨hi, ex⟩ := List.getElem?_eq_some_iff.1 hx
    obtain ⟨hj, ey⟩ := List.getElem?_eq_some_iff.1 hy
    have h := Array.swap_perm (xs := l.toArray) (i := i) (j := j) (by simpa using hi) (by simpa using hj)
    rw [Array.perm_iff_toList_perm, Array.toList_swap] at h
    simp only [List.getElem_toArray, ex, ey] at h
    simpa using h
  · exact List.Perm.refl _

/-- the lesser one of two children -/
def Child (lt : α → α → Bool) (n i j : Nat) (l : List α) : Prop := (j = 2 * i + 1 ∨ j = 2 * i + 2) ∧ j < n ∧ ∀ c, (c = 2 * i + 1 ∨ c = 2 * i + 2) → c < n → c ≠ j → okAt lt l j c
theorem Child.left_alone {n i : Nat} {l : List α} (h1 : 2 * i + 1 < n) (h2 : n ≤ 2 * i + 2) : Child lt n i (2 * i + 1) l :=
  ⟨.inl rfl, h1, fun c hc hn hne => by omega⟩
theorem Child.left {n i : Nat} {l : List α} {x y : α} (h2 : 2 * i + 2 < n) (hx : l[2 * i + 1]? = some x) (hy : l[2 * i + 2]? = some y) (h : lt y x = false) : Child lt n i (2 * i + 1) l :=
  ⟨.inl rfl, by omega, fun c hc hn hne a b ha hb => by
    obtain rfl : c = 2 * i + 2 := by omega
    rw [hx] at ha; rw [hy] at hb
    cases ha; cases hb
    exact h⟩
theorem Child.right (H : HLaw lt) {n i : Nat} {l : List α} {x y : α} (h2 : 2 * i + 2 < n) (hx : l[2 * i + 1]? = some x) (hy : l[2 * i + 2]? = some y) (h : lt y x = true) : Child lt n i (2 * i + 2) l :=
  ⟨.inr rfl, by omega, fun c hc hn hne a b ha hb => by
    obtain rfl : c = 2 * i + 1 := by omega
    rw [hy] at ha; rw [hx] at hb
    cases ha; cases hb
    exact H.asym _ _ h⟩

theorem HeapBut.step (H : HLaw lt) {s n i j : Nat} {l : List α} {x y : α} (h : HeapBut lt s n i l) (hc : Child lt n i j l) (hs : s ≤ i) (hx : l[i]? = some x) (hy : l[j]? = some y) (hlt : lt y x = true) : HeapBut lt s n j (swapL l i j) := by
  obtain ⟨hj, hjn, hsib⟩ := hc
  obtain ⟨h1, h2⟩ := h
  refine ⟨fun k hk hkn hsk hpj a b ha hb => ?_, fun k hk hkn hpj hj0 hsj a b ha hb => ?_⟩
  · rw [swapL_get hx hy] at ha hb
    rw [if_neg hpj] at ha
    by_cases hpi : (k - 1) / 2 = i
    · rw [if_pos hpi] at ha
      cases ha
      by_cases hkj : k = j
      · rw [if_pos hkj] at hb
        cases hb
        exact H.asym _ _ hlt
      · rw [if_neg hkj, if_neg (by omega)] at hb
        exact hsib k (by omega) hkn hkj _ _ hy hb
    · rw [if_neg hpi] at ha
      by_cases hki : k = i
      · subst hki
        rw [if_neg (by omega), if_pos rfl] at hb
        cases hb
        exact h2 j (by omega) hjn (by omega) hk hsk _ _ ha hy
      · rw [if_neg (by omega), if_neg hki] at hb
        exact h1 k hk hkn hsk hpi _ _ ha hb
  · rw [swapL_get hx hy] at ha hb
    have e : (j - 1) / 2 = i := by omega
    rw [e] at ha
    rw [if_neg (by omega), if_pos rfl] at ha
    cases ha
    rw [if_neg (by omega), if_neg (by omega)] at hb
    exact h1 k hk hkn (by omega) (by omega) _ _ (by rw [hpj]; exact hy) hb
theorem HeapBut.leaf {s n i : Nat} {l : List α} (h : HeapBut lt s n i l) (hi : n ≤ 2 * i + 1) : HeapFrom lt s n l := fun k hk hkn hs => h.1 k hk hkn hs (by omega)
theorem HeapBut.done (H : HLaw lt) {s n i j : Nat} {l : List α} {x y : α} (h : HeapBut lt s n i l) (hc : Child lt n i j l) (hx : l[i]? = some x) (hy : l[j]? = some y) (hlt : lt y x = false) : HeapFrom lt s n l := by
  intro k hk hkn hs
  by_cases hp : (k - 1) / 2 = i
  · intro a b ha hb
    rw [hp, hx] at ha
    cases ha
    by_cases hkj : k = j
    · subst hkj
      rw [hy] at hb
      cases hb
      exact hlt
    · exact H.ntrans _ _ _ hlt (hc.2.2 k (by omega) hkn hkj _ _ hy hb)
  · exact h.1 k hk hkn hs hp
theorem HeapFrom.but {i n : Nat} {l : List α} (h : HeapFrom lt (i + 1) n l) : HeapBut lt i n i l :=
  ⟨fun k hk hkn hs hp => h k hk hkn (by omega), fun k _ _ _ h0 hs => by omega⟩
theorem HeapFrom.half {s n : Nat} {l : List α} (h : n / 2 ≤ s) : HeapFrom lt s n l := fun k hk hkn hs => by omega
theorem HeapFrom.pop {n : Nat} {l : List α} {x y : α} (h : HeapFrom lt 0 (n + 1) l) (hx : l[0]? = some x) (hy : l[n]? = some y) : HeapBut lt 0 n 0 (swapL l 0 n) := by
  refine ⟨fun k hk hkn hs hp a b ha hb => ?_, fun k _ _ _ h0 => by omega⟩
  rw [swapL_get hx hy] at ha hb
  rw [if_neg (by omega), if_neg (by omega)] at ha hb
  exact h k hk (by omega) hs _ _ ha hb
theorem HeapFrom.top (H : HLaw lt) {n : Nat} {l : List α} {x : α} (h : HeapFrom lt 0 n l) (hx : l[0]? = some x) : ∀ (k : Nat) (y : α), k < n → n ≤ l.length → l[k]? = some y → lt y x = false := by
  intro k
  induction k using Nat.strongRecOn with
  | _ k ih =>
    intro y hk hn hy
    rcases Nat.eq_zero_or_pos k with rfl | h0
    · rw [hx] at hy
      cases hy
      exact H.irr _
    · have hp : (k - 1) / 2 < l.length := by omega
      have e := List.getElem?_eq_getElem hp
      exact H.ntrans _ _ _ (ih _ (by omega) _ (by omega) hn e) (h k h0 hk (Nat.zero_le _) _ _ e hy)
theorem HeapFrom.take {n m : Nat} {l : List α} (h : HeapFrom lt 0 n l) (hm : m ≤ n) : HeapFrom lt 0 m (l.take m) := by
  intro k hk hkm hs a b ha hb
  rw [List.getElem?_take, if_pos (by omega)] at ha hb
  exact h k hk (by omega) hs _ _ ha hb
end

/-! The ranks. -/
structure Rk where
  kind : Int
  times : Int
  deriving DecidableEq
def Rk.cells (r : Rk) : List Go.Value := [.int .i64 r.kind, .int .i64 r.times]
def Rk.lt (a b : Rk) : Bool := decide (b.times < a.times) || (decide (a.times = b.times) && decide (a.kind < b.kind))
theorem Rk.law : HLaw Rk.lt where
  asym a b h := by
    simp only [Rk.lt, Bool.or_eq_true, Bool.and_eq_true, decide_eq_true_eq, Bool.or_eq_false_iff, Bool.and_eq_false_iff, decide_eq_false_iff_not] at h ⊢
    omega
  ntrans a b c h k := by
    simp only [Rk.lt, Bool.or_eq_false_iff, Bool.and_eq_false_iff, decide_eq_false_iff_not] at h k ⊢
    omega

/-! The document's row: again and again the greatest. -/
def bestAt (a : Nat → Int) : Nat → Nat
  | 0 => 0
  | k + 1 => if 0 < a (k + 1) ∧ (bestAt a k = 0 ∨ a (bestAt a k) < a (k + 1)) then k + 1 else bestAt a k
def upd0 (a : Nat → Int) (p : Nat) : Nat → Int := fun k => if k = p then 0 else a k
def bzF : Nat → (Nat → Int) → List Int
  | 0, _ => []
  | f + 1, a => if bestAt a 8 = 0 then [] else (bestAt a 8 : Int) :: bzF f (upd0 a (bestAt a 8))
def ranksOf (a : Nat → Int) : Nat → List Rk
  | 0 => []
  | k + 1 => ranksOf a k ++ (if 0 < a (k + 1) then [⟨((k + 1 : Nat) : Int), a (k + 1)⟩] else [])

theorem bestAt_le (a : Nat → Int) : ∀ k, bestAt a k ≤ k
  | 0 => Nat.le_refl _
  | k + 1 => by
    have := bestAt_le a k
    unfold bestAt
    split <;> omega
theorem bestAt_pos (a : Nat → Int) : ∀ k, bestAt a k ≠ 0 → 0 < a (bestAt a k)
  | 0, h => absurd rfl h
  | k + 1, h => by
    unfold bestAt at h ⊢
    split
    · rename_i hc
      exact hc.1
    · rename_i hc
      rw [if_neg hc] at h
      exact bestAt_pos a k h
theorem bestAt_zero (a : Nat → Int) : ∀ k, bestAt a k = 0 → ∀ j, 0 < j → j ≤ k → a j ≤ 0
  | 0, _, j, h0, h1 => by omega
  | k + 1, h, j, h0, h1 => by
    unfold bestAt at h
    split at h
    · omega
    · rename_i hc
      by_cases hj : j = k + 1
      · subst hj
        rw [h] at hc
        simp at hc
        exact hc
      · exact bestAt_zero a k h j h0 (by omega)
theorem bestAt_best (a : Nat → Int) : ∀ k, bestAt a k ≠ 0 → ∀ j, 0 < j → j ≤ k → 0 < a j → j ≠ bestAt a k → a j < a (bestAt a k) ∨ (a j = a (bestAt a k) ∧ bestAt a k < j)
  | 0, h, j, h0, h1 => by omega
  | k + 1, h, j, h0, h1 => by
    intro hp hne
    have hle := bestAt_le a k
    unfold bestAt at h hne ⊢
    split at h
    · rename_i hc
      rw [if_pos hc] at hne ⊢
      by_cases hb : bestAt a k = 0
      · have := bestAt_zero a k hb j h0 (by omega)
        omega
      · have hlt : a (bestAt a k) < a (k + 1) := hc.2.resolve_left hb
        by_cases hj : j = bestAt a k
        · subst hj
          exact .inl hlt
        · rcases bestAt_best a k hb j h0 (by omega) hp hj with h' | h' <;> exact .inl (by omega)
    · rename_i hc
      rw [if_neg hc] at hne ⊢
      by_cases hj : j = k + 1
      · subst hj
        simp at hc
        have := hc hp
        omega
      · exact bestAt_best a k h j h0 (by omega) hp hne
theorem ranksOf_mem (a : Nat → Int) (r : Rk) : ∀ k, r ∈ ranksOf a k ↔ ∃ j, 0 < j ∧ j ≤ k ∧ 0 < a j ∧ r = ⟨(j : Int), a j⟩
  | 0 => by
    constructor
    · intro h; cases h
    · rintro ⟨j, h0, h1, _⟩; omega
  | k + 1 => by
    rw [ranksOf, List.mem_append, ranksOf_mem a r k]
    constructor
    · rintro (⟨j, h0, h1, h2, h3⟩ | h)
      · exact ⟨j, h0, by omega, h2, h3⟩
      · split at h
        · rename_i hp
          rw [List.mem_singleton] at h
          exact ⟨k + 1, by omega, Nat.le_refl _, hp, h⟩
        · cases h
    · rintro ⟨j, h0, h1, h2, h3⟩
      by_cases hj : j = k + 1
      · subst hj
        right
        rw [if_pos h2, h3]
        simp
      · exact .inl ⟨j, h0, by omega, h2, h3⟩
theorem ranksOf_length (a : Nat → Int) : ∀ k, (ranksOf a k).length ≤ k
  | 0 => Nat.le_refl _
  | k + 1 => by
    have := ranksOf_length a k
    rw [ranksOf, List.length_append]
    split <;> simp <;> omega
theorem ranksOf_upd (a : Nat → Int) (p : Nat) : ∀ k, (p ≤ k → 0 < p → 0 < a p → (ranksOf a k).Perm (⟨(p : Int), a p⟩ :: ranksOf (upd0 a p) k)) ∧ (k < p → ranksOf (upd0 a p) k = ranksOf a k)
  | 0 => ⟨fun h1 h2 => by omega, fun _ => rfl⟩
  | k + 1 => by
    obtain ⟨i1, i2⟩ := ranksOf_upd a p k
    constructor
    · intro h1 h2 h3
      by_cases hp : p = k + 1
      · subst hp
        rw [ranksOf, ranksOf, i2 (by omega), if_pos h3, if_neg (by simp [upd0]), List.append_nil]
        exact List.perm_append_singleton _ _
      · have := i1 (by omega) h2 h3
        rw [ranksOf, ranksOf, ← List.cons_append]
        have e : upd0 a p (k + 1) = a (k + 1) := if_neg (by omega)
        rw [e]
        exact this.append_right _
    · intro h
      rw [ranksOf, ranksOf, i2 (by omega)]
      have e : upd0 a p (k + 1) = a (k + 1) := if_neg (by omega)
      rw [e]
/-- the best of a row is the one that the document takes -/
theorem ranks_pop (a : Nat → Int) {l l' : List Rk} {x : Rk} (hp : l.Perm (ranksOf a 8)) (hl : l.Perm (x :: l')) (hx : ∀ y ∈ l, Rk.lt y x = false) : bestAt a 8 ≠ 0 ∧ x.kind = (bestAt a 8 : Int) ∧ l'.Perm (ranksOf (upd0 a (bestAt a 8)) 8) := by
  have hm : x ∈ ranksOf a 8 := (hl.symm.trans hp).mem_iff.1 (by simp)
  obtain ⟨j, j0, j8, ja, hj⟩ := (ranksOf_mem a x 8).1 hm
  have h0 : bestAt a 8 ≠ 0 := fun h => by have := bestAt_zero a 8 h j j0 j8; omega
  have hpos := bestAt_pos a 8 h0
  have hle := bestAt_le a 8
  have hb := bestAt_best a 8 h0 j j0 j8 ja
  have hbm : (⟨(bestAt a 8 : Int), a (bestAt a 8)⟩ : Rk) ∈ l := hp.mem_iff.2 ((ranksOf_mem a _ 8).2 ⟨bestAt a 8, by omega, hle, hpos, rfl⟩)
  have hxl := hx _ hbm
  have hju := (ranksOf_upd a (bestAt a 8) 8).1 hle (by omega) hpos
  generalize bestAt a 8 = p at *
  have hjp : j = p := by
    apply Decidable.byContradiction
    intro hne
    have := hb hne
    rw [hj] at hxl
    simp only [Rk.lt, Bool.or_eq_false_iff, Bool.and_eq_false_iff, decide_eq_false_iff_not] at hxl
    omega
  subst hjp
  refine ⟨h0, by rw [hj], ?_⟩
  have := (hl.symm.trans hp).trans hju
  rw [hj] at this
  exact List.Perm.cons_inv this
theorem ranks_end (a : Nat → Int) (h : ranksOf a 8 = []) : bestAt a 8 = 0 := by
  apply Decidable.byContradiction
  intro h0
  have : (⟨(bestAt a 8 : Int), a (bestAt a 8)⟩ : Rk) ∈ ranksOf a 8 := (ranksOf_mem a _ 8).2 ⟨bestAt a 8, by omega, bestAt_le a 8, bestAt_pos a 8 h0, rfl⟩
  rw [h] at this
  cases this
theorem bzF_none (a : Nat → Int) (f : Nat) (h : bestAt a 8 = 0) : bzF f a = [] := by
  cases f
  · rfl
  · rw [bzF, if_pos h]
theorem bzF_fuel : ∀ (f g : Nat) (a : Nat → Int), (ranksOf a 8).length ≤ f → (ranksOf a 8).length ≤ g → bzF f a = bzF g a
  | 0, g, a, h, _ => by
    have : ranksOf a 8 = [] := List.eq_nil_of_length_eq_zero (by omega)
    rw [bzF_none a _ (ranks_end a this), bzF_none a _ (ranks_end a this)]
  | f + 1, 0, a, _, h => by
    have : ranksOf a 8 = [] := List.eq_nil_of_length_eq_zero (by omega)
    rw [bzF_none a _ (ranks_end a this), bzF_none a _ (ranks_end a this)]
  | f + 1, g + 1, a, h1, h2 => by
    rw [bzF, bzF]
    by_cases h0 : bestAt a 8 = 0
    · rw [if_pos h0, if_pos h0]
    · rw [if_neg h0, if_neg h0]
      have hl := ((ranksOf_upd a (bestAt a 8) 8).1 (bestAt_le a 8) (by omega) (bestAt_pos a 8 h0)).length_eq
      rw [List.length_cons] at hl
      rw [bzF_fuel f g _ (by omega) (by omega)]
/-- the document's row -/
def bz (a : Nat → Int) : List Int := bzF 8 a
theorem bz_none (a : Nat → Int) (h : bestAt a 8 = 0) : bz a = [] := bzF_none a 8 h
theorem bz_some (a : Nat → Int) (h : bestAt a 8 ≠ 0) : bz a = (bestAt a 8 : Int) :: bz (upd0 a (bestAt a 8)) := by
  have hl := ((ranksOf_upd a (bestAt a 8) 8).1 (bestAt_le a 8) (by omega) (bestAt_pos a 8 h)).length_eq
  have h8 := ranksOf_length a 8
  rw [List.length_cons] at hl
  unfold bz
  rw [show bzF 8 a = if bestAt a 8 = 0 then [] else (bestAt a 8 : Int) :: bzF 7 (upd0 a (bestAt a 8)) from rfl, if_neg h]
  rw [bzF_fuel 7 8 _ (by omega) (by omega)]
theorem bz_length (a : Nat → Int) : (bz a).length ≤ 8 := by
  have h : ∀ f a, (bzF f a).length ≤ f := by
    intro f
    induction f with
    | zero => intro a; exact Nat.le_refl _
    | succ f ih =>
      intro a
      rw [bzF]
      split
      · simp
      · have := ih (upd0 a (bestAt a 8))
        simp
        omega
  exact h 8 a
end Go.Proofs.Ytdfgdnaejnngoaa
