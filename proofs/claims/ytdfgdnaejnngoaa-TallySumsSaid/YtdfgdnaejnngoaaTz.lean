import Derived.Test.YtdfgdnaejnngoaaTy
namespace Go.Proofs.Ytdfgdnaejnngoaa
open Go.RowKit
/-! grangerlaw32.all; rows of tallies; a region's ways that meet again. -/
def alV (v : Nat → Int) : List Int := (plL 21).map v
theorem alV_len (v : Nat → Int) : (alV v).length = 25 := by simp [alV, plL]
/-- numbers of one's own, and others behind them -/
theorem int_append {ops : Array Oper} {rest : List Oper} {o : Oper} {a : Act} {w : World} {Q : Exit → Act → World → Prop} (hgd : o.guard = none) (N : Option Tmp) (hN : o.dst = N) (s x : Operand) (ho : o.op = .call { callee := .builtin .append, args := #[s, x], argTypes := #[75, 75] })
    (B : Nat) (v : Value) (l m : List Int) (n : Nat) (ad : Addr) (c : Nat) (hn : m.length = n) (hs : a.eval s = v) (hx : a.eval x = .slice (some ad) n c) (hown : OwnsI w B v l) (hel : ∀ j u, ((m.map intC).flatten)[j]? = some u → w.cell? (ad.add j) = some u) (hl : l.length + m.length ≤ 1000) (hB : B ≤ w.heap.size)
    (h : ∀ v' w', OwnsI w' B v' (l ++ m) → Fr (fun k => B ≤ k) w w' → wpList Try.prog ops Q rest (a.put N v') w') : wpList Try.prog ops Q (o :: rest) a w := by
  subst hn hN
  obtain ⟨i0, hi0, hz0, hz1, hz2⟩ := info_parts I_info
  refine wpList_append_own w hgd s x 75 ho B 3 i0 _ 1 8 Try.underlying75 hi0 hz0 hz1 hz2 rfl (by decide) v l.length _ hs hown ad m.length c ((m.map intC).flatten) hx (flatten_length intC_len m) hel ?_ ?_ ?_ hB ?_
  · intro u hu
    obtain ⟨r, hr, hu⟩ := List.mem_flatten.1 hu
    obtain ⟨e, _, rfl⟩ := List.mem_map.1 hr
    exact int_one e u hu
  · unfold maxLen; omega
  · omega
  · intro v' w' h1 h2 _
    refine h v' w' ?_ ((Fr.refl _ w).grown h2 (fun i hi e => (hown.lt i e).1))
    unfold OwnsI OwnsG
    rw [List.map_append, List.flatten_append, List.length_append]
    exact h1
theorem ints_flat (m : List Int) : (m.map intC).flatten = m.map (Value.int .i64) := by
  induction m with
  | nil => rfl
  | cons x m ih => simp [intC, ih]
theorem VAt.ints {T : TypeId} {n : Nat} {w : World} {b : Nat} {v : Nat → Int} (h : VAt T n w b v) (o k : Nat) (hk : o + k ≤ n) : ∀ j u, (((List.range k).map fun i => v (o + i)).map intC).flatten[j]? = some u → w.cell? ((⟨b, o, none⟩ : Addr).add j) = some u := by
  intro j u hj
  rw [ints_flat, List.getElem?_map, List.getElem?_map] at hj
  have hjk : j < k := by
    apply Decidable.byContradiction
    intro hn
    rw [List.getElem?_eq_none (by simp; omega)] at hj
    simp at hj
  rw [List.getElem?_range hjk] at hj
  simp at hj
  rw [Addr.add_mid, h.cell (by omega), hj]
theorem alV_split (v : Nat → Int) : ([v 21, v 22, v 23, v 24] ++ (List.range 9).map fun i => v (0 + i)) ++ ((List.range 12).map fun i => v (9 + i)) = alV v := by
  simp [alV, plL, List.range_succ]
set_option maxHeartbeats 1000000 in
set_option maxRecDepth 100000 in
theorem all_any (v : Nat → Int) (w : World) : Calls Try.prog 30 #[.agg (nv 25 v)] w fun e w' => ∃ A cap, e = .returned (.slice A 25 cap) ∧ OwnsI w' w.heap.size (.slice A 25 cap) (alV v) ∧ Below w.heap.size w w' := by
  have h0 := VAt.new (T := 71) (n := 25) w v
  have hb0 : Below w.heap.size w (w.alloc (.cells (nv 25 v) 71)) := Below.alloc (Below.refl _ _) (Nat.le_refl _) _
  have hs0 : (w.alloc (.cells (nv 25 v) 71)).heap.size = w.heap.size + 1 := by simp
  have e1 := nv_get 25 v 21 (by omega)
  have e2 := nv_get 25 v 22 (by omega)
  have e3 := nv_get 25 v 23 (by omega)
  have e4 := nv_get 25 v 24 (by omega)
  have H0 := Lib.hid h0
  have HB0 := Lib.hid hb0
  have HS0 := Lib.hid hs0
  clear h0 hb0 hs0
  generalize nv 25 v = cs at *
  have ho1 : OwnsI ((w.alloc (.cells cs 71)).alloc (.cells #[.int .i64 (v 21), .int .i64 (v 22), .int .i64 (v 23), .int .i64 (v 24)] 3)) (w.heap.size + 1) (.slice (some ⟨w.heap.size + 1, 0, none⟩) 4 4) [v 21, v 22, v 23, v 24] :=
    ⟨by simp [intC], .inr ⟨w.heap.size + 1, 4, _, rfl, Nat.le_refl _, heap_new_at (by simp), by simp, by unfold maxLen; omega, by simp, by simp [intC]⟩⟩
  have HO1 := Lib.hid ho1
  have HV1 := Lib.hid (H0.out.fr ((Fr.refl (fun _ => False) _).alloc (.cells #[.int .i64 (v 21), .int .i64 (v 22), .int .i64 (v 23), .int .i64 (v 24)] 3)) id)
  have HB1 := Lib.hid (below_alloc (o := .cells #[.int .i64 (v 21), .int .i64 (v 22), .int .i64 (v 23), .int .i64 (v 24)] 3) HB0.out)
  clear ho1
  go_enter Try.func30, Try.ntmps30
  go_wp2_with (at_builtin; refine int_append rfl (some 16) rfl _ _ rfl (w.heap.size + 1) _ [v 21, v 22, v 23, v 24] ((List.range 9).map fun i => v (0 + i)) 9 ⟨w.heap.size, 0, none⟩ 9 (by simp) rfl rfl HO1.out (HV1.out.ints 0 9 (by omega)) (by simp) (by simp) ?_)
  intro v2 w2 ho2 hf2
  obtain ⟨A2, cap2, rfl⟩ := ho2.slice
  simp only [Act.put, List.setIfInBounds_toArray, List.set_cons_zero, List.set_cons_succ]
  have hv2 := HV1.out.fr hf2 (by omega)
  have hb2 := HB1.out.trans (hf2.to_below (B := w.heap.size) HB1.out.size (fun i hi h => by omega))
  have hlen : ([v 21, v 22, v 23, v 24] ++ (List.range 9).map fun i => v (0 + i)).length = 13 := by simp
  have hsp := alV_split v
  have hal := alV_len v
  have hz2 : w.heap.size + 1 ≤ w2.heap.size := by have := hf2.size; simp at this; omega
  generalize ([v 21, v 22, v 23, v 24] ++ (List.range 9).map fun i => v (0 + i)) = l13 at *
  rw [hlen] at ho2 ⊢
  have HV2 := Lib.hid hv2
  have HB2 := Lib.hid hb2
  have HO2 := Lib.hid ho2
  have HLE := Lib.hid hlen
  have HSP := Lib.hid hsp
  have HAL := Lib.hid hal
  clear hf2 hv2 hb2 ho2 hlen hsp hal
  go_wp2_with (at_builtin; refine int_append rfl (some 20) rfl _ _ rfl (w.heap.size + 1) _ l13 ((List.range 12).map fun i => v (9 + i)) 12 ⟨w.heap.size, 9, none⟩ 12 (by simp) rfl rfl HO2.out (HV2.out.ints 9 12 (by omega)) (by rw [HLE.out]; simp) hz2 ?_)
  intro v3 w3 ho3 hf3
  rw [HSP.out] at ho3
  obtain ⟨A3, cap3, rfl⟩ := ho3.slice
  rw [HAL.out] at ho3 ⊢
  simp only [Act.put, List.setIfInBounds_toArray, List.set_cons_zero, List.set_cons_succ]
  have hb3 := HB2.out.trans (hf3.to_below (B := w.heap.size) HB2.out.size (fun i hi h => by omega))
  go_wp2
  go_ret
  exact ⟨A3, cap3, rfl, ho3.base (by omega), hb3⟩
end Go.Proofs.Ytdfgdnaejnngoaa
