import Derived.Test.YtdfgdnaejnngoaaHw
namespace Go.Proofs.Ytdfgdnaejnngoaa
open Go.RowKit
/-! container/heap's Init and Pop over tally's ranks. -/
set_option maxRecDepth 100000 in
theorem rkPop_any (w : World) (bh m cap : Nat) (A : Option Addr) (l : List Rk) (x : Rk) (h : RSt w bh A (m + 1) cap l) (hl : m ≤ 1000) (hx : l[m]? = some x) :
    Calls Try.prog 115 #[.pointer (some ⟨bh, 0, none⟩)] w fun e w' => e = .returned (.iface 124 (.agg #[.int .i64 x.kind, .int .i64 x.times])) ∧ RSt w' bh A m cap (l.take m) ∧ Fr (RS bh A) w w' := by
  have c0 := h.c0
  have f0 := h.f0
  have hlt := h.lt
  obtain ⟨g, rfl, hB, hg, hcap, cx⟩ := h.2.2.row Rk.clen hx
  have x0 := cx 0 _ rfl
  have x1 := cx 1 _ rfl
  simp only [Nat.add_zero] at x0
  have H0 := Lib.hid h
  clear cx h hx
  obtain ⟨xk, xt⟩ := x
  dsimp only at x0 x1 ⊢
  go_enter Try.func115, Try.ntmps115
  go_wp2
  go_ret
  have H := H0.out
  have hb : Fr (RS bh (some ⟨g, 0, none⟩)) w ((w.setCell ⟨bh, 0, none⟩ (.slice (some ⟨g, 0, none⟩) m cap)).alloc (.cells #[.int .i64 xk, .int .i64 xt] 124)) := (((Fr.refl _ w).setCell (p := ⟨bh, 0, none⟩) (fun _ => .inl rfl) _).alloc _)
  have hr := setCell_row H.2.1 0 (.slice (some ⟨g, 0, none⟩) m cap)
  refine ⟨rfl, ⟨by simp [List.length_take, H.1], ?_, ?_⟩, hb⟩
  · exact ((Fr.refl (fun _ => False) _).alloc _).row id hr
  · have ht := H.2.2.take Rk.clen (m := m) (by rw [H.1]; omega) (by rw [H.1]; omega)
    exact ht.fr (((Fr.refl (fun k => k = bh) w).setCell (p := ⟨bh, 0, none⟩) (fun _ => rfl) _).alloc _) (fun k hk e => by omega)
set_option maxRecDepth 100000 in
theorem init_any (w : World) (bh m cap : Nat) (A : Option Addr) (l : List Rk) (h : RSt w bh A m cap l) (hl : m ≤ 1000) :
    Calls Try.prog 53 #[.iface 126 (.pointer (some ⟨bh, 0, none⟩))] w fun e w' => e = .returned (.tuple #[]) ∧ ∃ l', RSt w' bh A m cap l' ∧ HeapFrom Rk.lt 0 m l' ∧ l'.Perm l ∧ Fr (RS bh A) w w' := by
  have eN : ∀ (W : World) (k : Nat), W.cell? ⟨bh, 0, none⟩ = some (.slice A m cap) → (method (k + 1) 126 (.pointer (some ⟨bh, 0, none⟩)) "Len").run Try.prog W = .ok (54, .slice A m cap) W := fun W k h => inv_Len h k
  have nN := ent_Len
  have c0 := h.c0
  have H0 := Lib.hid h
  clear h
  go_enter Try.func53, Try.ntmps53
  go_wp2_with (go_at_call 54; (with_reducible refine (rkLen_any _ _ _ _).mono ?_); rintro e w1 ⟨rfl, rfl⟩)
  go_loopw [3] (fun i wr => ∃ (k : Int) (l' : List Rk), i = .int .i64 k ∧ -1 ≤ k ∧ k ≤ 1000 ∧ RSt wr bh A m cap l' ∧ HeapFrom Rk.lt (k + 1).toNat m l' ∧ l'.Perm l ∧ Fr (RS bh A) w wr) (fun i _ => (intOf i + 1).toNat)
  case atStart => exact ⟨(m : Int) / 2 - 1, l, rfl, by omega, by omega, H0.out, HeapFrom.half (by omega), List.Perm.refl _, Fr.refl _ _⟩
  case round =>
    obtain ⟨k, l', rfl, hk0, hk, hst, hheap, hperm, hbel⟩ := hrel
    have HST := Lib.hid hst
    have HH := Lib.hid hheap
    have HP := Lib.hid hperm
    clear hst hheap hperm
    by_cases h0 : 0 ≤ k
    · have hb := Lib.hid (HeapFrom.but (lt := Rk.lt) (i := k.toNat) (n := m) (l := l') (by rw [show k.toNat + 1 = (k + 1).toNat from by omega]; exact HH.out))
      go_wp2_with fail
      refine Calls.mono (down_any _ bh m cap k.toNat m k.toNat A l' _ _ ?_ ?_ HST.out (Nat.le_refl _) hl (by omega) (Nat.le_refl _) hb.out) ?_
      · omega
      · rfl
      rintro e w1 ⟨b, l2, rfl, hs2, hh2, hp2, _, hb2⟩
      have HS2 := Lib.hid hs2
      have HH2 := Lib.hid hh2
      have HP2 := Lib.hid (hp2.trans HP.out)
      clear hs2 hh2 hp2
      go_wp2
      go_roundw
      case rel => exact ⟨k - 1, l2, by go_num, by omega, by omega, HS2.out, by rw [show k - 1 + 1 = k from by omega]; exact HH2.out, HP2.out, hbel.tr hb2⟩
      case measure => simp [intOf]; omega
    · obtain rfl : k = -1 := by omega
      go_wp2
      go_end0
      exact ⟨rfl, l', HST.out, HH.out, HP.out, hbel⟩
set_option maxRecDepth 100000 in
theorem hpop_any (w : World) (bh m cap : Nat) (A : Option Addr) (l : List Rk) (h : RSt w bh A (m + 1) cap l) (hl : m + 1 ≤ 1000) (hh : HeapFrom Rk.lt 0 (m + 1) l) :
    Calls Try.prog 55 #[.iface 126 (.pointer (some ⟨bh, 0, none⟩))] w fun e w' => ∃ x l', e = .returned (.iface 124 (.agg #[.int .i64 x.kind, .int .i64 x.times])) ∧ RSt w' bh A m cap l' ∧ HeapFrom Rk.lt 0 m l' ∧ l.Perm (x :: l') ∧ (∀ y ∈ l, Rk.lt y x = false) ∧ Fr (RS bh A) w w' := by
  have eN : ∀ (W : World) (k : Nat), W.cell? ⟨bh, 0, none⟩ = some (.slice A (m + 1) cap) → (method (k + 1) 126 (.pointer (some ⟨bh, 0, none⟩)) "Len").run Try.prog W = .ok (54, .slice A (m + 1) cap) W := fun W k h => inv_Len h k
  have nN := ent_Len
  have eS : ∀ (W : World) (k : Nat), W.cell? ⟨bh, 0, none⟩ = some (.slice A (m + 1) cap) → (method (k + 1) 126 (.pointer (some ⟨bh, 0, none⟩)) "Swap").run Try.prog W = .ok (114, .slice A (m + 1) cap) W := fun W k h => inv_Swap h k
  have nS := ent_Swap
  have eP : ∀ (W : World) (k : Nat), (method (k + 1) 126 (.pointer (some ⟨bh, 0, none⟩)) "Pop").run Try.prog W = .ok (115, .pointer (some ⟨bh, 0, none⟩)) W := fun W k => inv_Pop k
  have nP := ent_Pop
  have c0 := h.c0
  obtain ⟨x, hx⟩ := get_lt (l := l) (i := 0) (by rw [h.1]; omega)
  obtain ⟨y, hy⟩ := get_lt (l := l) (i := m) (by rw [h.1]; omega)
  have hbut := hh.pop hx hy
  have htop := fun y k hk hy => hh.top Rk.law hx k y hk (by rw [h.1]; omega) hy
  have hget := swapL_get hx hy
  have H0 := Lib.hid h
  have HX := Lib.hid hx
  have HY := Lib.hid hy
  have HBT := Lib.hid hbut
  have HT := Lib.hid htop
  have HG := Lib.hid hget
  clear h hx hy hbut htop hget hh
  go_enter Try.func55, Try.ntmps55
  go_wp2_with (go_at_call 54; (with_reducible refine (rkLen_any _ _ _ _).mono ?_); rintro e w1 ⟨rfl, rfl⟩)
  refine Calls.mono (swap_at _ bh (m + 1) cap A l _ _ 0 m x y H0.out ?_ ?_ HX.out HY.out) ?_
  · rfl
  · rfl
  rintro e w1 ⟨rfl, hs1, hb1⟩
  have HS1 := Lib.hid hs1
  clear hs1
  go_wp2_with fail
  refine Calls.mono (down_any _ bh (m + 1) cap 0 m 0 A _ _ _ ?_ ?_ HS1.out (by omega) hl (by omega) (Nat.le_refl _) HBT.out) ?_
  · rfl
  · rfl
  rintro e w2 ⟨b, l2, rfl, hs2, hh2, hp2, ht2, hb2⟩
  have hx2 : l2[m]? = some x := by rw [ht2 m (Nat.le_refl _), HG.out, if_pos rfl]
  have HS2 := Lib.hid hs2
  have HH2 := Lib.hid hh2
  have HP2 := Lib.hid hp2
  have HX2 := Lib.hid hx2
  clear hs2 hh2 hp2 hx2 ht2
  go_wp2_with fail
  refine Calls.mono (rkPop_any _ bh m cap A l2 x HS2.out (by omega) HX2.out) ?_
  rintro e w3 ⟨rfl, hs3, hb3⟩
  have HS3 := Lib.hid hs3
  clear hs3
  go_wp2
  go_ret
  have hl2 := HS2.out.1
  have e2 : l2 = l2.take m ++ [x] := by
    obtain ⟨hm, ex⟩ := List.getElem?_eq_some_iff.1 HX2.out
    have := List.take_append_getElem (l := l2) (i := m) hm
    rw [ex] at this
    rw [this, List.take_of_length_le (by omega)]
  refine ⟨x, l2.take m, rfl, HS3.out, HH2.out.take (Nat.le_refl _), ?_, fun y hy => ?_, (hb1.tr hb2).tr hb3⟩
  · have hp : l.Perm l2 := (HP2.out.trans (swapL_perm _ _ _)).symm
    rw [e2] at hp
    exact hp.trans (List.perm_append_singleton _ _)
  · obtain ⟨k, hk⟩ := List.getElem?_of_mem hy
    have := (List.getElem?_eq_some_iff.1 hk).1
    exact HT.out y k (by have := H0.out.1; omega) hk
end Go.Proofs.Ytdfgdnaejnngoaa
