import Derived.Test.YtdfgdnaejnngoaaFrameR
import Derived.Test.YtdfgdnaejnngoaaTl
namespace Go.Proofs.Ytdfgdnaejnngoaa
open Go.ChangeShapes Go.WideShapes Go.ChangeAt Go.RowKit Go.Deep
/-! What comes in: events. -/
section
variable {P : Program} {H : Type} {enc : TypeId × Value → H} {w : World} {base : Nat} {sp : Nat → Bool} {held : Bool}
/-- a struct's field -/
theorem trod_field {t T : TypeId} {fs : Array Field} {fuel : Nat} {cs : List Value} {x : DataW H × List MemPlace} (hs : P.underlying t = some (.struct fs)) (h : DataW.trod enc P w base sp held fuel t cs = some x) (i o k : Nat)
    (hi : fs[i]?.map (fun g => (g.offset, g.type)) = some (o, T)) (hk : P.cellsOf T = k) : ∃ n x', DataW.trod enc P w base sp held n T ((cs.drop o).take k) = some x' := by
  obtain ⟨xs, n, _, _, _, hx, hf⟩ := DataW.trod_struct hs h
  obtain ⟨g, hg, he⟩ := Option.map_eq_some_iff.1 hi
  cases he
  have hlt : i < xs.length := by rw [hx]; exact (Array.getElem?_eq_some_iff.1 hg).1
  have := hf i g hg
  rw [hk, List.getElem?_eq_getElem hlt] at this
  exact ⟨n, _, this⟩
theorem trod_len {t : TypeId} {fs : Array Field} {fuel : Nat} {cs : List Value} {x : DataW H × List MemPlace} (hs : P.underlying t = some (.struct fs)) (h : DataW.trod enc P w base sp held fuel t cs = some x) : cs.length = P.cellsOf t := by
  obtain ⟨_, _, _, _, hl, _⟩ := DataW.trod_struct hs h
  exact hl
theorem slice_cells {t e : TypeId} {fuel : Nat} {cs : List Value} {x : DataW H × List MemPlace} (ht : P.underlying t = some (.slice e)) (h : DataW.trod enc P w base sp held fuel t cs = some x) : ∃ A n c, cs = [.slice A n c] := by
  rcases open_slice ht h with ⟨hc, _⟩ | ⟨ad, len', cap', m, n, D, Pl, hc, _⟩
  · exact ⟨_, _, _, hc⟩
  · exact ⟨_, _, _, hc⟩
end
theorem list_22 {α : Type} {l : List α} (h : l.length = 22) : ∃ c0 c1 c2 c3 c4 c5 c6 c7 c8 c9 c10 c11 c12 c13 c14 c15 c16 c17 c18 c19 c20 c21, l = [c0, c1, c2, c3, c4, c5, c6, c7, c8, c9, c10, c11, c12, c13, c14, c15, c16, c17, c18, c19, c20, c21] := by
  match l, h with
  | [c0, c1, c2, c3, c4, c5, c6, c7, c8, c9, c10, c11, c12, c13, c14, c15, c16, c17, c18, c19, c20, c21], _ => exact ⟨c0, c1, c2, c3, c4, c5, c6, c7, c8, c9, c10, c11, c12, c13, c14, c15, c16, c17, c18, c19, c20, c21, rfl⟩
section
variable {H : Type} {enc : TypeId × Value → H} {w : World} {base : Nat} {sp : Nat → Bool} {held : Bool}
set_option maxRecDepth 100000 in
theorem ev_cells {fuel : Nat} {cs : List Value} {x : DataW H × List MemPlace} (h : DataW.trod enc Try.prog w base sp held fuel 67 cs = some x) : ∃ e : Ev, cs = e.cells ∧ True := by
  have hl := (trod_len Try.underlying67 h).trans (show Try.prog.cellsOf 67 = 22 by kernel_rfl)
  obtain ⟨c0, c1, c2, c3, c4, c5, c6, c7, c8, c9, c10, c11, c12, c13, c14, c15, c16, c17, c18, c19, c20, c21, rfl⟩ := list_22 hl
  obtain ⟨n1, y1, s1⟩ := trod_field Try.underlying67 h 0 0 9 (T := 60) (by kernel_rfl) (by kernel_rfl)
  obtain ⟨n2, y2, s2⟩ := trod_field Try.underlying67 h 1 9 13 (T := 65) (by kernel_rfl) (by kernel_rfl)
  replace s1 : DataW.trod enc Try.prog w base sp held n1 60 [c0, c1, c2, c3, c4, c5, c6, c7, c8] = some y1 := s1
  replace s2 : DataW.trod enc Try.prog w base sp held n2 65 [c9, c10, c11, c12, c13, c14, c15, c16, c17, c18, c19, c20, c21] = some y2 := s2
  obtain ⟨_, f0y, f0⟩ := trod_field Try.underlying60 s1 0 0 1 (T := 3) (by kernel_rfl) (by kernel_rfl)
  replace f0 : DataW.trod enc Try.prog w base sp held _ 3 [c0] = some f0y := f0
  obtain ⟨_, soy, so⟩ := trod_field Try.underlying60 s1 1 1 6 (T := 24) (by kernel_rfl) (by kernel_rfl)
  replace so : DataW.trod enc Try.prog w base sp held _ 24 [c1, c2, c3, c4, c5, c6] = some soy := so
  obtain ⟨_, f7y, f7⟩ := trod_field Try.underlying60 s1 2 7 1 (T := 3) (by kernel_rfl) (by kernel_rfl)
  replace f7 : DataW.trod enc Try.prog w base sp held _ 3 [c7] = some f7y := f7
  obtain ⟨_, f8y, f8⟩ := trod_field Try.underlying60 s1 3 8 1 (T := 58) (by kernel_rfl) (by kernel_rfl)
  replace f8 : DataW.trod enc Try.prog w base sp held _ 58 [c8] = some f8y := f8
  obtain ⟨_, f1y, f1⟩ := trod_field Try.underlying24 so 0 0 1 (T := 3) (by kernel_rfl) (by kernel_rfl)
  replace f1 : DataW.trod enc Try.prog w base sp held _ 3 [c1] = some f1y := f1
  obtain ⟨_, f2y, f2⟩ := trod_field Try.underlying24 so 1 1 1 (T := 9) (by kernel_rfl) (by kernel_rfl)
  replace f2 : DataW.trod enc Try.prog w base sp held _ 9 [c2] = some f2y := f2
  obtain ⟨_, f3y, f3⟩ := trod_field Try.underlying24 so 2 2 1 (T := 9) (by kernel_rfl) (by kernel_rfl)
  replace f3 : DataW.trod enc Try.prog w base sp held _ 9 [c3] = some f3y := f3
  obtain ⟨_, f4y, f4⟩ := trod_field Try.underlying24 so 3 3 1 (T := 22) (by kernel_rfl) (by kernel_rfl)
  replace f4 : DataW.trod enc Try.prog w base sp held _ 22 [c4] = some f4y := f4
  obtain ⟨_, f5y, f5⟩ := trod_field Try.underlying24 so 4 4 1 (T := 9) (by kernel_rfl) (by kernel_rfl)
  replace f5 : DataW.trod enc Try.prog w base sp held _ 9 [c5] = some f5y := f5
  obtain ⟨_, f6y, f6⟩ := trod_field Try.underlying24 so 5 5 1 (T := 9) (by kernel_rfl) (by kernel_rfl)
  replace f6 : DataW.trod enc Try.prog w base sp held _ 9 [c6] = some f6y := f6
  obtain ⟨_, f9y, f9⟩ := trod_field Try.underlying65 s2 0 0 1 (T := 29) (by kernel_rfl) (by kernel_rfl)
  replace f9 : DataW.trod enc Try.prog w base sp held _ 29 [c9] = some f9y := f9
  obtain ⟨_, f10y, f10⟩ := trod_field Try.underlying65 s2 1 1 1 (T := 4) (by kernel_rfl) (by kernel_rfl)
  replace f10 : DataW.trod enc Try.prog w base sp held _ 4 [c10] = some f10y := f10
  obtain ⟨_, f11y, f11⟩ := trod_field Try.underlying65 s2 2 2 1 (T := 9) (by kernel_rfl) (by kernel_rfl)
  replace f11 : DataW.trod enc Try.prog w base sp held _ 9 [c11] = some f11y := f11
  obtain ⟨_, f12y, f12⟩ := trod_field Try.underlying65 s2 3 3 1 (T := 61) (by kernel_rfl) (by kernel_rfl)
  replace f12 : DataW.trod enc Try.prog w base sp held _ 61 [c12] = some f12y := f12
  obtain ⟨_, sty, st⟩ := trod_field Try.underlying65 s2 4 4 9 (T := 63) (by kernel_rfl) (by kernel_rfl)
  replace st : DataW.trod enc Try.prog w base sp held _ 63 [c13, c14, c15, c16, c17, c18, c19, c20, c21] = some sty := st
  obtain ⟨_, f13y, f13⟩ := trod_field Try.underlying63 st 0 0 1 (T := 3) (by kernel_rfl) (by kernel_rfl)
  replace f13 : DataW.trod enc Try.prog w base sp held _ 3 [c13] = some f13y := f13
  obtain ⟨_, f14y, f14⟩ := trod_field Try.underlying63 st 1 1 1 (T := 3) (by kernel_rfl) (by kernel_rfl)
  replace f14 : DataW.trod enc Try.prog w base sp held _ 3 [c14] = some f14y := f14
  obtain ⟨_, f15y, f15⟩ := trod_field Try.underlying63 st 2 2 1 (T := 3) (by kernel_rfl) (by kernel_rfl)
  replace f15 : DataW.trod enc Try.prog w base sp held _ 3 [c15] = some f15y := f15
  obtain ⟨_, f16y, f16⟩ := trod_field Try.underlying63 st 3 3 1 (T := 3) (by kernel_rfl) (by kernel_rfl)
  replace f16 : DataW.trod enc Try.prog w base sp held _ 3 [c16] = some f16y := f16
  obtain ⟨_, f17y, f17⟩ := trod_field Try.underlying63 st 4 4 1 (T := 3) (by kernel_rfl) (by kernel_rfl)
  replace f17 : DataW.trod enc Try.prog w base sp held _ 3 [c17] = some f17y := f17
  obtain ⟨_, f18y, f18⟩ := trod_field Try.underlying63 st 5 5 1 (T := 3) (by kernel_rfl) (by kernel_rfl)
  replace f18 : DataW.trod enc Try.prog w base sp held _ 3 [c18] = some f18y := f18
  obtain ⟨_, f19y, f19⟩ := trod_field Try.underlying63 st 6 6 1 (T := 3) (by kernel_rfl) (by kernel_rfl)
  replace f19 : DataW.trod enc Try.prog w base sp held _ 3 [c19] = some f19y := f19
  obtain ⟨_, f20y, f20⟩ := trod_field Try.underlying63 st 7 7 1 (T := 3) (by kernel_rfl) (by kernel_rfl)
  replace f20 : DataW.trod enc Try.prog w base sp held _ 3 [c20] = some f20y := f20
  obtain ⟨_, f21y, f21⟩ := trod_field Try.underlying63 st 8 8 1 (T := 3) (by kernel_rfl) (by kernel_rfl)
  replace f21 : DataW.trod enc Try.prog w base sp held _ 3 [c21] = some f21y := f21
  obtain ⟨v0, h0, _, _⟩ := DataW.trod_int Try.underlying3 f0
  obtain ⟨v1, h1, _, _⟩ := DataW.trod_int Try.underlying3 f1
  obtain ⟨v2, h2, _, _⟩ := DataW.trod_string Try.underlying9 f2
  obtain ⟨v3, h3, _, _⟩ := DataW.trod_string Try.underlying9 f3
  obtain ⟨v4, h4, _, _⟩ := DataW.trod_int Try.underlying22 f4
  obtain ⟨v5, h5, _, _⟩ := DataW.trod_string Try.underlying9 f5
  obtain ⟨v6, h6, _, _⟩ := DataW.trod_string Try.underlying9 f6
  obtain ⟨v7, h7, _, _⟩ := DataW.trod_int Try.underlying3 f7
  obtain ⟨A8, l8, k8, h8⟩ := slice_cells Try.underlying58 f8
  obtain ⟨v9, h9, _, _⟩ := DataW.trod_int Try.underlying29 f9
  obtain ⟨v10, h10, _⟩ := DataW.trod_bool Try.underlying4 f10
  obtain ⟨v11, h11, _, _⟩ := DataW.trod_string Try.underlying9 f11
  obtain ⟨A12, l12, k12, h12⟩ := slice_cells Try.underlying61 f12
  obtain ⟨v13, h13, _, _⟩ := DataW.trod_int Try.underlying3 f13
  obtain ⟨v14, h14, _, _⟩ := DataW.trod_int Try.underlying3 f14
  obtain ⟨v15, h15, _, _⟩ := DataW.trod_int Try.underlying3 f15
  obtain ⟨v16, h16, _, _⟩ := DataW.trod_int Try.underlying3 f16
  obtain ⟨v17, h17, _, _⟩ := DataW.trod_int Try.underlying3 f17
  obtain ⟨v18, h18, _, _⟩ := DataW.trod_int Try.underlying3 f18
  obtain ⟨v19, h19, _, _⟩ := DataW.trod_int Try.underlying3 f19
  obtain ⟨v20, h20, _, _⟩ := DataW.trod_int Try.underlying3 f20
  obtain ⟨v21, h21, _, _⟩ := DataW.trod_int Try.underlying3 f21
  simp only [List.cons.injEq, and_true] at h0 h1 h2 h3 h4 h5 h6 h7 h8 h9 h10 h11 h12 h13 h14 h15 h16 h17 h18 h19 h20 h21
  subst h0 h1 h2 h3 h4 h5 h6 h7 h8 h9 h10 h11 h12 h13 h14 h15 h16 h17 h18 h19 h20 h21
  exact ⟨⟨v0, ⟨v1, v2, v3, v4, v5, v6⟩, v7, A8, l8, k8, v9, v10, v11, A12, l12, k12, fun i => [v13, v14, v15, v16, v17, v18, v19, v20, v21].getD i 0⟩, rfl, trivial⟩
theorem slice_cap {T e : TypeId} (hs : Try.prog.underlying T = some (.slice e)) {A : Option Addr} {n c : Nat} {d : DataW H} {p : List MemPlace} (h : DataW.Trod enc Try.prog w base sp held T (.slice A n c) d p) : n ≤ c ∧ (A = none → c = 0) := by
  obtain ⟨fuel, hf⟩ := h
  rcases open_slice hs hf with ⟨hc, _⟩ | ⟨ad, len', cap', m, n', D, Pl, hc, _, hlc, _⟩
  · simp [Value.cells] at hc
    obtain ⟨rfl, rfl, rfl⟩ := hc
    exact ⟨Nat.le_refl _, fun _ => rfl⟩
  · simp [Value.cells] at hc
    obtain ⟨rfl, rfl, rfl⟩ := hc
    exact ⟨hlc, fun h => by cases h⟩
set_option maxRecDepth 100000 in
theorem evs_in {r : Reach} {b0 : Nat} {v : Value} {d : DataW H} {p : List MemPlace} (hv : Value.okWide Try.prog w r b0 51 v) (h : DataW.Trod enc Try.prog w base sp held 51 v d p) :
    ∃ (A : Option Addr) (cap : Nat) (l : List Ev), v = .slice A l.length cap ∧ Elems w A 22 (l.map Ev.cells) ∧ ∀ e ∈ l, True :=
  rows_in Ev.cells (fun _ => True) Try.underlying51 (by kernel_rfl) (by decide) (fun _ => rfl) (fun _ _ _ h => ev_cells h) hv h
end
end Go.Proofs.Ytdfgdnaejnngoaa
