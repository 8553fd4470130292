import Derived.Test.YtdfgdnaejnngoaaFrameE
import Derived.Test.YtdfgdnaejnngoaaTv
namespace Go.Proofs.Ytdfgdnaejnngoaa
open Go.ChangeShapes Go.WideShapes Go.ChangeAt Go.RowKit Go.Deep
/-! What comes in: tallies. -/
theorem ints_of {k : Nat} {cs : List Value} (hl : cs.length = k) (h : ∀ i, i < k → ∃ n, cs[i]? = some (.int .i64 n)) : ∃ v : Nat → Int, cs = (List.range k).map (fun i => Value.int .i64 (v i)) ∧ ∀ i, k ≤ i → v i = 0 := by
  refine ⟨fun i => match cs[i]? with | some (.int _ n) => n | _ => 0, ?_, fun i hi => ?_⟩
  · apply List.ext_getElem?
    intro i
    by_cases hi : i < k
    · obtain ⟨n, hn⟩ := h i hi
      rw [List.getElem?_map, List.getElem?_range hi, hn]
      simp [hn]
    · rw [List.getElem?_eq_none (by omega), List.getElem?_eq_none (by simp; omega)]
  · show (match cs[i]? with | some (.int _ n) => n | _ => 0) = 0
    rw [List.getElem?_eq_none (by omega)]
section
variable {H : Type} {enc : TypeId × Value → H} {w : World} {base : Nat} {sp : Nat → Bool} {held : Bool}
theorem arr_get {T : TypeId} {k fuel : Nat} {cs : List Value} {x : DataW H × List MemPlace} (hT : Try.prog.underlying T = some (.array k 3)) (h : DataW.trod enc Try.prog w base sp held fuel T cs = some x) (i : Nat) (hi : i < k) : ∃ n, cs[i]? = some (.int .i64 n) := by
  obtain ⟨xs, m, _, _, _, hx, hf⟩ := DataW.trod_array hT h
  have h1 := hf i hi
  rw [List.getElem?_eq_getElem (by omega), show Try.prog.cellsOf 3 = 1 from by kernel_rfl, Nat.mul_one] at h1
  obtain ⟨n, h2, _, _⟩ := DataW.trod_int Try.underlying3 h1
  refine ⟨n, ?_⟩
  have h3 : ((cs.drop i).take 1)[0]? = some (.int .i64 n) := by rw [h2]; rfl
  rw [List.getElem?_take, if_pos (by omega), List.getElem?_drop] at h3
  exact h3
theorem sub_get {cs : List Value} {o k j : Nat} {u : Value} (h : ((cs.drop o).take k)[j]? = some u) (hj : j < k) : cs[o + j]? = some u := by
  rw [List.getElem?_take, if_pos hj, List.getElem?_drop] at h
  exact h
theorem one_int {fuel : Nat} {cs : List Value} {x : DataW H × List MemPlace} {o : Nat} (h : DataW.trod enc Try.prog w base sp held fuel 3 ((cs.drop o).take 1) = some x) : ∃ n, cs[o]? = some (.int .i64 n) := by
  obtain ⟨n, h2, _, _⟩ := DataW.trod_int Try.underlying3 h
  exact ⟨n, sub_get (j := 0) (by rw [h2]; rfl) (by omega)⟩
set_option maxRecDepth 100000 in
theorem tally_cells {fuel : Nat} {cs : List Value} {x : DataW H × List MemPlace} (h : DataW.trod enc Try.prog w base sp held fuel 71 cs = some x) : ∃ v : Nat → Int, cs = tC v ∧ ∀ i, 25 ≤ i → v i = 0 := by
  have hl := (trod_len Try.underlying71 h).trans (show Try.prog.cellsOf 71 = 25 by kernel_rfl)
  obtain ⟨n0, y0, s0⟩ := trod_field Try.underlying71 h 0 0 9 (T := 53) (by kernel_rfl) (by kernel_rfl)
  obtain ⟨n1, y1, s1⟩ := trod_field Try.underlying71 h 1 9 12 (T := 54) (by kernel_rfl) (by kernel_rfl)
  obtain ⟨n2, y2, s2⟩ := trod_field Try.underlying71 h 2 21 1 (T := 3) (by kernel_rfl) (by kernel_rfl)
  obtain ⟨n3, y3, s3⟩ := trod_field Try.underlying71 h 3 22 1 (T := 3) (by kernel_rfl) (by kernel_rfl)
  obtain ⟨n4, y4, s4⟩ := trod_field Try.underlying71 h 4 23 1 (T := 3) (by kernel_rfl) (by kernel_rfl)
  obtain ⟨n5, y5, s5⟩ := trod_field Try.underlying71 h 5 24 1 (T := 3) (by kernel_rfl) (by kernel_rfl)
  refine ints_of hl fun i hi => ?_
  by_cases h9 : i < 9
  · obtain ⟨n, hn⟩ := arr_get Try.underlying53 s0 i h9
    have := sub_get hn h9
    rw [Nat.zero_add] at this
    exact ⟨n, this⟩
  by_cases h21 : i < 21
  · obtain ⟨n, hn⟩ := arr_get Try.underlying54 s1 (i - 9) (by omega)
    have := sub_get hn (by omega)
    rw [show 9 + (i - 9) = i by omega] at this
    exact ⟨n, this⟩
  have : i = 21 ∨ i = 22 ∨ i = 23 ∨ i = 24 := by omega
  rcases this with rfl | rfl | rfl | rfl
  · exact one_int s2
  · exact one_int s3
  · exact one_int s4
  · exact one_int s5
set_option maxRecDepth 100000 in
theorem tallies_in {r : Reach} {b0 : Nat} {v : Value} {d : DataW H} {p : List MemPlace} (hv : Value.okWide Try.prog w r b0 79 v) (h : DataW.Trod enc Try.prog w base sp held 79 v d p) :
    ∃ (A : Option Addr) (cap : Nat) (l : List (Nat → Int)), v = .slice A l.length cap ∧ Elems w A 25 (l.map tC) ∧ ∀ e ∈ l, ∀ i, 25 ≤ i → e i = 0 :=
  rows_in tC (fun e => ∀ i, 25 ≤ i → e i = 0) Try.underlying79 (by kernel_rfl) (by decide) tC_len (fun _ _ _ h => tally_cells h) hv h
set_option maxRecDepth 100000 in
theorem tally_in {r : Reach} {b0 : Nat} {v : Value} {d : DataW H} {p : List MemPlace} (hv : Value.okWide Try.prog w r b0 71 v) (h : DataW.Trod enc Try.prog w base sp held 71 v d p) :
    ∃ e : Nat → Int, v = .agg (nv 25 e) ∧ ∀ i, 25 ≤ i → e i = 0 := by
  obtain ⟨cs, rfl, _⟩ := okWide_struct Try.underlying71 hv
  obtain ⟨fuel, hf⟩ := h
  obtain ⟨e, he, h0⟩ := tally_cells hf
  have hc : cs.toList = (nv 25 e).toList := he
  exact ⟨e, by rw [show cs = nv 25 e from by rw [← Array.toArray_toList (xs := cs), hc, Array.toArray_toList]], h0⟩
end
end Go.Proofs.Ytdfgdnaejnngoaa
