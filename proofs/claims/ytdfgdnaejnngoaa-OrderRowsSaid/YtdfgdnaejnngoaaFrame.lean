import Derived.Test.YtdfgdnaejnngoaaRows
import Derived.Test.YtdfgdnaejnngoaaOrd7
import Derived.WalkKit
import Derived.ProofKit
import Derived.OpenShut
import Derived.ShutString
import Derived.ChangeOld
import Derived.Below
import Derived.Deep.Slices
import Derived.Deep.Fields
import Derived.ChangeSame
namespace Go.Proofs.Ytdfgdnaejnngoaa
open Go.ChangeShapes Go.WideShapes Go.ChangeAt Go.RowKit Go.Deep
/-! What comes in: orders. -/

theorem own : ownKnob Try.prog.godebug = none := by kernel_rfl
theorem laidOut : laidOutB Try.prog = true := by kernel_rfl

theorem list_six {α : Type} {l : List α} (h : l.length = 6) : ∃ a b c d e f, l = [a, b, c, d, e, f] := by
  match l, h with
  | [a, b, c, d, e, f], _ => exact ⟨a, b, c, d, e, f, rfl⟩
theorem fits_of {n : Int} (h : (Lit.int .u64 n).wf = true) : 0 ≤ n ∧ n.toNat < 18446744073709551616 := by
  simp [Lit.wf, IntKind.min, IntKind.max, IntKind.signed, IntKind.bits] at h
  omega
theorem ord_type : ∃ fs : Array Field, Try.prog.underlying 24 = some (.struct fs) ∧ oneCellFields Try.prog fs = true ∧ fs.size = 6 ∧ fs[0]?.map (·.type) = some 3 ∧ fs[1]?.map (·.type) = some 9 ∧ fs[2]?.map (·.type) = some 9 ∧ fs[3]?.map (·.type) = some 22 ∧ fs[4]?.map (·.type) = some 9 ∧ fs[5]?.map (·.type) = some 9 :=
  ⟨_, Try.underlying24, by kernel_rfl, by kernel_rfl, by kernel_rfl, by kernel_rfl, by kernel_rfl, by kernel_rfl, by kernel_rfl, by kernel_rfl⟩
theorem ord_cells_of : Try.prog.cellsOf 24 = 6 := by kernel_rfl
section
variable {H : Type} {enc : TypeId × Value → H} {w : World} {base : Nat} {sp : Nat → Bool} {held : Bool}
/-- cells that read as an order are an order's -/
theorem ord_cells {fuel : Nat} {cs : List Value} {x : DataW H × List MemPlace} (h : DataW.trod enc Try.prog w base sp held fuel 24 cs = some x) : ∃ o : Ord, cs = o.cells ∧ o.fits := by
  obtain ⟨fs, hs, hone, hsz, t0, t1, t2, t3, t4, t5⟩ := ord_type
  obtain ⟨xs, n, _, _, hl, hx, hf⟩ := DataW.trod_struct hs h
  obtain ⟨c0, c1, c2, c3, c4, c5, rfl⟩ := list_six (hl.trans ord_cells_of)
  obtain ⟨x0, x1, x2, x3, x4, x5, rfl⟩ := list_six (hx.trans hsz)
  obtain ⟨g0, m0, u0⟩ := Option.map_eq_some_iff.1 t0
  obtain ⟨o0, k0⟩ := hone_of hone 0 g0 m0
  have f0 := hf 0 g0 m0
  rw [o0, k0, u0] at f0
  have f0 : DataW.trod enc Try.prog w base sp held n 3 [c0] = some x0 := f0
  obtain ⟨g1, m1, u1⟩ := Option.map_eq_some_iff.1 t1
  obtain ⟨o1, k1⟩ := hone_of hone 1 g1 m1
  have f1 := hf 1 g1 m1
  rw [o1, k1, u1] at f1
  have f1 : DataW.trod enc Try.prog w base sp held n 9 [c1] = some x1 := f1
  obtain ⟨g2, m2, u2⟩ := Option.map_eq_some_iff.1 t2
  obtain ⟨o2, k2⟩ := hone_of hone 2 g2 m2
  have f2 := hf 2 g2 m2
  rw [o2, k2, u2] at f2
  have f2 : DataW.trod enc Try.prog w base sp held n 9 [c2] = some x2 := f2
  obtain ⟨g3, m3, u3⟩ := Option.map_eq_some_iff.1 t3
  obtain ⟨o3, k3⟩ := hone_of hone 3 g3 m3
  have f3 := hf 3 g3 m3
  rw [o3, k3, u3] at f3
  have f3 : DataW.trod enc Try.prog w base sp held n 22 [c3] = some x3 := f3
  obtain ⟨g4, m4, u4⟩ := Option.map_eq_some_iff.1 t4
  obtain ⟨o4, k4⟩ := hone_of hone 4 g4 m4
  have f4 := hf 4 g4 m4
  rw [o4, k4, u4] at f4
  have f4 : DataW.trod enc Try.prog w base sp held n 9 [c4] = some x4 := f4
  obtain ⟨g5, m5, u5⟩ := Option.map_eq_some_iff.1 t5
  obtain ⟨o5, k5⟩ := hone_of hone 5 g5 m5
  have f5 := hf 5 g5 m5
  rw [o5, k5, u5] at f5
  have f5 : DataW.trod enc Try.prog w base sp held n 9 [c5] = some x5 := f5
  obtain ⟨k, h0, _, _⟩ := DataW.trod_int Try.underlying3 f0
  obtain ⟨s1, h1, _, _⟩ := DataW.trod_string Try.underlying9 f1
  obtain ⟨s2, h2, _, _⟩ := DataW.trod_string Try.underlying9 f2
  obtain ⟨n3, h3, _, hw⟩ := DataW.trod_int Try.underlying22 f3
  obtain ⟨s4, h4, _, _⟩ := DataW.trod_string Try.underlying9 f4
  obtain ⟨s5, h5, _, _⟩ := DataW.trod_string Try.underlying9 f5
  simp only [List.cons.injEq, and_true] at h0 h1 h2 h3 h4 h5
  subst h0 h1 h2 h3 h4 h5
  exact ⟨⟨k, s1, s2, n3, s4, s5⟩, by rw [Ord.cells_def], fits_of hw⟩
set_option maxRecDepth 100000 in
/-- an argument that is an order -/
theorem ord_in {r : Reach} {b0 : Nat} {v : Value} {d : DataW H} {p : List MemPlace} (hv : Value.okWide Try.prog w r b0 24 v) (h : DataW.Trod enc Try.prog w base sp held 24 v d p) : ∃ o : Ord, v = o.v ∧ o.fits := by
  obtain ⟨fs, hs, _⟩ := ord_type
  obtain ⟨cs, rfl, _⟩ := okWide_struct hs hv
  obtain ⟨fuel, hf⟩ := h
  obtain ⟨o, ho, hfit⟩ := ord_cells hf
  refine ⟨o, ?_, hfit⟩
  simp only [Value.cells] at ho
  obtain ⟨l⟩ := cs
  simp only at ho
  rw [ho, Ord.cells_def, Ord.v_def]
end
end Go.Proofs.Ytdfgdnaejnngoaa
