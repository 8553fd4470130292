import Derived.Test.YtdfgdnaejnngoaaGreatJx12
import Derived.Test.YtdfgdnaejnngoaaGreatJx8
import Derived.Test.YtdfgdnaejnngoaaGreatJx11
set_option linter.unusedVariables false
set_option linter.unusedSimpArgs false
namespace Go.Proofs.YtdfgdnaejnngoaaGreat
open Go.ChangeShapes Go.WideShapes Go.ChangeAt Go.RowKit Go.Deep
/-! What comes in: plans, bools. -/
section
variable {H : Type} {enc : TypeId × Value → H} {w : World} {base : Nat} {sp : Nat → Bool} {held : Bool}
theorem list_seven {α : Type} {l : List α} (h : l.length = 7) : ∃ a b c d e f g, l = [a, b, c, d, e, f, g] := by
  match l, h with
  | [a, b, c, d, e, f, g], _ => exact ⟨a, b, c, d, e, f, g, rfl⟩
theorem plan_type : ∃ fs : Array Field, Tryz.prog.underlying 26 = some (.struct fs) ∧ oneCellFields Tryz.prog fs = true ∧ fs.size = 7 ∧ fs[0]?.map (·.type) = some 3 ∧ fs[1]?.map (·.type) = some 3 ∧ fs[2]?.map (·.type) = some 3 ∧ fs[3]?.map (·.type) = some 3 ∧ fs[4]?.map (·.type) = some 3 ∧ fs[5]?.map (·.type) = some 3 ∧ fs[6]?.map (·.type) = some 3 :=
  ⟨_, Tryz.underlying26, by kernel_rfl, by kernel_rfl, by kernel_rfl, by kernel_rfl, by kernel_rfl, by kernel_rfl, by kernel_rfl, by kernel_rfl, by kernel_rfl⟩
theorem plan_cells_of : Tryz.prog.cellsOf 26 = 7 := by kernel_rfl
theorem planarg_cells {fuel : Nat} {cs : List Value} {x : DataW H × List MemPlace} (h : DataW.trod enc Tryz.prog w base sp held fuel 26 cs = some x) : ∃ p : Pl, cs = [.int .i64 p.a0, .int .i64 p.a1, .int .i64 p.a2, .int .i64 p.a3, .int .i64 p.a4, .int .i64 p.a5, .int .i64 p.a6] := by
  obtain ⟨fs, hs, hone, hsz, t0, t1, t2, t3, t4, t5, t6⟩ := plan_type
  obtain ⟨xs, n, _, _, hl, hx, hf⟩ := DataW.trod_struct hs h
  obtain ⟨c0, c1, c2, c3, c4, c5, c6, rfl⟩ := list_seven (hl.trans plan_cells_of)
  obtain ⟨x0, x1, x2, x3, x4, x5, x6, rfl⟩ := list_seven (hx.trans hsz)
  obtain ⟨g0, m0, u0⟩ := Option.map_eq_some_iff.1 t0
  obtain ⟨o0, k0⟩ := hone_of hone 0 g0 m0
  have f0 := hf 0 g0 m0
  rw [o0, k0, u0] at f0
  have f0 : DataW.trod enc Tryz.prog w base sp held n 3 [c0] = some x0 := f0
  obtain ⟨i0, h0, _, _⟩ := DataW.trod_int Tryz.underlying3 f0
  simp only [List.cons.injEq, and_true] at h0
  subst h0
  obtain ⟨g1, m1, u1⟩ := Option.map_eq_some_iff.1 t1
  obtain ⟨o1, k1⟩ := hone_of hone 1 g1 m1
  have f1 := hf 1 g1 m1
  rw [o1, k1, u1] at f1
  have f1 : DataW.trod enc Tryz.prog w base sp held n 3 [c1] = some x1 := f1
  obtain ⟨i1, h1, _, _⟩ := DataW.trod_int Tryz.underlying3 f1
  simp only [List.cons.injEq, and_true] at h1
  subst h1
  obtain ⟨g2, m2, u2⟩ := Option.map_eq_some_iff.1 t2
  obtain ⟨o2, k2⟩ := hone_of hone 2 g2 m2
  have f2 := hf 2 g2 m2
  rw [o2, k2, u2] at f2
  have f2 : DataW.trod enc Tryz.prog w base sp held n 3 [c2] = some x2 := f2
  obtain ⟨i2, h2, _, _⟩ := DataW.trod_int Tryz.underlying3 f2
  simp only [List.cons.injEq, and_true] at h2
  subst h2
  obtain ⟨g3, m3, u3⟩ := Option.map_eq_some_iff.1 t3
  obtain ⟨o3, k3⟩ := hone_of hone 3 g3 m3
  have f3 := hf 3 g3 m3
  rw [o3, k3, u3] at f3
  have f3 : DataW.trod enc Tryz.prog w base sp held n 3 [c3] = some x3 := f3
  obtain ⟨i3, h3, _, _⟩ := DataW.trod_int Tryz.underlying3 f3
  simp only [List.cons.injEq, and_true] at h3
  subst h3
  obtain ⟨g4, m4, u4⟩ := Option.map_eq_some_iff.1 t4
  obtain ⟨o4, k4⟩ := hone_of hone 4 g4 m4
  have f4 := hf 4 g4 m4
  rw [o4, k4, u4] at f4
  have f4 : DataW.trod enc Tryz.prog w base sp held n 3 [c4] = some x4 := f4
  obtain ⟨i4, h4, _, _⟩ := DataW.trod_int Tryz.underlying3 f4
  simp only [List.cons.injEq, and_true] at h4
  subst h4
  obtain ⟨g5, m5, u5⟩ := Option.map_eq_some_iff.1 t5
  obtain ⟨o5, k5⟩ := hone_of hone 5 g5 m5
  have f5 := hf 5 g5 m5
  rw [o5, k5, u5] at f5
  have f5 : DataW.trod enc Tryz.prog w base sp held n 3 [c5] = some x5 := f5
  obtain ⟨i5, h5, _, _⟩ := DataW.trod_int Tryz.underlying3 f5
  simp only [List.cons.injEq, and_true] at h5
  subst h5
  obtain ⟨g6, m6, u6⟩ := Option.map_eq_some_iff.1 t6
  obtain ⟨o6, k6⟩ := hone_of hone 6 g6 m6
  have f6 := hf 6 g6 m6
  rw [o6, k6, u6] at f6
  have f6 : DataW.trod enc Tryz.prog w base sp held n 3 [c6] = some x6 := f6
  obtain ⟨i6, h6, _, _⟩ := DataW.trod_int Tryz.underlying3 f6
  simp only [List.cons.injEq, and_true] at h6
  subst h6
  exact ⟨⟨i0, i1, i2, i3, i4, i5, i6⟩, rfl⟩
set_option maxRecDepth 100000 in
/-- an argument that is a plan -/
theorem plan_in {r : Reach} {b0 : Nat} {v : Value} {d : DataW H} {p : List MemPlace} (hv : Value.okWide Tryz.prog w r b0 26 v) (h : DataW.Trod enc Tryz.prog w base sp held 26 v d p) : ∃ o : Pl, v = o.v := by
  obtain ⟨fs, hs, _⟩ := plan_type
  obtain ⟨cs, rfl, _⟩ := okWide_struct hs hv
  obtain ⟨fuel, hf⟩ := h
  obtain ⟨o, ho⟩ := planarg_cells hf
  refine ⟨o, ?_⟩
  simp only [Value.cells] at ho
  obtain ⟨l⟩ := cs
  simp only at ho
  rw [ho, Pl.v_def]
def boolC (b : Bool) : List Value := [.bool b]
set_option maxRecDepth 100000 in
theorem bools_in {r : Reach} {b0 : Nat} {v : Value} {d : DataW H} {p : List MemPlace} (hv : Value.okWide Tryz.prog w r b0 22 v) (h : DataW.Trod enc Tryz.prog w base sp held 22 v d p) :
    ∃ (A : Option Addr) (cap : Nat) (l : List Bool), v = .slice A l.length cap ∧ Elems w A 1 (l.map boolC) ∧ ∀ o ∈ l, True :=
  rows_in boolC (fun _ => True) Tryz.underlying22 (by kernel_rfl) (by decide) (fun _ => rfl) (fun _ _ _ h => by
    obtain ⟨b, hb, _⟩ := DataW.trod_bool Tryz.underlying4 h
    exact ⟨b, hb, trivial⟩) hv h
end
end Go.Proofs.YtdfgdnaejnngoaaGreat
namespace Go.Proofs.YtdfgdnaejnngoaaGreat
open Go.ChangeShapes Go.WideShapes Go.ChangeAt Go.RowKit Go.Deep
/-! What comes in: deeds. -/
section
variable {P : Program} {H : Type} {enc : TypeId × Value → H} {w : World} {base : Nat} {sp : Nat → Bool} {held : Bool}
/-- a struct's field -/
theorem trod_field {t T : TypeId} {fs : Array Field} {fuel : Nat} {cs : List Value} {x : DataW H × List MemPlace} (hs : P.underlying t = some (.struct fs)) (h : DataW.trod enc P w base sp held fuel t cs = some x) (i o k : Nat)
    (hi : fs[i]?.map (fun g => (g.offset, g.type)) = some (o, T)) (hk : P.cellsOf T = k) : ∃ n x', DataW.trod enc P w base sp held n T ((cs.drop o).take k) = some x' := by
  obtain ⟨xs, n, _, _, _, hx, hf⟩ := DataW.trod_struct hs h
  obtain ⟨g, hg, he⟩ := Option.map_eq_some_iff.1 hi
  cases he
  have hlt : i < xs.length := by rw [hx]; exact (Array.getElem?_eq_some_iff.1 hg).1
  have := hf i g hg
  rw [hk, List.getElem?_eq_getElem hlt] at this
  exact ⟨n, _, this⟩
theorem trod_len {t : TypeId} {fs : Array Field} {fuel : Nat} {cs : List Value} {x : DataW H × List MemPlace} (hs : P.underlying t = some (.struct fs)) (h : DataW.trod enc P w base sp held fuel t cs = some x) : cs.length = P.cellsOf t := by
  obtain ⟨_, _, _, _, hl, _⟩ := DataW.trod_struct hs h
  exact hl
end
section
variable {H : Type} {enc : TypeId × Value → H} {w : World} {base : Nat} {sp : Nat → Bool} {held : Bool}
/-- cells that read as a row are a row's -/
theorem rows_of {α : Type} {T e : TypeId} {k : Nat} (f : α → List Value) (Q : α → Prop) (hs : Tryz.prog.underlying T = some (.slice e)) (hk : Tryz.prog.cellsOf e = k) (h0 : 0 < k) (hlen : ∀ a, (f a).length = k)
    (hread : ∀ (fuel : Nat) (cs : List Value) (x : DataW H × List MemPlace), DataW.trod enc Tryz.prog w base sp held fuel e cs = some x → ∃ a, cs = f a ∧ Q a)
    {fuel : Nat} {cs0 : List Value} {x0 : DataW H × List MemPlace} (hf : DataW.trod enc Tryz.prog w base sp held fuel T cs0 = some x0) :
    ∃ (A : Option Addr) (cap : Nat) (l : List α), cs0 = [.slice A l.length cap] ∧ Elems w A k (l.map f) ∧ ∀ a ∈ l, Q a := by
  rcases open_slice hs hf with ⟨hc, _⟩ | ⟨ad, len', cap', m, n, D, Pl, hc, _, hlc, _, hm, _, hat⟩
  · subst hc
    exact ⟨none, 0, [], rfl, Elems.nil _ _ _, by simp⟩
  · subst hc
    have hle : len' ≤ m := by rw [hm]; split <;> omega
    obtain ⟨l, hl, hp⟩ := list_of (P := fun i (a : α) => (∀ j u, (f a)[j]? = some u → w.cell? (ad.add (i * k + j)) = some u) ∧ Q a) len' (fun i hi => by
      obtain ⟨cs, hcs, htr⟩ := hat i (by omega)
      obtain ⟨a, rfl, hq⟩ := hread n cs _ htr
      obtain ⟨_, hcl, hcell⟩ := World.cells?_some hcs
      refine ⟨a, fun j u hu => ?_, hq⟩
      have hj := (List.getElem?_eq_some_iff.1 hu).1
      have := hcell j (by rw [← hcl]; exact hj)
      rw [add_add, hk] at this
      rw [this, hu])
    refine ⟨some ad, cap', l, by rw [hl], ?_, fun a ha => ?_⟩
    · intro i r hr
      rw [List.getElem?_map, Option.map_eq_some_iff] at hr
      obtain ⟨a, ha, rfl⟩ := hr
      have hi := (hp i a ha).1
      have hz := hi 0 _ (List.getElem?_eq_getElem (by rw [hlen]; exact h0))
      have hl0 : 0 < l.length := by have := (List.getElem?_eq_some_iff.1 ha).1; omega
      have hz0 := (hp 0 l[0] (List.getElem?_eq_getElem hl0)).1 0 _ (List.getElem?_eq_getElem (by rw [hlen]; exact h0))
      have hsp : ad.spot = none := by simpa [Addr.add] using World.cell?_spot hz0
      obtain ⟨b, off, spot⟩ := ad
      obtain rfl : spot = none := hsp
      refine ⟨b, off, rfl, ?_, fun j u hu => ?_⟩
      · have := cell_lt hz
        rw [add_none] at this
        exact this
      · have := hi j u hu
        rw [add_none, ← Nat.add_assoc] at this
        exact this
    · obtain ⟨i, hi⟩ := List.getElem?_of_mem ha
      exact (hp i a hi).2
theorem itm_cells {fuel : Nat} {cs : List Value} {x : DataW H × List MemPlace} (h : DataW.trod enc Tryz.prog w base sp held fuel 41 cs = some x) : ∃ y : Itm, cs = y.cells ∧ True := by
  have hl := (trod_len Tryz.underlying41 h).trans (show Tryz.prog.cellsOf 41 = 2 by kernel_rfl)
  obtain ⟨c0, c1, rfl⟩ : ∃ c0 c1, cs = [c0, c1] := by
    match cs, hl with
    | [c0, c1], _ => exact ⟨c0, c1, rfl⟩
  obtain ⟨_, y0, f0⟩ := trod_field Tryz.underlying41 h 0 0 1 (T := 9) (by kernel_rfl) (by kernel_rfl)
  replace f0 : DataW.trod enc Tryz.prog w base sp held _ 9 [c0] = some y0 := f0
  obtain ⟨_, y1, f1⟩ := trod_field Tryz.underlying41 h 1 1 1 (T := 9) (by kernel_rfl) (by kernel_rfl)
  replace f1 : DataW.trod enc Tryz.prog w base sp held _ 9 [c1] = some y1 := f1
  obtain ⟨s0, h0, _, _⟩ := DataW.trod_string Tryz.underlying9 f0
  obtain ⟨s1, h1, _, _⟩ := DataW.trod_string Tryz.underlying9 f1
  simp only [List.cons.injEq, and_true] at h0 h1
  subst h0 h1
  exact ⟨⟨s0, s1⟩, rfl, trivial⟩
theorem items_of {fuel : Nat} {cs : List Value} {x : DataW H × List MemPlace} (h : DataW.trod enc Tryz.prog w base sp held fuel 29 cs = some x) : ∃ (A : Option Addr) (cap : Nat) (l : List Itm), cs = [.slice A l.length cap] ∧ Elems w A 2 (l.map Itm.cells) := by
  obtain ⟨A, cap, l, h1, h2, _⟩ := rows_of (k := 2) Itm.cells (fun _ => True) Tryz.underlying29 (by kernel_rfl) (by decide) (fun _ => rfl) (fun _ _ _ h => itm_cells h) h
  exact ⟨A, cap, l, h1, h2⟩
/-- a deed: its kind, an order, an answer, a place, items -/
structure Ac where
  kd : Int
  o : Ord
  a : An
  A1 : Option Addr
  c1 : Nat
  at_ : Int
  its : List Itm
  A2 : Option Addr
  c2 : Nat
def Ac.cells (x : Ac) : List Value := [.int .i64 x.kd, .int .i64 x.o.kind, .string x.o.key, .string x.o.val, .int .u64 x.o.n, .string x.o.lo, .string x.o.hi, .int .i64 x.a.err, .bool x.a.has, .string x.a.val, .slice x.A1 x.a.its.length x.c1, .int .i64 x.a.st.a0, .int .i64 x.a.st.a1, .int .i64 x.a.st.a2, .int .i64 x.a.st.a3, .int .i64 x.a.st.a4, .int .i64 x.a.st.a5, .int .i64 x.a.st.a6, .int .i64 x.a.st.a7, .int .i64 x.a.st.a8, .int .i64 x.at_, .slice x.A2 x.its.length x.c2]
def Ac.good (w : World) (x : Ac) : Prop := Elems w x.A1 2 (x.a.its.map Itm.cells) ∧ Elems w x.A2 2 (x.its.map Itm.cells) ∧ x.o.fits
set_option maxRecDepth 100000 in
theorem act_cells {fuel : Nat} {cs : List Value} {x : DataW H × List MemPlace} (h : DataW.trod enc Tryz.prog w base sp held fuel 71 cs = some x) : ∃ e : Ac, cs = e.cells ∧ e.good w := by
  have hl := (trod_len Tryz.underlying71 h).trans (show Tryz.prog.cellsOf 71 = 22 by kernel_rfl)
  obtain ⟨c0, c1, c2, c3, c4, c5, c6, c7, c8, c9, c10, c11, c12, c13, c14, c15, c16, c17, c18, c19, c20, c21, rfl⟩ : ∃ c0 c1 c2 c3 c4 c5 c6 c7 c8 c9 c10 c11 c12 c13 c14 c15 c16 c17 c18 c19 c20 c21, cs = [c0, c1, c2, c3, c4, c5, c6, c7, c8, c9, c10, c11, c12, c13, c14, c15, c16, c17, c18, c19, c20, c21] := by
    match cs, hl with
    | [c0, c1, c2, c3, c4, c5, c6, c7, c8, c9, c10, c11, c12, c13, c14, c15, c16, c17, c18, c19, c20, c21], _ => exact ⟨c0, c1, c2, c3, c4, c5, c6, c7, c8, c9, c10, c11, c12, c13, c14, c15, c16, c17, c18, c19, c20, c21, rfl⟩
  obtain ⟨_, f0y, f0⟩ := trod_field Tryz.underlying71 h 0 0 1 (T := 3) (by kernel_rfl) (by kernel_rfl)
  replace f0 : DataW.trod enc Tryz.prog w base sp held _ 3 [c0] = some f0y := f0
  obtain ⟨_, soy, so⟩ := trod_field Tryz.underlying71 h 1 1 6 (T := 39) (by kernel_rfl) (by kernel_rfl)
  replace so : DataW.trod enc Tryz.prog w base sp held _ 39 [c1, c2, c3, c4, c5, c6] = some soy := so
  obtain ⟨_, say, sa⟩ := trod_field Tryz.underlying71 h 2 7 13 (T := 35) (by kernel_rfl) (by kernel_rfl)
  replace sa : DataW.trod enc Tryz.prog w base sp held _ 35 [c7, c8, c9, c10, c11, c12, c13, c14, c15, c16, c17, c18, c19] = some say := sa
  obtain ⟨_, f20y, f20⟩ := trod_field Tryz.underlying71 h 3 20 1 (T := 3) (by kernel_rfl) (by kernel_rfl)
  replace f20 : DataW.trod enc Tryz.prog w base sp held _ 3 [c20] = some f20y := f20
  obtain ⟨_, f21y, f21⟩ := trod_field Tryz.underlying71 h 4 21 1 (T := 29) (by kernel_rfl) (by kernel_rfl)
  replace f21 : DataW.trod enc Tryz.prog w base sp held _ 29 [c21] = some f21y := f21
  obtain ⟨_, f7y, f7⟩ := trod_field Tryz.underlying35 sa 0 0 1 (T := 31) (by kernel_rfl) (by kernel_rfl)
  replace f7 : DataW.trod enc Tryz.prog w base sp held _ 31 [c7] = some f7y := f7
  obtain ⟨_, f8y, f8⟩ := trod_field Tryz.underlying35 sa 1 1 1 (T := 4) (by kernel_rfl) (by kernel_rfl)
  replace f8 : DataW.trod enc Tryz.prog w base sp held _ 4 [c8] = some f8y := f8
  obtain ⟨_, f9y, f9⟩ := trod_field Tryz.underlying35 sa 2 2 1 (T := 9) (by kernel_rfl) (by kernel_rfl)
  replace f9 : DataW.trod enc Tryz.prog w base sp held _ 9 [c9] = some f9y := f9
  obtain ⟨_, f10y, f10⟩ := trod_field Tryz.underlying35 sa 3 3 1 (T := 29) (by kernel_rfl) (by kernel_rfl)
  replace f10 : DataW.trod enc Tryz.prog w base sp held _ 29 [c10] = some f10y := f10
  obtain ⟨_, sty, st⟩ := trod_field Tryz.underlying35 sa 4 4 9 (T := 33) (by kernel_rfl) (by kernel_rfl)
  replace st : DataW.trod enc Tryz.prog w base sp held _ 33 [c11, c12, c13, c14, c15, c16, c17, c18, c19] = some sty := st
  obtain ⟨_, f11y, f11⟩ := trod_field Tryz.underlying33 st 0 0 1 (T := 3) (by kernel_rfl) (by kernel_rfl)
  replace f11 : DataW.trod enc Tryz.prog w base sp held _ 3 [c11] = some f11y := f11
  obtain ⟨_, f12y, f12⟩ := trod_field Tryz.underlying33 st 1 1 1 (T := 3) (by kernel_rfl) (by kernel_rfl)
  replace f12 : DataW.trod enc Tryz.prog w base sp held _ 3 [c12] = some f12y := f12
  obtain ⟨_, f13y, f13⟩ := trod_field Tryz.underlying33 st 2 2 1 (T := 3) (by kernel_rfl) (by kernel_rfl)
  replace f13 : DataW.trod enc Tryz.prog w base sp held _ 3 [c13] = some f13y := f13
  obtain ⟨_, f14y, f14⟩ := trod_field Tryz.underlying33 st 3 3 1 (T := 3) (by kernel_rfl) (by kernel_rfl)
  replace f14 : DataW.trod enc Tryz.prog w base sp held _ 3 [c14] = some f14y := f14
  obtain ⟨_, f15y, f15⟩ := trod_field Tryz.underlying33 st 4 4 1 (T := 3) (by kernel_rfl) (by kernel_rfl)
  replace f15 : DataW.trod enc Tryz.prog w base sp held _ 3 [c15] = some f15y := f15
  obtain ⟨_, f16y, f16⟩ := trod_field Tryz.underlying33 st 5 5 1 (T := 3) (by kernel_rfl) (by kernel_rfl)
  replace f16 : DataW.trod enc Tryz.prog w base sp held _ 3 [c16] = some f16y := f16
  obtain ⟨_, f17y, f17⟩ := trod_field Tryz.underlying33 st 6 6 1 (T := 3) (by kernel_rfl) (by kernel_rfl)
  replace f17 : DataW.trod enc Tryz.prog w base sp held _ 3 [c17] = some f17y := f17
  obtain ⟨_, f18y, f18⟩ := trod_field Tryz.underlying33 st 7 7 1 (T := 3) (by kernel_rfl) (by kernel_rfl)
  replace f18 : DataW.trod enc Tryz.prog w base sp held _ 3 [c18] = some f18y := f18
  obtain ⟨_, f19y, f19⟩ := trod_field Tryz.underlying33 st 8 8 1 (T := 3) (by kernel_rfl) (by kernel_rfl)
  replace f19 : DataW.trod enc Tryz.prog w base sp held _ 3 [c19] = some f19y := f19
  obtain ⟨o, ho, hfit⟩ := ord_cells so
  obtain ⟨A1, n1, l1, h10, hel1⟩ := items_of f10
  obtain ⟨A2, n2, l2, h21, hel2⟩ := items_of f21
  obtain ⟨v0, h0, _, _⟩ := DataW.trod_int Tryz.underlying3 f0
  obtain ⟨v20, h20, _, _⟩ := DataW.trod_int Tryz.underlying3 f20
  obtain ⟨v11, h11, _, _⟩ := DataW.trod_int Tryz.underlying3 f11
  obtain ⟨v12, h12, _, _⟩ := DataW.trod_int Tryz.underlying3 f12
  obtain ⟨v13, h13, _, _⟩ := DataW.trod_int Tryz.underlying3 f13
  obtain ⟨v14, h14, _, _⟩ := DataW.trod_int Tryz.underlying3 f14
  obtain ⟨v15, h15, _, _⟩ := DataW.trod_int Tryz.underlying3 f15
  obtain ⟨v16, h16, _, _⟩ := DataW.trod_int Tryz.underlying3 f16
  obtain ⟨v17, h17, _, _⟩ := DataW.trod_int Tryz.underlying3 f17
  obtain ⟨v18, h18, _, _⟩ := DataW.trod_int Tryz.underlying3 f18
  obtain ⟨v19, h19, _, _⟩ := DataW.trod_int Tryz.underlying3 f19
  obtain ⟨v7, h7, _, _⟩ := DataW.trod_int Tryz.underlying31 f7
  obtain ⟨v8, h8, _⟩ := DataW.trod_bool Tryz.underlying4 f8
  obtain ⟨v9, h9, _, _⟩ := DataW.trod_string Tryz.underlying9 f9
  rw [Ord.cells_def] at ho
  simp only [List.cons.injEq, and_true] at ho h0 h7 h8 h9 h10 h11 h12 h13 h14 h15 h16 h17 h18 h19 h20 h21
  obtain ⟨o1, o2, o3, o4, o5, o6⟩ := ho
  subst o1 o2 o3 o4 o5 o6 h0 h7 h8 h9 h10 h11 h12 h13 h14 h15 h16 h17 h18 h19 h20 h21
  exact ⟨⟨v0, o, ⟨v7, v8, v9, l1, ⟨v11, v12, v13, v14, v15, v16, v17, v18, v19⟩⟩, A1, n1, v20, l2, A2, n2⟩, rfl, hel1, hel2, hfit⟩
set_option maxRecDepth 100000 in
theorem acts_in {r : Reach} {b0 : Nat} {v : Value} {d : DataW H} {p : List MemPlace} (hv : Value.okWide Tryz.prog w r b0 67 v) (h : DataW.Trod enc Tryz.prog w base sp held 67 v d p) :
    ∃ (A : Option Addr) (cap : Nat) (l : List Ac), v = .slice A l.length cap ∧ Elems w A 22 (l.map Ac.cells) ∧ ∀ e ∈ l, e.good w :=
  rows_in Ac.cells (Ac.good w) Tryz.underlying67 (by kernel_rfl) (by decide) (fun _ => rfl) (fun _ _ _ h => act_cells h) hv h
end
end Go.Proofs.YtdfgdnaejnngoaaGreat
namespace Go.Proofs.YtdfgdnaejnngoaaGreat
open Go.RowKit
/-! ModelExact: what its walk needs. -/
theorem RowAt.el {w : World} {A : Option Addr} {l : List Itm} (h : RowAt w A l) : Elems w A 2 (l.map Itm.cells) := h.1
theorem ref_whole (bu : Nat) (c : Int) (ls : List (List Itm)) (l : List Itm) (o : Ord) (w : World) (h : RefAt w bu c ls) (hl : ls[ls.length - 1]? = some l) (hn : ls.length ≤ 90000) (hln : l.length ≤ 60000) (hri : Rises l) (hok : ∀ y ∈ l, y.ok) (h0 : 0 ≤ o.n) (h1 : o.n < 18446744073709551616) :
    Calls Tryz.prog 36 #[.pointer (some ⟨bu, 0, none⟩), o.v] w fun e w' => ∃ (A : Option Addr) (cp : Nat), e = .returned (refV (ansAn (ansO c l o)).err (ansAn (ansO c l o)).has (ansAn (ansO c l o)).val (.slice A (ansAn (ansO c l o)).its.length cp) (ansAn (ansO c l o)).st.a0 (ansAn (ansO c l o)).st.a1) ∧ RowAt w' A (ansAn (ansO c l o)).its ∧ RefAt w' bu c (rowsO c ls l o) ∧ Fr (fun k => k = bu) w w' := by
  refine (refDo_any bu c ls l o w h hl hn hln hri hok h0 h1).mono ?_
  rintro e w' ⟨A, k, cp, rfl, hk, hra, hrf, hf⟩
  subst hk
  exact ⟨A, cp, rfl, hra, hrf, hf⟩
theorem rowAt_bu {w w' : World} {bu : Nat} {c : Int} {ls : List (List Itm)} {A : Option Addr} {l : List Itm} (h : RowAt w A l) (hr : RefAt w bu c ls) (hf : Fr (fun k => k = bu) w w') : RowAt w' A l := by
  obtain ⟨gr, off, cap, vs, r1, _⟩ := hr.row
  exact h.fr hf (fun q hq _ => by subst hq; exact ⟨_, _, r1, by decide⟩)
theorem rowAt_bm {w w' : World} {bm g : Nat} {N : Int} {ls : List (List Itm)} {A : Option Addr} {l : List Itm} (h : RowAt w A l) (hm : ModelAt w bm g N ls) (hf : Fr (fun k => k = bm ∨ k = g) w w') : RowAt w' A l := by
  obtain ⟨off, n, cap, ps, hrow, hra, _⟩ := hm.row
  obtain ⟨cur, hgr, _⟩ := hra.blk
  refine h.fr hf (fun q hq _ => ?_)
  rcases hq with rfl | rfl
  · exact ⟨_, _, hrow, by decide⟩
  · exact ⟨_, _, hgr, by decide⟩
theorem model_rows {w : World} {bm g : Nat} {N : Int} {ls : List (List Itm)} (h : ModelAt w bm g N ls) {l : List Itm} (hl : l ∈ ls) : Rises l ∧ ∀ x ∈ l, x.ok := by
  obtain ⟨off, n, cap, ps, _, _, hps, hlv⟩ := h.row
  obtain ⟨j, hj⟩ := List.getElem?_of_mem hl
  obtain ⟨p, hp⟩ := get_lt (l := ps) (i := j) (by have := (List.getElem?_eq_some_iff.1 hj).1; omega)
  obtain ⟨A, c, hla, _⟩ := hlv j p l hp hj
  exact ⟨hla.rises, hla.oks⟩
theorem rows_bound {c : Int} {ls : List (List Itm)} {l : List Itm} {o : Ord} {k : Nat} (hr : Rises l) (hl : ls[ls.length - 1]? = some l) (hb : ∀ x ∈ ls, x.length ≤ k) : ∀ x ∈ rowsO c ls l o, x.length ≤ k + 1 := by
  have hll := hb l (List.mem_of_getElem? hl)
  have h0 : ∀ x ∈ ls, x.length ≤ k + 1 := fun x hx => Nat.le_succ_of_le (hb x hx)
  intro x hx
  unfold rowsO at hx
  split at hx
  · cases hm : msgO o with
    | some m =>
      rw [hm] at hx
      dsimp only at hx
      unfold rowsU at hx
      split at hx
      · rcases List.mem_append.1 hx with hx | hx
        · exact h0 x hx
        · simp at hx
          subst hx
          have : (doL l m).length ≤ l.length + 1 := put_len hr _ _
          omega
      · exact h0 x hx
    | none =>
      rw [hm] at hx
      dsimp only at hx
      split at hx
      · exact h0 x hx
      · simp at hx
        subst hx
        omega
  · exact h0 x hx
theorem at_modU (x : Int) (n : Nat) (hn : n ≤ 1000) : ∃ k : Nat, k ≤ n ∧ (IntKind.u64.wrap x).tmod ((n : Int) + 1) = (k : Int) := by
  have h0 : 0 ≤ IntKind.u64.wrap x := by
    simp [IntKind.wrap, IntKind.bits, IntKind.signed]
    omega
  have e : (IntKind.u64.wrap x).tmod ((n : Int) + 1) = (IntKind.u64.wrap x) % ((n : Int) + 1) := Int.tmod_eq_emod_of_nonneg h0
  have h1 := Int.emod_nonneg (IntKind.u64.wrap x) (show ((n : Int) + 1) ≠ 0 by omega)
  have h2 := Int.emod_lt_of_pos (IntKind.u64.wrap x) (show (0 : Int) < (n : Int) + 1 by omega)
  rw [e]
  generalize IntKind.u64.wrap x % ((n : Int) + 1) = y at *
  obtain ⟨k, rfl⟩ := Int.eq_ofNat_of_zero_le h1
  exact ⟨k, by omega, rfl⟩
theorem act_size : (Tryz.prog.info? 71).map (·.size) = some 22 := by kernel_rfl
theorem act_row {w : World} {A : Option Addr} {xs : List Ac} (hel : Elems w A 22 (xs.map Ac.cells)) {k : Nat} {x : Ac} (hx : xs[k]? = some x) : ∃ b off, A = some ⟨b, off, none⟩ ∧ b < w.heap.size ∧ w.rangeAt b (off + k * 22) x.cells := by
  obtain ⟨b, off, rfl, hlt, hc⟩ := hel k x.cells (by simp [hx])
  exact ⟨b, off, rfl, hlt, hc⟩
/-- a deed of the law has a kind of its own -/
theorem down_iff (a : An) : a = downA ↔ (a.err = 4 ∧ (⟨0, a.has, a.val, a.its, a.st⟩ : An) = ⟨0, false, ⟨#[]⟩, [], ⟨0, 0, 0, 0, 0, 0, 0, 0, 0⟩⟩) := by
  obtain ⟨e, h, v, i, s⟩ := a
  simp [downA]
end Go.Proofs.YtdfgdnaejnngoaaGreat
namespace Go.Proofs.YtdfgdnaejnngoaaGreat
open Go.RowKit
/-! ModelBegins: the plain law. -/
def kb (i : Nat) : ByteArray := ⟨#[UInt8.ofNat (i + 1)]⟩
def bi (i : Nat) : Itm := ⟨kb i, ⟨#[]⟩⟩
def allL (n : Nat) : List Itm := (List.range n).map bi
theorem allL_succ (n : Nat) : allL (n + 1) = allL n ++ [bi n] := by unfold allL; rw [List.range_succ, List.map_append]; rfl
theorem allL_len (n : Nat) : (allL n).length = n := by unfold allL; simp
theorem allL_get {n i : Nat} (h : i < n) : (allL n)[i]? = some (bi i) := by unfold allL; simp [h]
theorem allL_mem {n : Nat} {x : Itm} (h : x ∈ allL n) : ∃ i, i < n ∧ x = bi i := by
  unfold allL at h
  obtain ⟨i, hi, rfl⟩ := List.mem_map.1 h
  exact ⟨i, List.mem_range.1 hi, rfl⟩
theorem u8_toNat {i : Nat} (h : i < 60) : (UInt8.ofNat (i + 1)).toNat = i + 1 := by
  rw [UInt8.toNat_ofNat']
  exact Nat.mod_eq_of_lt (by omega)
theorem klt_kb {i j : Nat} (hi : i < 60) (hj : j < 60) : klt (kb i) (kb j) = decide (i < j) := by
  rw [klt_data]
  show Op.bytesLess [UInt8.ofNat (i + 1)] [UInt8.ofNat (j + 1)] = _
  have h1 := u8_toNat hi
  have h2 := u8_toNat hj
  unfold Op.bytesLess
  simp only [UInt8.lt_iff_toNat_lt, h1, h2]
  by_cases h : i < j
  · simp [h]
  · have h0 : Op.bytesLess [] [] = false := rfl
    simp [h, h0]
theorem kb_inj {i j : Nat} (hi : i < 60) (hj : j < 60) (h : kb i = kb j) : i = j := by
  have h1 := klt_kb hi hj
  have h2 := klt_kb hj hi
  rw [h, klt_irrefl] at h1
  rw [h, klt_irrefl] at h2
  have := of_decide_eq_false h1.symm
  have := of_decide_eq_false h2.symm
  omega
theorem bi_ok (i : Nat) : (bi i).ok := ⟨rfl, rfl⟩
theorem rises_get {l : List Itm} (h : ∀ (i j : Nat) (x y : Itm), i < j → l[i]? = some x → l[j]? = some y → klt x.key y.key = true) : Rises l := by
  induction l with
  | nil => trivial
  | cons x l ih =>
    refine ⟨fun y hy => ?_, ih fun i j a b hij ha hb => h (i + 1) (j + 1) a b (by omega) (by simpa using ha) (by simpa using hb)⟩
    obtain ⟨j, hj⟩ := List.getElem?_of_mem hy
    exact h 0 (j + 1) x y (by omega) rfl (by simpa using hj)
theorem rises_allL {n : Nat} (hn : n ≤ 60) : Rises (allL n) := by
  refine rises_get fun i j x y hij hx hy => ?_
  have hj := (List.getElem?_eq_some_iff.1 hy).1
  rw [allL_len] at hj
  rw [allL_get (by omega)] at hx
  rw [allL_get hj] at hy
  cases hx
  cases hy
  exact (klt_kb (by omega) (by omega)).trans (decide_eq_true hij)
theorem ok_allL (n : Nat) : ∀ x ∈ allL n, x.ok := fun x hx => by
  obtain ⟨i, _, rfl⟩ := allL_mem hx
  exact bi_ok i
theorem rises_subl : ∀ {l m : List Itm}, l.Sublist m → Rises m → Rises l
  | _, _, .slnil, _ => trivial
  | _, _, .cons _ h, hm => rises_subl h hm.2
  | _, _, .cons_cons _ h, hm => ⟨fun y hy => hm.1 y (h.subset hy), rises_subl h hm.2⟩
theorem ins_end (k v : ByteArray) : ∀ (l : List Itm), (∀ x ∈ l, klt x.key k = true) → insR k v l = l ++ [⟨k, v⟩]
  | [], _ => rfl
  | x :: l, h => by
    rw [insR, if_pos (h x (by simp)), ins_end k v l (fun y hy => h y (by simp [hy]))]
    rfl
theorem do_all {n : Nat} (hn : n < 60) : doL (allL n) ⟨1, kb n, ⟨#[]⟩⟩ = allL (n + 1) := by
  have hm : isMsg ⟨1, kb n, ⟨#[]⟩⟩ = true := rfl
  unfold doL
  rw [applyO_put hm rfl]
  show insR (kb n) ⟨#[]⟩ (allL n) = _
  rw [ins_end, allL_succ]
  · rfl
  · intro x hx
    obtain ⟨i, hi, rfl⟩ := allL_mem hx
    exact (klt_kb (by omega) hn).trans (decide_eq_true hi)
theorem sumW_all (n : Nat) : sumW (allL n) = 3 * n := by
  induction n with
  | zero => rfl
  | succ n ih =>
    rw [allL_succ, sumW_append, ih]
    show 3 * (n : Int) + (itW (bi n) + 0) = _
    have : itW (bi n) = 3 := rfl
    rw [this]
    omega
def putB (n : Nat) : Ord := ⟨1, kb n, ⟨#[]⟩, 0, ⟨#[]⟩, ⟨#[]⟩⟩
theorem isOrd_put (n : Nat) : isOrd (putB n) = true := by
  have h : tooLong (putB n) = false := rfl
  unfold isOrd
  rw [h]
  have h2 : bareOf (putB n) = putB n := rfl
  rw [h2]
  simp
  rfl
/-- the rows after k Puts, of which s are safe -/
def rowsB (s k : Nat) : List (List Itm) := (List.range (k - s + 1)).map (fun j => allL (s + j))
theorem rowsB_len (s k : Nat) : (rowsB s k).length = k - s + 1 := by unfold rowsB; simp
theorem rowsB_last {s k : Nat} (h : s ≤ k) : (rowsB s k)[(rowsB s k).length - 1]? = some (allL k) := by
  rw [rowsB_len]
  unfold rowsB
  rw [List.getElem?_map, List.getElem?_range (by omega)]
  simp
  congr 1
  omega
theorem err_put {c : Int} {n : Nat} (hn : n < 60) (hc : 180 ≤ c) : errO c (allL n) (putB n) = 0 := by
  refine errO_mk (m := ⟨1, kb n, ⟨#[]⟩⟩) (isOrd_put n) rfl rfl (fun h => by cases h) ?_
  rw [do_all hn, sumW_all]
  omega
theorem rows_put {c : Int} {s n : Nat} (hn : n < 60) (hc : 180 ≤ c) (hs : s ≤ n) : rowsO c (rowsB s n) (allL n) (putB n) = rowsB s (n + 1) := by
  have he := err_put hn hc
  have hm : msgO (putB n) = some ⟨1, kb n, ⟨#[]⟩⟩ := rfl
  have hE : errU c (allL n) ⟨1, kb n, ⟨#[]⟩⟩ = 0 := by
    unfold errO at he
    rw [if_pos (isOrd_put n), hm] at he
    exact he
  have ha : addsU c (allL n) ⟨1, kb n, ⟨#[]⟩⟩ = true := by unfold addsU; rw [hE]; rfl
  unfold rowsO
  rw [if_pos (isOrd_put n), hm]
  dsimp only
  unfold rowsU
  rw [if_pos ha, do_all hn]
  unfold rowsB
  rw [show n + 1 - s + 1 = (n - s + 1) + 1 by omega, List.range_succ (n := n - s + 1), List.map_append]
  simp
  congr 1
  omega
def syncO : Ord := ⟨6, ⟨#[]⟩, ⟨#[]⟩, 0, ⟨#[]⟩, ⟨#[]⟩⟩
theorem rows_sync (c : Int) (ls : List (List Itm)) (n : Nat) : rowsO c ls (allL n) syncO = rowsB n n := by
  have h1 : rowsO c ls (allL n) syncO = [allL n] := by
    unfold rowsO
    rw [if_pos (show isOrd syncO = true by kernel_rfl)]
    rfl
  rw [h1]
  unfold rowsB
  simp
theorem mem_rowsB {s N n : Nat} (hs : s ≤ N) (hn : n ≤ N) : allL n ∈ rowsB s N ↔ s ≤ n := by
  constructor
  · intro h
    unfold rowsB at h
    obtain ⟨j, _, e⟩ := List.mem_map.1 h
    have := congrArg List.length e
    rw [allL_len, allL_len] at this
    omega
  · intro h
    unfold rowsB
    exact List.mem_map.2 ⟨n - s, List.mem_range.2 (by omega), by congr 1; omega⟩
theorem lostB_rises {ls : List (List Itm)} {zs : List Itm} (hr : Rises zs) (ho : ∀ x ∈ zs, x.ok) : lostB ls zs = decide (zs ∈ ls) := by
  have hbad : zs.any badI = false := by
    rw [List.any_eq_false]
    intro x hx
    obtain ⟨h1, h2⟩ := ho x hx
    simp [badI, h1, h2]
  have he : errL zs = 0 := by
    unfold errL
    rw [if_neg (by rw [hbad]; decide), if_pos (rises_nodup hr)]
  unfold lostB
  rw [decide_eq_true he, iso_self hr, Bool.true_and]
theorem lost_all {s N n : Nat} (hN : N ≤ 60) (hs : s ≤ N) (hn : n ≤ N) : lostB (rowsB s N) (allL n) = decide (s ≤ n) := by
  rw [lostB_rises (rises_allL (by omega)) (ok_allL n)]
  exact decide_eq_decide.2 (mem_rowsB hs hn)
theorem lost_gap {s N n at_ : Nat} (hN : N ≤ 60) (hn : n ≤ N) (ha : at_ + 1 < n) : lostB (rowsB s N) ((allL n).eraseIdx at_) = false := by
  have hsub := List.eraseIdx_sublist (allL n) at_
  rw [lostB_rises (rises_subl hsub (rises_allL (by omega))) (fun x hx => ok_allL n x (hsub.subset hx))]
  refine decide_eq_false (fun h => ?_)
  unfold rowsB at h
  obtain ⟨j, _, e⟩ := List.mem_map.1 h
  have h1 := congrArg List.length e
  rw [allL_len, List.length_eraseIdx, allL_len, if_pos (by omega)] at h1
  have h2 := congrArg (fun l : List Itm => l[at_]?) e
  rw [allL_get (by omega), List.getElem?_eraseIdx_of_ge (Nat.le_refl _), allL_get (by omega)] at h2
  simp only [Option.some.injEq] at h2
  have := kb_inj (by omega) (by omega) (congrArg Itm.key h2)
  omega
end Go.Proofs.YtdfgdnaejnngoaaGreat
namespace Go.Proofs.YtdfgdnaejnngoaaGreat
open Go.RowKit
/-! ModelExact: an answer's numbers, written. -/
theorem an_all (a : An) (A : Option Addr) (c : Nat) : (a.cells A c).all (·.oneCell') = true := rfl
theorem sta_all (a : Int) (b : Int) : (#[Value.int .i64 a, Value.int .i64 b, .int .i64 0, .int .i64 0, .int .i64 0, .int .i64 0, .int .i64 0, .int .i64 0, .int .i64 0] : Array Value).all (·.oneCell') = true := by
  rw [Array.all_eq_true_iff_forall_mem]
  intro v hv
  simp at hv
  rcases hv with rfl | rfl | rfl <;> rfl
theorem an_there {w : World} {s : Nat} {a : An} {A : Option Addr} {c : Nat} (h : AnBox s a A c w) : w.there s 4 9 := fun j hj => by
  refine ⟨?_, Lib.frozen_of_heap h _⟩
  rw [Lib.cell_of_heap h]
  rcases j with _ | _ | _ | _ | _ | _ | _ | _ | _ | j
  · rfl
  · rfl
  · rfl
  · rfl
  · rfl
  · rfl
  · rfl
  · rfl
  · rfl
  · omega
theorem sta_row {w : World} {s : Nat} {a : An} {A : Option Addr} {c : Nat} (h : AnBox s a A c w) : AnBox s (askedA a) A c (w.setCells s 4 [.int .i64 a.st.a0, .int .i64 a.st.a1, .int .i64 0, .int .i64 0, .int .i64 0, .int .i64 0, .int .i64 0, .int .i64 0, .int .i64 0]) ∧ Fr (fun k => k = s) w (w.setCells s 4 [.int .i64 a.st.a0, .int .i64 a.st.a1, .int .i64 0, .int .i64 0, .int .i64 0, .int .i64 0, .int .i64 0, .int .i64 0, .int .i64 0]) := by
  refine ⟨?_, setCells_is_fr s _ w 4⟩
  exact setCell_row (setCell_row (setCell_row (setCell_row (setCell_row (setCell_row (setCell_row (setCell_row (setCell_row h 4 (.int .i64 a.st.a0)) 5 (.int .i64 a.st.a1)) 6 (.int .i64 0)) 7 (.int .i64 0)) 8 (.int .i64 0)) 9 (.int .i64 0)) 10 (.int .i64 0)) 11 (.int .i64 0)) 12 (.int .i64 0)
theorem sta_store {ops : Array Oper} {rest : List Oper} {op : Oper} {ac : Act} {w : World} {Q : Exit → Act → World → Prop} (hgd : op.guard = none) (x y : Operand) (ho : op.op = .store 33 x y) (s : Nat) (a : An) (A : Option Addr) (c : Nat) (hx : ac.eval x = .pointer (some ⟨s, 4, none⟩)) (hy : ac.eval y = .agg #[.int .i64 a.st.a0, .int .i64 a.st.a1, .int .i64 0, .int .i64 0, .int .i64 0, .int .i64 0, .int .i64 0, .int .i64 0, .int .i64 0]) (hrow : AnBox s a A c w)
    (h : ∀ w', AnBox s (askedA a) A c w' → Fr (fun k => k = s) w w' → wpList Tryz.prog ops Q rest (ac.put op.dst undef) w') : wpList Tryz.prog ops Q (op :: rest) ac w :=
  wpList_store_mid hgd _ x y ho s 4 _ hx hy (an_there hrow) sta_size (sta_all _ _) (h _ (sta_row hrow).1 (sta_row hrow).2)
end Go.Proofs.YtdfgdnaejnngoaaGreat
