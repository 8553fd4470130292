import Derived.Test.YtdfgdnaejnngoaaDoorFr
namespace Go.Proofs.YtdfgdnaejnngoaaDoor
open Go.RowKit
/-! The numbers: mint's, and the document's. -/

def MAt (w : World) (b : Nat) (x : Int) : Prop := w.heap[b]? = some (.cells #[.int .u64 x] 52 (0, 0))
theorem MAt.lt {w : World} {b : Nat} {x : Int} (h : MAt w b x) : b < w.heap.size := lt_of_row h
theorem MAt.c0 {w : World} {b : Nat} {x : Int} (h : MAt w b x) : w.cell? ⟨b, 0, none⟩ = some (.int .u64 x) := by rw [Lib.cell_of_heap h]; rfl
theorem MAt.f {w : World} {b : Nat} {x : Int} (h : MAt w b x) (j : Nat) : w.frozen? ⟨b, j, none⟩ = false := Lib.frozen_of_heap h j
theorem MAt.set0 {w : World} {b : Nat} {x : Int} (h : MAt w b x) (t : Int) : MAt (w.setCell ⟨b, 0, none⟩ (.int .u64 t)) b t := by
  unfold MAt at *
  simp [World.setCell, Array.getElem?_modify, h]
theorem MAt.fr {S : Nat → Prop} {w w' : World} {b : Nat} {x : Int} (h : MAt w b x) (hf : Fr S w w') (hs : ¬ S b) : MAt w' b x := hf.row hs h
theorem MAt.below {w w' : World} {b : Nat} {x : Int} (h : MAt w b x) (hf : Below w.heap.size w w') : MAt w' b x := h.fr (Fr.of_below (S := fun _ => False) hf) id
theorem MAt.new (w : World) (x : Int) : MAt (w.alloc (.cells #[.int .u64 x] 52)) w.heap.size x := heap_alloc_new w _
def UAt (w : World) (b : Nat) (x : Int) : Prop := w.heap[b]? = some (.cells #[.int .u64 x] 29 (0, 0))
theorem UAt.lt {w : World} {b : Nat} {x : Int} (h : UAt w b x) : b < w.heap.size := lt_of_row h
theorem UAt.c0 {w : World} {b : Nat} {x : Int} (h : UAt w b x) : w.cell? ⟨b, 0, none⟩ = some (.int .u64 x) := by rw [Lib.cell_of_heap h]; rfl
theorem UAt.f {w : World} {b : Nat} {x : Int} (h : UAt w b x) (j : Nat) : w.frozen? ⟨b, j, none⟩ = false := Lib.frozen_of_heap h j
theorem UAt.set0 {w : World} {b : Nat} {x : Int} (h : UAt w b x) (t : Int) : UAt (w.setCell ⟨b, 0, none⟩ (.int .u64 t)) b t := by
  unfold UAt at *
  simp [World.setCell, Array.getElem?_modify, h]
theorem UAt.fr {S : Nat → Prop} {w w' : World} {b : Nat} {x : Int} (h : UAt w b x) (hf : Fr S w w') (hs : ¬ S b) : UAt w' b x := hf.row hs h
theorem UAt.below {w w' : World} {b : Nat} {x : Int} (h : UAt w b x) (hf : Below w.heap.size w w') : UAt w' b x := h.fr (Fr.of_below (S := fun _ => False) hf) id
theorem UAt.new (w : World) (x : Int) : UAt (w.alloc (.cells #[.int .u64 x] 29)) w.heap.size x := heap_alloc_new w _

theorem wrap_range (y : Int) : 0 ≤ IntKind.u64.wrap y ∧ IntKind.u64.wrap y < 18446744073709551616 := by
  simp [IntKind.wrap, IntKind.bits, IntKind.signed]
  omega
theorem wrap_self (y : Int) (h0 : 0 ≤ y) (h1 : y < 18446744073709551616) : IntKind.u64.wrap y = y := by
  simp [IntKind.wrap, IntKind.bits, IntKind.signed]
  omega
theorem wrap_div (y d : Int) (hd : 0 < d) : IntKind.u64.wrap ((IntKind.u64.wrap y).tdiv d) = IntKind.u64.wrap y / d := by
  obtain ⟨h0, h1⟩ := wrap_range y
  rw [Int.tdiv_eq_ediv_of_nonneg h0]
  refine wrap_self _ (Int.ediv_nonneg h0 (by omega)) ?_
  have := Int.ediv_le_self d h0
  omega
/-- the next state -/
def nS (x : Int) : Int := IntKind.u64.wrap (x + 11400714819323198485)
def nM (c d z : Int) : Int := IntKind.u64.wrap (bits BinOp.xor IntKind.u64 z (z / d) * c)
def nE (z : Int) : Int := bits BinOp.xor IntKind.u64 z (z / 2147483648)
/-- the number that a state tells -/
def nZ (s : Int) : Int := nE (nM 10723151780598845931 134217728 (nM 13787848793156543929 1073741824 s))
theorem nZ_def (x : Int) : bits BinOp.xor IntKind.u64
              (IntKind.u64.wrap
                (bits BinOp.xor IntKind.u64
                    (IntKind.u64.wrap
                      (bits BinOp.xor IntKind.u64 (IntKind.u64.wrap (x + 11400714819323198485))
                          (IntKind.u64.wrap (x + 11400714819323198485) / 1073741824) *
                        13787848793156543929))
                    (IntKind.u64.wrap
                        (bits BinOp.xor IntKind.u64 (IntKind.u64.wrap (x + 11400714819323198485))
                            (IntKind.u64.wrap (x + 11400714819323198485) / 1073741824) *
                          13787848793156543929) /
                      134217728) *
                  10723151780598845931))
              (IntKind.u64.wrap
                  (bits BinOp.xor IntKind.u64
                      (IntKind.u64.wrap
                        (bits BinOp.xor IntKind.u64 (IntKind.u64.wrap (x + 11400714819323198485))
                            (IntKind.u64.wrap (x + 11400714819323198485) / 1073741824) *
                          13787848793156543929))
                      (IntKind.u64.wrap
                          (bits BinOp.xor IntKind.u64 (IntKind.u64.wrap (x + 11400714819323198485))
                              (IntKind.u64.wrap (x + 11400714819323198485) / 1073741824) *
                            13787848793156543929) /
                        134217728) *
                    10723151780598845931) /
                2147483648) = nZ (nS x) := rfl
theorem nZ_ref (x : Int) : bits BinOp.xor IntKind.u64
              (IntKind.u64.wrap
                (bits BinOp.xor IntKind.u64
                    (IntKind.u64.wrap
                      (bits BinOp.xor IntKind.u64 (IntKind.u64.wrap (x + 11400714819323198485))
                          (IntKind.u64.wrap ((IntKind.u64.wrap (x + 11400714819323198485)).tdiv 1073741824)) *
                        13787848793156543929))
                    (IntKind.u64.wrap
                      ((IntKind.u64.wrap
                            (bits BinOp.xor IntKind.u64 (IntKind.u64.wrap (x + 11400714819323198485))
                                (IntKind.u64.wrap ((IntKind.u64.wrap (x + 11400714819323198485)).tdiv 1073741824)) *
                              13787848793156543929)).tdiv
                        134217728)) *
                  10723151780598845931))
              (IntKind.u64.wrap
                ((IntKind.u64.wrap
                      (bits BinOp.xor IntKind.u64
                          (IntKind.u64.wrap
                            (bits BinOp.xor IntKind.u64 (IntKind.u64.wrap (x + 11400714819323198485))
                                (IntKind.u64.wrap ((IntKind.u64.wrap (x + 11400714819323198485)).tdiv 1073741824)) *
                              13787848793156543929))
                          (IntKind.u64.wrap
                            ((IntKind.u64.wrap
                                  (bits BinOp.xor IntKind.u64 (IntKind.u64.wrap (x + 11400714819323198485))
                                      (IntKind.u64.wrap
                                        ((IntKind.u64.wrap (x + 11400714819323198485)).tdiv 1073741824)) *
                                    13787848793156543929)).tdiv
                              134217728)) *
                        10723151780598845931)).tdiv
                  2147483648)) = nZ (nS x) := by
  rw [← nZ_def]
  rw [wrap_div _ 1073741824 (by decide), wrap_div _ 134217728 (by decide), wrap_div _ 2147483648 (by decide)]
theorem bits_range (a b : Int) : 0 ≤ bits BinOp.xor IntKind.u64 a b ∧ bits BinOp.xor IntKind.u64 a b < 18446744073709551616 := by
  unfold bits
  exact wrap_range _
theorem nZ_range (s : Int) : 0 ≤ nZ s ∧ nZ s < 18446744073709551616 := bits_range _ _
theorem mNext_any (b : Nat) (x : Int) (w : World) (h : MAt w b x) : Calls Tryd.prog 7 #[.pointer (some ⟨b, 0, none⟩)] w fun e w' => e = .returned (.int .u64 (nZ (nS x))) ∧ MAt w' b (nS x) ∧ Fr (fun k => k = b) w w' := by
  have c0 := h.c0; have f0 := h.f 0
  have H0 := Lib.hid h
  have HZ := Lib.hid (nZ_def x)
  clear h
  go_enter Tryd.func7, Tryd.ntmps7
  go_wp2
  go_ret
  exact ⟨congrArg Ending.returned (congrArg (Value.int IntKind.u64) HZ.out), H0.out.set0 _, (Fr.refl (fun k => k = b) _).setCell (p := ⟨b, 0, none⟩) (fun _ => rfl) _⟩
theorem uNext_any (b : Nat) (x : Int) (w : World) (h : UAt w b x) : Calls Tryd.prog 8 #[.pointer (some ⟨b, 0, none⟩)] w fun e w' => e = .returned (.int .u64 (nZ (nS x))) ∧ UAt w' b (nS x) ∧ Fr (fun k => k = b) w w' := by
  have c0 := h.c0; have f0 := h.f 0
  have H0 := Lib.hid h
  have HZ := Lib.hid (nZ_ref x)
  clear h
  go_enter Tryd.func8, Tryd.ntmps8
  go_wp2
  go_ret
  exact ⟨congrArg Ending.returned (congrArg (Value.int IntKind.u64) HZ.out), H0.out.set0 _, (Fr.refl (fun k => k = b) _).setCell (p := ⟨b, 0, none⟩) (fun _ => rfl) _⟩
theorem mNext_nil (w : World) : Calls Tryd.prog 7 #[.pointer none] w fun e w' => e = .returned (.int .u64 0) ∧ w = w' := by
  go_enter Tryd.func7, Tryd.ntmps7
  go_wp2
  go_ret
  exact ⟨rfl, rfl⟩
end Go.Proofs.YtdfgdnaejnngoaaDoor
