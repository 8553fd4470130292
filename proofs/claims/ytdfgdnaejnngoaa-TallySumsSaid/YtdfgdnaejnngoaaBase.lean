import Derived.Test.YtdfgdnaejnngoaaChecked
import Derived.WalkKit
import Derived.WalkSpells
import Derived.WalkLawsBesides
import Derived.BigQuiet
import Derived.Deep.QuietTactic
import Derived.Lib.Hide
import Derived.Laws.EntriesVeiled
import Derived.Shelf.Abstract
namespace Go.Proofs.Ytdfgdnaejnngoaa
open Go.RowKit

theorem bytes_inj {x y : ByteArray} : x.toList = y.toList ↔ x = y := by
  rw [ByteArray.toList_eq, ByteArray.toList_eq]
  obtain ⟨⟨x⟩⟩ := x
  obtain ⟨⟨y⟩⟩ := y
  simp
theorem below_step {B : Nat} {a w w1 : World} (h : Below B a w) (hw : Below w.heap.size w w1) (hB : B ≤ w.heap.size) : Below B a w1 := h.trans (hw.mono hB)
theorem below_next {a w w1 : World} (h : Below a.heap.size a w) (hw : Below w.heap.size w w1) : Below a.heap.size a w1 := h.trans (hw.mono h.size)
theorem below_alloc {a w : World} {o : Obj} (h : Below a.heap.size a w) : Below a.heap.size a (w.alloc o) := h.alloc h.size o
theorem below_drewN {B : Nat} {a w : World} (h : Below B a w) (n : Nat) : Below B a (w.drewN n) := ⟨h.os, h.tape, h.output, h.size, h.block⟩

/-- the elements' cells, k each -/
def Elems (w : World) (A : Option Addr) (k : Nat) (rows : List (List Value)) : Prop :=
  ∀ i r, rows[i]? = some r → ∃ b off, A = some ⟨b, off, none⟩ ∧ b < w.heap.size ∧ ∀ j u, r[j]? = some u → w.cell? ⟨b, off + i * k + j, none⟩ = some u

theorem Elems.below {w w' : World} {A : Option Addr} {k : Nat} {rows : List (List Value)} (h : Elems w A k rows) (hb : Below w.heap.size w w') : Elems w' A k rows := by
  intro i r hr
  obtain ⟨b, off, e, hlt, hc⟩ := h i r hr
  exact ⟨b, off, e, Nat.lt_of_lt_of_le hlt hb.size, fun j u hu => (hb.cell (p := ⟨b, _, none⟩) hlt).trans (hc j u hu)⟩

theorem flatten_at {α : Type} {k : Nat} : ∀ {rows : List (List α)}, (∀ r ∈ rows, r.length = k) → ∀ (i : Nat) (r : List α), rows[i]? = some r → ∀ (j : Nat) (u : α), r[j]? = some u → rows.flatten[i * k + j]? = some u
  | [], _, i, r, h, _, _, _ => by simp at h
  | x :: rows, hk, i, r, h, j, u, hu => by
    have hx := hk x (by simp)
    cases i with
    | zero =>
      simp only [List.getElem?_cons_zero, Option.some.injEq] at h
      subst h
      have hj : j < x.length := (List.getElem?_eq_some_iff.1 hu).1
      simp only [List.flatten_cons, Nat.zero_mul, Nat.zero_add]
      rw [List.getElem?_append_left hj]; exact hu
    | succ i =>
      simp only [List.getElem?_cons_succ] at h
      have ih := flatten_at (fun r hr => hk r (by simp [hr])) i r h j u hu
      simp only [List.flatten_cons]
      rw [Nat.succ_mul, List.getElem?_append_right (by omega), hx]
      rw [show i * k + k + j - k = i * k + j from by omega]; exact ih
theorem Elems.of_block {w : World} {b : Nat} {cs : Array Value} {t : TypeId} {fz : Nat × Nat} {k : Nat} {rows : List (List Value)} (h : w.heap[b]? = some (.cells cs t fz)) (hk : ∀ r ∈ rows, r.length = k)
    (hc : cs = rows.flatten.toArray) : Elems w (some ⟨b, 0, none⟩) k rows := by
  intro i r hr
  have hb : b < w.heap.size := by
    rcases Nat.lt_or_ge b w.heap.size with h' | h'
    · exact h'
    · simp [Array.getElem?_eq_none h'] at h
  refine ⟨b, 0, rfl, hb, fun j u hu => ?_⟩
  subst hc
  have := flatten_at hk i r hr j u hu
  simp [World.cell?, h, this]
theorem heap_new_at {w : World} {o : Obj} {n : Nat} (h : w.heap.size = n) : (w.alloc o).heap[n]? = some o := by subst h; exact heap_alloc_new w o
theorem Elems.nil (w : World) (A : Option Addr) (k : Nat) : Elems w A k [] := fun i r h => by simp at h

/-- a new block's cells, behind a call that leaves all as it was -/
theorem new_cells {w w1 : World} {cs : Array Value} {t : TypeId} (hb : Below (w.alloc (.cells cs t)).heap.size (w.alloc (.cells cs t)) w1) :
    w.heap.size < w1.heap.size ∧ ∀ j u, cs[j]? = some u → w1.cell? ⟨w.heap.size, j, none⟩ = some u := by
  have hs : (w.alloc (.cells cs t)).heap.size = w.heap.size + 1 := by simp
  refine ⟨by have := hb.size; omega, fun j u hj => ?_⟩
  rw [hb.cell (p := ⟨w.heap.size, j, none⟩) (by show w.heap.size < _; omega)]
  simp only [World.cell?, heap_alloc_new]
  simpa using hj
theorem keep_cell {w w1 : World} (hb : Below w.heap.size w w1) {b o : Nat} {v : Value} (hlt : b < w.heap.size) (h : w.cell? ⟨b, o, none⟩ = some v) : w1.cell? ⟨b, o, none⟩ = some v := (hb.cell (p := ⟨b, o, none⟩) hlt).trans h
theorem keep_lt {w w1 : World} (hb : Below w.heap.size w w1) {b : Nat} (hlt : b < w.heap.size) : b < w1.heap.size := Nat.lt_of_lt_of_le hlt hb.size
theorem keep_cell_alloc {w : World} {c : Obj} {b o : Nat} {v : Value} (hlt : b < w.heap.size) (h : w.cell? ⟨b, o, none⟩ = some v) : (w.alloc c).cell? ⟨b, o, none⟩ = some v := (World.cell?_alloc_lt w c ⟨b, o, none⟩ hlt).trans h
theorem keep_lt_alloc {w : World} {c : Obj} {b : Nat} (hlt : b < w.heap.size) : b < (w.alloc c).heap.size := by simp; omega
theorem keep_lt_drew {w : World} {b : Nat} (hlt : b < w.heap.size) : b < w.drew.heap.size := hlt
theorem keep_cell_drew {w : World} {a : Addr} {v : Value} (h : w.cell? a = some v) : w.drew.cell? a = some v := h

/-- a predicate handed on: what it says of each value, in each later world -/
def PredB (P : Program) (g : FuncId) (cb : Array Value) (w : World) (vs : List Value) (p : Value → Bool) : Prop :=
  ∀ W, Below w.heap.size w W → ∀ v ∈ vs, Calls P g (#[v] ++ cb) W fun e W' => e = .returned (.bool (p v)) ∧ Below W.heap.size W W'

theorem any_of_first {α : Type} {l : List α} {q : α → Bool} {k : Nat} {x : α} (h : l[k]? = some x) (hx : q x = true) : l.any q = true :=
  List.any_eq_true.2 ⟨x, List.mem_of_getElem? h, hx⟩
theorem any_none {α : Type} {l : List α} {q : α → Bool} {k : Nat} (hk : l.length ≤ k) (h : ∀ j x, j < k → l[j]? = some x → q x = false) : l.any q = false := by
  rw [List.any_eq_false]
  intro x hx
  obtain ⟨j, hj⟩ := List.getElem?_of_mem hx
  have hjl : j < l.length := (List.getElem?_eq_some_iff.1 hj).1
  simp [h j x (by omega) hj]
theorem none_snoc {α : Type} {l : List α} {q : α → Bool} {k : Nat} {x : α} (hk : l[k]? = some x) (hx : q x = false) (h : ∀ j x, j < k → l[j]? = some x → q x = false) :
    ∀ j x, j < k + 1 → l[j]? = some x → q x = false := by
  intro j y hj hy
  rcases Nat.lt_or_ge j k with h' | h'
  · exact h j y h' hy
  · obtain rfl : j = k := by omega
    rw [hk] at hy; cases hy; exact hx

/-- an order -/
structure Ord where
  kind : Int
  key : ByteArray
  val : ByteArray
  n : Int
  lo : ByteArray
  hi : ByteArray
  deriving DecidableEq
def Ord.cells (o : Ord) : List Value := [.int .i64 o.kind, .string o.key, .string o.val, .int .u64 o.n, .string o.lo, .string o.hi]
def Ord.v (o : Ord) : Value := .agg #[.int .i64 o.kind, .string o.key, .string o.val, .int .u64 o.n, .string o.lo, .string o.hi]
theorem Ord.v_inj {a b : Ord} (h : a.v = b.v) : a = b := by
  cases a; cases b; simp [Ord.v] at h; simp [h]
theorem Ord.cells_def (o : Ord) : o.cells = [.int .i64 o.kind, .string o.key, .string o.val, .int .u64 o.n, .string o.lo, .string o.hi] := rfl
theorem Ord.v_def (o : Ord) : o.v = .agg #[.int .i64 o.kind, .string o.key, .string o.val, .int .u64 o.n, .string o.lo, .string o.hi] := rfl

/-- an item -/
structure Itm where
  key : ByteArray
  val : ByteArray
  deriving DecidableEq
def Itm.cells (o : Itm) : List Value := [.string o.key, .string o.val]
def Itm.v (o : Itm) : Value := .agg #[.string o.key, .string o.val]
theorem Itm.cells_def (o : Itm) : o.cells = [.string o.key, .string o.val] := rfl
theorem Itm.v_def (o : Itm) : o.v = .agg #[.string o.key, .string o.val] := rfl
/-- a message -/
structure Mg where
  kind : Int
  key : ByteArray
  val : ByteArray
  deriving DecidableEq
def Mg.cells (o : Mg) : List Value := [.int .i64 o.kind, .string o.key, .string o.val]
def Mg.v (o : Mg) : Value := .agg #[.int .i64 o.kind, .string o.key, .string o.val]
theorem Mg.cells_def (o : Mg) : o.cells = [.int .i64 o.kind, .string o.key, .string o.val] := rfl
theorem Mg.v_def (o : Mg) : o.v = .agg #[.int .i64 o.kind, .string o.key, .string o.val] := rfl
end Go.Proofs.Ytdfgdnaejnngoaa
