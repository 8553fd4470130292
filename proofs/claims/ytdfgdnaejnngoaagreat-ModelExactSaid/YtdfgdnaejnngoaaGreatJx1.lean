import Derived.Test.YtdfgdnaejnngoaaGreatChecked
import Derived.WalkKit
import Derived.WalkSpells
import Derived.WalkLawsBesides
import Derived.BigQuiet
import Derived.Deep.QuietTactic
import Derived.Lib.Hide
import Derived.Laws.EntriesVeiled
import Derived.Shelf.Abstract
import Derived.OrdersHeld
import Derived.RowKit
import Derived.Below
set_option linter.unusedVariables false
set_option linter.unusedSimpArgs false
namespace Go.Proofs.YtdfgdnaejnngoaaGreat
open Go.RowKit

theorem bytes_inj {x y : ByteArray} : x.toList = y.toList ↔ x = y := by
  rw [ByteArray.toList_eq, ByteArray.toList_eq]
  obtain ⟨⟨x⟩⟩ := x
  obtain ⟨⟨y⟩⟩ := y
  simp
theorem below_step {B : Nat} {a w w1 : World} (h : Below B a w) (hw : Below w.heap.size w w1) (hB : B ≤ w.heap.size) : Below B a w1 := h.trans (hw.mono hB)
theorem below_next {a w w1 : World} (h : Below a.heap.size a w) (hw : Below w.heap.size w w1) : Below a.heap.size a w1 := h.trans (hw.mono h.size)
theorem below_alloc {a w : World} {o : Obj} (h : Below a.heap.size a w) : Below a.heap.size a (w.alloc o) := h.alloc h.size o
theorem below_drewN {B : Nat} {a w : World} (h : Below B a w) (n : Nat) : Below B a (w.drewN n) := ⟨h.os, h.tape, h.output, h.size, h.block⟩

/-- the elements' cells, k each -/
def Elems (w : World) (A : Option Addr) (k : Nat) (rows : List (List Value)) : Prop :=
  ∀ i r, rows[i]? = some r → ∃ b off, A = some ⟨b, off, none⟩ ∧ b < w.heap.size ∧ ∀ j u, r[j]? = some u → w.cell? ⟨b, off + i * k + j, none⟩ = some u

theorem Elems.below {w w' : World} {A : Option Addr} {k : Nat} {rows : List (List Value)} (h : Elems w A k rows) (hb : Below w.heap.size w w') : Elems w' A k rows := by
  intro i r hr
  obtain ⟨b, off, e, hlt, hc⟩ := h i r hr
  exact ⟨b, off, e, Nat.lt_of_lt_of_le hlt hb.size, fun j u hu => (hb.cell (p := ⟨b, _, none⟩) hlt).trans (hc j u hu)⟩

theorem flatten_at {α : Type} {k : Nat} : ∀ {rows : List (List α)}, (∀ r ∈ rows, r.length = k) → ∀ (i : Nat) (r : List α), rows[i]? = some r → ∀ (j : Nat) (u : α), r[j]? = some u → rows.flatten[i * k + j]? = some u
  | [], _, i, r, h, _, _, _ => by simp at h
  | x :: rows, hk, i, r, h, j, u, hu => by
    have hx := hk x (by simp)
    cases i with
    | zero =>
      simp only [List.getElem?_cons_zero, Option.some.injEq] at h
      subst h
      have hj : j < x.length := (List.getElem?_eq_some_iff.1 hu).1
      simp only [List.flatten_cons, Nat.zero_mul, Nat.zero_add]
      rw [List.getElem?_append_left hj]; exact hu
    | succ i =>
      simp only [List.getElem?_cons_succ] at h
      have ih := flatten_at (fun r hr => hk r (by simp [hr])) i r h j u hu
      simp only [List.flatten_cons]
      rw [Nat.succ_mul, List.getElem?_append_right (by omega), hx]
      rw [show i * k + k + j - k = i * k + j from by omega]; exact ih
theorem Elems.of_block {w : World} {b : Nat} {cs : Array Value} {t : TypeId} {fz : Nat × Nat} {k : Nat} {rows : List (List Value)} (h : w.heap[b]? = some (.cells cs t fz)) (hk : ∀ r ∈ rows, r.length = k)
    (hc : cs = rows.flatten.toArray) : Elems w (some ⟨b, 0, none⟩) k rows := by
  intro i r hr
  have hb : b < w.heap.size := by
    rcases Nat.lt_or_ge b w.heap.size with h' | h'
    · exact h'
    · simp [Array.getElem?_eq_none h'] at h
  refine ⟨b, 0, rfl, hb, fun j u hu => ?_⟩
  subst hc
  have := flatten_at hk i r hr j u hu
  simp [World.cell?, h, this]
theorem heap_new_at {w : World} {o : Obj} {n : Nat} (h : w.heap.size = n) : (w.alloc o).heap[n]? = some o := by subst h; exact heap_alloc_new w o
theorem Elems.nil (w : World) (A : Option Addr) (k : Nat) : Elems w A k [] := fun i r h => by simp at h

/-- a new block's cells, behind a call that leaves all as it was -/
theorem new_cells {w w1 : World} {cs : Array Value} {t : TypeId} (hb : Below (w.alloc (.cells cs t)).heap.size (w.alloc (.cells cs t)) w1) :
    w.heap.size < w1.heap.size ∧ ∀ j u, cs[j]? = some u → w1.cell? ⟨w.heap.size, j, none⟩ = some u := by
  have hs : (w.alloc (.cells cs t)).heap.size = w.heap.size + 1 := by simp
  refine ⟨by have := hb.size; omega, fun j u hj => ?_⟩
  rw [hb.cell (p := ⟨w.heap.size, j, none⟩) (by show w.heap.size < _; omega)]
  simp only [World.cell?, heap_alloc_new]
  simpa using hj
theorem keep_cell {w w1 : World} (hb : Below w.heap.size w w1) {b o : Nat} {v : Value} (hlt : b < w.heap.size) (h : w.cell? ⟨b, o, none⟩ = some v) : w1.cell? ⟨b, o, none⟩ = some v := (hb.cell (p := ⟨b, o, none⟩) hlt).trans h
theorem keep_lt {w w1 : World} (hb : Below w.heap.size w w1) {b : Nat} (hlt : b < w.heap.size) : b < w1.heap.size := Nat.lt_of_lt_of_le hlt hb.size
theorem keep_cell_alloc {w : World} {c : Obj} {b o : Nat} {v : Value} (hlt : b < w.heap.size) (h : w.cell? ⟨b, o, none⟩ = some v) : (w.alloc c).cell? ⟨b, o, none⟩ = some v := (World.cell?_alloc_lt w c ⟨b, o, none⟩ hlt).trans h
theorem keep_lt_alloc {w : World} {c : Obj} {b : Nat} (hlt : b < w.heap.size) : b < (w.alloc c).heap.size := by simp; omega
theorem keep_lt_drew {w : World} {b : Nat} (hlt : b < w.heap.size) : b < w.drew.heap.size := hlt
theorem keep_cell_drew {w : World} {a : Addr} {v : Value} (h : w.cell? a = some v) : w.drew.cell? a = some v := h

/-- a predicate handed on: what it says of each value, in each later world -/
def PredB (P : Program) (g : FuncId) (cb : Array Value) (w : World) (vs : List Value) (p : Value → Bool) : Prop :=
  ∀ W, Below w.heap.size w W → ∀ v ∈ vs, Calls P g (#[v] ++ cb) W fun e W' => e = .returned (.bool (p v)) ∧ Below W.heap.size W W'

theorem any_of_first {α : Type} {l : List α} {q : α → Bool} {k : Nat} {x : α} (h : l[k]? = some x) (hx : q x = true) : l.any q = true :=
  List.any_eq_true.2 ⟨x, List.mem_of_getElem? h, hx⟩
theorem any_none {α : Type} {l : List α} {q : α → Bool} {k : Nat} (hk : l.length ≤ k) (h : ∀ j x, j < k → l[j]? = some x → q x = false) : l.any q = false := by
  rw [List.any_eq_false]
  intro x hx
  obtain ⟨j, hj⟩ := List.getElem?_of_mem hx
  have hjl : j < l.length := (List.getElem?_eq_some_iff.1 hj).1
  simp [h j x (by omega) hj]
theorem none_snoc {α : Type} {l : List α} {q : α → Bool} {k : Nat} {x : α} (hk : l[k]? = some x) (hx : q x = false) (h : ∀ j x, j < k → l[j]? = some x → q x = false) :
    ∀ j x, j < k + 1 → l[j]? = some x → q x = false := by
  intro j y hj hy
  rcases Nat.lt_or_ge j k with h' | h'
  · exact h j y h' hy
  · obtain rfl : j = k := by omega
    rw [hk] at hy; cases hy; exact hx

/-- an order -/
structure Ord where
  kind : Int
  key : ByteArray
  val : ByteArray
  n : Int
  lo : ByteArray
  hi : ByteArray
  deriving DecidableEq
def Ord.cells (o : Ord) : List Value := [.int .i64 o.kind, .string o.key, .string o.val, .int .u64 o.n, .string o.lo, .string o.hi]
def Ord.v (o : Ord) : Value := .agg #[.int .i64 o.kind, .string o.key, .string o.val, .int .u64 o.n, .string o.lo, .string o.hi]
theorem Ord.v_inj {a b : Ord} (h : a.v = b.v) : a = b := by
  cases a; cases b; simp [Ord.v] at h; simp [h]
theorem Ord.cells_def (o : Ord) : o.cells = [.int .i64 o.kind, .string o.key, .string o.val, .int .u64 o.n, .string o.lo, .string o.hi] := rfl
theorem Ord.v_def (o : Ord) : o.v = .agg #[.int .i64 o.kind, .string o.key, .string o.val, .int .u64 o.n, .string o.lo, .string o.hi] := rfl

/-- an item -/
structure Itm where
  key : ByteArray
  val : ByteArray
  deriving DecidableEq
def Itm.cells (o : Itm) : List Value := [.string o.key, .string o.val]
def Itm.v (o : Itm) : Value := .agg #[.string o.key, .string o.val]
theorem Itm.cells_def (o : Itm) : o.cells = [.string o.key, .string o.val] := rfl
theorem Itm.v_def (o : Itm) : o.v = .agg #[.string o.key, .string o.val] := rfl
/-- a message -/
structure Mg where
  kind : Int
  key : ByteArray
  val : ByteArray
  deriving DecidableEq
def Mg.cells (o : Mg) : List Value := [.int .i64 o.kind, .string o.key, .string o.val]
def Mg.v (o : Mg) : Value := .agg #[.int .i64 o.kind, .string o.key, .string o.val]
theorem Mg.cells_def (o : Mg) : o.cells = [.int .i64 o.kind, .string o.key, .string o.val] := rfl
theorem Mg.v_def (o : Mg) : o.v = .agg #[.int .i64 o.kind, .string o.key, .string o.val] := rfl
end Go.Proofs.YtdfgdnaejnngoaaGreat
namespace Go.Proofs.YtdfgdnaejnngoaaGreat
open Go.RowKit


set_option maxHeartbeats 400000 in
theorem indexFunc_str (A : Option Addr) (cap : Nat) (os : List ByteArray) (p : Value → Bool) (g : FuncId) (cb : Array Value) (w : World)
    (eg : ∀ args w, (callFunc g args).run Tryz.prog w = .ok (.enter g args) w)
    (hl : os.length ≤ 1000000000) (he : Elems w A 1 (os.map (fun s => [Value.string s])))
    (hp : PredB Tryz.prog g cb w (os.map Value.string) p) :
    Calls Tryz.prog 105 #[.slice A os.length cap, .func (.func g) #[] cb] w fun e w' =>
      (∃ n : Int, e = .returned (.int .i64 n) ∧ decide (0 ≤ n) = (os.any fun x => p (Value.string x))) ∧ Below w.heap.size w w' := by
  go_enter Tryz.func105, Tryz.ntmps105
  go_wp2
  go_loopw [8, 5] (fun i _ wr => ∃ k : Nat, k ≤ os.length ∧ i = .int .i64 k ∧ (∀ j x, j < k → os[j]? = some x → p (Value.string x) = false) ∧ Below w.heap.size w wr) (fun i _ _ => os.length - (intOf i).toNat)
  case atStart => exact ⟨0, Nat.zero_le _, rfl, fun j s h => by omega, Below.refl _ _⟩
  case round =>
    obtain ⟨k, hk, rfl, hno, hb⟩ := hrel
    have Hno := Lib.hid hno
    clear hno
    by_cases hlt : k < os.length
    · obtain ⟨x, hs⟩ : ∃ s, os[k]? = some s := ⟨os[k], List.getElem?_eq_getElem hlt⟩
      obtain ⟨b, off, rfl, hbl, hc⟩ := he.below hb k ((fun s => [Value.string s]) x) (by simp [hs])
      have c0 := hc 0 _ rfl
      simp only [Nat.add_zero, Nat.mul_one] at c0
      have hcall := hp _ hb (Value.string x) (List.mem_map.2 ⟨x, List.mem_of_getElem? hs, rfl⟩)
      have Hcall := Lib.hid hcall
      have Hs := Lib.hid hs
      clear hcall hs hc he hp
      go_wp2_with ((with_reducible refine (Hcall.out).mono ?_); rintro e w' ⟨rfl, hb'⟩)
      · go_ret
        exact ⟨⟨k, rfl, by rw [any_of_first Hs.out (by assumption)]; simp⟩, hb.trans (hb'.mono hb.size)⟩
      · go_roundw
        case rel => exact ⟨k + 1, by omega, by go_num, none_snoc (q := fun x => p (Value.string x)) Hs.out (by assumption) Hno.out, hb.trans (hb'.mono hb.size)⟩
        case measure => simp [intOf]; omega
    · go_wp2
      go_ret
      exact ⟨⟨-1, rfl, by rw [any_none (by omega) Hno.out]; rfl⟩, hb⟩

theorem containsFunc_str (A : Option Addr) (cap : Nat) (os : List ByteArray) (p : Value → Bool) (g : FuncId) (cb : Array Value) (w : World)
    (eg : ∀ args w, (callFunc g args).run Tryz.prog w = .ok (.enter g args) w)
    (hl : os.length ≤ 1000000000) (he : Elems w A 1 (os.map (fun s => [Value.string s])))
    (hp : PredB Tryz.prog g cb w (os.map Value.string) p) :
    Calls Tryz.prog 72 #[.slice A os.length cap, .func (.func g) #[] cb] w fun e w' =>
      e = .returned (.bool (os.any fun x => p (Value.string x))) ∧ Below w.heap.size w w' := by
  have hcall := indexFunc_str A cap os p g cb w eg hl he hp
  have Hcall := Lib.hid hcall
  clear hcall he hp eg
  go_enter Tryz.func72, Tryz.ntmps72
  go_wp2_with ((with_reducible refine (Hcall.out).mono ?_); rintro e w' ⟨⟨n, rfl, hn⟩, hb'⟩; have Hn := Lib.hid hn; clear hn)
  go_ret
  exact ⟨by rw [← Hn.out]; rfl, hb'⟩

set_option maxHeartbeats 400000 in
theorem indexFunc_int (A : Option Addr) (cap : Nat) (os : List Int) (p : Value → Bool) (g : FuncId) (cb : Array Value) (w : World)
    (eg : ∀ args w, (callFunc g args).run Tryz.prog w = .ok (.enter g args) w)
    (hl : os.length ≤ 1000000000) (he : Elems w A 1 (os.map (fun n => [Value.int .i64 n])))
    (hp : PredB Tryz.prog g cb w (os.map (fun n => Value.int .i64 n)) p) :
    Calls Tryz.prog 158 #[.slice A os.length cap, .func (.func g) #[] cb] w fun e w' =>
      (∃ n : Int, e = .returned (.int .i64 n) ∧ decide (0 ≤ n) = (os.any fun x => p ((fun n => Value.int .i64 n) x))) ∧ Below w.heap.size w w' := by
  go_enter Tryz.func158, Tryz.ntmps158
  go_wp2
  go_loopw [8, 5] (fun i _ wr => ∃ k : Nat, k ≤ os.length ∧ i = .int .i64 k ∧ (∀ j x, j < k → os[j]? = some x → p ((fun n => Value.int .i64 n) x) = false) ∧ Below w.heap.size w wr) (fun i _ _ => os.length - (intOf i).toNat)
  case atStart => exact ⟨0, Nat.zero_le _, rfl, fun j s h => by omega, Below.refl _ _⟩
  case round =>
    obtain ⟨k, hk, rfl, hno, hb⟩ := hrel
    have Hno := Lib.hid hno
    clear hno
    by_cases hlt : k < os.length
    · obtain ⟨x, hs⟩ : ∃ s, os[k]? = some s := ⟨os[k], List.getElem?_eq_getElem hlt⟩
      obtain ⟨b, off, rfl, hbl, hc⟩ := he.below hb k ((fun n => [Value.int .i64 n]) x) (by simp [hs])
      have c0 := hc 0 _ rfl
      simp only [Nat.add_zero, Nat.mul_one] at c0
      have hcall := hp _ hb ((fun n => Value.int .i64 n) x) (List.mem_map.2 ⟨x, List.mem_of_getElem? hs, rfl⟩)
      have Hcall := Lib.hid hcall
      have Hs := Lib.hid hs
      clear hcall hs hc he hp
      go_wp2_with ((with_reducible refine (Hcall.out).mono ?_); rintro e w' ⟨rfl, hb'⟩)
      · go_ret
        exact ⟨⟨k, rfl, by rw [any_of_first Hs.out (by assumption)]; simp⟩, hb.trans (hb'.mono hb.size)⟩
      · go_roundw
        case rel => exact ⟨k + 1, by omega, by go_num, none_snoc (q := fun x => p ((fun n => Value.int .i64 n) x)) Hs.out (by assumption) Hno.out, hb.trans (hb'.mono hb.size)⟩
        case measure => simp [intOf]; omega
    · go_wp2
      go_ret
      exact ⟨⟨-1, rfl, by rw [any_none (by omega) Hno.out]; rfl⟩, hb⟩

theorem containsFunc_int (A : Option Addr) (cap : Nat) (os : List Int) (p : Value → Bool) (g : FuncId) (cb : Array Value) (w : World)
    (eg : ∀ args w, (callFunc g args).run Tryz.prog w = .ok (.enter g args) w)
    (hl : os.length ≤ 1000000000) (he : Elems w A 1 (os.map (fun n => [Value.int .i64 n])))
    (hp : PredB Tryz.prog g cb w (os.map (fun n => Value.int .i64 n)) p) :
    Calls Tryz.prog 142 #[.slice A os.length cap, .func (.func g) #[] cb] w fun e w' =>
      e = .returned (.bool (os.any fun x => p ((fun n => Value.int .i64 n) x))) ∧ Below w.heap.size w w' := by
  have hcall := indexFunc_int A cap os p g cb w eg hl he hp
  have Hcall := Lib.hid hcall
  clear hcall he hp eg
  go_enter Tryz.func142, Tryz.ntmps142
  go_wp2_with ((with_reducible refine (Hcall.out).mono ?_); rintro e w' ⟨⟨n, rfl, hn⟩, hb'⟩; have Hn := Lib.hid hn; clear hn)
  go_ret
  exact ⟨by rw [← Hn.out]; rfl, hb'⟩

set_option maxHeartbeats 400000 in
theorem indexFunc_item (A : Option Addr) (cap : Nat) (os : List Itm) (p : Value → Bool) (g : FuncId) (cb : Array Value) (w : World)
    (eg : ∀ args w, (callFunc g args).run Tryz.prog w = .ok (.enter g args) w)
    (hl : os.length ≤ 1000000000) (he : Elems w A 2 (os.map Itm.cells))
    (hp : PredB Tryz.prog g cb w (os.map Itm.v) p) :
    Calls Tryz.prog 112 #[.slice A os.length cap, .func (.func g) #[] cb] w fun e w' =>
      (∃ n : Int, e = .returned (.int .i64 n) ∧ decide (0 ≤ n) = (os.any fun x => p (Itm.v x))) ∧ Below w.heap.size w w' := by
  go_enter Tryz.func112, Tryz.ntmps112
  go_wp2
  go_loopw [8, 5] (fun i _ wr => ∃ k : Nat, k ≤ os.length ∧ i = .int .i64 k ∧ (∀ j x, j < k → os[j]? = some x → p (Itm.v x) = false) ∧ Below w.heap.size w wr) (fun i _ _ => os.length - (intOf i).toNat)
  case atStart => exact ⟨0, Nat.zero_le _, rfl, fun j s h => by omega, Below.refl _ _⟩
  case round =>
    obtain ⟨k, hk, rfl, hno, hb⟩ := hrel
    have Hno := Lib.hid hno
    clear hno
    by_cases hlt : k < os.length
    · obtain ⟨x, hs⟩ : ∃ s, os[k]? = some s := ⟨os[k], List.getElem?_eq_getElem hlt⟩
      obtain ⟨b, off, rfl, hbl, hc⟩ := he.below hb k (Itm.cells x) (by simp [hs])
      have c0 := hc 0 _ rfl; have c1 := hc 1 _ rfl
      simp only [Nat.add_zero] at c0
      have hcall := hp _ hb (Itm.v x) (List.mem_map.2 ⟨x, List.mem_of_getElem? hs, rfl⟩)
      simp only [Itm.v_def] at hcall
      have Hcall := Lib.hid hcall
      have Hs := Lib.hid hs
      clear hcall hs hc he hp
      go_wp2_with ((with_reducible refine (Hcall.out).mono ?_); rintro e w' ⟨rfl, hb'⟩)
      · go_ret
        exact ⟨⟨k, rfl, by rw [any_of_first Hs.out (by assumption)]; simp⟩, hb.trans (hb'.mono hb.size)⟩
      · go_roundw
        case rel => exact ⟨k + 1, by omega, by go_num, none_snoc (q := fun x => p (Itm.v x)) Hs.out (by assumption) Hno.out, hb.trans (hb'.mono hb.size)⟩
        case measure => simp [intOf]; omega
    · go_wp2
      go_ret
      exact ⟨⟨-1, rfl, by rw [any_none (by omega) Hno.out]; rfl⟩, hb⟩

theorem containsFunc_item (A : Option Addr) (cap : Nat) (os : List Itm) (p : Value → Bool) (g : FuncId) (cb : Array Value) (w : World)
    (eg : ∀ args w, (callFunc g args).run Tryz.prog w = .ok (.enter g args) w)
    (hl : os.length ≤ 1000000000) (he : Elems w A 2 (os.map Itm.cells))
    (hp : PredB Tryz.prog g cb w (os.map Itm.v) p) :
    Calls Tryz.prog 82 #[.slice A os.length cap, .func (.func g) #[] cb] w fun e w' =>
      e = .returned (.bool (os.any fun x => p (Itm.v x))) ∧ Below w.heap.size w w' := by
  have hcall := indexFunc_item A cap os p g cb w eg hl he hp
  have Hcall := Lib.hid hcall
  clear hcall he hp eg
  go_enter Tryz.func82, Tryz.ntmps82
  go_wp2_with ((with_reducible refine (Hcall.out).mono ?_); rintro e w' ⟨⟨n, rfl, hn⟩, hb'⟩; have Hn := Lib.hid hn; clear hn)
  go_ret
  exact ⟨by rw [← Hn.out]; rfl, hb'⟩


end Go.Proofs.YtdfgdnaejnngoaaGreat
namespace Go.Proofs.YtdfgdnaejnngoaaGreat
open Go.RowKit

theorem ret_bool {a b : Bool} (h : a = b) : Ending.returned (.bool a) = Ending.returned (.bool b) := by rw [h]
theorem ret_int {k : IntKind} {a b : Int} (h : a = b) : Ending.returned (.int k a) = Ending.returned (.int k b) := by rw [h]

def isWidth (x : Int) : Bool := decide (x = 1 ∨ x = 2 ∨ x = 4 ∨ x = 8)

theorem isWidth_any (x : Int) (w : World) : Calls Tryz.prog 128 #[.int .i64 x] w fun e w' => e = .returned (.bool (isWidth x)) ∧ w = w' := by
  by_cases h1 : x = 1
  · subst h1
    go_enter Tryz.func128, Tryz.ntmps128
    go_wp2
    go_ret
    exact ⟨rfl, rfl⟩
  by_cases h2 : x = 2
  · subst h2
    go_enter Tryz.func128, Tryz.ntmps128
    go_wp2
    go_ret
    exact ⟨rfl, rfl⟩
  by_cases h3 : x = 4
  · subst h3
    go_enter Tryz.func128, Tryz.ntmps128
    go_wp2
    go_ret
    exact ⟨rfl, rfl⟩
  have e1 : (x == 1) = false := by simpa using h1
  have e2 : (x == 2) = false := by simpa using h2
  have e3 : (x == 4) = false := by simpa using h3
  go_enter Tryz.func128, Tryz.ntmps128
  go_wp2
  go_ret
  exact ⟨ret_bool (by by_cases h : x = 8 <;> simp [isWidth, h1, h2, h3, h]), rfl⟩

theorem isLong_any (s : ByteArray) (w : World) : Calls Tryz.prog 73 #[.string s] w fun e w' => e = .returned (.bool (decide (255 < (s.size : Int)))) ∧ w = w' := by
  go_enter Tryz.func73, Tryz.ntmps73
  go_wp2
  go_ret
  exact ⟨rfl, rfl⟩

def fieldRows (k : Int) : List (List Value) :=
  let f (a b : Nat) : List Value := [.func (.func a) #[] #[], .func (.func b) #[] #[]]
  if k = 1 then [f 95 96, f 97 98]
  else if k = 2 ∨ k = 4 then [f 95 96]
  else if k = 3 then [f 95 96, f 99 100]
  else if k = 5 then [f 101 102, f 103 104]
  else []
def okKind (k : Int) : Bool := decide (1 ≤ k) && decide (k ≤ 8)

def FieldsRes (k : Int) (w : World) (e : Ending) (w' : World) : Prop :=
  ∃ A c, e = .returned (.tuple #[.slice A (fieldRows k).length c, .bool (okKind k)]) ∧ Elems w' A 2 (fieldRows k) ∧ (∀ ad, A = some ad → w.heap.size ≤ ad.block) ∧ Below w.heap.size w w'

theorem fields_1 (w : World) : Calls Tryz.prog 70 #[.int .i64 1] w (FieldsRes 1 w) := by
  go_enter Tryz.func70, Tryz.ntmps70
  go_wp2
  go_ret2
  exact ⟨_, _, rfl, Elems.of_block (heap_new_at (by simp)) (by simp [fieldRows]) (by simp [fieldRows]), (fun ad e => by cases e; simp), (by repeat (first | assumption | exact Below.refl _ _ | (refine below_step (w := ?_) ?_ ?_ ?_; rotate_left 2; assumption) | refine Below.drew ?_ | refine below_drewN ?_ _ | refine Below.alloc ?_ ?_ _ | refine Below.setCell ?_ ?_ _ | (focus (simp; done)) | (focus (simp; omega)) | omega))⟩
theorem fields_2 (w : World) : Calls Tryz.prog 70 #[.int .i64 2] w (FieldsRes 2 w) := by
  go_enter Tryz.func70, Tryz.ntmps70
  go_wp2
  go_ret2
  exact ⟨_, _, rfl, Elems.of_block (heap_new_at (by simp)) (by simp [fieldRows]) (by simp [fieldRows]), (fun ad e => by cases e; simp), (by repeat (first | assumption | exact Below.refl _ _ | (refine below_step (w := ?_) ?_ ?_ ?_; rotate_left 2; assumption) | refine Below.drew ?_ | refine below_drewN ?_ _ | refine Below.alloc ?_ ?_ _ | refine Below.setCell ?_ ?_ _ | (focus (simp; done)) | (focus (simp; omega)) | omega))⟩
theorem fields_4 (w : World) : Calls Tryz.prog 70 #[.int .i64 4] w (FieldsRes 4 w) := by
  go_enter Tryz.func70, Tryz.ntmps70
  go_wp2
  go_ret2
  exact ⟨_, _, rfl, Elems.of_block (heap_new_at (by simp)) (by simp [fieldRows]) (by simp [fieldRows]), (fun ad e => by cases e; simp), (by repeat (first | assumption | exact Below.refl _ _ | (refine below_step (w := ?_) ?_ ?_ ?_; rotate_left 2; assumption) | refine Below.drew ?_ | refine below_drewN ?_ _ | refine Below.alloc ?_ ?_ _ | refine Below.setCell ?_ ?_ _ | (focus (simp; done)) | (focus (simp; omega)) | omega))⟩
theorem fields_3 (w : World) : Calls Tryz.prog 70 #[.int .i64 3] w (FieldsRes 3 w) := by
  go_enter Tryz.func70, Tryz.ntmps70
  go_wp2
  go_ret2
  exact ⟨_, _, rfl, Elems.of_block (heap_new_at (by simp)) (by simp [fieldRows]) (by simp [fieldRows]), (fun ad e => by cases e; simp), (by repeat (first | assumption | exact Below.refl _ _ | (refine below_step (w := ?_) ?_ ?_ ?_; rotate_left 2; assumption) | refine Below.drew ?_ | refine below_drewN ?_ _ | refine Below.alloc ?_ ?_ _ | refine Below.setCell ?_ ?_ _ | (focus (simp; done)) | (focus (simp; omega)) | omega))⟩
theorem fields_5 (w : World) : Calls Tryz.prog 70 #[.int .i64 5] w (FieldsRes 5 w) := by
  go_enter Tryz.func70, Tryz.ntmps70
  go_wp2
  go_ret2
  exact ⟨_, _, rfl, Elems.of_block (heap_new_at (by simp)) (by simp [fieldRows]) (by simp [fieldRows]), (fun ad e => by cases e; simp), (by repeat (first | assumption | exact Below.refl _ _ | (refine below_step (w := ?_) ?_ ?_ ?_; rotate_left 2; assumption) | refine Below.drew ?_ | refine below_drewN ?_ _ | refine Below.alloc ?_ ?_ _ | refine Below.setCell ?_ ?_ _ | (focus (simp; done)) | (focus (simp; omega)) | omega))⟩
theorem fields_any (k : Int) (w : World) : Calls Tryz.prog 70 #[.int .i64 k] w (FieldsRes k w) := by
  by_cases h1 : k = 1
  · subst h1; exact fields_1 w
  by_cases h2 : k = 2
  · subst h2; exact fields_2 w
  by_cases h3 : k = 3
  · subst h3; exact fields_3 w
  by_cases h4 : k = 4
  · subst h4; exact fields_4 w
  by_cases h5 : k = 5
  · subst h5; exact fields_5 w
  have hr : fieldRows k = [] := by simp [fieldRows, h1, h2, h3, h4, h5]
  have Hr := Lib.hid hr
  clear hr
  have e1 : (k == 1) = false := by simpa using h1
  have e2 : (k == 2) = false := by simpa using h2
  have e3 : (k == 3) = false := by simpa using h3
  have e4 : (k == 4) = false := by simpa using h4
  have e5 : (k == 5) = false := by simpa using h5
  by_cases h6 : 6 ≤ k
  all_goals
    go_enter Tryz.func70, Tryz.ntmps70
    go_wp2
    go_ret2
    refine ⟨none, 0, ?_, by rw [Hr.out]; exact Elems.nil _ _ _, (fun ad e => by cases e), (by repeat (first | assumption | exact Below.refl _ _ | (refine below_step (w := ?_) ?_ ?_ ?_; rotate_left 2; assumption) | refine Below.drew ?_ | refine below_drewN ?_ _ | refine Below.alloc ?_ ?_ _ | refine Below.setCell ?_ ?_ _ | (focus (simp; done)) | (focus (simp; omega)) | omega))⟩
    rw [Hr.out]
    simp [okKind]
    omega
end Go.Proofs.YtdfgdnaejnngoaaGreat
namespace Go.Proofs.YtdfgdnaejnngoaaGreat
open Go.RowKit

def bareOf (o : Ord) : Ord :=
  if o.kind = 1 then { kind := o.kind, key := o.key, val := o.val, n := 0, lo := ⟨#[]⟩, hi := ⟨#[]⟩ }
  else if o.kind = 2 ∨ o.kind = 4 then { kind := o.kind, key := o.key, val := ⟨#[]⟩, n := 0, lo := ⟨#[]⟩, hi := ⟨#[]⟩ }
  else if o.kind = 3 then { kind := o.kind, key := o.key, val := ⟨#[]⟩, n := o.n, lo := ⟨#[]⟩, hi := ⟨#[]⟩ }
  else if o.kind = 5 then { kind := o.kind, key := ⟨#[]⟩, val := ⟨#[]⟩, n := 0, lo := o.lo, hi := o.hi }
  else { kind := o.kind, key := ⟨#[]⟩, val := ⟨#[]⟩, n := 0, lo := ⟨#[]⟩, hi := ⟨#[]⟩ }

def BareRes (r : Ord) (w : World) (e : Ending) (w' : World) : Prop := e = .returned r.v ∧ Below w.heap.size w w'

theorem bare_1 (key val lo hi : ByteArray) (n : Int) (w : World) : Calls Tryz.prog 71 #[.agg #[.int .i64 1, .string key, .string val, .int .u64 n, .string lo, .string hi]] w
    (BareRes (bareOf ⟨1, key, val, n, lo, hi⟩) w) := by
  go_enter Tryz.func71, Tryz.ntmps71
  go_wp2
  try go_region
  all_goals try go_wp2
  all_goals refine bodyPost_ret (v := (bareOf ⟨1, key, val, n, lo, hi⟩).v) (by simp [results, Tryz.results71, go_sem, bareOf, Ord.v]) rfl ⟨rfl, (by repeat (first | assumption | exact Below.refl _ _ | (refine below_step (w := ?_) ?_ ?_ ?_; rotate_left 2; assumption) | refine Below.drew ?_ | refine below_drewN ?_ _ | refine Below.alloc ?_ ?_ _ | refine Below.setCell ?_ ?_ _ | (focus (simp; done)) | (focus (simp; omega)) | omega))⟩
theorem bare_2 (key val lo hi : ByteArray) (n : Int) (w : World) : Calls Tryz.prog 71 #[.agg #[.int .i64 2, .string key, .string val, .int .u64 n, .string lo, .string hi]] w
    (BareRes (bareOf ⟨2, key, val, n, lo, hi⟩) w) := by
  go_enter Tryz.func71, Tryz.ntmps71
  go_wp2
  try go_region
  all_goals try go_wp2
  all_goals refine bodyPost_ret (v := (bareOf ⟨2, key, val, n, lo, hi⟩).v) (by simp [results, Tryz.results71, go_sem, bareOf, Ord.v]) rfl ⟨rfl, (by repeat (first | assumption | exact Below.refl _ _ | (refine below_step (w := ?_) ?_ ?_ ?_; rotate_left 2; assumption) | refine Below.drew ?_ | refine below_drewN ?_ _ | refine Below.alloc ?_ ?_ _ | refine Below.setCell ?_ ?_ _ | (focus (simp; done)) | (focus (simp; omega)) | omega))⟩
theorem bare_3 (key val lo hi : ByteArray) (n : Int) (w : World) : Calls Tryz.prog 71 #[.agg #[.int .i64 3, .string key, .string val, .int .u64 n, .string lo, .string hi]] w
    (BareRes (bareOf ⟨3, key, val, n, lo, hi⟩) w) := by
  go_enter Tryz.func71, Tryz.ntmps71
  go_wp2
  try go_region
  all_goals try go_wp2
  all_goals refine bodyPost_ret (v := (bareOf ⟨3, key, val, n, lo, hi⟩).v) (by simp [results, Tryz.results71, go_sem, bareOf, Ord.v]) rfl ⟨rfl, (by repeat (first | assumption | exact Below.refl _ _ | (refine below_step (w := ?_) ?_ ?_ ?_; rotate_left 2; assumption) | refine Below.drew ?_ | refine below_drewN ?_ _ | refine Below.alloc ?_ ?_ _ | refine Below.setCell ?_ ?_ _ | (focus (simp; done)) | (focus (simp; omega)) | omega))⟩
theorem bare_4 (key val lo hi : ByteArray) (n : Int) (w : World) : Calls Tryz.prog 71 #[.agg #[.int .i64 4, .string key, .string val, .int .u64 n, .string lo, .string hi]] w
    (BareRes (bareOf ⟨4, key, val, n, lo, hi⟩) w) := by
  go_enter Tryz.func71, Tryz.ntmps71
  go_wp2
  try go_region
  all_goals try go_wp2
  all_goals refine bodyPost_ret (v := (bareOf ⟨4, key, val, n, lo, hi⟩).v) (by simp [results, Tryz.results71, go_sem, bareOf, Ord.v]) rfl ⟨rfl, (by repeat (first | assumption | exact Below.refl _ _ | (refine below_step (w := ?_) ?_ ?_ ?_; rotate_left 2; assumption) | refine Below.drew ?_ | refine below_drewN ?_ _ | refine Below.alloc ?_ ?_ _ | refine Below.setCell ?_ ?_ _ | (focus (simp; done)) | (focus (simp; omega)) | omega))⟩
theorem bare_5 (key val lo hi : ByteArray) (n : Int) (w : World) : Calls Tryz.prog 71 #[.agg #[.int .i64 5, .string key, .string val, .int .u64 n, .string lo, .string hi]] w
    (BareRes (bareOf ⟨5, key, val, n, lo, hi⟩) w) := by
  go_enter Tryz.func71, Tryz.ntmps71
  go_wp2
  try go_region
  all_goals try go_wp2
  all_goals refine bodyPost_ret (v := (bareOf ⟨5, key, val, n, lo, hi⟩).v) (by simp [results, Tryz.results71, go_sem, bareOf, Ord.v]) rfl ⟨rfl, (by repeat (first | assumption | exact Below.refl _ _ | (refine below_step (w := ?_) ?_ ?_ ?_; rotate_left 2; assumption) | refine Below.drew ?_ | refine below_drewN ?_ _ | refine Below.alloc ?_ ?_ _ | refine Below.setCell ?_ ?_ _ | (focus (simp; done)) | (focus (simp; omega)) | omega))⟩
theorem bare_any (o : Ord) (w : World) : Calls Tryz.prog 71 #[o.v] w (BareRes (bareOf o) w) := by
  obtain ⟨k, key, val, n, lo, hi⟩ := o
  by_cases h1 : k = 1
  · subst h1; exact bare_1 key val lo hi n w
  by_cases h2 : k = 2
  · subst h2; exact bare_2 key val lo hi n w
  by_cases h3 : k = 3
  · subst h3; exact bare_3 key val lo hi n w
  by_cases h4 : k = 4
  · subst h4; exact bare_4 key val lo hi n w
  by_cases h5 : k = 5
  · subst h5; exact bare_5 key val lo hi n w
  have hr : bareOf ⟨k, key, val, n, lo, hi⟩ = ⟨k, ⟨#[]⟩, ⟨#[]⟩, 0, ⟨#[]⟩, ⟨#[]⟩⟩ := by simp [bareOf, h1, h2, h3, h4, h5]
  have Hr := Lib.hid hr
  clear hr
  have e1 : (k == 1) = false := by simpa using h1
  have e2 : (k == 2) = false := by simpa using h2
  have e3 : (k == 3) = false := by simpa using h3
  have e4 : (k == 4) = false := by simpa using h4
  have e5 : (k == 5) = false := by simpa using h5
  rw [Ord.v_def]
  go_enter Tryz.func71, Tryz.ntmps71
  go_wp2
  refine bodyPost_ret (v := (bareOf ⟨k, key, val, n, lo, hi⟩).v) (by rw [Hr.out]; simp [results, Tryz.results71, go_sem, Ord.v]) rfl ⟨rfl, (by repeat (first | assumption | exact Below.refl _ _ | (refine below_step (w := ?_) ?_ ?_ ?_; rotate_left 2; assumption) | refine Below.drew ?_ | refine below_drewN ?_ _ | refine Below.alloc ?_ ?_ _ | refine Below.setCell ?_ ?_ _ | (focus (simp; done)) | (focus (simp; omega)) | omega))⟩

theorem eql_ord (a b : Ord) (w : World) : (binOp .eql 39 a.v b.v).run Tryz.prog w = .ok (.bool (decide (a = b))) w := by
  have u3 := Tryz.underlying3
  have a3 := Tryz.isAgg3
  have z3 := Tryz.sizeOf3
  have u9 := Tryz.underlying9
  have a9 := Tryz.isAgg9
  have z9 := Tryz.sizeOf9
  have u22 := Tryz.underlying37
  have a22 := Tryz.isAgg37
  have z22 := Tryz.sizeOf37
  have hS : Tryz.prog.underlying 39 = some (.struct (Tryz.prog.fieldsOf 39)) := by kernel_rfl
  have hp : Tryz.prog.stoodInHeld 39 = false := by kernel_rfl
  rw [Ord.v_def, Ord.v_def]
  rw [run_eql_struct, show (10000 : Nat) = 9999 + 1 from rfl, run_equalIn_agg w 9999 39 _ _ hS hp]
  simp only [Program.fieldsOf, Tryz.underlying39]
  go_simp
  obtain ⟨k, key, val, n, lo, hi⟩ := a
  obtain ⟨k', key', val', n', lo', hi'⟩ := b
  by_cases h1 : k = k' <;> by_cases h2 : key = key' <;> by_cases h3 : val = val' <;> by_cases h4 : n = n' <;> by_cases h5 : lo = lo' <;> by_cases h6 : hi = hi' <;> simp [h1, h2, h3, h4, h5, h6, bytes_inj]
end Go.Proofs.YtdfgdnaejnngoaaGreat
namespace Go.Proofs.YtdfgdnaejnngoaaGreat
open Go.RowKit
/-! A region that draws its order, operation by operation, over the library's 'wpAnyH' (Derived/OrdersHeld.lean): what reads or reckons is taken first, what is guarded away is passed over, what calls or makes memory is run alone. -/
section
variable {P : Program} {ops : Array Oper} {Q : Exit → Act → World → Prop} {S : World → Prop}

theorem rg_start {id n : Nat} {a : Act} {w : World} (S : World → Prop) (l : Array Bool) (hm : P.follows .mixedOrders = true) (hn : ops.size = n) (hl : Array.replicate n false = l) (hS : S w.drew)
    (h : S w.drew → wpAnyH P .any ops Q S n l a w.drew) : (Code.region id ops true).wp P Q a w := by
  subst hn
  subst hl
  exact wp_region_held hm (h hS)

def rgChk (ops : Array Oper) (l l' : Array Bool) (i : Nat) : Bool :=
  Region.noSelect ops && Region.free .any ops l i && (Region.ready .any ops l).contains i && (l.setIfInBounds i true == l')

theorem rg_yield {i : Nat} {N : Option Tmp} {oi : Oper} {v : Value} {fuel : Nat} {l : Array Bool} {a a' : Act} {w : World} (l' : Array Bool) (hi : ops[i]? = some oi) (hN : oi.dst = N) (hc : rgChk ops l l' i = true)
    (hQ : ∀ c a w, Q (.panic c) (a.put oi.dst v) w → Q (.panic c) a w) (hy : YieldsIf P ops S oi v a) (hS : S w) (ha : a.put N v = a')
    (h : wpAnyH P .any ops Q S fuel l' a' w) : wpAnyH P .any ops Q S (fuel + 1) l a w := by
  subst ha
  subst hN
  simp only [rgChk, Bool.and_eq_true, beq_iff_eq] at hc
  obtain ⟨⟨⟨h1, h2⟩, h3⟩, h6⟩ := hc
  subst h6
  exact wpAnyH_take hi h1 h2 h3 hQ hy hS h

/-- what reads or reckons, taken first -/
theorem rg_take {i : Nat} {N : Option Tmp} {oi : Oper} {v : Value} {fuel : Nat} {l : Array Bool} {a a' : Act} {w : World} (l' : Array Bool) (hi : ops[i]? = some oi) (hN : oi.dst = N) (hc : rgChk ops l l' i = true)
    (hQ : ∀ c a w, Q (.panic c) (a.put oi.dst v) w → Q (.panic c) a w) (hw : Region.wanted oi (yielded ops a.tmps) = true) (hrun : ∀ w, S w → (execOp a.eval oi).run P w = .ok (.value v) w) (hS : S w) (ha : a.put N v = a')
    (h : wpAnyH P .any ops Q S fuel l' a' w) : wpAnyH P .any ops Q S (fuel + 1) l a w := rg_yield l' hi hN hc hQ (Or.inl ⟨hw, hrun⟩) hS ha h

/-- what is guarded away -/
theorem rg_skip {i : Nat} {N : Option Tmp} {oi : Oper} {fuel : Nat} {l : Array Bool} {a a' : Act} {w : World} (l' : Array Bool) (hi : ops[i]? = some oi) (hN : oi.dst = N) (hc : rgChk ops l l' i = true)
    (hQ : ∀ c a w, Q (.panic c) (a.put oi.dst undef) w → Q (.panic c) a w) (hw : Region.wanted oi (yielded ops a.tmps) = false) (hS : S w) (ha : a.put N undef = a')
    (h : wpAnyH P .any ops Q S fuel l' a' w) : wpAnyH P .any ops Q S (fuel + 1) l a w := rg_yield l' hi hN hc hQ (Or.inr ⟨hw, rfl⟩) hS ha h

theorem rg_step {i : Nat} {o : Oper} {K : Act → World → Prop} {a : Act} {w : World} (ho : ops[i]? = some o) (hw : Region.wanted o (yielded ops a.tmps) = true)
    (h : ∀ K' : Act → World → Prop, (∀ a w, K a w → K' a w) → Oper.wp P o a w K' Q) : wpOp P ops Q i K a w := by
  unfold wpOp
  simp only [ho, hw, if_true]
  exact .inl (h K fun _ _ h => h)

/-- one operation alone may come up: it is run, S is shown behind it -/
theorem rg_one {i : Nat} {oi : Oper} {fuel : Nat} {l : Array Bool} {a : Act} {w : World} (l' : Array Bool) (hi : ops[i]? = some oi) (hc : (Region.ready .any ops l == [i] && l.setIfInBounds i true == l') = true)
    (hw : Region.wanted oi (yielded ops a.tmps) = true)
    (h : ∀ K : Act → World → Prop, Hid (∀ a' w', S w' → (S w' → wpAnyH P .any ops Q S fuel l' a' w') → K a' w') → Oper.wp P oi a w K Q) :
    wpAnyH P .any ops Q S (fuel + 1) l a w := by
  simp only [Bool.and_eq_true, beq_iff_eq] at hc
  obtain ⟨h1, h2⟩ := hc
  subst h2
  refine wpAnyH_all h1 (by simp) fun j hj => ?_
  rw [List.mem_singleton] at hj
  subst hj
  exact rg_step hi hw fun K' hK => h K' fun a' w' hs hx => hK a' w' ⟨hs, hx hs⟩

/-- two may come up: both ways -/
theorem rg_two {i j : Nat} {oi oj : Oper} {fuel : Nat} {l : Array Bool} {a : Act} {w : World} (li lj : Array Bool) (hi : ops[i]? = some oi) (hj : ops[j]? = some oj)
    (hc : (Region.ready .any ops l == [i, j] && l.setIfInBounds i true == li && l.setIfInBounds j true == lj) = true)
    (hwi : Region.wanted oi (yielded ops a.tmps) = true) (hwj : Region.wanted oj (yielded ops a.tmps) = true)
    (h1 : ∀ K : Act → World → Prop, Hid (∀ a' w', S w' → (S w' → wpAnyH P .any ops Q S fuel li a' w') → K a' w') → Oper.wp P oi a w K Q)
    (h2 : ∀ K : Act → World → Prop, Hid (∀ a' w', S w' → (S w' → wpAnyH P .any ops Q S fuel lj a' w') → K a' w') → Oper.wp P oj a w K Q) :
    wpAnyH P .any ops Q S (fuel + 1) l a w := by
  simp only [Bool.and_eq_true, beq_iff_eq] at hc
  obtain ⟨⟨h0, e1⟩, e2⟩ := hc
  subst e1
  subst e2
  refine wpAnyH_all h0 (by simp) fun k hk => ?_
  simp only [List.mem_cons, List.not_mem_nil, or_false] at hk
  rcases hk with rfl | rfl
  · exact rg_step hi hwi fun K' hK => h1 K' fun a' w' hs hx => hK a' w' ⟨hs, hx hs⟩
  · exact rg_step hj hwj fun K' hK => h2 K' fun a' w' hs hx => hK a' w' ⟨hs, hx hs⟩

theorem rg_done {l : Array Bool} {a : Act} {w : World} {n : Nat} (hr : (Region.ready .any ops l == []) = true) (h : Q .normal a w) : wpAnyH P .any ops Q S n l a w := wpAnyH_done (by simpa using hr) h n

theorem rg_norm {fuel : Nat} {l : Array Bool} {a a' : Act} {w : World} (ha : a = a') (h : wpAnyH P .any ops Q S fuel l a' w) : wpAnyH P .any ops Q S fuel l a w := by
  subst ha
  exact h
end
end Go.Proofs.YtdfgdnaejnngoaaGreat
namespace Go.Proofs.YtdfgdnaejnngoaaGreat
open Go.RowKit

def tooLong (o : Ord) : Bool := [o.key, o.val, o.lo, o.hi].any fun s => decide (255 < (s.size : Int))
def isOrd (o : Ord) : Bool := okKind o.kind && (decide (bareOf o = o) && !tooLong o)

theorem is_kind (o : Ord) (w : World) (h1 : okKind o.kind = false) : Calls Tryz.prog 43 #[o.v] w fun e w' => e = .returned (.bool (isOrd o)) ∧ Below w.heap.size w w' := by
  have hr : isOrd o = false := by simp [isOrd, h1]
  have Hr := Lib.hid hr
  clear hr
  have hf := fun W => fields_any o.kind W
  rw [Ord.v_def]
  go_enter Tryz.func43, Tryz.ntmps43
  go_wp2_with (go_at_call 70; (with_reducible refine (hf _).mono ?_); rintro e w1 ⟨A, c, rfl, hE, hAd, hb⟩; clear hE hAd; clear hf)
  go_quiet (fail)
  go_wp2
  go_ret
  exact ⟨ret_bool Hr.out.symm, (by repeat (first | assumption | exact Below.refl _ _ | (refine below_step (w := ?_) ?_ ?_ ?_; rotate_left 2; assumption) | refine Below.drew ?_ | refine below_drewN ?_ _ | refine Below.alloc ?_ ?_ _ | refine Below.setCell ?_ ?_ _ | (focus (simp; done)) | (focus (simp; omega)) | omega))⟩

set_option maxRecDepth 100000 in
theorem is_bare (o : Ord) (w : World) (h1 : okKind o.kind = true) (h2 : bareOf o ≠ o) : Calls Tryz.prog 43 #[o.v] w fun e w' => e = .returned (.bool (isOrd o)) ∧ Below w.heap.size w w' := by
  have hr : isOrd o = false := by simp [isOrd, h2]
  have Hr := Lib.hid hr
  clear hr
  have hf := fun W => fields_any o.kind W
  have hbr : ∀ W, Calls Tryz.prog 71 #[o.v] W fun e w' => e = .returned (bareOf o).v ∧ Below W.heap.size W w' := fun W => bare_any o W
  have heq := fun W => eql_ord (bareOf o) o W
  have hd : decide (bareOf o = o) = false := by simp [h2]
  simp only [hd] at heq
  have hgu : Tryz.prog.eqGuardType Tryz.prog.depth 39 = false := by kernel_rfl
  have Hd := Lib.hid hd
  clear h2 hd
  generalize hB : bareOf o = B at hbr heq Hd
  clear hB
  simp only [Ord.v_def] at hbr heq
  have Hbr := Lib.hid hbr
  clear hbr
  rw [Ord.v_def]
  go_enter Tryz.func43, Tryz.ntmps43
  go_wp2_with (go_at_call 70; (with_reducible refine (hf _).mono ?_); rintro e w1 ⟨A, c, rfl, hE, hAd, hb⟩; clear hE hAd; clear hf)
  obtain ⟨hlt, c0⟩ := new_cells hb
  have d0 := c0 0 _ rfl
  have d1 := c0 1 _ rfl
  have d2 := c0 2 _ rfl
  have d3 := c0 3 _ rfl
  have d4 := c0 4 _ rfl
  have d5 := c0 5 _ rfl
  clear c0
  refine rg_start (n := 21) (fun w' => w.heap.size < w'.heap.size ∧ w'.cell? ⟨w.heap.size, 0, none⟩ = some (.int .i64 o.kind) ∧ w'.cell? ⟨w.heap.size, 1, none⟩ = some (.string o.key) ∧ w'.cell? ⟨w.heap.size, 2, none⟩ = some (.string o.val) ∧ w'.cell? ⟨w.heap.size, 3, none⟩ = some (.int .u64 o.n) ∧ w'.cell? ⟨w.heap.size, 4, none⟩ = some (.string o.lo) ∧ w'.cell? ⟨w.heap.size, 5, none⟩ = some (.string o.hi)) #[false, false, false, false, false, false, false, false, false, false, false, false, false, false, false, false, false, false, false, false, false] (by kernel_rfl) rfl rfl ⟨hlt, d0, d1, d2, d3, d4, d5⟩ (fun hHeld => ?_)
  refine rg_take (i := 0) (N := (some 11)) (v := ?_) (a' := ?_) #[true, false, false, false, false, false, false, false, false, false, false, false, false, false, false, false, false, false, false, false, false] rfl rfl (by kernel_rfl) (fun _ _ _ h => h) (by rfl) ?_ hHeld ?_ ?_
  rotate_left 2
  · rintro w' ⟨s0, s1, s2, s3, s4, s5, s6⟩
    go_simp
    try with_reducible rfl
  · simp only [Act.put, List.setIfInBounds_toArray, List.set_cons_zero, List.set_cons_succ]
    rfl
  refine rg_take (i := 1) (N := (some 12)) (v := ?_) (a' := ?_) #[true, true, false, false, false, false, false, false, false, false, false, false, false, false, false, false, false, false, false, false, false] rfl rfl (by kernel_rfl) (fun _ _ _ h => h) (by rfl) ?_ hHeld ?_ ?_
  rotate_left 2
  · rintro w' ⟨s0, s1, s2, s3, s4, s5, s6⟩
    go_simp
    try with_reducible rfl
  · simp only [Act.put, List.setIfInBounds_toArray, List.set_cons_zero, List.set_cons_succ]
    rfl
  refine rg_take (i := 2) (N := (some 13)) (v := ?_) (a' := ?_) #[true, true, true, false, false, false, false, false, false, false, false, false, false, false, false, false, false, false, false, false, false] rfl rfl (by kernel_rfl) (fun _ _ _ h => h) (by rfl) ?_ hHeld ?_ ?_
  rotate_left 2
  · rintro w' ⟨s0, s1, s2, s3, s4, s5, s6⟩
    go_simp
    try with_reducible rfl
  · simp only [Act.put, List.setIfInBounds_toArray, List.set_cons_zero, List.set_cons_succ]
    rfl
  refine rg_take (i := 4) (N := (some 15)) (v := ?_) (a' := ?_) #[true, true, true, false, true, false, false, false, false, false, false, false, false, false, false, false, false, false, false, false, false] rfl rfl (by kernel_rfl) (fun _ _ _ h => h) (by rfl) ?_ hHeld ?_ ?_
  rotate_left 2
  · rintro w' ⟨s0, s1, s2, s3, s4, s5, s6⟩
    go_simp
    try with_reducible rfl
  · simp only [Act.put, List.setIfInBounds_toArray, List.set_cons_zero, List.set_cons_succ]
    rfl
  refine rg_one (i := 3) #[true, true, true, true, true, false, false, false, false, false, false, false, false, false, false, false, false, false, false, false, false] rfl (by kernel_rfl) (by rfl) (fun K hK => ?_)
  obtain ⟨s0, s1, s2, s3, s4, s5, s6⟩ := hHeld
  repeat go_step
  ((with_reducible refine (Hbr.out _).mono ?_); rintro e w2 ⟨rfl, hb2⟩)
  try dsimp only
  refine hK.out _ _ ?_ (fun hHeld => ?_)
  · (repeat (first | (with_reducible assumption) | (with_reducible apply And.intro) | (with_reducible refine keep_cell (w := ?_) ?_ ?_ ?_; rotate_left; with_reducible assumption) | (with_reducible refine keep_cell_alloc ?_ ?_) | (with_reducible refine keep_lt (w := ?_) ?_ ?_; rotate_left; with_reducible assumption) | (with_reducible refine keep_lt_alloc ?_) | (with_reducible refine below_next (w := ?_) ?_ ?_; rotate_left 2; with_reducible assumption) | (with_reducible refine below_alloc ?_) | (with_reducible refine Below.drew ?_) | (with_reducible refine keep_lt_drew ?_) | (with_reducible refine keep_cell_drew ?_)))
  clear hK K
  clear s0 s1 s2 s3 s4 s5 s6
  refine rg_take (i := 5) (N := (some 16)) (v := ?_) (a' := ?_) #[true, true, true, true, true, true, false, false, false, false, false, false, false, false, false, false, false, false, false, false, false] rfl rfl (by kernel_rfl) (fun _ _ _ h => h) (by rfl) ?_ hHeld ?_ ?_
  rotate_left 2
  · rintro w' ⟨s0, s1, s2, s3, s4, s5, s6⟩
    go_simp
    try with_reducible rfl
  · simp only [Act.put, List.setIfInBounds_toArray, List.set_cons_zero, List.set_cons_succ]
    rfl
  refine rg_take (i := 6) (N := (some 17)) (v := ?_) (a' := ?_) #[true, true, true, true, true, true, true, false, false, false, false, false, false, false, false, false, false, false, false, false, false] rfl rfl (by kernel_rfl) (fun _ _ _ h => h) (by rfl) ?_ hHeld ?_ ?_
  rotate_left 2
  · rintro w' ⟨s0, s1, s2, s3, s4, s5, s6⟩
    go_simp
    try with_reducible rfl
  · simp only [Act.put, List.setIfInBounds_toArray, List.set_cons_zero, List.set_cons_succ]
    rfl
  refine rg_take (i := 7) (N := (some 18)) (v := ?_) (a' := ?_) #[true, true, true, true, true, true, true, true, false, false, false, false, false, false, false, false, false, false, false, false, false] rfl rfl (by kernel_rfl) (fun _ _ _ h => h) (by rfl) ?_ hHeld ?_ ?_
  rotate_left 2
  · rintro w' ⟨s0, s1, s2, s3, s4, s5, s6⟩
    go_simp
    try with_reducible rfl
  · simp only [Act.put, List.setIfInBounds_toArray, List.set_cons_zero, List.set_cons_succ]
    rfl
  refine rg_skip (i := 8) (N := (some 19)) (a' := ?_) #[true, true, true, true, true, true, true, true, true, false, false, false, false, false, false, false, false, false, false, false, false] rfl rfl (by kernel_rfl) (fun _ _ _ h => h) (by rfl) hHeld ?_ ?_
  rotate_left
  · simp only [Act.put, List.setIfInBounds_toArray, List.set_cons_zero, List.set_cons_succ]
    rfl
  refine rg_skip (i := 9) (N := (some 20)) (a' := ?_) #[true, true, true, true, true, true, true, true, true, true, false, false, false, false, false, false, false, false, false, false, false] rfl rfl (by kernel_rfl) (fun _ _ _ h => h) (by rfl) hHeld ?_ ?_
  rotate_left
  · simp only [Act.put, List.setIfInBounds_toArray, List.set_cons_zero, List.set_cons_succ]
    rfl
  refine rg_skip (i := 10) (N := (some 21)) (a' := ?_) #[true, true, true, true, true, true, true, true, true, true, true, false, false, false, false, false, false, false, false, false, false] rfl rfl (by kernel_rfl) (fun _ _ _ h => h) (by rfl) hHeld ?_ ?_
  rotate_left
  · simp only [Act.put, List.setIfInBounds_toArray, List.set_cons_zero, List.set_cons_succ]
    rfl
  refine rg_skip (i := 11) (N := (some 22)) (a' := ?_) #[true, true, true, true, true, true, true, true, true, true, true, true, false, false, false, false, false, false, false, false, false] rfl rfl (by kernel_rfl) (fun _ _ _ h => h) (by rfl) hHeld ?_ ?_
  rotate_left
  · simp only [Act.put, List.setIfInBounds_toArray, List.set_cons_zero, List.set_cons_succ]
    rfl
  refine rg_skip (i := 12) (N := (some 23)) (a' := ?_) #[true, true, true, true, true, true, true, true, true, true, true, true, true, false, false, false, false, false, false, false, false] rfl rfl (by kernel_rfl) (fun _ _ _ h => h) (by rfl) hHeld ?_ ?_
  rotate_left
  · simp only [Act.put, List.setIfInBounds_toArray, List.set_cons_zero, List.set_cons_succ]
    rfl
  refine rg_skip (i := 13) (N := (some 24)) (a' := ?_) #[true, true, true, true, true, true, true, true, true, true, true, true, true, true, false, false, false, false, false, false, false] rfl rfl (by kernel_rfl) (fun _ _ _ h => h) (by rfl) hHeld ?_ ?_
  rotate_left
  · simp only [Act.put, List.setIfInBounds_toArray, List.set_cons_zero, List.set_cons_succ]
    rfl
  refine rg_skip (i := 14) (N := (some 25)) (a' := ?_) #[true, true, true, true, true, true, true, true, true, true, true, true, true, true, true, false, false, false, false, false, false] rfl rfl (by kernel_rfl) (fun _ _ _ h => h) (by rfl) hHeld ?_ ?_
  rotate_left
  · simp only [Act.put, List.setIfInBounds_toArray, List.set_cons_zero, List.set_cons_succ]
    rfl
  refine rg_skip (i := 15) (N := (some 26)) (a' := ?_) #[true, true, true, true, true, true, true, true, true, true, true, true, true, true, true, true, false, false, false, false, false] rfl rfl (by kernel_rfl) (fun _ _ _ h => h) (by rfl) hHeld ?_ ?_
  rotate_left
  · simp only [Act.put, List.setIfInBounds_toArray, List.set_cons_zero, List.set_cons_succ]
    rfl
  refine rg_skip (i := 16) (N := (some 27)) (a' := ?_) #[true, true, true, true, true, true, true, true, true, true, true, true, true, true, true, true, true, false, false, false, false] rfl rfl (by kernel_rfl) (fun _ _ _ h => h) (by rfl) hHeld ?_ ?_
  rotate_left
  · simp only [Act.put, List.setIfInBounds_toArray, List.set_cons_zero, List.set_cons_succ]
    rfl
  refine rg_skip (i := 17) (N := (some 28)) (a' := ?_) #[true, true, true, true, true, true, true, true, true, true, true, true, true, true, true, true, true, true, false, false, false] rfl rfl (by kernel_rfl) (fun _ _ _ h => h) (by rfl) hHeld ?_ ?_
  rotate_left
  · simp only [Act.put, List.setIfInBounds_toArray, List.set_cons_zero, List.set_cons_succ]
    rfl
  refine rg_skip (i := 18) (N := (some 29)) (a' := ?_) #[true, true, true, true, true, true, true, true, true, true, true, true, true, true, true, true, true, true, true, false, false] rfl rfl (by kernel_rfl) (fun _ _ _ h => h) (by rfl) hHeld ?_ ?_
  rotate_left
  · simp only [Act.put, List.setIfInBounds_toArray, List.set_cons_zero, List.set_cons_succ]
    rfl
  refine rg_take (i := 19) (N := (some 30)) (v := ?_) (a' := ?_) #[true, true, true, true, true, true, true, true, true, true, true, true, true, true, true, true, true, true, true, true, false] rfl rfl (by kernel_rfl) (fun _ _ _ h => h) (by rfl) ?_ hHeld ?_ ?_
  rotate_left 2
  · rintro w' ⟨s0, s1, s2, s3, s4, s5, s6⟩
    go_simp
    try with_reducible rfl
  · simp only [Act.put, List.setIfInBounds_toArray, List.set_cons_zero, List.set_cons_succ]
    rfl
  refine rg_take (i := 20) (N := (some 2)) (v := ?_) (a' := ?_) #[true, true, true, true, true, true, true, true, true, true, true, true, true, true, true, true, true, true, true, true, true] rfl rfl (by kernel_rfl) (fun _ _ _ h => h) (by rfl) ?_ hHeld ?_ ?_
  rotate_left 2
  · rintro w' ⟨s0, s1, s2, s3, s4, s5, s6⟩
    go_simp
    try with_reducible rfl
  · simp only [Act.put, List.setIfInBounds_toArray, List.set_cons_zero, List.set_cons_succ]
    rfl
  refine rg_done (by kernel_rfl) ?_
  all_goals go_wp2
  all_goals go_ret
  all_goals exact ⟨ret_bool Hr.out.symm, (by repeat (first | assumption | exact Below.refl _ _ | (refine below_step (w := ?_) ?_ ?_ ?_; rotate_left 2; assumption) | refine Below.drew ?_ | refine below_drewN ?_ _ | refine Below.alloc ?_ ?_ _ | refine Below.setCell ?_ ?_ _ | (focus (simp; done)) | (focus (simp; omega)) | omega))⟩

def longV : Value → Bool := fun v => match v with | .string s => decide (255 < (s.size : Int)) | _ => false
theorem longV_s (s : ByteArray) : longV (.string s) = decide (255 < (s.size : Int)) := rfl
theorem isLong_pred (ss : List ByteArray) (w : World) : PredB Tryz.prog 73 #[] w (ss.map Value.string) longV := by
  intro W hb v hv
  obtain ⟨s, hs, rfl⟩ := List.mem_map.1 hv
  exact (isLong_any s W).mono fun e w' ⟨he, hw⟩ => ⟨he, hw ▸ Below.refl _ _⟩

theorem four_long (a b c d : ByteArray) (W : World) : Calls Tryz.prog 72 #[.slice (some ⟨W.heap.size, 0, none⟩) 4 4, .func (.func 73) #[] #[]] (W.alloc (.cells #[.string a, .string b, .string c, .string d] 9))
    fun e w' => e = .returned (.bool ([a, b, c, d].any fun s => decide (255 < (s.size : Int)))) ∧ Below (W.alloc (.cells #[.string a, .string b, .string c, .string d] 9)).heap.size (W.alloc (.cells #[.string a, .string b, .string c, .string d] 9)) w' := by
  have h := containsFunc_str (some ⟨W.heap.size, 0, none⟩) 4 [a, b, c, d] longV 73 #[] (W.alloc (.cells #[.string a, .string b, .string c, .string d] 9))
    (enters_of Tryz.func73 (by kernel_rfl) rfl) (by simp) (Elems.of_block (heap_alloc_new _ _) (by simp) (by simp)) (isLong_pred _ _)
  exact h

set_option maxRecDepth 100000 in
theorem is_all (o : Ord) (w : World) (h1 : okKind o.kind = true) (h2 : bareOf o = o) : Calls Tryz.prog 43 #[o.v] w fun e w' => e = .returned (.bool (isOrd o)) ∧ Below w.heap.size w w' := by
  have hr : isOrd o = !tooLong o := by simp [isOrd, h1, h2]
  have Hr := Lib.hid hr
  clear hr
  have hf := fun W => fields_any o.kind W
  have hbr : ∀ W, Calls Tryz.prog 71 #[o.v] W fun e w' => e = .returned (bareOf o).v ∧ Below W.heap.size W w' := fun W => bare_any o W
  have heq := fun W => eql_ord (bareOf o) o W
  have h4 := fun W => four_long o.key o.val o.lo o.hi W
  generalize hT : ([o.key, o.val, o.lo, o.hi].any fun s => decide (255 < (s.size : Int))) = T at h4
  have HT := Lib.hid hT
  clear hT
  simp only [h2, decide_true] at heq hbr
  have hgu : Tryz.prog.eqGuardType Tryz.prog.depth 39 = false := by kernel_rfl
  simp only [Ord.v_def] at hbr heq
  have Hbr := Lib.hid hbr
  have H4 := Lib.hid h4
  clear hbr h2 h4
  rw [Ord.v_def]
  go_enter Tryz.func43, Tryz.ntmps43
  go_wp2_with (go_at_call 70; (with_reducible refine (hf _).mono ?_); rintro e w1 ⟨A, c, rfl, hE, hAd, hb⟩; clear hE hAd; clear hf)
  obtain ⟨hlt, c0⟩ := new_cells hb
  have d0 := c0 0 _ rfl
  have d1 := c0 1 _ rfl
  have d2 := c0 2 _ rfl
  have d3 := c0 3 _ rfl
  have d4 := c0 4 _ rfl
  have d5 := c0 5 _ rfl
  clear c0
  refine rg_start (n := 21) (fun w' => w.heap.size < w'.heap.size ∧ Below w1.heap.size w1 w' ∧ w'.cell? ⟨w.heap.size, 0, none⟩ = some (.int .i64 o.kind) ∧ w'.cell? ⟨w.heap.size, 1, none⟩ = some (.string o.key) ∧ w'.cell? ⟨w.heap.size, 2, none⟩ = some (.string o.val) ∧ w'.cell? ⟨w.heap.size, 3, none⟩ = some (.int .u64 o.n) ∧ w'.cell? ⟨w.heap.size, 4, none⟩ = some (.string o.lo) ∧ w'.cell? ⟨w.heap.size, 5, none⟩ = some (.string o.hi)) #[false, false, false, false, false, false, false, false, false, false, false, false, false, false, false, false, false, false, false, false, false] (by kernel_rfl) rfl rfl ⟨hlt, (Below.refl _ _).drew, d0, d1, d2, d3, d4, d5⟩ (fun hHeld => ?_)
  refine rg_take (i := 0) (N := (some 11)) (v := ?_) (a' := ?_) #[true, false, false, false, false, false, false, false, false, false, false, false, false, false, false, false, false, false, false, false, false] rfl rfl (by kernel_rfl) (fun _ _ _ h => h) (by rfl) ?_ hHeld ?_ ?_
  rotate_left 2
  · rintro w' ⟨s0, s1, s2, s3, s4, s5, s6, s7⟩
    go_simp
    try with_reducible rfl
  · simp only [Act.put, List.setIfInBounds_toArray, List.set_cons_zero, List.set_cons_succ]
    rfl
  refine rg_take (i := 1) (N := (some 12)) (v := ?_) (a' := ?_) #[true, true, false, false, false, false, false, false, false, false, false, false, false, false, false, false, false, false, false, false, false] rfl rfl (by kernel_rfl) (fun _ _ _ h => h) (by rfl) ?_ hHeld ?_ ?_
  rotate_left 2
  · rintro w' ⟨s0, s1, s2, s3, s4, s5, s6, s7⟩
    go_simp
    try with_reducible rfl
  · simp only [Act.put, List.setIfInBounds_toArray, List.set_cons_zero, List.set_cons_succ]
    rfl
  refine rg_take (i := 2) (N := (some 13)) (v := ?_) (a' := ?_) #[true, true, true, false, false, false, false, false, false, false, false, false, false, false, false, false, false, false, false, false, false] rfl rfl (by kernel_rfl) (fun _ _ _ h => h) (by rfl) ?_ hHeld ?_ ?_
  rotate_left 2
  · rintro w' ⟨s0, s1, s2, s3, s4, s5, s6, s7⟩
    go_simp
    try with_reducible rfl
  · simp only [Act.put, List.setIfInBounds_toArray, List.set_cons_zero, List.set_cons_succ]
    rfl
  refine rg_take (i := 4) (N := (some 15)) (v := ?_) (a' := ?_) #[true, true, true, false, true, false, false, false, false, false, false, false, false, false, false, false, false, false, false, false, false] rfl rfl (by kernel_rfl) (fun _ _ _ h => h) (by rfl) ?_ hHeld ?_ ?_
  rotate_left 2
  · rintro w' ⟨s0, s1, s2, s3, s4, s5, s6, s7⟩
    go_simp
    try with_reducible rfl
  · simp only [Act.put, List.setIfInBounds_toArray, List.set_cons_zero, List.set_cons_succ]
    rfl
  refine rg_one (i := 3) #[true, true, true, true, true, false, false, false, false, false, false, false, false, false, false, false, false, false, false, false, false] rfl (by kernel_rfl) (by rfl) (fun K hK => ?_)
  obtain ⟨s0, s1, s2, s3, s4, s5, s6, s7⟩ := hHeld
  repeat go_step
  ((with_reducible refine (Hbr.out _).mono ?_); rintro e w2 ⟨rfl, hb2⟩)
  try dsimp only
  refine hK.out _ _ ?_ (fun hHeld => ?_)
  · (repeat (first | (with_reducible assumption) | (with_reducible apply And.intro) | (with_reducible refine keep_cell (w := ?_) ?_ ?_ ?_; rotate_left; with_reducible assumption) | (with_reducible refine keep_cell_alloc ?_ ?_) | (with_reducible refine keep_lt (w := ?_) ?_ ?_; rotate_left; with_reducible assumption) | (with_reducible refine keep_lt_alloc ?_) | (with_reducible refine below_next (w := ?_) ?_ ?_; rotate_left 2; with_reducible assumption) | (with_reducible refine below_alloc ?_) | (with_reducible refine Below.drew ?_) | (with_reducible refine keep_lt_drew ?_) | (with_reducible refine keep_cell_drew ?_)))
  clear hK K
  clear s0 s1 s2 s3 s4 s5 s6 s7
  refine rg_take (i := 5) (N := (some 16)) (v := ?_) (a' := ?_) #[true, true, true, true, true, true, false, false, false, false, false, false, false, false, false, false, false, false, false, false, false] rfl rfl (by kernel_rfl) (fun _ _ _ h => h) (by rfl) ?_ hHeld ?_ ?_
  rotate_left 2
  · rintro w' ⟨s0, s1, s2, s3, s4, s5, s6, s7⟩
    go_simp
    try with_reducible rfl
  · simp only [Act.put, List.setIfInBounds_toArray, List.set_cons_zero, List.set_cons_succ]
    rfl
  refine rg_take (i := 6) (N := (some 17)) (v := ?_) (a' := ?_) #[true, true, true, true, true, true, true, false, false, false, false, false, false, false, false, false, false, false, false, false, false] rfl rfl (by kernel_rfl) (fun _ _ _ h => h) (by rfl) ?_ hHeld ?_ ?_
  rotate_left 2
  · rintro w' ⟨s0, s1, s2, s3, s4, s5, s6, s7⟩
    go_simp
    try with_reducible rfl
  · simp only [Act.put, List.setIfInBounds_toArray, List.set_cons_zero, List.set_cons_succ]
    rfl
  refine rg_take (i := 7) (N := (some 18)) (v := ?_) (a' := ?_) #[true, true, true, true, true, true, true, true, false, false, false, false, false, false, false, false, false, false, false, false, false] rfl rfl (by kernel_rfl) (fun _ _ _ h => h) (by rfl) ?_ hHeld ?_ ?_
  rotate_left 2
  · rintro w' ⟨s0, s1, s2, s3, s4, s5, s6, s7⟩
    go_simp
    try with_reducible rfl
  · simp only [Act.put, List.setIfInBounds_toArray, List.set_cons_zero, List.set_cons_succ]
    rfl
  refine rg_take (i := 8) (N := (some 19)) (v := ?_) (a' := ?_) #[true, true, true, true, true, true, true, true, true, false, false, false, false, false, false, false, false, false, false, false, false] rfl rfl (by kernel_rfl) (fun _ _ _ h => h) (by rfl) ?_ hHeld ?_ ?_
  rotate_left 2
  · rintro w' ⟨s0, s1, s2, s3, s4, s5, s6, s7⟩
    go_simp
    try with_reducible rfl
  · simp only [Act.put, List.setIfInBounds_toArray, List.set_cons_zero, List.set_cons_succ]
    rfl
  refine rg_take (i := 9) (N := (some 20)) (v := ?_) (a' := ?_) #[true, true, true, true, true, true, true, true, true, true, false, false, false, false, false, false, false, false, false, false, false] rfl rfl (by kernel_rfl) (fun _ _ _ h => h) (by rfl) ?_ hHeld ?_ ?_
  rotate_left 2
  · rintro w' ⟨s0, s1, s2, s3, s4, s5, s6, s7⟩
    go_simp
    try with_reducible rfl
  · simp only [Act.put, List.setIfInBounds_toArray, List.set_cons_zero, List.set_cons_succ]
    rfl
  refine rg_take (i := 10) (N := (some 21)) (v := ?_) (a' := ?_) #[true, true, true, true, true, true, true, true, true, true, true, false, false, false, false, false, false, false, false, false, false] rfl rfl (by kernel_rfl) (fun _ _ _ h => h) (by rfl) ?_ hHeld ?_ ?_
  rotate_left 2
  · rintro w' ⟨s0, s1, s2, s3, s4, s5, s6, s7⟩
    go_simp
    try with_reducible rfl
  · simp only [Act.put, List.setIfInBounds_toArray, List.set_cons_zero, List.set_cons_succ]
    rfl
  refine rg_take (i := 11) (N := (some 22)) (v := ?_) (a' := ?_) #[true, true, true, true, true, true, true, true, true, true, true, true, false, false, false, false, false, false, false, false, false] rfl rfl (by kernel_rfl) (fun _ _ _ h => h) (by rfl) ?_ hHeld ?_ ?_
  rotate_left 2
  · rintro w' ⟨s0, s1, s2, s3, s4, s5, s6, s7⟩
    go_simp
    try with_reducible rfl
  · simp only [Act.put, List.setIfInBounds_toArray, List.set_cons_zero, List.set_cons_succ]
    rfl
  refine rg_take (i := 12) (N := (some 23)) (v := ?_) (a' := ?_) #[true, true, true, true, true, true, true, true, true, true, true, true, true, false, false, false, false, false, false, false, false] rfl rfl (by kernel_rfl) (fun _ _ _ h => h) (by rfl) ?_ hHeld ?_ ?_
  rotate_left 2
  · rintro w' ⟨s0, s1, s2, s3, s4, s5, s6, s7⟩
    go_simp
    try with_reducible rfl
  · simp only [Act.put, List.setIfInBounds_toArray, List.set_cons_zero, List.set_cons_succ]
    rfl
  refine rg_take (i := 13) (N := (some 24)) (v := ?_) (a' := ?_) #[true, true, true, true, true, true, true, true, true, true, true, true, true, true, false, false, false, false, false, false, false] rfl rfl (by kernel_rfl) (fun _ _ _ h => h) (by rfl) ?_ hHeld ?_ ?_
  rotate_left 2
  · rintro w' ⟨s0, s1, s2, s3, s4, s5, s6, s7⟩
    go_simp
    try with_reducible rfl
  · simp only [Act.put, List.setIfInBounds_toArray, List.set_cons_zero, List.set_cons_succ]
    rfl
  refine rg_take (i := 14) (N := (some 25)) (v := ?_) (a' := ?_) #[true, true, true, true, true, true, true, true, true, true, true, true, true, true, true, false, false, false, false, false, false] rfl rfl (by kernel_rfl) (fun _ _ _ h => h) (by rfl) ?_ hHeld ?_ ?_
  rotate_left 2
  · rintro w' ⟨s0, s1, s2, s3, s4, s5, s6, s7⟩
    go_simp
    try with_reducible rfl
  · simp only [Act.put, List.setIfInBounds_toArray, List.set_cons_zero, List.set_cons_succ]
    rfl
  refine rg_take (i := 15) (N := (some 26)) (v := ?_) (a' := ?_) #[true, true, true, true, true, true, true, true, true, true, true, true, true, true, true, true, false, false, false, false, false] rfl rfl (by kernel_rfl) (fun _ _ _ h => h) (by rfl) ?_ hHeld ?_ ?_
  rotate_left 2
  · rintro w' ⟨s0, s1, s2, s3, s4, s5, s6, s7⟩
    go_simp
    try with_reducible rfl
  · simp only [Act.put, List.setIfInBounds_toArray, List.set_cons_zero, List.set_cons_succ]
    rfl
  refine rg_one (i := 16) #[true, true, true, true, true, true, true, true, true, true, true, true, true, true, true, true, true, false, false, false, false] rfl (by kernel_rfl) (by rfl) (fun K hK => ?_)
  obtain ⟨s0, s1, s2, s3, s4, s5, s6, s7⟩ := hHeld
  repeat go_step
  refine hK.out _ _ ?_ (fun hHeld => ?_)
  · (repeat (first | (with_reducible assumption) | (with_reducible apply And.intro) | (with_reducible refine keep_cell (w := ?_) ?_ ?_ ?_; rotate_left; with_reducible assumption) | (with_reducible refine keep_cell_alloc ?_ ?_) | (with_reducible refine keep_lt (w := ?_) ?_ ?_; rotate_left; with_reducible assumption) | (with_reducible refine keep_lt_alloc ?_) | (with_reducible refine below_next (w := ?_) ?_ ?_; rotate_left 2; with_reducible assumption) | (with_reducible refine below_alloc ?_) | (with_reducible refine Below.drew ?_) | (with_reducible refine keep_lt_drew ?_) | (with_reducible refine keep_cell_drew ?_)))
  clear hK K
  clear s0 s1 s2 s3 s4 s5 s6 s7
  refine rg_one (i := 17) #[true, true, true, true, true, true, true, true, true, true, true, true, true, true, true, true, true, true, false, false, false] rfl (by kernel_rfl) (by rfl) (fun K hK => ?_)
  obtain ⟨s0, s1, s2, s3, s4, s5, s6, s7⟩ := hHeld
  repeat go_step
  ((with_reducible refine (H4.out _).mono ?_); rintro e w3 ⟨rfl, hb3⟩)
  try dsimp only
  refine hK.out _ _ ?_ (fun hHeld => ?_)
  · (repeat (first | (with_reducible assumption) | (with_reducible apply And.intro) | (with_reducible refine keep_cell (w := ?_) ?_ ?_ ?_; rotate_left; with_reducible assumption) | (with_reducible refine keep_cell_alloc ?_ ?_) | (with_reducible refine keep_lt (w := ?_) ?_ ?_; rotate_left; with_reducible assumption) | (with_reducible refine keep_lt_alloc ?_) | (with_reducible refine below_next (w := ?_) ?_ ?_; rotate_left 2; with_reducible assumption) | (with_reducible refine below_alloc ?_) | (with_reducible refine Below.drew ?_) | (with_reducible refine keep_lt_drew ?_) | (with_reducible refine keep_cell_drew ?_)))
  clear hK K
  clear s0 s1 s2 s3 s4 s5 s6 s7
  refine rg_take (i := 18) (N := (some 29)) (v := ?_) (a' := ?_) #[true, true, true, true, true, true, true, true, true, true, true, true, true, true, true, true, true, true, true, false, false] rfl rfl (by kernel_rfl) (fun _ _ _ h => h) (by rfl) ?_ hHeld ?_ ?_
  rotate_left 2
  · rintro w' ⟨s0, s1, s2, s3, s4, s5, s6, s7⟩
    go_simp
    try with_reducible rfl
  · simp only [Act.put, List.setIfInBounds_toArray, List.set_cons_zero, List.set_cons_succ]
    rfl
  refine rg_take (i := 19) (N := (some 30)) (v := ?_) (a' := ?_) #[true, true, true, true, true, true, true, true, true, true, true, true, true, true, true, true, true, true, true, true, false] rfl rfl (by kernel_rfl) (fun _ _ _ h => h) (by rfl) ?_ hHeld ?_ ?_
  rotate_left 2
  · rintro w' ⟨s0, s1, s2, s3, s4, s5, s6, s7⟩
    go_simp
    try with_reducible rfl
  · simp only [Act.put, List.setIfInBounds_toArray, List.set_cons_zero, List.set_cons_succ]
    rfl
  refine rg_take (i := 20) (N := (some 2)) (v := ?_) (a' := ?_) #[true, true, true, true, true, true, true, true, true, true, true, true, true, true, true, true, true, true, true, true, true] rfl rfl (by kernel_rfl) (fun _ _ _ h => h) (by rfl) ?_ hHeld ?_ ?_
  rotate_left 2
  · rintro w' ⟨s0, s1, s2, s3, s4, s5, s6, s7⟩
    go_simp
    try with_reducible rfl
  · simp only [Act.put, List.setIfInBounds_toArray, List.set_cons_zero, List.set_cons_succ]
    rfl
  refine rg_done (by kernel_rfl) ?_
  go_wp2
  go_ret
  exact ⟨ret_bool (by rw [Hr.out]; unfold tooLong; rw [HT.out]), by obtain ⟨_, hbb, _⟩ := hHeld; exact (by repeat (first | assumption | exact Below.refl _ _ | (refine below_step (w := ?_) ?_ ?_ ?_; rotate_left 2; assumption) | refine Below.drew ?_ | refine below_drewN ?_ _ | refine Below.alloc ?_ ?_ _ | refine Below.setCell ?_ ?_ _ | (focus (simp; done)) | (focus (simp; omega)) | omega))⟩

theorem is_any (o : Ord) (w : World) : Calls Tryz.prog 43 #[o.v] w fun e w' => e = .returned (.bool (isOrd o)) ∧ Below w.heap.size w w' := by
  cases h1 : okKind o.kind
  · exact is_kind o w h1
  · by_cases h2 : bareOf o = o
    · exact is_all o w h1 h2
    · exact is_bare o w h1 h2
end Go.Proofs.YtdfgdnaejnngoaaGreat
namespace Go.Proofs.YtdfgdnaejnngoaaGreat
open Go.RowKit
/-! Frames: which old blocks may have turned. -/

/-- all old blocks but those of S are as they were -/
structure Fr (S : Nat → Prop) (w w' : World) : Prop where
  os : w'.os = w.os
  tape : w'.tape = w.tape
  output : w'.output = w.output
  size : w.heap.size ≤ w'.heap.size
  block : ∀ k, k < w.heap.size → ¬ S k → w'.heap[k]? = w.heap[k]?

theorem Fr.refl (S : Nat → Prop) (w : World) : Fr S w w := ⟨rfl, rfl, rfl, Nat.le_refl _, fun _ _ _ => rfl⟩
theorem Fr.trans {S S' : Nat → Prop} {a b c : World} (h : Fr S a b) (k : Fr S' b c) (hs : ∀ i, i < a.heap.size → S' i → S i) : Fr S a c :=
  ⟨k.os.trans h.os, k.tape.trans h.tape, k.output.trans h.output, Nat.le_trans h.size k.size, fun i hi hn => (k.block i (Nat.lt_of_lt_of_le hi h.size) (fun hs' => hn (hs i hi hs'))).trans (h.block i hi hn)⟩
theorem Fr.mono {S S' : Nat → Prop} {a b : World} (h : Fr S a b) (hs : ∀ i, i < a.heap.size → S i → S' i) : Fr S' a b :=
  ⟨h.os, h.tape, h.output, h.size, fun i hi hn => h.block i hi (fun hs' => hn (hs i hi hs'))⟩
theorem Fr.of_below {S : Nat → Prop} {a b : World} (h : Below a.heap.size a b) : Fr S a b := ⟨h.os, h.tape, h.output, h.size, fun i hi _ => h.block i hi⟩
theorem Fr.to_below {S : Nat → Prop} {B : Nat} {a b : World} (h : Fr S a b) (hB : B ≤ a.heap.size) (hs : ∀ i, i < B → ¬ S i) : Below B a b := ⟨h.os, h.tape, h.output, h.size, fun i hi => h.block i (Nat.lt_of_lt_of_le hi hB) (hs i hi)⟩
theorem Fr.drew {S : Nat → Prop} {a b : World} (h : Fr S a b) : Fr S a b.drew := ⟨h.os, h.tape, h.output, h.size, h.block⟩
theorem Fr.drewN {S : Nat → Prop} {a b : World} (h : Fr S a b) (n : Nat) : Fr S a (b.drewN n) := ⟨h.os, h.tape, h.output, h.size, h.block⟩
theorem Fr.alloc {S : Nat → Prop} {a b : World} (h : Fr S a b) (o : Obj) : Fr S a (b.alloc o) := h.trans (S' := fun _ => False) ⟨rfl, rfl, rfl, by simp, fun k hk _ => Below.heap_alloc _ _ _ hk⟩ (fun _ _ h => h.elim)
theorem Fr.setCell {S : Nat → Prop} {a b : World} (h : Fr S a b) {p : Addr} (hp : p.block < a.heap.size → S p.block) (u : Value) : Fr S a (b.setCell p u) :=
  h.trans (S' := fun k => k = p.block) ⟨rfl, rfl, rfl, by simp [World.setCell], fun k _ hn => Below.heap_setCell _ _ _ _ hn⟩ (fun i hi e => by subst e; exact hp hi)
theorem Fr.grown {S : Nat → Prop} {a b c : World} {row : Option Nat} (h : Fr S a b) (hg : b.grownBy c row) (hs : ∀ i, i < a.heap.size → row = some i → S i) : Fr S a c :=
  h.trans (S' := fun k => row = some k) ⟨hg.os, hg.tape, hg.output, hg.size, fun k hk hn => hg.block k hk (fun e => hn e.symm)⟩ hs
theorem Fr.cell {S : Nat → Prop} {w w' : World} (h : Fr S w w') {b o : Nat} {v : Value} (hb : b < w.heap.size) (hs : ¬ S b) (hc : w.cell? ⟨b, o, none⟩ = some v) : w'.cell? ⟨b, o, none⟩ = some v :=
  (World.cell?_of_block (w := w) (a := ⟨b, o, none⟩) (h.block b hb hs)).trans hc
theorem Fr.frozen {S : Nat → Prop} {w w' : World} (h : Fr S w w') {b o : Nat} (hb : b < w.heap.size) (hs : ¬ S b) {x : Bool} (hc : w.frozen? ⟨b, o, none⟩ = x) : w'.frozen? ⟨b, o, none⟩ = x :=
  (World.frozen?_of_block (w := w) (a := ⟨b, o, none⟩) (h.block b hb hs)).trans hc
theorem Fr.row {S : Nat → Prop} {w w' : World} (h : Fr S w w') {b : Nat} {o : Obj} (hs : ¬ S b) (hc : w.heap[b]? = some o) : w'.heap[b]? = some o := by
  have hb : b < w.heap.size := by
    rcases Nat.lt_or_ge b w.heap.size with h' | h'
    · exact h'
    · simp [Array.getElem?_eq_none h'] at hc
  exact (h.block b hb hs).trans hc
theorem lt_of_row {w : World} {b : Nat} {o : Obj} (hc : w.heap[b]? = some o) : b < w.heap.size := by
  rcases Nat.lt_or_ge b w.heap.size with h' | h'
  · exact h'
  · simp [Array.getElem?_eq_none h'] at hc
theorem Elems.fr {S : Nat → Prop} {w w' : World} {A : Option Addr} {k : Nat} {rows : List (List Value)} (h : Elems w A k rows) (hf : Fr S w w') (hs : ∀ ad, A = some ad → ¬ S ad.block) : Elems w' A k rows := by
  intro i r hr
  obtain ⟨b, off, e, hlt, hc⟩ := h i r hr
  exact ⟨b, off, e, Nat.lt_of_lt_of_le hlt hf.size, fun j u hu => hf.cell hlt (hs _ e) (hc j u hu)⟩
end Go.Proofs.YtdfgdnaejnngoaaGreat
namespace Go.Proofs.YtdfgdnaejnngoaaGreat
open Go.RowKit

theorem empty_iff (s : ByteArray) : s = ⟨#[]⟩ ↔ s.toList = [] := by
  have e : (⟨#[]⟩ : ByteArray).toList = [] := by rw [ByteArray.toList_eq]
  rw [← bytes_inj, e]
theorem isOrd_at (k : Int) (key val lo hi : ByteArray) (n : Int) (c : Prop) [Decidable c] (hk : okKind k = true) (hc : bareOf ⟨k, key, val, n, lo, hi⟩ = ⟨k, key, val, n, lo, hi⟩ ↔ c) :
    isOrd ⟨k, key, val, n, lo, hi⟩ = decide (c ∧ (key.size : Int) ≤ 255 ∧ (val.size : Int) ≤ 255 ∧ (lo.size : Int) ≤ 255 ∧ (hi.size : Int) ≤ 255) := by
  unfold isOrd tooLong
  rw [hk]
  simp only [List.any_cons, List.any_nil, Bool.or_false, Bool.true_and]
  rw [Bool.eq_iff_iff]
  simp only [Bool.and_eq_true, decide_eq_true_eq, hc, Bool.not_eq_true', Bool.or_eq_false_iff, decide_eq_false_iff_not, Int.not_lt]
theorem isOrd_1 (key val lo hi : ByteArray) (n : Int) : isOrd ⟨1, key, val, n, lo, hi⟩ = decide ((n = 0 ∧ lo.toList = [] ∧ hi.toList = []) ∧ (key.size : Int) ≤ 255 ∧ (val.size : Int) ≤ 255 ∧ (lo.size : Int) ≤ 255 ∧ (hi.size : Int) ≤ 255) :=
  isOrd_at 1 key val lo hi n _ (by decide) (by simp [bareOf, ← empty_iff, eq_comm])
theorem isOrd_2 (key val lo hi : ByteArray) (n : Int) : isOrd ⟨2, key, val, n, lo, hi⟩ = decide ((val.toList = [] ∧ n = 0 ∧ lo.toList = [] ∧ hi.toList = []) ∧ (key.size : Int) ≤ 255 ∧ (val.size : Int) ≤ 255 ∧ (lo.size : Int) ≤ 255 ∧ (hi.size : Int) ≤ 255) :=
  isOrd_at 2 key val lo hi n _ (by decide) (by simp [bareOf, ← empty_iff, eq_comm])
theorem isOrd_4 (key val lo hi : ByteArray) (n : Int) : isOrd ⟨4, key, val, n, lo, hi⟩ = decide ((val.toList = [] ∧ n = 0 ∧ lo.toList = [] ∧ hi.toList = []) ∧ (key.size : Int) ≤ 255 ∧ (val.size : Int) ≤ 255 ∧ (lo.size : Int) ≤ 255 ∧ (hi.size : Int) ≤ 255) :=
  isOrd_at 4 key val lo hi n _ (by decide) (by simp [bareOf, ← empty_iff, eq_comm])
theorem isOrd_3 (key val lo hi : ByteArray) (n : Int) : isOrd ⟨3, key, val, n, lo, hi⟩ = decide ((val.toList = [] ∧ lo.toList = [] ∧ hi.toList = []) ∧ (key.size : Int) ≤ 255 ∧ (val.size : Int) ≤ 255 ∧ (lo.size : Int) ≤ 255 ∧ (hi.size : Int) ≤ 255) :=
  isOrd_at 3 key val lo hi n _ (by decide) (by simp [bareOf, ← empty_iff, eq_comm])
theorem isOrd_5 (key val lo hi : ByteArray) (n : Int) : isOrd ⟨5, key, val, n, lo, hi⟩ = decide ((key.toList = [] ∧ val.toList = [] ∧ n = 0) ∧ (key.size : Int) ≤ 255 ∧ (val.size : Int) ≤ 255 ∧ (lo.size : Int) ≤ 255 ∧ (hi.size : Int) ≤ 255) :=
  isOrd_at 5 key val lo hi n _ (by decide) (by simp [bareOf, ← empty_iff, eq_comm])
theorem isOrd_6 (key val lo hi : ByteArray) (n : Int) : isOrd ⟨6, key, val, n, lo, hi⟩ = decide ((key.toList = [] ∧ val.toList = [] ∧ n = 0 ∧ lo.toList = [] ∧ hi.toList = []) ∧ (key.size : Int) ≤ 255 ∧ (val.size : Int) ≤ 255 ∧ (lo.size : Int) ≤ 255 ∧ (hi.size : Int) ≤ 255) :=
  isOrd_at 6 key val lo hi n _ (by decide) (by simp [bareOf, ← empty_iff, eq_comm])
theorem isOrd_7 (key val lo hi : ByteArray) (n : Int) : isOrd ⟨7, key, val, n, lo, hi⟩ = decide ((key.toList = [] ∧ val.toList = [] ∧ n = 0 ∧ lo.toList = [] ∧ hi.toList = []) ∧ (key.size : Int) ≤ 255 ∧ (val.size : Int) ≤ 255 ∧ (lo.size : Int) ≤ 255 ∧ (hi.size : Int) ≤ 255) :=
  isOrd_at 7 key val lo hi n _ (by decide) (by simp [bareOf, ← empty_iff, eq_comm])
theorem isOrd_8 (key val lo hi : ByteArray) (n : Int) : isOrd ⟨8, key, val, n, lo, hi⟩ = decide ((key.toList = [] ∧ val.toList = [] ∧ n = 0 ∧ lo.toList = [] ∧ hi.toList = []) ∧ (key.size : Int) ≤ 255 ∧ (val.size : Int) ≤ 255 ∧ (lo.size : Int) ≤ 255 ∧ (hi.size : Int) ≤ 255) :=
  isOrd_at 8 key val lo hi n _ (by decide) (by simp [bareOf, ← empty_iff, eq_comm])

set_option maxRecDepth 100000 in
theorem refIs_1 (key val lo hi : ByteArray) (n : Int) (w : World) : Calls Tryz.prog 64 #[.agg #[.int .i64 1, .string key, .string val, .int .u64 n, .string lo, .string hi]] w
    fun e w' => e = .returned (.bool (isOrd ⟨1, key, val, n, lo, hi⟩)) ∧ Below w.heap.size w w' := by
  have HX := Lib.hid (isOrd_1 key val lo hi n)
  generalize isOrd ⟨1, key, val, n, lo, hi⟩ = X at HX ⊢
  go_enter Tryz.func64, Tryz.ntmps64
  go_wp2
  all_goals go_ret
  all_goals refine ⟨ret_bool ?_, Below.alloc (Below.refl _ _) (Nat.le_refl _) _⟩
  all_goals (rw [HX.out]; clear HX; first | (simp_all <;> omega) | (rw [Bool.eq_iff_iff, List.isEmpty_iff, decide_eq_true_iff]; first | (simp_all; done) | simp_all [bne_eq_false_iff_eq]))
set_option maxRecDepth 100000 in
theorem refIs_2 (key val lo hi : ByteArray) (n : Int) (w : World) : Calls Tryz.prog 64 #[.agg #[.int .i64 2, .string key, .string val, .int .u64 n, .string lo, .string hi]] w
    fun e w' => e = .returned (.bool (isOrd ⟨2, key, val, n, lo, hi⟩)) ∧ Below w.heap.size w w' := by
  have HX := Lib.hid (isOrd_2 key val lo hi n)
  generalize isOrd ⟨2, key, val, n, lo, hi⟩ = X at HX ⊢
  go_enter Tryz.func64, Tryz.ntmps64
  go_wp2
  all_goals go_ret
  all_goals refine ⟨ret_bool ?_, Below.alloc (Below.refl _ _) (Nat.le_refl _) _⟩
  all_goals (rw [HX.out]; clear HX; first | (simp_all <;> omega) | (rw [Bool.eq_iff_iff, List.isEmpty_iff, decide_eq_true_iff]; first | (simp_all; done) | simp_all [bne_eq_false_iff_eq]))
set_option maxRecDepth 100000 in
theorem refIs_3 (key val lo hi : ByteArray) (n : Int) (w : World) : Calls Tryz.prog 64 #[.agg #[.int .i64 3, .string key, .string val, .int .u64 n, .string lo, .string hi]] w
    fun e w' => e = .returned (.bool (isOrd ⟨3, key, val, n, lo, hi⟩)) ∧ Below w.heap.size w w' := by
  have HX := Lib.hid (isOrd_3 key val lo hi n)
  generalize isOrd ⟨3, key, val, n, lo, hi⟩ = X at HX ⊢
  go_enter Tryz.func64, Tryz.ntmps64
  go_wp2
  all_goals go_ret
  all_goals refine ⟨ret_bool ?_, Below.alloc (Below.refl _ _) (Nat.le_refl _) _⟩
  all_goals (rw [HX.out]; clear HX; first | (simp_all <;> omega) | (rw [Bool.eq_iff_iff, List.isEmpty_iff, decide_eq_true_iff]; first | (simp_all; done) | simp_all [bne_eq_false_iff_eq]))
set_option maxRecDepth 100000 in
theorem refIs_4 (key val lo hi : ByteArray) (n : Int) (w : World) : Calls Tryz.prog 64 #[.agg #[.int .i64 4, .string key, .string val, .int .u64 n, .string lo, .string hi]] w
    fun e w' => e = .returned (.bool (isOrd ⟨4, key, val, n, lo, hi⟩)) ∧ Below w.heap.size w w' := by
  have HX := Lib.hid (isOrd_4 key val lo hi n)
  generalize isOrd ⟨4, key, val, n, lo, hi⟩ = X at HX ⊢
  go_enter Tryz.func64, Tryz.ntmps64
  go_wp2
  all_goals go_ret
  all_goals refine ⟨ret_bool ?_, Below.alloc (Below.refl _ _) (Nat.le_refl _) _⟩
  all_goals (rw [HX.out]; clear HX; first | (simp_all <;> omega) | (rw [Bool.eq_iff_iff, List.isEmpty_iff, decide_eq_true_iff]; first | (simp_all; done) | simp_all [bne_eq_false_iff_eq]))
set_option maxRecDepth 100000 in
theorem refIs_5 (key val lo hi : ByteArray) (n : Int) (w : World) : Calls Tryz.prog 64 #[.agg #[.int .i64 5, .string key, .string val, .int .u64 n, .string lo, .string hi]] w
    fun e w' => e = .returned (.bool (isOrd ⟨5, key, val, n, lo, hi⟩)) ∧ Below w.heap.size w w' := by
  have HX := Lib.hid (isOrd_5 key val lo hi n)
  generalize isOrd ⟨5, key, val, n, lo, hi⟩ = X at HX ⊢
  go_enter Tryz.func64, Tryz.ntmps64
  go_wp2
  all_goals go_ret
  all_goals refine ⟨ret_bool ?_, Below.alloc (Below.refl _ _) (Nat.le_refl _) _⟩
  all_goals (rw [HX.out]; clear HX; first | (simp_all <;> omega) | (rw [Bool.eq_iff_iff, List.isEmpty_iff, decide_eq_true_iff]; first | (simp_all; done) | simp_all [bne_eq_false_iff_eq]))
set_option maxRecDepth 100000 in
theorem refIs_6 (key val lo hi : ByteArray) (n : Int) (w : World) : Calls Tryz.prog 64 #[.agg #[.int .i64 6, .string key, .string val, .int .u64 n, .string lo, .string hi]] w
    fun e w' => e = .returned (.bool (isOrd ⟨6, key, val, n, lo, hi⟩)) ∧ Below w.heap.size w w' := by
  have HX := Lib.hid (isOrd_6 key val lo hi n)
  generalize isOrd ⟨6, key, val, n, lo, hi⟩ = X at HX ⊢
  go_enter Tryz.func64, Tryz.ntmps64
  go_wp2
  all_goals go_ret
  all_goals refine ⟨ret_bool ?_, Below.alloc (Below.refl _ _) (Nat.le_refl _) _⟩
  all_goals (rw [HX.out]; clear HX; first | (simp_all <;> omega) | (rw [Bool.eq_iff_iff, List.isEmpty_iff, decide_eq_true_iff]; first | (simp_all; done) | simp_all [bne_eq_false_iff_eq]))
set_option maxRecDepth 100000 in
theorem refIs_7 (key val lo hi : ByteArray) (n : Int) (w : World) : Calls Tryz.prog 64 #[.agg #[.int .i64 7, .string key, .string val, .int .u64 n, .string lo, .string hi]] w
    fun e w' => e = .returned (.bool (isOrd ⟨7, key, val, n, lo, hi⟩)) ∧ Below w.heap.size w w' := by
  have HX := Lib.hid (isOrd_7 key val lo hi n)
  generalize isOrd ⟨7, key, val, n, lo, hi⟩ = X at HX ⊢
  go_enter Tryz.func64, Tryz.ntmps64
  go_wp2
  all_goals go_ret
  all_goals refine ⟨ret_bool ?_, Below.alloc (Below.refl _ _) (Nat.le_refl _) _⟩
  all_goals (rw [HX.out]; clear HX; first | (simp_all <;> omega) | (rw [Bool.eq_iff_iff, List.isEmpty_iff, decide_eq_true_iff]; first | (simp_all; done) | simp_all [bne_eq_false_iff_eq]))
set_option maxRecDepth 100000 in
theorem refIs_8 (key val lo hi : ByteArray) (n : Int) (w : World) : Calls Tryz.prog 64 #[.agg #[.int .i64 8, .string key, .string val, .int .u64 n, .string lo, .string hi]] w
    fun e w' => e = .returned (.bool (isOrd ⟨8, key, val, n, lo, hi⟩)) ∧ Below w.heap.size w w' := by
  have HX := Lib.hid (isOrd_8 key val lo hi n)
  generalize isOrd ⟨8, key, val, n, lo, hi⟩ = X at HX ⊢
  go_enter Tryz.func64, Tryz.ntmps64
  go_wp2
  all_goals go_ret
  all_goals refine ⟨ret_bool ?_, Below.alloc (Below.refl _ _) (Nat.le_refl _) _⟩
  all_goals (rw [HX.out]; clear HX; first | (simp_all <;> omega) | (rw [Bool.eq_iff_iff, List.isEmpty_iff, decide_eq_true_iff]; first | (simp_all; done) | simp_all [bne_eq_false_iff_eq]))

set_option maxRecDepth 100000 in
theorem refIs_odd (k : Int) (key val lo hi : ByteArray) (n : Int) (w : World) (hk : okKind k = false) : Calls Tryz.prog 64 #[.agg #[.int .i64 k, .string key, .string val, .int .u64 n, .string lo, .string hi]] w
    fun e w' => e = .returned (.bool (isOrd ⟨k, key, val, n, lo, hi⟩)) ∧ Below w.heap.size w w' := by
  have HX := Lib.hid (show isOrd ⟨k, key, val, n, lo, hi⟩ = false by simp [isOrd, hk])
  generalize isOrd ⟨k, key, val, n, lo, hi⟩ = X at HX ⊢
  have h : k < 1 ∨ 8 < k := by simp [okKind] at hk; omega
  clear hk
  rcases h with h | h
  all_goals
    go_enter Tryz.func64, Tryz.ntmps64
    go_wp2
    go_ret
    exact ⟨ret_bool HX.out.symm, Below.alloc (Below.refl _ _) (Nat.le_refl _) _⟩

theorem refIs_any (o : Ord) (w : World) : Calls Tryz.prog 64 #[o.v] w fun e w' => e = .returned (.bool (isOrd o)) ∧ Below w.heap.size w w' := by
  obtain ⟨k, key, val, n, lo, hi⟩ := o
  cases hk : okKind k
  · exact refIs_odd k key val lo hi n w hk
  · have h : k = 1 ∨ k = 2 ∨ k = 3 ∨ k = 4 ∨ k = 5 ∨ k = 6 ∨ k = 7 ∨ k = 8 := by simp [okKind] at hk; omega
    rcases h with rfl | rfl | rfl | rfl | rfl | rfl | rfl | rfl
    · exact refIs_1 key val lo hi n w
    · exact refIs_2 key val lo hi n w
    · exact refIs_3 key val lo hi n w
    · exact refIs_4 key val lo hi n w
    · exact refIs_5 key val lo hi n w
    · exact refIs_6 key val lo hi n w
    · exact refIs_7 key val lo hi n w
    · exact refIs_8 key val lo hi n w
end Go.Proofs.YtdfgdnaejnngoaaGreat
