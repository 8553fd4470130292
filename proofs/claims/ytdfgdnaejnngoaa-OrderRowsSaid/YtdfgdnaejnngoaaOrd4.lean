import Derived.Test.YtdfgdnaejnngoaaIn3
import Derived.Test.YtdfgdnaejnngoaaOrd3
namespace Go.Proofs.Ytdfgdnaejnngoaa
open Go.RowKit

/-- what a field's writer does: these bytes more -/
def Writes (f : FuncId) (o : Ord) (l' : List UInt8) : Prop :=
  ∀ (B b : Nat) (G : Option Nat) (l : List UInt8) (w : World), OutB w B b G l → B ≤ w.heap.size → l.length + l'.length ≤ 100000000 →
    Calls Try.prog f #[o.v, .pointer (some ⟨b, 0, none⟩)] w fun e w' => e = .returned (.tuple #[]) ∧ ∃ G', OutB w' B b G' (l ++ l') ∧ OutStep w w' b G G'

theorem OutStep.of_below {a w w' : World} {b : Nat} {G G' : Option Nat} (h : Below a.heap.size a w) (k : OutStep w w' b G G') : OutStep a w' b G G' :=
  (⟨Fr.of_below h, .inl rfl⟩ : OutStep a w b G G).trans k

theorem OutB.below {w w' : World} {B b : Nat} {G : Option Nat} {l : List UInt8} (h : OutB w B b G l) (hb : Below w.heap.size w w') : OutB w' B b G l := OutAt.below h hb

theorem text_one (s : ByteArray) (B b g : Nat) (G : Option Nat) (l : List UInt8) (W : World) (h : OutB W B b G l) (hBw : B ≤ W.heap.size) (hg : W.heap.size = g) (hs : s.size ≤ 255) (hlen : l.length + (textBytes s).length ≤ 100000000) :
    Calls Try.prog 83 #[.pointer (some ⟨b, 0, none⟩),   .slice (some ⟨g, 0, none⟩) 1 1] (W.alloc (.cells #[.string s] 9))
      fun e w' => e = .returned (.int .i64 0) ∧ ∃ G', OutB w' B b G' (l ++ textBytes s) ∧ OutStep W w' b G G' := by
  subst hg
  have hb := Below.alloc (Below.refl W.heap.size W) (Nat.le_refl _) (.cells #[.string s] 9)
  refine (outText_B B b G l (some ⟨W.heap.size, 0, none⟩) 1 [s] _ (OutAt.below h hb) (by simp; omega) (by simp) (Elems.of_block (heap_alloc_new _ _) (by simp) (by simp)) ?_ (by simpa using hs) (by simp only [List.flatMap_cons, List.flatMap_nil, List.append_nil]; omega)).mono ?_
  · intro ad e; cases e
    have h1 := OutAt.lt h
    refine ⟨by simp; omega, fun e => ?_⟩
    have := (OutAt.glt h _ e).2
    simp at this
  · rintro e w' ⟨rfl, G', ho, hst⟩
    exact ⟨rfl, G', by simpa using ho, OutStep.of_below hb hst⟩

theorem writeKey_any (o : Ord) (hs : o.key.size ≤ 255) : Writes 63 o (textBytes o.key) := by
  intro B b G l w h hBw hlen
  have ht := fun g W h1 h2 h3 => text_one o.key B b g G l W h1 h2 h3 hs hlen
  have Ht := Lib.hid ht
  have H := Lib.hid (OutB.below h (Below.alloc (Below.refl w.heap.size w) (Nat.le_refl _) (.cells #[.int .i64 o.kind, .string o.key, .string o.val, .int .u64 o.n, .string o.lo, .string o.hi] 24)))
  clear ht h hs hlen
  rw [Ord.v_def]
  go_enter Try.func63, Try.ntmps63
  go_wp2_with fail
  (with_reducible refine (Ht.out _ _ H.out ?_ ?_).mono ?_)
  · simp; omega
  · simp
  rintro e w1 ⟨rfl, G', ho, hst⟩
  go_wp2
  go_end0
  exact ⟨rfl, G', ho, OutStep.of_below (Below.alloc (Below.refl w.heap.size w) (Nat.le_refl _) _) hst⟩
theorem writeVal_any (o : Ord) (hs : o.val.size ≤ 255) : Writes 65 o (textBytes o.val) := by
  intro B b G l w h hBw hlen
  have ht := fun g W h1 h2 h3 => text_one o.val B b g G l W h1 h2 h3 hs hlen
  have Ht := Lib.hid ht
  have H := Lib.hid (OutB.below h (Below.alloc (Below.refl w.heap.size w) (Nat.le_refl _) (.cells #[.int .i64 o.kind, .string o.key, .string o.val, .int .u64 o.n, .string o.lo, .string o.hi] 24)))
  clear ht h hs hlen
  rw [Ord.v_def]
  go_enter Try.func65, Try.ntmps65
  go_wp2_with fail
  (with_reducible refine (Ht.out _ _ H.out ?_ ?_).mono ?_)
  · simp; omega
  · simp
  rintro e w1 ⟨rfl, G', ho, hst⟩
  go_wp2
  go_end0
  exact ⟨rfl, G', ho, OutStep.of_below (Below.alloc (Below.refl w.heap.size w) (Nat.le_refl _) _) hst⟩
theorem writeLo_any (o : Ord) (hs : o.lo.size ≤ 255) : Writes 69 o (textBytes o.lo) := by
  intro B b G l w h hBw hlen
  have ht := fun g W h1 h2 h3 => text_one o.lo B b g G l W h1 h2 h3 hs hlen
  have Ht := Lib.hid ht
  have H := Lib.hid (OutB.below h (Below.alloc (Below.refl w.heap.size w) (Nat.le_refl _) (.cells #[.int .i64 o.kind, .string o.key, .string o.val, .int .u64 o.n, .string o.lo, .string o.hi] 24)))
  clear ht h hs hlen
  rw [Ord.v_def]
  go_enter Try.func69, Try.ntmps69
  go_wp2_with fail
  (with_reducible refine (Ht.out _ _ H.out ?_ ?_).mono ?_)
  · simp; omega
  · simp
  rintro e w1 ⟨rfl, G', ho, hst⟩
  go_wp2
  go_end0
  exact ⟨rfl, G', ho, OutStep.of_below (Below.alloc (Below.refl w.heap.size w) (Nat.le_refl _) _) hst⟩
theorem writeHi_any (o : Ord) (hs : o.hi.size ≤ 255) : Writes 71 o (textBytes o.hi) := by
  intro B b G l w h hBw hlen
  have ht := fun g W h1 h2 h3 => text_one o.hi B b g G l W h1 h2 h3 hs hlen
  have Ht := Lib.hid ht
  have H := Lib.hid (OutB.below h (Below.alloc (Below.refl w.heap.size w) (Nat.le_refl _) (.cells #[.int .i64 o.kind, .string o.key, .string o.val, .int .u64 o.n, .string o.lo, .string o.hi] 24)))
  clear ht h hs hlen
  rw [Ord.v_def]
  go_enter Try.func71, Try.ntmps71
  go_wp2_with fail
  (with_reducible refine (Ht.out _ _ H.out ?_ ?_).mono ?_)
  · simp; omega
  · simp
  rintro e w1 ⟨rfl, G', ho, hst⟩
  go_wp2
  go_end0
  exact ⟨rfl, G', ho, OutStep.of_below (Below.alloc (Below.refl w.heap.size w) (Nat.le_refl _) _) hst⟩
end Go.Proofs.Ytdfgdnaejnngoaa
