import Derived.Test.YtdfgdnaejnngoaaRows
import Derived.Test.YtdfgdnaejnngoaaBase
import Derived.WalkKit
import Derived.ProofKit
import Derived.OpenShut
import Derived.ShutString
import Derived.ChangeOld
import Derived.Below
import Derived.Deep.Slices
import Derived.Deep.Fields
import Derived.ChangeSame
namespace Go.Proofs.Ytdfgdnaejnngoaa
open Go.ChangeShapes Go.WideShapes Go.ChangeAt Go.RowKit Go.Deep
/-! What comes in: rows. -/

theorem own : ownKnob Try.prog.godebug = none := by kernel_rfl
theorem laidOut : laidOutB Try.prog = true := by kernel_rfl
theorem add_none (b off n : Nat) : (⟨b, off, none⟩ : Addr).add n = ⟨b, off + n, none⟩ := by unfold Addr.add; split <;> simp_all
theorem cell_lt {w : World} {a : Addr} {v : Value} (h : w.cell? a = some v) : a.block < w.heap.size := by
  rcases Nat.lt_or_ge a.block w.heap.size with hl | hl
  · exact hl
  · exfalso
    rw [World.cell?] at h
    simp [Array.getElem?_eq_none hl] at h
theorem list_of {α : Type} {P : Nat → α → Prop} : ∀ n : Nat, (∀ i, i < n → ∃ a, P i a) → ∃ l : List α, l.length = n ∧ ∀ i a, l[i]? = some a → P i a
  | 0, _ => ⟨[], rfl, fun i a h => by simp at h⟩
  | n + 1, h => by
    obtain ⟨l, hl, hp⟩ := list_of n (fun i hi => h i (by omega))
    obtain ⟨a, ha⟩ := h n (by omega)
    refine ⟨l ++ [a], by simp [hl], fun i b hb => ?_⟩
    rcases Nat.lt_or_ge i l.length with hi | hi
    · rw [List.getElem?_append_left hi] at hb
      exact hp i b hb
    · rw [List.getElem?_append_right hi] at hb
      have e : i - l.length = 0 := by
        have := (List.getElem?_eq_some_iff.1 hb).1
        simp at this
        omega
      rw [e] at hb
      simp at hb
      subst hb
      obtain rfl : i = n := by omega
      exact ha
section
variable {H : Type} {enc : TypeId × Value → H} {w : World} {base : Nat} {sp : Nat → Bool} {held : Bool}
set_option maxRecDepth 100000 in
/-- an argument that is a row -/
theorem rows_in {α : Type} {T e : TypeId} {k : Nat} (f : α → List Value) (Q : α → Prop) (hs : Try.prog.underlying T = some (.slice e)) (hk : Try.prog.cellsOf e = k) (h0 : 0 < k) (hlen : ∀ a, (f a).length = k)
    (hread : ∀ (fuel : Nat) (cs : List Value) (x : DataW H × List MemPlace), DataW.trod enc Try.prog w base sp held fuel e cs = some x → ∃ a, cs = f a ∧ Q a)
    {r : Reach} {b0 : Nat} {v : Value} {d : DataW H} {p : List MemPlace} (hv : Value.okWide Try.prog w r b0 T v) (h : DataW.Trod enc Try.prog w base sp held T v d p) :
    ∃ (A : Option Addr) (cap : Nat) (l : List α), v = .slice A l.length cap ∧ Elems w A k (l.map f) ∧ ∀ a ∈ l, Q a := by
  obtain ⟨A, len, cap, rfl⟩ := okWide_slice hs hv
  obtain ⟨fuel, hf⟩ := h
  rcases open_slice hs hf with ⟨hc, _⟩ | ⟨ad, len', cap', m, n, D, Pl, hc, _, hlc, _, hm, _, hat⟩
  · simp [Value.cells] at hc
    obtain ⟨rfl, rfl, rfl⟩ := hc
    exact ⟨none, 0, [], rfl, Elems.nil _ _ _, by simp⟩
  · simp [Value.cells] at hc
    obtain ⟨rfl, rfl, rfl⟩ := hc
    have hle : len ≤ m := by rw [hm]; split <;> omega
    obtain ⟨l, hl, hp⟩ := list_of (P := fun i (a : α) => (∀ j u, (f a)[j]? = some u → w.cell? (ad.add (i * k + j)) = some u) ∧ Q a) len (fun i hi => by
      obtain ⟨cs, hcs, htr⟩ := hat i (by omega)
      obtain ⟨a, rfl, hq⟩ := hread n cs _ htr
      obtain ⟨_, hcl, hcell⟩ := World.cells?_some hcs
      refine ⟨a, fun j u hu => ?_, hq⟩
      have hj := (List.getElem?_eq_some_iff.1 hu).1
      have := hcell j (by rw [← hcl]; exact hj)
      rw [add_add, hk] at this
      rw [this, hu])
    refine ⟨some ad, cap, l, by rw [hl], ?_, fun a ha => ?_⟩
    · intro i r hr
      rw [List.getElem?_map, Option.map_eq_some_iff] at hr
      obtain ⟨a, ha, rfl⟩ := hr
      have hi := (hp i a ha).1
      have hz := hi 0 _ (List.getElem?_eq_getElem (by rw [hlen]; exact h0))
      have hl0 : 0 < l.length := by have := (List.getElem?_eq_some_iff.1 ha).1; omega
      have hz0 := (hp 0 l[0] (List.getElem?_eq_getElem hl0)).1 0 _ (List.getElem?_eq_getElem (by rw [hlen]; exact h0))
      have hsp : ad.spot = none := by simpa [Addr.add] using World.cell?_spot hz0
      obtain ⟨b, off, spot⟩ := ad
      obtain rfl : spot = none := hsp
      refine ⟨b, off, rfl, ?_, fun j u hu => ?_⟩
      · have := cell_lt hz
        rw [add_none] at this
        exact this
      · have := hi j u hu
        rw [add_none, ← Nat.add_assoc] at this
        exact this
    · obtain ⟨i, hi⟩ := List.getElem?_of_mem ha
      exact (hp i a hi).2
end
end Go.Proofs.Ytdfgdnaejnngoaa
