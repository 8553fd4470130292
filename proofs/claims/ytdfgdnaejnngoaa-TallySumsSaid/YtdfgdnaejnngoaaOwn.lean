import Derived.Test.YtdfgdnaejnngoaaFr
import Derived.OwnWalk
namespace Go.Proofs.Ytdfgdnaejnngoaa
open Go.RowKit
/-! Rows that a call has made: a list's view of them, whatever stands in them. -/
section
variable {α : Type} {f : α → List Value} {k : Nat} {e : TypeId}

def OwnsG (f : α → List Value) (k : Nat) (e : TypeId) (w : World) (B : Nat) (v : Value) (l : List α) : Prop := w.ownsRow B e k v l.length (l.map f).flatten

theorem OwnsG.fr {S : Nat → Prop} {w w' : World} {B : Nat} {v : Value} {l : List α} (h : OwnsG f k e w B v l) (hf : Fr S w w') (hs : ∀ k, B ≤ k → ¬ S k) : OwnsG f k e w' B v l := by
  refine ⟨h.1, ?_⟩
  rcases h.2 with hn | ⟨g, cap, cur, rfl, hb, hgg, rest⟩
  · exact .inl hn
  · exact .inr ⟨g, cap, cur, rfl, hb, (hf.block g (Array.getElem?_eq_some_iff.1 hgg).1 (hs g hb)).trans hgg, rest⟩
/-- as long as its own block is left -/
theorem OwnsG.fr' {S : Nat → Prop} {w w' : World} {B : Nat} {v : Value} {l : List α} (h : OwnsG f k e w B v l) (hf : Fr S w w') (hs : ∀ g, v.ownBlock = some g → ¬ S g) : OwnsG f k e w' B v l := by
  refine ⟨h.1, ?_⟩
  rcases h.2 with hn | ⟨g, cap, cur, rfl, hb, hgg, rest⟩
  · exact .inl hn
  · exact .inr ⟨g, cap, cur, rfl, hb, (hf.block g (Array.getElem?_eq_some_iff.1 hgg).1 (hs g rfl)).trans hgg, rest⟩
theorem OwnsG.below {w w' : World} {B : Nat} {v : Value} {l : List α} (h : OwnsG f k e w B v l) (hf : Below w.heap.size w w') : OwnsG f k e w' B v l := h.fr (Fr.of_below (S := fun _ => False) hf) (fun _ _ h => h)
theorem OwnsG.alloc {w : World} {B : Nat} {v : Value} {l : List α} (h : OwnsG f k e w B v l) (o : Obj) : OwnsG f k e (w.alloc o) B v l := h.fr ((Fr.refl (fun _ => False) w).alloc o) (fun _ _ h => h)
theorem OwnsG.drew {w : World} {B : Nat} {v : Value} {l : List α} (h : OwnsG f k e w B v l) : OwnsG f k e w.drew B v l := h
theorem OwnsG.nil (w : World) (B : Nat) : OwnsG f k e w B (.slice none 0 0) [] := World.ownsRow_nil _ _ _ _
theorem OwnsG.slice {w : World} {B : Nat} {v : Value} {l : List α} (h : OwnsG f k e w B v l) : ∃ A cap, v = .slice A l.length cap := by
  rcases h.2 with ⟨rfl, hn⟩ | ⟨g, cap, cur, rfl, _⟩
  · exact ⟨none, 0, by rw [hn]⟩
  · exact ⟨_, _, rfl⟩
theorem OwnsG.base {w : World} {B B' : Nat} {v : Value} {l : List α} (h : OwnsG f k e w B v l) (hB : B' ≤ B) : OwnsG f k e w B' v l := by
  refine ⟨h.1, ?_⟩
  rcases h.2 with hn | ⟨g, cap, cur, rfl, hb, rest⟩
  · exact .inl hn
  · exact .inr ⟨g, cap, cur, rfl, Nat.le_trans hB hb, rest⟩
theorem OwnsG.len {w : World} {B n cap : Nat} {A : Option Addr} {l : List α} (h : OwnsG f k e w B (.slice A n cap) l) : n = l.length := by
  rcases h.2 with ⟨he, hn⟩ | ⟨g, cap, cur, he, _⟩
  · cases he; exact hn.symm
  · cases he; rfl
theorem OwnsG.elems (hk : ∀ a, (f a).length = k) {w : World} {B : Nat} {A : Option Addr} {n cap : Nat} {l : List α} (h : OwnsG f k e w B (.slice A n cap) l) : Elems w A k (l.map f) := by
  rcases h.2 with ⟨he, hn⟩ | ⟨g, cap', cur, he, _, hgg, _, _, _, htake⟩
  · have : l = [] := List.eq_nil_of_length_eq_zero hn
    subst this
    exact Elems.nil _ _ _
  · cases he
    intro i r hr
    refine ⟨g, 0, rfl, (Array.getElem?_eq_some_iff.1 hgg).1, fun j u hu => ?_⟩
    have h6 : ∀ r ∈ l.map f, r.length = k := fun r hr => by
      obtain ⟨o, _, rfl⟩ := List.mem_map.1 hr
      exact hk o
    have hf := flatten_at h6 i r hr j u hu
    rw [Lib.cell_of_heap hgg]
    rw [← htake, List.getElem?_take] at hf
    split at hf
    · simpa using hf
    · cases hf
/-- an element's cells -/
theorem OwnsG.row (hk : ∀ a, (f a).length = k) {w : World} {B : Nat} {A : Option Addr} {n cap : Nat} {l : List α} (h : OwnsG f k e w B (.slice A n cap) l) {j : Nat} {p : α} (hp : l[j]? = some p) : ∃ g, A = some ⟨g, 0, none⟩ ∧ B ≤ g ∧ g < w.heap.size ∧ n ≤ cap ∧ ∀ i u, (f p)[i]? = some u → w.cell? ⟨g, j * k + i, none⟩ = some u := by
  have he := h.elems hk
  rcases h.2 with ⟨_, hn⟩ | ⟨g, cap', cur, e', hb, hgg, hc, _⟩
  · have hj := (List.getElem?_eq_some_iff.1 hp).1
    omega
  · cases e'
    obtain ⟨b', off, e2, hl, hc'⟩ := he j (f p) (by simp [hp])
    cases e2
    simp only [Nat.zero_add] at hc'
    exact ⟨g, rfl, hb, hl, hc, hc'⟩
theorem OwnsG.unfrozen {w : World} {B : Nat} {g n cap : Nat} {l : List α} (h : OwnsG f k e w B (.slice (some ⟨g, 0, none⟩) n cap) l) (o : Nat) : w.frozen? ⟨g, o, none⟩ = false := by
  rcases h.2 with ⟨he, hn⟩ | ⟨g', cap', cur, he, _, hgg, _⟩
  · cases he
  · cases he
    exact Lib.frozen_of_heap hgg o
/-- fewer of them -/
theorem OwnsG.take (hk : ∀ a, (f a).length = k) {w : World} {B n cap m : Nat} {A : Option Addr} {l : List α} (h : OwnsG f k e w B (.slice A n cap) l) (hm : m ≤ l.length) (h0 : 0 < l.length) : OwnsG f k e w B (.slice A m cap) (l.take m) := by
  have hlen : (l.take m).length = m := by simp [List.length_take]; omega
  have hfl : ∀ (l : List α) (m : Nat), m ≤ l.length → ((l.take m).map f).flatten = ((l.map f).flatten).take (m * k) := by
    intro l
    induction l with
    | nil => intro m hm; simp
    | cons x l ih =>
      intro m hm
      cases m with
      | zero => simp
      | succ m =>
        simp only [List.take_succ_cons, List.map_cons, List.flatten_cons]
        rw [ih m (by simpa using hm), List.take_append, hk]
        rw [show (m + 1) * k - k = m * k from by rw [Nat.succ_mul]; omega]
        rw [List.take_of_length_le (l := f x) (by rw [hk, Nat.succ_mul]; omega)]
  have h1 : (l.map f).flatten.length = l.length * k := h.1
  rcases h.2 with ⟨he, hn⟩ | ⟨g, cap', cur, he, hb, hgg, hc1, hc2, hc3, htake⟩
  · omega
  · cases he
    have hmk : m * k ≤ l.length * k := Nat.mul_le_mul_right k hm
    refine ⟨?_, .inr ⟨g, _, cur, by rw [hlen], hb, hgg, by rw [hlen]; omega, hc2, hc3, ?_⟩⟩
    · rw [hfl l m hm, hlen, List.length_take, h1]
      omega
    · rw [hfl l m hm, hlen, ← htake, List.take_take]
      congr 1
      omega
/-- a row's new value of one element: its cells are these -/
theorem OwnsG.set {w w' : World} {B n cap g i : Nat} {l : List α} {a : α} {cur' : Array Value} (h : OwnsG f k e w B (.slice (some ⟨g, 0, none⟩) n cap) l) (hg : w'.heap[g]? = some (.cells cur' e (0, 0)))
    (hcur : ∀ cur, w.heap[g]? = some (.cells cur e (0, 0)) → cur'.size = cur.size ∧ cur'.toList.take (n * k) = ((l.set i a).map f).flatten) (hlen : (((l.set i a).map f).flatten).length = (l.set i a).length * k) : OwnsG f k e w' B (.slice (some ⟨g, 0, none⟩) n cap) (l.set i a) := by
  rcases h.2 with ⟨he, hn⟩ | ⟨g', cap', cur, he, hb, hgg, hc1, hc2, hc3, htake⟩
  · cases he
  · cases he
    obtain ⟨e1, e2⟩ := hcur cur hgg
    exact ⟨hlen, .inr ⟨g, cap, cur', by rw [List.length_set], hb, hg, by rw [List.length_set]; exact hc1, hc2, by rw [e1]; exact hc3, by rw [List.length_set]; exact e2⟩⟩
theorem flatten_length (hk : ∀ a, (f a).length = k) : ∀ l : List α, ((l.map f).flatten).length = l.length * k
  | [] => by simp
  | x :: l => by
    simp only [List.map_cons, List.flatten_cons, List.length_append, List.length_cons]
    rw [hk, flatten_length hk l, Nat.succ_mul]
    omega
theorem flatten_add (l : List α) (o : α) : ((l ++ [o]).map f).flatten = (l.map f).flatten ++ f o := by simp
end
theorem OwnsG.empty {α : Type} {f : α → List Value} {k : Nat} {e : TypeId} {w : World} {B g : Nat} (h : w.heap[g]? = some (.cells #[] e (0, 0))) (hB : B ≤ g) : OwnsG f k e w B (.slice (some ⟨g, 0, none⟩) 0 0) ([] : List α) :=
  ⟨by simp, .inr ⟨g, 0, #[], rfl, hB, h, Nat.le_refl _, Nat.zero_le _, by simp, by simp⟩⟩
/-! Writing one element. -/
def wrL {β : Type} : List β → Nat → List β → List β
  | l, _, [] => l
  | l, o, u :: us => wrL (l.set o u) (o + 1) us
def wrW (w : World) (g o : Nat) : List Value → World
  | [] => w
  | u :: us => wrW (w.setCell ⟨g, o, none⟩ u) g (o + 1) us
theorem wrL_length {β : Type} : ∀ (us l : List β) (o : Nat), (wrL l o us).length = l.length
  | [], l, o => rfl
  | u :: us, l, o => by rw [wrL, wrL_length us, List.length_set]
theorem wrL_take {β : Type} (m : Nat) : ∀ (us l : List β) (o : Nat), (wrL l o us).take m = wrL (l.take m) o us
  | [], l, o => rfl
  | u :: us, l, o => by rw [wrL, wrL, wrL_take m us, List.take_set]
theorem wrL_mid {β : Type} : ∀ (us xs : List β), xs.length = us.length → ∀ (pre ys : List β), wrL (pre ++ (xs ++ ys)) pre.length us = pre ++ (us ++ ys)
  | [], xs, h, pre, ys => by
    obtain rfl : xs = [] := List.eq_nil_of_length_eq_zero (by simpa using h)
    rfl
  | u :: us, [], h, pre, ys => by simp at h
  | u :: us, x :: xs, h, pre, ys => by
    have e : (pre ++ (x :: xs ++ ys)).set pre.length u = (pre ++ [u]) ++ (xs ++ ys) := by
      rw [List.set_append_right _ _ (Nat.le_refl _), Nat.sub_self]
      simp
    have ih := wrL_mid us xs (by simpa using h) (pre ++ [u]) ys
    rw [List.length_append] at ih
    rw [wrL, e]
    have e2 : pre.length + 1 = pre.length + [u].length := rfl
    rw [e2, ih]
    simp
theorem wrL_flatten {α : Type} {f : α → List Value} {k : Nat} (hk : ∀ a, (f a).length = k) (a : α) : ∀ (l : List α) (i : Nat), i < l.length → ∀ pre : List Value, wrL (pre ++ (l.map f).flatten) (pre.length + i * k) (f a) = pre ++ ((l.set i a).map f).flatten
  | [], i, h, _ => by simp at h
  | x :: l, 0, _, pre => by
    simp only [List.map_cons, List.flatten_cons, List.set_cons_zero, Nat.zero_mul, Nat.add_zero]
    exact wrL_mid (f a) (f x) (by rw [hk, hk]) pre _
  | x :: l, i + 1, h, pre => by
    have ih := wrL_flatten hk a l i (by simpa using h) (pre ++ f x)
    rw [List.length_append, hk] at ih
    simp only [List.map_cons, List.flatten_cons, List.set_cons_succ]
    rw [← List.append_assoc, show pre.length + (i + 1) * k = pre.length + k + i * k from by rw [Nat.succ_mul]; omega, ih, List.append_assoc]
theorem setCell_row {w : World} {g : Nat} {cur : Array Value} {e : TypeId} (h : w.heap[g]? = some (.cells cur e (0, 0))) (o : Nat) (u : Value) : (w.setCell ⟨g, o, none⟩ u).heap[g]? = some (.cells (cur.toList.set o u).toArray e (0, 0)) := by
  obtain ⟨cur⟩ := cur
  simp [World.setCell, Array.getElem?_modify, h]
theorem wrW_heap {e : TypeId} {g : Nat} : ∀ (us : List Value) (w : World) (o : Nat) (cur : List Value), w.heap[g]? = some (.cells cur.toArray e (0, 0)) → (wrW w g o us).heap[g]? = some (.cells (wrL cur o us).toArray e (0, 0))
  | [], w, o, cur, h => h
  | u :: us, w, o, cur, h => by
    rw [wrW, wrL]
    refine wrW_heap us _ _ _ ?_
    have := setCell_row h o u
    simpa using this
theorem wrW_fr {g : Nat} : ∀ (us : List Value) (w : World) (o : Nat), Fr (fun k => k = g) w (wrW w g o us)
  | [], w, o => Fr.refl _ _
  | u :: us, w, o => by
    rw [wrW]
    exact ((Fr.refl (fun k => k = g) w).setCell (p := ⟨g, o, none⟩) (fun _ => rfl) u).trans (wrW_fr us _ _) (fun _ _ h => h)
theorem OwnsG.write {α : Type} {f : α → List Value} {k : Nat} {e : TypeId} (hk : ∀ a, (f a).length = k) {w : World} {B n cap g i : Nat} {l : List α} (h : OwnsG f k e w B (.slice (some ⟨g, 0, none⟩) n cap) l) (hi : i < l.length) (a : α) :
    OwnsG f k e (wrW w g (i * k) (f a)) B (.slice (some ⟨g, 0, none⟩) n cap) (l.set i a) := by
  have hn := h.len
  rcases h.2 with ⟨he, _⟩ | ⟨g', cap', cur, he, hb, hgg, hc1, hc2, hc3, htake⟩
  · cases he
  · cases he
    have h1 := wrW_heap (f a) w (i * k) cur.toList (by simpa using hgg)
    have h2 := wrL_flatten hk a l i hi []
    simp only [List.nil_append, List.length_nil, Nat.zero_add] at h2
    have hlen : (l.set i a).length = l.length := List.length_set
    refine ⟨by rw [flatten_length hk], .inr ⟨g, _, _, by rw [hlen], hb, h1, by rw [hlen]; exact hc1, hc2, ?_, ?_⟩⟩
    · simp only [List.size_toArray, wrL_length]
      simpa using hc3
    · simp only [hlen]
      rw [wrL_take, htake, h2]
end Go.Proofs.Ytdfgdnaejnngoaa
