import Derived.Test.YtdfgdnaejnngoaaOrd9
import Derived.OwnWalk
namespace Go.Proofs.Ytdfgdnaejnngoaa
open Go.RowKit

theorem rawR_le (n : Int) (s : ByteArray) (bad : Bool) : (rawR n s bad).2.1.size ≤ s.size ∧ (bad = true → (rawR n s bad).2.2 = true) := by
  unfold rawR
  split
  · exact ⟨Nat.zero_le _, fun _ => rfl⟩
  · rename_i h
    refine ⟨by simp [ByteArray.size_extract], fun hb => absurd (.inl hb) h⟩
theorem rawR_one (s : ByteArray) (bad : Bool) (h : (rawR 1 s bad).2.2 = false) : (rawR 1 s bad).2.1.size + 1 = s.size := by
  unfold rawR at *
  split at h
  · simp at h
  · rename_i hn
    rw [if_neg hn]
    have : 1 ≤ s.size := by
      apply Decidable.byContradiction
      intro h1
      exact hn (.inr (.inr (by omega)))
    simp [ByteArray.size_extract]
    omega
theorem textR_le (most : Int) (s : ByteArray) (bad : Bool) : (textR most s bad).2.1.size ≤ s.size ∧ (bad = true → (textR most s bad).2.2 = true) := by
  unfold textR
  have h1 : (numR 1 s bad).2.1.size ≤ s.size ∧ (bad = true → (numR 1 s bad).2.2 = true) := rawR_le 1 s bad
  generalize numR 1 s bad = r at *
  have h2 := rawR_le (if most < (r.1 : Int) then -1 else (r.1 : Int)) r.2.1 r.2.2
  exact ⟨Nat.le_trans h2.1 h1.1, fun hb => h2.2 (h1.2 hb)⟩
def Dec (rd : Ord → ByteArray → Bool → Ord × ByteArray × Bool) : Prop := ∀ o s bad, (rd o s bad).2.1.size ≤ s.size ∧ (bad = true → (rd o s bad).2.2 = true)
theorem rdKey_dec : Dec rdKey := fun _ s bad => textR_le 255 s bad
theorem rdVal_dec : Dec rdVal := fun _ s bad => textR_le 255 s bad
theorem rdLo_dec : Dec rdLo := fun _ s bad => textR_le 255 s bad
theorem rdHi_dec : Dec rdHi := fun _ s bad => textR_le 255 s bad
theorem rdN_dec : Dec rdN := fun _ s bad => rawR_le 8 s bad
theorem rdFs_dec (k : Int) : ∀ rd ∈ rdFs k, Dec rd := by
  intro rd h
  unfold rdFs at h
  repeat' split at h
  all_goals simp at h
  all_goals first
    | (rcases h with rfl | rfl <;> first | exact rdKey_dec | exact rdVal_dec | exact rdN_dec | exact rdLo_dec | exact rdHi_dec)
    | (subst h; exact rdKey_dec)
theorem readFold_dec (rds : List (Ord → ByteArray → Bool → Ord × ByteArray × Bool)) : (∀ rd ∈ rds, Dec rd) → ∀ x, (readFold rds x).2.1.size ≤ x.2.1.size ∧ (x.2.2 = true → (readFold rds x).2.2 = true) := by
  unfold readFold
  induction rds with
  | nil => intro _ x; exact ⟨Nat.le_refl _, id⟩
  | cons rd l ih =>
    intro h x
    have h1 := h rd (by simp) x.1 x.2.1 x.2.2
    have h2 := ih (fun r hr => h r (by simp [hr])) (rd x.1 x.2.1 x.2.2)
    rw [List.foldl_cons]
    exact ⟨Nat.le_trans h2.1 h1.1, fun hb => h2.2 (h1.2 hb)⟩
theorem readIs_less {s : ByteArray} {bad : Bool} (h : readIs s bad = true) : (readR s bad).2.1.size < s.size := by
  have hg := readIs_good h
  unfold readR at *
  have hd := readFold_dec (rdFs (numR 1 s bad).1) (rdFs_dec _) (ord0 (numR 1 s bad).1, (numR 1 s bad).2.1, (numR 1 s bad).2.2)
  have h2 : (readFold (rdFs (numR 1 s bad).1) (ord0 (numR 1 s bad).1, (numR 1 s bad).2.1, (numR 1 s bad).2.2)).2.1.size ≤ (numR 1 s bad).2.1.size := hd.1
  by_cases hb : (numR 1 s bad).2.2 = true
  · have := hd.2 hb
    rw [this] at hg
    cases hg
  · have h1 : (numR 1 s bad).2.1.size + 1 = s.size := rawR_one s bad (Bool.eq_false_iff.2 hb)
    omega

/-- order.All: all of them; none: one of them is no order -/
def allF : Nat → ByteArray → List Ord → Option (List Ord)
  | 0, _, acc => some acc
  | n + 1, s, acc => if s.size = 0 then some acc else if readIs s false = true then allF n (readR s false).2.1 (acc ++ [(readR s false).1]) else none
theorem allF_end (n : Nat) (s : ByteArray) (acc : List Ord) (h : s.size = 0) : allF n s acc = some acc := by
  cases n
  · rfl
  · rw [allF, if_pos h]
theorem allF_fuel : ∀ (n m : Nat) (s : ByteArray) (acc : List Ord), s.size ≤ n → s.size ≤ m → allF n s acc = allF m s acc := by
  intro n
  induction n with
  | zero => intro m s acc h _; rw [allF_end 0 s acc (by omega), allF_end m s acc (by omega)]
  | succ n ih =>
    intro m s acc h1 h2
    by_cases h0 : s.size = 0
    · rw [allF_end _ s acc h0, allF_end m s acc h0]
    · cases m with
      | zero => omega
      | succ m =>
        rw [allF, allF, if_neg h0, if_neg h0]
        by_cases hr : readIs s false = true
        · rw [if_pos hr, if_pos hr]
          have := readIs_less hr
          exact ih m _ _ (by omega) (by omega)
        · rw [if_neg hr, if_neg hr]
theorem allF_step {s : ByteArray} (acc : List Ord) (hr : readIs s false = true) : allF (readR s false).2.1.size (readR s false).2.1 (acc ++ [(readR s false).1]) = allF s.size s acc := by
  have hl := readIs_less hr
  obtain ⟨m, hm⟩ : ∃ m, s.size = m + 1 := ⟨s.size - 1, by omega⟩
  rw [hm, allF, if_neg (by omega), if_pos hr]
  exact allF_fuel _ _ _ _ (Nat.le_refl _) (by omega)
theorem allF_stop {s : ByteArray} (acc : List Ord) (h0 : 0 < s.size) (hr : readIs s false = false) : allF s.size s acc = none := by
  obtain ⟨m, hm⟩ : ∃ m, s.size = m + 1 := ⟨s.size - 1, by omega⟩
  rw [hm, allF, if_neg (by omega), if_neg (by simp [hr])]
def allL (s : ByteArray) : Option (List Ord) := allF s.size s []
def allA (s : ByteArray) : List Ord × Int := ((allL s).elim ([], 5) (fun l => if 400 < l.length then ([], 8) else (l, 0)))
theorem allA_none {s : ByteArray} (h : allL s = none) : allA s = ([], 5) := by unfold allA; rw [h]; rfl
theorem allA_many {s : ByteArray} {l : List Ord} (h : allL s = some l) (hl : 400 < l.length) : allA s = ([], 8) := by unfold allA; rw [h]; exact if_pos hl
theorem allA_some {s : ByteArray} {l : List Ord} (h : allL s = some l) (hl : ¬ 400 < l.length) : allA s = (l, 0) := by unfold allA; rw [h]; exact if_neg hl

theorem A_info : (Try.prog.info? 24).map (fun i => (i.zero, i.size, i.bytes)) = some (some (.agg #[.int .i64 0, .string ⟨#[]⟩, .string ⟨#[]⟩, .int .u64 0, .string ⟨#[]⟩, .string ⟨#[]⟩]), 6, 80) := by kernel_rfl

/-- rows of orders that a call hands back -/
def Owns (e : TypeId) (w' : World) (B : Nat) (v : Value) (l : List Ord) : Prop := w'.ownsRow B e 6 v l.length (l.map Ord.cells).flatten

theorem flatten_snoc (l : List Ord) (o : Ord) : ((l ++ [o]).map Ord.cells).flatten = (l.map Ord.cells).flatten ++ o.cells := by simp
theorem Owns.fr {S : Nat → Prop} {e : TypeId} {w w' : World} {B : Nat} {v : Value} {l : List Ord} (h : Owns e w B v l) (hf : Fr S w w') (hs : ∀ k, B ≤ k → ¬ S k) : Owns e w' B v l := by
  refine ⟨h.1, ?_⟩
  rcases h.2 with hn | ⟨g, cap, cur, rfl, hb, hgg, rest⟩
  · exact .inl hn
  · exact .inr ⟨g, cap, cur, rfl, hb, (hf.block g (Array.getElem?_eq_some_iff.1 hgg).1 (hs g hb)).trans hgg, rest⟩
theorem Owns.alloc {e : TypeId} {w : World} {B : Nat} {v : Value} {l : List Ord} (h : Owns e w B v l) (o : Obj) : Owns e (w.alloc o) B v l := h.fr ((Fr.refl (fun _ => False) w).alloc o) (fun _ _ h => h)
theorem Owns.nil {e : TypeId} (w : World) (B : Nat) : Owns e w B (.slice none 0 0) [] := World.ownsRow_nil _ _ _ _
theorem Owns.slice {e : TypeId} {w : World} {B : Nat} {v : Value} {l : List Ord} (h : Owns e w B v l) : ∃ A cap, v = .slice A l.length cap := by
  rcases h.2 with ⟨rfl, hn⟩ | ⟨g, cap, cur, rfl, _⟩
  · exact ⟨none, 0, by rw [hn]⟩
  · exact ⟨_, _, rfl⟩
theorem Owns.base {e : TypeId} {w : World} {B B' : Nat} {v : Value} {l : List Ord} (h : Owns e w B v l) (hB : B' ≤ B) : Owns e w B' v l := by
  refine ⟨h.1, ?_⟩
  rcases h.2 with hn | ⟨g, cap, cur, rfl, hb, rest⟩
  · exact .inl hn
  · exact .inr ⟨g, cap, cur, rfl, Nat.le_trans hB hb, rest⟩
theorem Owns.elems {e : TypeId} {w : World} {B : Nat} {A : Option Addr} {n cap : Nat} {l : List Ord} (h : Owns e w B (.slice A n cap) l) : Elems w A 6 (l.map Ord.cells) := by
  rcases h.2 with ⟨he, hn⟩ | ⟨g, cap', cur, he, _, hgg, _, _, _, htake⟩
  · have : l = [] := List.eq_nil_of_length_eq_zero hn
    subst this
    exact Elems.nil _ _ _
  · cases he
    intro i r hr
    refine ⟨g, 0, rfl, (Array.getElem?_eq_some_iff.1 hgg).1, fun j u hu => ?_⟩
    have h6 : ∀ r ∈ l.map Ord.cells, r.length = 6 := fun r hr => by
      obtain ⟨o, _, rfl⟩ := List.mem_map.1 hr
      rfl
    have hf := flatten_at h6 i r hr j u hu
    rw [Lib.cell_of_heap hgg]
    rw [← htake, List.getElem?_take] at hf
    split at hf
    · simpa using hf
    · cases hf

def leftAt (w : World) (b : Nat) : Nat := match w.heap[b]? with
  | some (.cells cs _ _) => match (cs[0]? : Option Value) with
    | some (.string t) => t.size
    | _ => 0
  | _ => 0
theorem leftAt_eq {w : World} {b : Nat} {s : ByteArray} {bad : Bool} (h : InAt w b s bad) : leftAt w b = s.size := by unfold leftAt; rw [h]; rfl

theorem ord_new_at (w : World) (o : Ord) (n : Nat) (h : w.heap.size = n) : ∀ (j : Nat) (u : Value), o.cells[j]? = some u → (w.alloc (.cells #[.int .i64 o.kind, .string o.key, .string o.val, .int .u64 o.n, .string o.lo, .string o.hi] 24)).cell? ((⟨n, 0, none⟩ : Addr).add j) = some u := by
  intro j u hj
  have hh := heap_new_at (o := .cells #[.int .i64 o.kind, .string o.key, .string o.val, .int .u64 o.n, .string o.lo, .string o.hi] 24) h
  have ha : (⟨n, 0, none⟩ : Addr).add j = ⟨n, j, none⟩ := by unfold Addr.add; split <;> simp_all
  rw [ha, Lib.cell_of_heap hh]
  rw [Ord.cells] at hj
  rw [← hj]
  simp
theorem ord_one (o : Ord) : ∀ u ∈ o.cells, u.oneCell' = true := by
  intro u hu
  simp [Ord.cells] at hu
  rcases hu with rfl | rfl | rfl | rfl | rfl | rfl <;> rfl
end Go.Proofs.Ytdfgdnaejnngoaa
