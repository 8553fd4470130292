import Derived.OrdersHeld
import Derived.RowKit
import Derived.Below
namespace Go.Proofs.Ytdfgdnaejnngoaa
open Go.RowKit
/-! A region that draws its order, operation by operation, over the library's 'wpAnyH' (Derived/OrdersHeld.lean): what reads or reckons is taken first, what is guarded away is passed over, what calls or makes memory is run alone. -/
section
variable {P : Program} {ops : Array Oper} {Q : Exit → Act → World → Prop} {S : World → Prop}

theorem rg_start {id n : Nat} {a : Act} {w : World} (S : World → Prop) (l : Array Bool) (hm : P.follows .mixedOrders = true) (hn : ops.size = n) (hl : Array.replicate n false = l) (hS : S w.drew)
    (h : S w.drew → wpAnyH P .any ops Q S n l a w.drew) : (Code.region id ops true).wp P Q a w := by
  subst hn
  subst hl
  exact wp_region_held hm (h hS)

def rgChk (ops : Array Oper) (l l' : Array Bool) (i : Nat) : Bool :=
  Region.noSelect ops && Region.free .any ops l i && (Region.ready .any ops l).contains i && (l.setIfInBounds i true == l')

theorem rg_yield {i : Nat} {N : Option Tmp} {oi : Oper} {v : Value} {fuel : Nat} {l : Array Bool} {a a' : Act} {w : World} (l' : Array Bool) (hi : ops[i]? = some oi) (hN : oi.dst = N) (hc : rgChk ops l l' i = true)
    (hQ : ∀ c a w, Q (.panic c) (a.put oi.dst v) w → Q (.panic c) a w) (hy : YieldsIf P ops S oi v a) (hS : S w) (ha : a.put N v = a')
    (h : wpAnyH P .any ops Q S fuel l' a' w) : wpAnyH P .any ops Q S (fuel + 1) l a w := by
  subst ha
  subst hN
  simp only [rgChk, Bool.and_eq_true, beq_iff_eq] at hc
  obtain ⟨⟨⟨h1, h2⟩, h3⟩, h6⟩ := hc
  subst h6
  exact wpAnyH_take hi h1 h2 h3 hQ hy hS h

/-- what reads or reckons, taken first -/
theorem rg_take {i : Nat} {N : Option Tmp} {oi : Oper} {v : Value} {fuel : Nat} {l : Array Bool} {a a' : Act} {w : World} (l' : Array Bool) (hi : ops[i]? = some oi) (hN : oi.dst = N) (hc : rgChk ops l l' i = true)
    (hQ : ∀ c a w, Q (.panic c) (a.put oi.dst v) w → Q (.panic c) a w) (hw : Region.wanted oi (yielded ops a.tmps) = true) (hrun : ∀ w, S w → (execOp a.eval oi).run P w = .ok (.value v) w) (hS : S w) (ha : a.put N v = a')
    (h : wpAnyH P .any ops Q S fuel l' a' w) : wpAnyH P .any ops Q S (fuel + 1) l a w := rg_yield l' hi hN hc hQ (Or.inl ⟨hw, hrun⟩) hS ha h

/-- what is guarded away -/
theorem rg_skip {i : Nat} {N : Option Tmp} {oi : Oper} {fuel : Nat} {l : Array Bool} {a a' : Act} {w : World} (l' : Array Bool) (hi : ops[i]? = some oi) (hN : oi.dst = N) (hc : rgChk ops l l' i = true)
    (hQ : ∀ c a w, Q (.panic c) (a.put oi.dst undef) w → Q (.panic c) a w) (hw : Region.wanted oi (yielded ops a.tmps) = false) (hS : S w) (ha : a.put N undef = a')
    (h : wpAnyH P .any ops Q S fuel l' a' w) : wpAnyH P .any ops Q S (fuel + 1) l a w := rg_yield l' hi hN hc hQ (Or.inr ⟨hw, rfl⟩) hS ha h

theorem rg_step {i : Nat} {o : Oper} {K : Act → World → Prop} {a : Act} {w : World} (ho : ops[i]? = some o) (hw : Region.wanted o (yielded ops a.tmps) = true)
    (h : ∀ K' : Act → World → Prop, (∀ a w, K a w → K' a w) → Oper.wp P o a w K' Q) : wpOp P ops Q i K a w := by
  unfold wpOp
  simp only [ho, hw, if_true]
  exact .inl (h K fun _ _ h => h)

/-- one operation alone may come up: it is run, S is shown behind it -/
theorem rg_one {i : Nat} {oi : Oper} {fuel : Nat} {l : Array Bool} {a : Act} {w : World} (l' : Array Bool) (hi : ops[i]? = some oi) (hc : (Region.ready .any ops l == [i] && l.setIfInBounds i true == l') = true)
    (hw : Region.wanted oi (yielded ops a.tmps) = true)
    (h : ∀ K : Act → World → Prop, Hid (∀ a' w', S w' → (S w' → wpAnyH P .any ops Q S fuel l' a' w') → K a' w') → Oper.wp P oi a w K Q) :
    wpAnyH P .any ops Q S (fuel + 1) l a w := by
  simp only [Bool.and_eq_true, beq_iff_eq] at hc
  obtain ⟨h1, h2⟩ := hc
  subst h2
  refine wpAnyH_all h1 (by simp) fun j hj => ?_
  rw [List.mem_singleton] at hj
  subst hj
  exact rg_step hi hw fun K' hK => h K' fun a' w' hs hx => hK a' w' ⟨hs, hx hs⟩

/-- two may come up: both ways -/
theorem rg_two {i j : Nat} {oi oj : Oper} {fuel : Nat} {l : Array Bool} {a : Act} {w : World} (li lj : Array Bool) (hi : ops[i]? = some oi) (hj : ops[j]? = some oj)
    (hc : (Region.ready .any ops l == [i, j] && l.setIfInBounds i true == li && l.setIfInBounds j true == lj) = true)
    (hwi : Region.wanted oi (yielded ops a.tmps) = true) (hwj : Region.wanted oj (yielded ops a.tmps) = true)
    (h1 : ∀ K : Act → World → Prop, Hid (∀ a' w', S w' → (S w' → wpAnyH P .any ops Q S fuel li a' w') → K a' w') → Oper.wp P oi a w K Q)
    (h2 : ∀ K : Act → World → Prop, Hid (∀ a' w', S w' → (S w' → wpAnyH P .any ops Q S fuel lj a' w') → K a' w') → Oper.wp P oj a w K Q) :
    wpAnyH P .any ops Q S (fuel + 1) l a w := by
  simp only [Bool.and_eq_true, beq_iff_eq] at hc
  obtain ⟨⟨h0, e1⟩, e2⟩ := hc
  subst e1
  subst e2
  refine wpAnyH_all h0 (by simp) fun k hk => ?_
  simp only [List.mem_cons, List.not_mem_nil, or_false] at hk
  rcases hk with rfl | rfl
  · exact rg_step hi hwi fun K' hK => h1 K' fun a' w' hs hx => hK a' w' ⟨hs, hx hs⟩
  · exact rg_step hj hwj fun K' hK => h2 K' fun a' w' hs hx => hK a' w' ⟨hs, hx hs⟩

theorem rg_done {l : Array Bool} {a : Act} {w : World} {n : Nat} (hr : (Region.ready .any ops l == []) = true) (h : Q .normal a w) : wpAnyH P .any ops Q S n l a w := wpAnyH_done (by simpa using hr) h n

theorem rg_norm {fuel : Nat} {l : Array Bool} {a a' : Act} {w : World} (ha : a = a') (h : wpAnyH P .any ops Q S fuel l a' w) : wpAnyH P .any ops Q S fuel l a w := by
  subst ha
  exact h
end
end Go.Proofs.Ytdfgdnaejnngoaa
