import Derived.Test.YtdfgdnaejnngoaaTz
import Derived.Laws.MakeOwn
namespace Go.Proofs.Ytdfgdnaejnngoaa
open Go.RowKit
/-! A region whose ways meet again; rows of tallies. -/
/-- slots, each with its value -/
def putAll : List Tmp → List Value → Act → Act
  | i :: is, v :: vs, a => putAll is vs (a.put (some i) v)
  | _, _, a => a
/-- what a region leaves, its ways taken together: the slots that it fills, and the facts -/
def cutQ (slots : List Tmp) (a : Act) (F : List Value → World → Prop) : Exit → Act → World → Prop := fun e a' w' => match e with
  | .normal => ∃ vs, F vs w' ∧ a' = putAll slots vs a
  | _ => False
theorem region_cut {P : Program} {c : Code} {Q : Exit → Act → World → Prop} {a : Act} {w : World} (slots : List Tmp) (F : List Value → World → Prop) (hreg : c.wp P (cutQ slots a F) a w)
    (hrest : ∀ vs w', F vs w' → Q .normal (putAll slots vs a) w') : c.wp P Q a w :=
  Code.wp_mono (fun e a' w' h => by
    cases e with
    | normal =>
      obtain ⟨vs, h2, rfl⟩ := h
      exact hrest vs w' h2
    | _ => exact h.elim) hreg
abbrev OwnsT := OwnsG tC 25 71
theorem T_info : (Try.prog.info? 71).map (fun i => (i.zero, i.size, i.bytes)) = some (some (.agg #[.int .i64 0, .int .i64 0, .int .i64 0, .int .i64 0, .int .i64 0, .int .i64 0, .int .i64 0, .int .i64 0, .int .i64 0, .int .i64 0, .int .i64 0, .int .i64 0, .int .i64 0, .int .i64 0, .int .i64 0, .int .i64 0, .int .i64 0, .int .i64 0, .int .i64 0, .int .i64 0, .int .i64 0, .int .i64 0, .int .i64 0, .int .i64 0, .int .i64 0]), 25, 200) := by kernel_rfl
theorem tC_one (v : Nat → Int) : ∀ u ∈ tC v, u.oneCell' = true := by
  intro u hu
  simp [tC, nv] at hu
  obtain ⟨i, _, rfl⟩ := hu
  rfl
section
variable {o : Oper} {a : Act} {w : World} {K : Act → World → Prop} {Q : Exit → Act → World → Prop}
theorem oper_empty (N : Option Tmp) (hN : o.dst = N) (ho : o.op = .buildSlice 79 0 #[])
    (h : ∀ g w', w'.heap[g]? = some (.cells #[] 71 (0, 0)) → w.heap.size ≤ g → Fr (fun _ => False) w w' → K (a.put N (.slice (some ⟨g, 0, none⟩) 0 0)) w') : Oper.wp Try.prog o a w K Q := by
  have hr : (Instr.buildSlice 79 0 #[]).run Try.prog w = .ok (.slice (some ⟨w.heap.size, 0, none⟩) 0 0) (w.alloc (.cells #[] 71)) := by kernel_rfl
  refine oper_runTo N hN _ _ ?_ (h _ _ (heap_alloc_new w _) (Nat.le_refl _) ((Fr.refl _ w).alloc _))
  unfold execOp
  simp only [ho, List.map_toArray, List.map_nil, Sem.run_bind, hr, Result.andThen_ok, Sem.run_pure]
theorem oper_two (N : Option Tmp) (hN : o.dst = N) (x y : Operand) (v1 v2 : Nat → Int) (ho : o.op = .buildSlice 79 2 #[(0, x), (1, y)]) (hx : a.eval x = .agg (nv 25 v1)) (hy : a.eval y = .agg (nv 25 v2))
    (h : ∀ g w', Elems w' (some ⟨g, 0, none⟩) 25 ([v1, v2].map tC) → w.heap.size ≤ g → g < w'.heap.size → Fr (fun _ => False) w w' → K (a.put N (.slice (some ⟨g, 0, none⟩) 2 2)) w') : Oper.wp Try.prog o a w K Q := by
  have hr : (Instr.buildSlice 79 2 #[(0, .agg (nv 25 v1)), (1, .agg (nv 25 v2))]).run Try.prog w = .ok (.slice (some ⟨w.heap.size, 0, none⟩) 2 2) (w.alloc (.cells (tC v1 ++ tC v2).toArray 71)) := by kernel_rfl
  refine oper_runTo N hN (.slice (some ⟨w.heap.size, 0, none⟩) 2 2) (w.alloc (.cells (tC v1 ++ tC v2).toArray 71)) ?_ (h _ _ (Elems.of_block (heap_alloc_new w _) (by simp [tC_len]) (by simp)) (Nat.le_refl _) (by simp) ((Fr.refl _ w).alloc _))
  unfold execOp
  simp only [ho, List.map_toArray, List.map_nil, List.map_cons, hx, hy, Sem.run_bind, hr, Result.andThen_ok, Sem.run_pure]
/-- a row of tallies of one's own, and others behind them -/
theorem tl_append (N : Option Tmp) (hN : o.dst = N) (s x : Operand) (ho : o.op = .call { callee := .builtin .append, args := #[s, x], argTypes := #[79, 79] })
    (B : Nat) (v : Value) (l m : List (Nat → Int)) (n : Nat) (ad : Addr) (c : Nat) (hn : m.length = n) (hs : a.eval s = v) (hx : a.eval x = .slice (some ad) n c) (hown : OwnsT w B v l) (hel : ∀ j u, ((m.map tC).flatten)[j]? = some u → w.cell? (ad.add j) = some u) (hl : l.length + m.length ≤ 1000) (hB : B ≤ w.heap.size) (n2 : Nat) (hn2 : (l ++ m).length = n2)
    (h : ∀ A' c' w', OwnsT w' B (.slice A' n2 c') (l ++ m) → Fr (fun k => v.ownBlock = some k) w w' → K (a.put N (.slice A' n2 c')) w') : Oper.wp Try.prog o a w K Q := by
  subst hn hN hn2
  obtain ⟨i0, hi0, hz0, hz1, hz2⟩ := info_parts T_info
  refine wp_append_own w s x 79 ho B 71 i0 _ 25 200 Try.underlying79 hi0 hz0 hz1 hz2 rfl (by decide) v l.length _ hs hown ad m.length c ((m.map tC).flatten) hx (flatten_length tC_len m) hel ?_ ?_ ?_ hB ?_
  · intro u hu
    obtain ⟨r, hr, hu⟩ := List.mem_flatten.1 hu
    obtain ⟨e, _, rfl⟩ := List.mem_map.1 hr
    exact tC_one e u hu
  · unfold maxLen; omega
  · omega
  · intro v' w' h1 h2 _
    have ho : OwnsT w' B v' (l ++ m) := by
      unfold OwnsT OwnsG
      rw [List.map_append, List.flatten_append, List.length_append]
      exact h1
    obtain ⟨A', c', rfl⟩ := ho.slice
    exact h A' c' w' ho ((Fr.refl _ w).grown h2 (fun i hi e => e))
/-- the row that came in, behind an empty one of one's own -/
theorem tl_copy (N : Option Tmp) (hN : o.dst = N) (s x : Operand) (ho : o.op = .call { callee := .builtin .append, args := #[s, x], argTypes := #[79, 79] })
    (B g : Nat) (m : List (Nat → Int)) (A : Option Addr) (c : Nat) (hs : a.eval s = .slice (some ⟨g, 0, none⟩) 0 0) (hx : a.eval x = .slice A m.length c) (hg : w.heap[g]? = some (.cells #[] 71 (0, 0))) (hBg : B ≤ g) (hel : Elems w A 25 (m.map tC)) (hnil : A = none → c = 0) (hl : m.length ≤ 900) (hB : B ≤ w.heap.size)
    (h : ∀ A' c' w', OwnsT w' B (.slice A' m.length c') m → Fr (fun k => g = k) w w' → K (a.put N (.slice A' m.length c')) w') : Oper.wp Try.prog o a w K Q := by
  cases A with
  | some ad =>
    refine tl_append N hN s x ho B _ [] m m.length ad c rfl hs hx (OwnsG.empty hg hBg) ?_ (by simp; omega) hB m.length rfl ?_
    · cases m with
      | nil => intro j u hj; simp at hj
      | cons e m =>
        obtain ⟨b, off, e1, _⟩ := hel 0 (tC e) rfl
        cases e1
        intro j u hj
        rw [Addr.add_mid]
        exact hel.flat (by decide) (fun r hr => by obtain ⟨v, _, rfl⟩ := List.mem_map.1 hr; exact tC_len v) j u hj
    · intro A' c' w' h1 h2
      exact h A' c' w' h1 (h2.mono (fun k _ e => by simpa [Value.ownBlock] using e))
  | none =>
    obtain rfl : m = [] := by
      cases m with
      | nil => rfl
      | cons e m =>
        obtain ⟨b, off, e1, _⟩ := hel 0 (tC e) rfl
        cases e1
    obtain rfl := hnil rfl
    have hr : (Builtin.append_ #[79, 79] o.type #[.slice (some ⟨g, 0, none⟩) 0 0, .slice none 0 0]).run Try.prog w = .ok (.slice (some ⟨g, 0, none⟩) 0 0) w := by
      go_simp
    refine oper_runTo N hN _ w ?_ (h (some ⟨g, 0, none⟩) 0 w (OwnsG.empty hg hBg) (Fr.refl _ _))
    unfold execOp
    simp only [ho, resolve, invoke, builtin, Sem.run_bind, Sem.run_pure, Result.andThen_ok, List.map_toArray, List.map_cons, List.map_nil, hs, hx]
    rw [show ([] : List (Nat → Int)).length = 0 from rfl, hr]
    rfl
end
end Go.Proofs.Ytdfgdnaejnngoaa
