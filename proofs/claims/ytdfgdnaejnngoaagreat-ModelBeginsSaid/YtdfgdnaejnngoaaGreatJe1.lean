import Derived.Test.YtdfgdnaejnngoaaGreatJc12
import Derived.Test.YtdfgdnaejnngoaaGreatJc11
import Derived.Test.YtdfgdnaejnngoaaGreatJc10
set_option linter.unusedVariables false
set_option linter.unusedSimpArgs false
namespace Go.Proofs.YtdfgdnaejnngoaaGreat
open Go.RowKit
/-! ModelBegins: the plain law. -/
def kb (i : Nat) : ByteArray := ⟨#[UInt8.ofNat (i + 1)]⟩
def bi (i : Nat) : Itm := ⟨kb i, ⟨#[]⟩⟩
def allL (n : Nat) : List Itm := (List.range n).map bi
theorem allL_succ (n : Nat) : allL (n + 1) = allL n ++ [bi n] := by unfold allL; rw [List.range_succ, List.map_append]; rfl
theorem allL_len (n : Nat) : (allL n).length = n := by unfold allL; simp
theorem allL_get {n i : Nat} (h : i < n) : (allL n)[i]? = some (bi i) := by unfold allL; simp [h]
theorem allL_mem {n : Nat} {x : Itm} (h : x ∈ allL n) : ∃ i, i < n ∧ x = bi i := by
  unfold allL at h
  obtain ⟨i, hi, rfl⟩ := List.mem_map.1 h
  exact ⟨i, List.mem_range.1 hi, rfl⟩
theorem u8_toNat {i : Nat} (h : i < 60) : (UInt8.ofNat (i + 1)).toNat = i + 1 := by
  rw [UInt8.toNat_ofNat']
  exact Nat.mod_eq_of_lt (by omega)
theorem klt_kb {i j : Nat} (hi : i < 60) (hj : j < 60) : klt (kb i) (kb j) = decide (i < j) := by
  rw [klt_data]
  show Op.bytesLess [UInt8.ofNat (i + 1)] [UInt8.ofNat (j + 1)] = _
  have h1 := u8_toNat hi
  have h2 := u8_toNat hj
  unfold Op.bytesLess
  simp only [UInt8.lt_iff_toNat_lt, h1, h2]
  by_cases h : i < j
  · simp [h]
  · have h0 : Op.bytesLess [] [] = false := rfl
    simp [h, h0]
theorem kb_inj {i j : Nat} (hi : i < 60) (hj : j < 60) (h : kb i = kb j) : i = j := by
  have h1 := klt_kb hi hj
  have h2 := klt_kb hj hi
  rw [h, klt_irrefl] at h1
  rw [h, klt_irrefl] at h2
  have := of_decide_eq_false h1.symm
  have := of_decide_eq_false h2.symm
  omega
theorem bi_ok (i : Nat) : (bi i).ok := ⟨rfl, rfl⟩
theorem rises_get {l : List Itm} (h : ∀ (i j : Nat) (x y : Itm), i < j → l[i]? = some x → l[j]? = some y → klt x.key y.key = true) : Rises l := by
  induction l with
  | nil => trivial
  | cons x l ih =>
    refine ⟨fun y hy => ?_, ih fun i j a b hij ha hb => h (i + 1) (j + 1) a b (by omega) (by simpa using ha) (by simpa using hb)⟩
    obtain ⟨j, hj⟩ := List.getElem?_of_mem hy
    exact h 0 (j + 1) x y (by omega) rfl (by simpa using hj)
theorem rises_allL {n : Nat} (hn : n ≤ 60) : Rises (allL n) := by
  refine rises_get fun i j x y hij hx hy => ?_
  have hj := (List.getElem?_eq_some_iff.1 hy).1
  rw [allL_len] at hj
  rw [allL_get (by omega)] at hx
  rw [allL_get hj] at hy
  cases hx
  cases hy
  exact (klt_kb (by omega) (by omega)).trans (decide_eq_true hij)
theorem ok_allL (n : Nat) : ∀ x ∈ allL n, x.ok := fun x hx => by
  obtain ⟨i, _, rfl⟩ := allL_mem hx
  exact bi_ok i
theorem rises_subl : ∀ {l m : List Itm}, l.Sublist m → Rises m → Rises l
  | _, _, .slnil, _ => trivial
  | _, _, .cons _ h, hm => rises_subl h hm.2
  | _, _, .cons_cons _ h, hm => ⟨fun y hy => hm.1 y (h.subset hy), rises_subl h hm.2⟩
theorem ins_end (k v : ByteArray) : ∀ (l : List Itm), (∀ x ∈ l, klt x.key k = true) → insR k v l = l ++ [⟨k, v⟩]
  | [], _ => rfl
  | x :: l, h => by
    rw [insR, if_pos (h x (by simp)), ins_end k v l (fun y hy => h y (by simp [hy]))]
    rfl
theorem do_all {n : Nat} (hn : n < 60) : doL (allL n) ⟨1, kb n, ⟨#[]⟩⟩ = allL (n + 1) := by
  have hm : isMsg ⟨1, kb n, ⟨#[]⟩⟩ = true := rfl
  unfold doL
  rw [applyO_put hm rfl]
  show insR (kb n) ⟨#[]⟩ (allL n) = _
  rw [ins_end, allL_succ]
  · rfl
  · intro x hx
    obtain ⟨i, hi, rfl⟩ := allL_mem hx
    exact (klt_kb (by omega) hn).trans (decide_eq_true hi)
theorem sumW_all (n : Nat) : sumW (allL n) = 3 * n := by
  induction n with
  | zero => rfl
  | succ n ih =>
    rw [allL_succ, sumW_append, ih]
    show 3 * (n : Int) + (itW (bi n) + 0) = _
    have : itW (bi n) = 3 := rfl
    rw [this]
    omega
def putB (n : Nat) : Ord := ⟨1, kb n, ⟨#[]⟩, 0, ⟨#[]⟩, ⟨#[]⟩⟩
theorem isOrd_put (n : Nat) : isOrd (putB n) = true := by
  have h : tooLong (putB n) = false := rfl
  unfold isOrd
  rw [h]
  have h2 : bareOf (putB n) = putB n := rfl
  rw [h2]
  simp
  rfl
/-- the rows after k Puts, of which s are safe -/
def rowsB (s k : Nat) : List (List Itm) := (List.range (k - s + 1)).map (fun j => allL (s + j))
theorem rowsB_len (s k : Nat) : (rowsB s k).length = k - s + 1 := by unfold rowsB; simp
theorem rowsB_last {s k : Nat} (h : s ≤ k) : (rowsB s k)[(rowsB s k).length - 1]? = some (allL k) := by
  rw [rowsB_len]
  unfold rowsB
  rw [List.getElem?_map, List.getElem?_range (by omega)]
  simp
  congr 1
  omega
theorem err_put {c : Int} {n : Nat} (hn : n < 60) (hc : 180 ≤ c) : errO c (allL n) (putB n) = 0 := by
  refine errO_mk (m := ⟨1, kb n, ⟨#[]⟩⟩) (isOrd_put n) rfl rfl (fun h => by cases h) ?_
  rw [do_all hn, sumW_all]
  omega
theorem rows_put {c : Int} {s n : Nat} (hn : n < 60) (hc : 180 ≤ c) (hs : s ≤ n) : rowsO c (rowsB s n) (allL n) (putB n) = rowsB s (n + 1) := by
  have he := err_put hn hc
  have hm : msgO (putB n) = some ⟨1, kb n, ⟨#[]⟩⟩ := rfl
  have hE : errU c (allL n) ⟨1, kb n, ⟨#[]⟩⟩ = 0 := by
    unfold errO at he
    rw [if_pos (isOrd_put n), hm] at he
    exact he
  have ha : addsU c (allL n) ⟨1, kb n, ⟨#[]⟩⟩ = true := by unfold addsU; rw [hE]; rfl
  unfold rowsO
  rw [if_pos (isOrd_put n), hm]
  dsimp only
  unfold rowsU
  rw [if_pos ha, do_all hn]
  unfold rowsB
  rw [show n + 1 - s + 1 = (n - s + 1) + 1 by omega, List.range_succ (n := n - s + 1), List.map_append]
  simp
  congr 1
  omega
def syncO : Ord := ⟨6, ⟨#[]⟩, ⟨#[]⟩, 0, ⟨#[]⟩, ⟨#[]⟩⟩
theorem rows_sync (c : Int) (ls : List (List Itm)) (n : Nat) : rowsO c ls (allL n) syncO = rowsB n n := by
  have h1 : rowsO c ls (allL n) syncO = [allL n] := by
    unfold rowsO
    rw [if_pos (show isOrd syncO = true by kernel_rfl)]
    rfl
  rw [h1]
  unfold rowsB
  simp
theorem mem_rowsB {s N n : Nat} (hs : s ≤ N) (hn : n ≤ N) : allL n ∈ rowsB s N ↔ s ≤ n := by
  constructor
  · intro h
    unfold rowsB at h
    obtain ⟨j, _, e⟩ := List.mem_map.1 h
    have := congrArg List.length e
    rw [allL_len, allL_len] at this
    omega
  · intro h
    unfold rowsB
    exact List.mem_map.2 ⟨n - s, List.mem_range.2 (by omega), by congr 1; omega⟩
theorem lostB_rises {ls : List (List Itm)} {zs : List Itm} (hr : Rises zs) (ho : ∀ x ∈ zs, x.ok) : lostB ls zs = decide (zs ∈ ls) := by
  have hbad : zs.any badI = false := by
    rw [List.any_eq_false]
    intro x hx
    obtain ⟨h1, h2⟩ := ho x hx
    simp [badI, h1, h2]
  have he : errL zs = 0 := by
    unfold errL
    rw [if_neg (by rw [hbad]; decide), if_pos (rises_nodup hr)]
  unfold lostB
  rw [decide_eq_true he, iso_self hr, Bool.true_and]
theorem lost_all {s N n : Nat} (hN : N ≤ 60) (hs : s ≤ N) (hn : n ≤ N) : lostB (rowsB s N) (allL n) = decide (s ≤ n) := by
  rw [lostB_rises (rises_allL (by omega)) (ok_allL n)]
  exact decide_eq_decide.2 (mem_rowsB hs hn)
theorem lost_gap {s N n at_ : Nat} (hN : N ≤ 60) (hn : n ≤ N) (ha : at_ + 1 < n) : lostB (rowsB s N) ((allL n).eraseIdx at_) = false := by
  have hsub := List.eraseIdx_sublist (allL n) at_
  rw [lostB_rises (rises_subl hsub (rises_allL (by omega))) (fun x hx => ok_allL n x (hsub.subset hx))]
  refine decide_eq_false (fun h => ?_)
  unfold rowsB at h
  obtain ⟨j, _, e⟩ := List.mem_map.1 h
  have h1 := congrArg List.length e
  rw [allL_len, List.length_eraseIdx, allL_len, if_pos (by omega)] at h1
  have h2 := congrArg (fun l : List Itm => l[at_]?) e
  rw [allL_get (by omega), List.getElem?_eraseIdx_of_ge (Nat.le_refl _), allL_get (by omega)] at h2
  simp only [Option.some.injEq] at h2
  have := kb_inj (by omega) (by omega) (congrArg Itm.key h2)
  omega
end Go.Proofs.YtdfgdnaejnngoaaGreat
namespace Go.Proofs.YtdfgdnaejnngoaaGreat
open Go.RowKit
/-! ModelBegins: the row of all that was put, beside the model. -/
theorem zs0_mem {m : Nat} : ∀ {u : Value}, u ∈ zs0 m → u = .string ⟨#[]⟩ := by
  intro u hu
  have hc : (Value.agg #[.string ⟨#[]⟩, .string ⟨#[]⟩]).cells = #[.string ⟨#[]⟩, .string ⟨#[]⟩] := by kernel_rfl
  unfold zs0 Builtin.zeroCells at hu
  rw [hc] at hu
  simp only [Array.toList_map, List.mem_map] at hu
  obtain ⟨i, _, rfl⟩ := hu
  have h2 : i % 2 = 0 ∨ i % 2 = 1 := by omega
  show (#[Value.string ⟨#[]⟩, .string ⟨#[]⟩] : Array Value)[i % 2]! = .string ⟨#[]⟩
  rcases h2 with h | h <;> rw [h] <;> rfl
/-- the first n items in block q; what lies behind them is no key -/
def AllAt (w : World) (q cap n : Nat) : Prop := ∃ cur : List Value, w.heap[q]? = some (.cells cur.toArray 41 (0, 0)) ∧ cur.length = cap * 2 ∧ n ≤ cap ∧ cap ≤ maxLen ∧ (∀ i, i < n → cur[2 * i]? = some (.string (kb i)) ∧ cur[2 * i + 1]? = some (.string ⟨#[]⟩)) ∧ ∀ (c : Nat) (u : Value), 2 * n ≤ c + 1 → cur[c]? = some u → u = .string ⟨#[]⟩
theorem AllAt.lt {w : World} {q cap n : Nat} (h : AllAt w q cap n) : q < w.heap.size := by
  obtain ⟨cur, h1, _⟩ := h
  exact lt_of_row h1
theorem AllAt.below {w w' : World} {q cap n : Nat} (h : AllAt w q cap n) (hb : Below w.heap.size w w') : AllAt w' q cap n := by
  obtain ⟨cur, h1, h2⟩ := h
  exact ⟨cur, box_below h1 hb, h2⟩
theorem AllAt.keep {w w' : World} {q cap n bm g : Nat} {N : Int} {ls : List (List Itm)} (h : AllAt w q cap n) (hm : ModelAt w bm g N ls) (hf : Fr (fun k => k = bm ∨ k = g) w w') : AllAt w' q cap n := by
  obtain ⟨cur, h1, h2⟩ := h
  exact ⟨cur, model_keeps hm h1 (by decide) (by decide) hf, h2⟩
theorem AllAt.le {w : World} {q cap n : Nat} (h : AllAt w q cap n) : n ≤ cap ∧ cap ≤ maxLen := by
  obtain ⟨cur, _, _, h1, h2, _⟩ := h
  exact ⟨h1, h2⟩
theorem AllAt.elems {w : World} {q cap n m : Nat} (h : AllAt w q cap n) (hm : m ≤ n) : Elems w (some ⟨q, 0, none⟩) 2 ((allL m).map Itm.cells) := by
  intro i r hr
  have hq := h.lt
  obtain ⟨cur, h1, _, _, _, h5, _⟩ := h
  rw [List.getElem?_map, Option.map_eq_some_iff] at hr
  obtain ⟨x, hx, rfl⟩ := hr
  have hi := (List.getElem?_eq_some_iff.1 hx).1
  rw [allL_len] at hi
  rw [allL_get hi] at hx
  cases hx
  obtain ⟨c0, c1⟩ := h5 i (by omega)
  refine ⟨q, 0, rfl, hq, fun j u hu => ?_⟩
  rw [Lib.cell_of_heap h1]
  rcases j with _ | _ | j
  · simp only [List.getElem?_toArray]
    rw [show 0 + i * 2 + 0 = 2 * i by omega, c0, ← hu]
    rfl
  · simp only [List.getElem?_toArray]
    rw [show 0 + i * 2 + (0 + 1) = 2 * i + 1 by omega, c1, ← hu]
    rfl
  · simp [Itm.cells] at hu
/-- a model, where no key of its items is turned -/
theorem model_apart {w w' : World} {bm g q n : Nat} {N : Int} {ls : List (List Itm)} {cur : List Value} (h : ModelAt w bm g N ls) (hq : w.heap[q]? = some (.cells cur.toArray 41 (0, 0))) (hz : ∀ (c : Nat) (u : Value), 2 * n ≤ c + 1 → cur[c]? = some u → u = .string ⟨#[]⟩)
    (hf : Fr (fun k => k = q) w w') (hc : ∀ (c : Nat) (u : Value), c < 2 * n → w.cell? ⟨q, c, none⟩ = some u → w'.cell? ⟨q, c, none⟩ = some u) : ModelAt w' bm g N ls := by
  obtain ⟨off, m, cap, ps, hrow, hra, hps, hlv⟩ := h.row
  obtain ⟨cur2, hgr, hfit, hcur⟩ := hra.blk
  refine ⟨⟨off, m, cap, ps, hf.row (kinds_ne hrow hq (by decide)) hrow, hra.fr hf (kinds_ne hgr hq (by decide)), hps, fun j p l hp hl => ?_⟩, h.pos⟩
  obtain ⟨A, c, hla, hap⟩ := hlv j p l hp hl
  refine ⟨A, c, ⟨hf.row (kinds_ne hla.cell hq (by decide)) hla.cell, fun i r hr => ?_, hla.rises, hla.oks, hla.nil⟩, hap⟩
  obtain ⟨b, o, e, hlt, hcl⟩ := hla.els i r hr
  refine ⟨b, o, e, Nat.lt_of_lt_of_le hlt hf.size, fun jj u hu => ?_⟩
  have hold := hcl jj u hu
  by_cases hb : b = q
  · subst hb
    by_cases hlt2 : o + i * 2 + jj < 2 * n
    · exact hc _ _ hlt2 hold
    · exfalso
      rw [List.getElem?_map, Option.map_eq_some_iff] at hr
      obtain ⟨x, hx, rfl⟩ := hr
      have hk := hcl 0 _ rfl
      have hjj : jj < 2 := by
        have := (List.getElem?_eq_some_iff.1 hu).1
        simpa [Itm.cells] using this
      rw [Lib.cell_of_heap hq] at hk
      simp only [List.getElem?_toArray] at hk
      have h0 := hz _ _ (by omega) hk
      simp only [Value.string.injEq] at h0
      have ho := (hla.oks x (List.mem_of_getElem? hx)).1
      rw [h0] at ho
      exact absurd ho (by decide)
  · exact hf.cell hlt hb hold
set_option maxHeartbeats 1000000 in
theorem all_append {ops : Array Oper} {rest : List Oper} {o : Oper} {a : Act} {w : World} {Q : Exit → Act → World → Prop} (hgd : o.guard = none) (N : Option Tmp) (hN : o.dst = N) (s x : Operand) (ho : o.op = .call { callee := .builtin .append, args := #[s, x], argTypes := #[29, 29] })
    (q cap vb c n : Nat) (hs : a.eval s = .slice (some ⟨q, 0, none⟩) n cap) (hx : a.eval x = .slice (some ⟨vb, 0, none⟩) 1 c) (hA : AllAt w q cap n) (hy : w.heap[vb]? = some (.cells #[.string (kb n), .string ⟨#[]⟩] 41 (0, 0))) (hn : n ≤ 1000)
    (h : ∀ q' cap' w', AllAt w' q' cap' (n + 1) → (q' = q ∨ w.heap.size ≤ q') → (∀ bm g N ls, ModelAt w bm g N ls → ModelAt w' bm g N ls) → Fr (fun k => k = q) w w' → wpList Tryz.prog ops Q rest (a.put N (.slice (some ⟨q', 0, none⟩) (n + 1) cap')) w') : wpList Tryz.prog ops Q (o :: rest) a w := by
  subst hN
  obtain ⟨i0, hi0, hz0, hz1, hz2⟩ := info_parts M_info
  obtain ⟨cur, hg, hlen, hncap, hcm, hcur, hz⟩ := hA
  have hnews : ∀ j u, ([.string (kb n), .string ⟨#[]⟩] : List Value)[j]? = some u → w.cell? ((⟨vb, 0, none⟩ : Addr).add j) = some u := by
    intro j u hj
    rw [Addr.add_mid, Lib.cell_of_heap hy, Nat.zero_add]
    simpa using hj
  have hone : ∀ u ∈ ([.string (kb n), .string ⟨#[]⟩] : List Value), u.oneCell' = true := by
    intro u hu
    simp at hu
    rcases hu with rfl | rfl <;> rfl
  refine wpList_plain hgd fun K hK => ?_
  by_cases hroom : n + 1 ≤ cap
  · have hr2 := run_append_room_cells (P := Tryz.prog) w 29 o.type 41 i0 Tryz.underlying29 hi0 q 0 n cap ⟨vb, 0, none⟩ 1 c [.string (kb n), .string ⟨#[]⟩] (by rw [hz1]; rfl) hnews hone hroom
      (by rw [hz1]; intro j hj; rw [Lib.cell_of_heap hg]; simp at hj ⊢; omega) (fun j _ => Lib.frozen_of_heap hg _)
    rw [hz1, show 0 + n * 2 = 2 * n by omega] at hr2
    have hrow : (w.setCells q (2 * n) [.string (kb n), .string ⟨#[]⟩]).heap[q]? = some (.cells ((cur.set (2 * n) (.string (kb n))).set (2 * n + 1) (.string ⟨#[]⟩)).toArray 41 (0, 0)) := by
      have := setCell_row (setCell_row hg (2 * n) (.string (kb n))) (2 * n + 1) (.string ⟨#[]⟩)
      simpa [World.setCells] using this
    have hfr : Fr (fun k => k = q) w (w.setCells q (2 * n) [.string (kb n), .string ⟨#[]⟩]) := setCells_is_fr q _ w (2 * n)
    refine oper_runTo o.dst rfl _ _ (by
      unfold execOp
      simp only [ho, resolve, invoke, builtin, Sem.run_bind, Sem.run_pure, Result.andThen_ok, List.map_toArray, List.map_cons, List.map_nil, hs, hx]
      rw [hr2]
      rfl) (hK _ _ (h q cap _ ⟨(cur.set (2 * n) (.string (kb n))).set (2 * n + 1) (.string ⟨#[]⟩), hrow, by simpa using hlen, hroom, hcm, fun i hi => ?_, fun cc u hcc hu => ?_⟩ (.inl rfl) (fun bm g NN ls hm => model_apart hm hg hz hfr (fun cc u hcc hu => ?_)) hfr))
    · by_cases hi2 : i < n
      · obtain ⟨h1, h2⟩ := hcur i hi2
        rw [List.getElem?_set_ne (by omega), List.getElem?_set_ne (by omega), List.getElem?_set_ne (by omega), List.getElem?_set_ne (by omega)]
        exact ⟨h1, h2⟩
      · obtain rfl : i = n := by omega
        refine ⟨?_, ?_⟩
        · rw [List.getElem?_set_ne (by omega), List.getElem?_set_self (by omega)]
        · rw [List.getElem?_set_self (by simp; omega)]
    · by_cases e : cc = 2 * n + 1
      · subst e
        rw [List.getElem?_set_self (by simp; omega)] at hu
        cases hu
        rfl
      · rw [List.getElem?_set_ne (by omega), List.getElem?_set_ne (by omega)] at hu
        exact hz cc u (by omega) hu
    · rw [Lib.cell_of_heap hg] at hu
      rw [Lib.cell_of_heap hrow]
      simp only [List.getElem?_toArray] at hu ⊢
      rw [List.getElem?_set_ne (by omega), List.getElem?_set_ne (by omega)]
      exact hu
  · have hcn : cap = n := by omega
    subst hcn
    have hr2 := run_append_grow (P := Tryz.prog) (w := w) 29 o.type 41 i0 _ Tryz.underlying29 hi0 hz0 ⟨q, 0, none⟩ cap cap cur (by rw [hz1]; exact hlen)
      (fun j u hj => by rw [Addr.add_mid, Lib.cell_of_heap hg, Nat.zero_add]; simpa using hj) ⟨vb, 0, none⟩ 1 c [.string (kb cap), .string ⟨#[]⟩] (by rw [hz1]; rfl) hnews (by omega) (by omega) (growslice_fits (by omega) (by rw [hz2]; omega))
    have hge := grownCap_ge w (cap + 1) cap 41
    have hle := grownCap_le_maxLen w (cap + 1) cap 41 (by unfold maxLen; omega)
    generalize grownCap w (cap + 1) cap 41 = G at *
    have hzm : ∀ u ∈ zs0 (G - (cap + 1)), u = .string ⟨#[]⟩ := fun u hu => zs0_mem hu
    have hzl := zs0_len (G - (cap + 1))
    obtain ⟨LL, hLL⟩ : ∃ LL : List Value, LL = cur ++ [Value.string (kb cap), Value.string ⟨#[]⟩] ++ zs0 (G - (cap + 1)) := ⟨_, rfl⟩
    have hcells : (cur.toArray ++ ([Value.string (kb cap), Value.string ⟨#[]⟩] : List Value).toArray ++ Builtin.zeroCells (Value.agg #[.string ⟨#[]⟩, .string ⟨#[]⟩]).cells (G - (cap + 1)) : Array Value) = LL.toArray := by
      rw [hLL]
      apply Array.ext'
      simp [zs0]
    have hnew := heap_alloc_new w.drew (.cells LL.toArray 41)
    have hb : Below w.heap.size w (w.drew.alloc (.cells LL.toArray 41)) := below_alloc (Below.refl _ w).drew
    refine oper_runTo o.dst rfl _ _ (by
      unfold execOp
      simp only [ho, resolve, invoke, builtin, Sem.run_bind, Sem.run_pure, Result.andThen_ok, List.map_toArray, List.map_cons, List.map_nil, hs, hx]
      rw [hr2]
      rfl) (hK _ _ ?_)
    have hh := h w.heap.size G _ ⟨LL, hnew, by rw [hLL]; simp [hlen, hzl]; omega, hge, hle, fun i hi => ?_, fun cc u hcc hu => ?_⟩ (.inr (Nat.le_refl _)) (fun bm g NN ls hm => hm.below hb) (Fr.of_below hb)
    · rw [← hcells] at hh
      exact hh
    · by_cases hi2 : i < cap
      · obtain ⟨h1, h2⟩ := hcur i hi2
        rw [hLL, List.append_assoc, List.getElem?_append_left (by omega), List.getElem?_append_left (by omega)]
        exact ⟨h1, h2⟩
      · obtain rfl : i = cap := by omega
        refine ⟨?_, ?_⟩
        · rw [hLL, List.append_assoc, List.getElem?_append_right (by omega), hlen, show 2 * i - i * 2 = 0 by omega]
          rfl
        · rw [hLL, List.append_assoc, List.getElem?_append_right (by omega), hlen, show 2 * i + 1 - i * 2 = 1 by omega]
          rfl
    · rw [hLL, List.append_assoc, List.getElem?_append_right (by omega), hlen] at hu
      obtain ⟨d, hd⟩ : ∃ d, cc - cap * 2 = d + 1 := ⟨cc - cap * 2 - 1, by omega⟩
      rw [hd] at hu
      rcases d with _ | d
      · simp at hu
        exact hu.symm
      · refine hzm u (List.mem_of_getElem? (i := d) ?_)
        simpa using hu
end Go.Proofs.YtdfgdnaejnngoaaGreat
namespace Go.Proofs.YtdfgdnaejnngoaaGreat
open Go.RowKit
/-! grangerlaw33.PruneSame. -/
theorem at_mod (x : Int) (n : Nat) (hn : n ≤ 1000) : ∃ k : Nat, k ≤ n ∧ wrap64 ((IntKind.u64.wrap x).tmod ((n : Int) + 1)) = (k : Int) := by
  have h0 : 0 ≤ IntKind.u64.wrap x := by
    simp [IntKind.wrap, IntKind.bits, IntKind.signed]
    omega
  have e : (IntKind.u64.wrap x).tmod ((n : Int) + 1) = (IntKind.u64.wrap x) % ((n : Int) + 1) := Int.tmod_eq_emod_of_nonneg h0
  have h1 := Int.emod_nonneg (IntKind.u64.wrap x) (show ((n : Int) + 1) ≠ 0 by omega)
  have h2 := Int.emod_lt_of_pos (IntKind.u64.wrap x) (show (0 : Int) < (n : Int) + 1 by omega)
  rw [e]
  generalize IntKind.u64.wrap x % ((n : Int) + 1) = y at *
  obtain ⟨k, rfl⟩ := Int.eq_ofNat_of_zero_le h1
  refine ⟨k, by omega, ?_⟩
  unfold wrap64
  omega
theorem okN_prune {os : List Ord} (h : okN os) : okN (pruneL os) := fun o ho => h o ((prune_sub os).subset ho)
theorem okK_prune {os : List Ord} (h : okK os) : okK (pruneL os) := fun o ho => h o ((prune_sub os).subset ho)
set_option maxHeartbeats 4000000 in
set_option maxRecDepth 100000 in
theorem same_any (at_ : Int) (A : Option Addr) (cap : Nat) (os : List Ord) (w : World) (hel : Elems w A 6 (os.map Ord.cells)) (hn : okN os) :
    Calls Tryz.prog 6 #[.int .i64 at_, .slice A os.length cap] w fun e w' => e = .returned (.bool true) ∧ Below w.heap.size w w' := by
  have haw := fun W => awake33_any W
  have hgr := fun W (hW : Below w.heap.size w W) => great_any A cap os W (hel.below hW)
  obtain ⟨k, hk, hK⟩ := at_mod at_ 448 (by decide)
  rw [show (((448 : Nat) : Int) + 1) = 449 from rfl] at hK
  have hw1 : wrap64 (64 + (k : Int)) = 64 + (k : Int) := by unfold wrap64; omega
  have HAW := Lib.hid haw
  have HGR := Lib.hid hgr
  have HEL := Lib.hid hel
  have HN := Lib.hid hn
  clear haw hgr hel hn
  go_enter Tryz.func6, Tryz.ntmps6
  go_wp2_with (first
    | (go_at_call 19; (with_reducible refine (HAW.out _).mono ?_); rintro e w1 ⟨rfl, hb1⟩; have HB1 := Lib.hid hb1; clear hb1)
    | (go_at_call 20; (with_reducible refine (HGR.out _ HB1.out).mono ?_); rintro e w2 ⟨b2, rfl, hsm, hb2⟩; have HB2 := Lib.hid (below_next HB1.out hb2); have HSM := Lib.hid hsm; clear hsm hb2))
  · go_ret
    exact ⟨rfl, HB2.out⟩
  · have hbf : b2 = false := by assumption
    obtain ⟨hl150, hsmall⟩ := HSM.out hbf
    have hks : okK os := fun o ho => (hsmall o ho).1
    generalize hNN : (64 : Int) + (k : Int) = N at *
    have hc := fun W => capaOf_ok N W (by omega) (by omega)
    have hpr := fun W (hW : Below w.heap.size w W) => prune_any A cap os W (HEL.out.below hW) (by omega) hks
    have hplen := (prune_sub os).length_le
    have hle : ¬ (os.length : Int) < ((pruneL os).length : Int) := by omega
    have hal : ∀ W A' c', Elems W A' 6 ((pruneL os).map Ord.cells) → Calls Tryz.prog 23 #[.slice A' (pruneL os).length c'] W fun e w' => ∃ A2 c2, e = .returned (.slice A2 (pruneL os).length c2) ∧ Below W.heap.size W w' := fun W A' c' h => by
      refine (alive_any A' c' (pruneL os) W h (by omega) (okK_prune hks)).mono ?_
      rintro e w' ⟨A2, c2, rfl, _, hb⟩
      exact ⟨A2, c2, by rw [alive_len, prune_twice], hb⟩
    have hpl := fun W (hW : Below w.heap.size w W) => isPlain_ok N A cap os W (by omega) (by omega) (HEL.out.below hW) (by omega) HN.out
    rw [planA_def] at hc hpl
    cases hR : plainL (pCap N) [] os with
    | false =>
      rw [hR] at hpl
      generalize pruneL os = P at *
      have HC := Lib.hid hc
      have HPR := Lib.hid hpr
      have HAL := Lib.hid hal
      have HPL := Lib.hid hpl
      clear hc hpr hal hpl hR hks hsmall hbf hplen hNN hK
      go_wp2_with (first
        | (go_at_call 21; (with_reducible refine (HC.out _).mono ?_); rintro e w3 ⟨rfl, hb3⟩; have HB3 := Lib.hid (below_next HB2.out hb3); clear hb3)
        | (go_at_call 25; (with_reducible refine (HPR.out _ (below_alloc HB3.out)).mono ?_); rintro e w4 ⟨A4, c4, rfl, ho4, hb4⟩; have hp4 : w4.heap[w3.heap.size]? = some (.cells #[.int .i64 N, .int .i64 (pLog N), .int .i64 (2 + pLog N), .int .i64 (pData N), .int .i64 (pHalf N), .int .i64 (pLeaves N), .int .i64 (pCap N)] 26 (0, 0)) := box_below (heap_alloc_new w3 _) hb4; have HP4 := Lib.hid hp4; have HO4 := Lib.hid ho4; have HB4 := Lib.hid (below_next (below_alloc HB3.out) hb4); clear hp4 ho4 hb4)
        | (go_at_call 23; (with_reducible refine (HAL.out _ _ _ (HO4.out.elems ordLen)).mono ?_); rintro e w5 ⟨A5, c5, rfl, hb5⟩; have hp5 : w5.heap[w3.heap.size]? = some (.cells #[.int .i64 N, .int .i64 (pLog N), .int .i64 (2 + pLog N), .int .i64 (pData N), .int .i64 (pHalf N), .int .i64 (pLeaves N), .int .i64 (pCap N)] 26 (0, 0)) := box_below HP4.out hb5; have HP5 := Lib.hid hp5; clear hp5; have hel5 := (HO4.out.elems ordLen).below hb5; have HE5 := Lib.hid hel5; have HB5 := Lib.hid (below_next HB4.out hb5); clear hb5 hel5; obtain ⟨z0, z1, z2, z3, z4, z5, z6⟩ : w5.cell? ⟨w3.heap.size, 0, none⟩ = some (.int .i64 N) ∧ w5.cell? ⟨w3.heap.size, 1, none⟩ = some (.int .i64 (pLog N)) ∧ w5.cell? ⟨w3.heap.size, 2, none⟩ = some (.int .i64 (2 + pLog N)) ∧ w5.cell? ⟨w3.heap.size, 3, none⟩ = some (.int .i64 (pData N)) ∧ w5.cell? ⟨w3.heap.size, 4, none⟩ = some (.int .i64 (pHalf N)) ∧ w5.cell? ⟨w3.heap.size, 5, none⟩ = some (.int .i64 (pLeaves N)) ∧ w5.cell? ⟨w3.heap.size, 6, none⟩ = some (.int .i64 (pCap N)) := (by have hh := HP5.out; refine ⟨?_, ?_, ?_, ?_, ?_, ?_, ?_⟩ <;> (rw [Lib.cell_of_heap hh]; rfl)))
        | (go_at_call 26; (with_reducible refine (HPL.out _ HB5.out).mono ?_); rintro e w6 ⟨rfl, hb6⟩; have hp6 : w6.heap[w3.heap.size]? = some (.cells #[.int .i64 N, .int .i64 (pLog N), .int .i64 (2 + pLog N), .int .i64 (pData N), .int .i64 (pHalf N), .int .i64 (pLeaves N), .int .i64 (pCap N)] 26 (0, 0)) := box_below HP5.out hb6; have HP6 := Lib.hid hp6; clear hp6; have HE6 := Lib.hid (HE5.out.below hb6); have HB6 := Lib.hid (below_next HB5.out hb6); clear hb6; obtain ⟨y0, y1, y2, y3, y4, y5, y6⟩ : w6.cell? ⟨w3.heap.size, 0, none⟩ = some (.int .i64 N) ∧ w6.cell? ⟨w3.heap.size, 1, none⟩ = some (.int .i64 (pLog N)) ∧ w6.cell? ⟨w3.heap.size, 2, none⟩ = some (.int .i64 (2 + pLog N)) ∧ w6.cell? ⟨w3.heap.size, 3, none⟩ = some (.int .i64 (pData N)) ∧ w6.cell? ⟨w3.heap.size, 4, none⟩ = some (.int .i64 (pHalf N)) ∧ w6.cell? ⟨w3.heap.size, 5, none⟩ = some (.int .i64 (pLeaves N)) ∧ w6.cell? ⟨w3.heap.size, 6, none⟩ = some (.int .i64 (pCap N)) := (by have hh := HP6.out; refine ⟨?_, ?_, ?_, ?_, ?_, ?_, ?_⟩ <;> (rw [Lib.cell_of_heap hh]; rfl))))
      go_ret
      exact ⟨rfl, HB6.out⟩
    | true =>
      rw [hR] at hpl
      obtain ⟨hp1, hp2⟩ := prune_same (pCap N) os hR
      have hpl2 := fun W A' c' (h : Elems W A' 6 ((pruneL os).map Ord.cells)) => isPlain_ok N A' c' (pruneL os) W (by omega) (by omega) h (by omega) (okN_prune HN.out)
      rw [hp1, planA_def] at hpl2
      have hi1 := fun W A' c' (h : Elems W A' 6 ((pruneL os).map Ord.cells)) => pruneItems_any A' c' (pruneL os) W h (by omega) (okN_prune HN.out)
      rw [hp2] at hi1
      have hi2 := fun W (hW : Below w.heap.size w W) => pruneItems_any A cap os W (HEL.out.below hW) (by omega) HN.out
      have hil : (itemsO os).length ≤ 1000 := by
        have := items_len os (l := []) trivial
        unfold itemsO
        simp at this
        omega
      have hs := fun W A' c' A2 c2 h1 h2 => refSame_any A' A2 c' c2 (itemsO os) (itemsO os) W h1 h2 (by omega) (by omega)
      simp only [decide_true] at hs
      generalize itemsO os = I at *
      generalize pruneL os = P at *
      have HC := Lib.hid hc
      have HPR := Lib.hid hpr
      have HAL := Lib.hid hal
      have HPL := Lib.hid hpl
      have HPL2 := Lib.hid hpl2
      have HI1 := Lib.hid hi1
      have HI2 := Lib.hid hi2
      have HS := Lib.hid hs
      clear hc hpr hal hpl hpl2 hi1 hi2 hs hR hp1 hp2 hks hsmall hbf hplen hNN hK hil
      go_wp2_with (first
        | (go_at_call 21; (with_reducible refine (HC.out _).mono ?_); rintro e w3 ⟨rfl, hb3⟩; have HB3 := Lib.hid (below_next HB2.out hb3); clear hb3)
        | (go_at_call 25; (with_reducible refine (HPR.out _ (below_alloc HB3.out)).mono ?_); rintro e w4 ⟨A4, c4, rfl, ho4, hb4⟩; have hp4 : w4.heap[w3.heap.size]? = some (.cells #[.int .i64 N, .int .i64 (pLog N), .int .i64 (2 + pLog N), .int .i64 (pData N), .int .i64 (pHalf N), .int .i64 (pLeaves N), .int .i64 (pCap N)] 26 (0, 0)) := box_below (heap_alloc_new w3 _) hb4; have HP4 := Lib.hid hp4; have HO4 := Lib.hid ho4; have HB4 := Lib.hid (below_next (below_alloc HB3.out) hb4); clear hp4 ho4 hb4)
        | (go_at_call 23; (with_reducible refine (HAL.out _ _ _ (HO4.out.elems ordLen)).mono ?_); rintro e w5 ⟨A5, c5, rfl, hb5⟩; have hp5 : w5.heap[w3.heap.size]? = some (.cells #[.int .i64 N, .int .i64 (pLog N), .int .i64 (2 + pLog N), .int .i64 (pData N), .int .i64 (pHalf N), .int .i64 (pLeaves N), .int .i64 (pCap N)] 26 (0, 0)) := box_below HP4.out hb5; have HP5 := Lib.hid hp5; clear hp5; have hel5 := (HO4.out.elems ordLen).below hb5; have HE5 := Lib.hid hel5; have HB5 := Lib.hid (below_next HB4.out hb5); clear hb5 hel5; obtain ⟨z0, z1, z2, z3, z4, z5, z6⟩ : w5.cell? ⟨w3.heap.size, 0, none⟩ = some (.int .i64 N) ∧ w5.cell? ⟨w3.heap.size, 1, none⟩ = some (.int .i64 (pLog N)) ∧ w5.cell? ⟨w3.heap.size, 2, none⟩ = some (.int .i64 (2 + pLog N)) ∧ w5.cell? ⟨w3.heap.size, 3, none⟩ = some (.int .i64 (pData N)) ∧ w5.cell? ⟨w3.heap.size, 4, none⟩ = some (.int .i64 (pHalf N)) ∧ w5.cell? ⟨w3.heap.size, 5, none⟩ = some (.int .i64 (pLeaves N)) ∧ w5.cell? ⟨w3.heap.size, 6, none⟩ = some (.int .i64 (pCap N)) := (by have hh := HP5.out; refine ⟨?_, ?_, ?_, ?_, ?_, ?_, ?_⟩ <;> (rw [Lib.cell_of_heap hh]; rfl)))
        | (go_at_call 26; (with_reducible refine (HPL2.out _ _ _ HE6.out).mono ?_); rintro e w7 ⟨rfl, hb7⟩; have HE7 := Lib.hid (HE6.out.below hb7); have HB7 := Lib.hid (below_next HB6.out hb7); clear hb7)
        | (go_at_call 26; (with_reducible refine (HPL.out _ HB5.out).mono ?_); rintro e w6 ⟨rfl, hb6⟩; have hp6 : w6.heap[w3.heap.size]? = some (.cells #[.int .i64 N, .int .i64 (pLog N), .int .i64 (2 + pLog N), .int .i64 (pData N), .int .i64 (pHalf N), .int .i64 (pLeaves N), .int .i64 (pCap N)] 26 (0, 0)) := box_below HP5.out hb6; have HP6 := Lib.hid hp6; clear hp6; have HE6 := Lib.hid (HE5.out.below hb6); have HB6 := Lib.hid (below_next HB5.out hb6); clear hb6; obtain ⟨y0, y1, y2, y3, y4, y5, y6⟩ : w6.cell? ⟨w3.heap.size, 0, none⟩ = some (.int .i64 N) ∧ w6.cell? ⟨w3.heap.size, 1, none⟩ = some (.int .i64 (pLog N)) ∧ w6.cell? ⟨w3.heap.size, 2, none⟩ = some (.int .i64 (2 + pLog N)) ∧ w6.cell? ⟨w3.heap.size, 3, none⟩ = some (.int .i64 (pData N)) ∧ w6.cell? ⟨w3.heap.size, 4, none⟩ = some (.int .i64 (pHalf N)) ∧ w6.cell? ⟨w3.heap.size, 5, none⟩ = some (.int .i64 (pLeaves N)) ∧ w6.cell? ⟨w3.heap.size, 6, none⟩ = some (.int .i64 (pCap N)) := (by have hh := HP6.out; refine ⟨?_, ?_, ?_, ?_, ?_, ?_, ?_⟩ <;> (rw [Lib.cell_of_heap hh]; rfl)))
        | (go_at_call 29; (with_reducible refine (HI1.out _ _ _ HE7.out).mono ?_); rintro e w8 ⟨A8, c8, rfl, ho8, hb8⟩; have HO8 := Lib.hid ho8; have HB8 := Lib.hid (below_next HB7.out hb8); clear ho8 hb8)
        | (go_at_call 29; (with_reducible refine (HI2.out _ HB8.out).mono ?_); rintro e w9 ⟨A9, c9, rfl, ho9, hb9⟩; have HO9 := Lib.hid ho9; have HE8 := Lib.hid ((HO8.out.below hb9).elems Itm.clen); have HB9 := Lib.hid (below_next HB8.out hb9); clear ho9 hb9)
        | (go_at_call 28; (with_reducible refine (HS.out _ _ _ _ _ HE8.out (HO9.out.elems Itm.clen)).mono ?_); rintro e w10 ⟨rfl, hb10⟩; have HB10 := Lib.hid (below_next HB9.out hb10); clear hb10))
      go_ret
      exact ⟨rfl, HB10.out⟩
end Go.Proofs.YtdfgdnaejnngoaaGreat
namespace Go.Proofs.YtdfgdnaejnngoaaGreat
open Go.RowKit
/-! grangerlaw26.ModelBegins. -/
theorem bool_row {w : World} {A : Option Addr} {bs : List Bool} (hel : Elems w A 1 (bs.map boolC)) {k : Nat} {b : Bool} (hb : bs[k]? = some b) : ∃ g off, A = some ⟨g, off, none⟩ ∧ g < w.heap.size ∧ w.cell? ⟨g, off + k, none⟩ = some (.bool b) := by
  obtain ⟨g, off, rfl, hlt, hc⟩ := hel k (boolC b) (by simp [hb])
  have := hc 0 _ rfl
  simp only [Nat.mul_one, Nat.add_zero] at this
  exact ⟨g, off, rfl, hlt, this⟩
/-- items of one's own, and others behind them -/
theorem itmO_append {o : Oper} {a : Act} {w : World} {K : Act → World → Prop} {Q : Exit → Act → World → Prop} (N : Option Tmp) (hN : o.dst = N) (s x : Operand) (ho : o.op = .call { callee := .builtin .append, args := #[s, x], argTypes := #[29, 29] })
    (B : Nat) (v : Value) (l m : List Itm) (n : Nat) (ad : Addr) (c : Nat) (hn : m.length = n) (hs : a.eval s = v) (hx : a.eval x = .slice (some ad) n c) (hown : OwnsM w B v l) (hel : ∀ j u, ((m.map Itm.cells).flatten)[j]? = some u → w.cell? (ad.add j) = some u) (hl : l.length + m.length ≤ 100000) (hB : B ≤ w.heap.size) (n2 : Nat) (hn2 : (l ++ m).length = n2)
    (h : ∀ A' c' w', OwnsM w' B (.slice A' n2 c') (l ++ m) → Fr (fun k => v.ownBlock = some k) w w' → K (a.put N (.slice A' n2 c')) w') : Oper.wp Tryz.prog o a w K Q := by
  subst hn hN hn2
  obtain ⟨i0, hi0, hz0, hz1, hz2⟩ := info_parts M_info
  refine wp_append_own w s x 29 ho B 41 i0 _ 2 32 Tryz.underlying29 hi0 hz0 hz1 hz2 rfl (by decide) v l.length _ hs hown ad m.length c ((m.map Itm.cells).flatten) hx (flatten_length Itm.clen m) hel ?_ ?_ ?_ hB ?_
  · intro u hu
    obtain ⟨r, hr, hu⟩ := List.mem_flatten.1 hu
    obtain ⟨e, _, rfl⟩ := List.mem_map.1 hr
    exact itm_one e u hu
  · unfold maxLen; omega
  · omega
  · intro v' w' h1 h2 _
    have ho : OwnsM w' B v' (l ++ m) := by
      unfold OwnsM OwnsG
      rw [List.map_append, List.flatten_append, List.length_append]
      exact h1
    obtain ⟨A', c', rfl⟩ := ho.slice
    exact h A' c' w' ho ((Fr.refl _ w).grown h2 (fun i hi e => e))
theorem oper_emptyM {o : Oper} {a : Act} {w : World} {K : Act → World → Prop} {Q : Exit → Act → World → Prop} (N : Option Tmp) (hN : o.dst = N) (ho : o.op = .buildSlice 29 0 #[])
    (h : ∀ g w', OwnsM w' w.heap.size (.slice (some ⟨g, 0, none⟩) 0 0) [] → Below w.heap.size w w' → K (a.put N (.slice (some ⟨g, 0, none⟩) 0 0)) w') : Oper.wp Tryz.prog o a w K Q := by
  have hr : (Instr.buildSlice 29 0 #[]).run Tryz.prog w = .ok (.slice (some ⟨w.heap.size, 0, none⟩) 0 0) (w.alloc (.cells #[] 41)) := by kernel_rfl
  refine oper_runTo N hN (.slice (some ⟨w.heap.size, 0, none⟩) 0 0) (w.alloc (.cells #[] 41)) ?_ (h _ _ (OwnsG.empty (heap_alloc_new w _) (Nat.le_refl _)) (below_alloc (Below.refl _ w)))
  unfold execOp
  simp only [ho, List.map_toArray, List.map_nil, Sem.run_bind, hr, Result.andThen_ok, Sem.run_pure]
theorem elems_drop {w : World} {b off k : Nat} {rows : List (List Value)} (h : Elems w (some ⟨b, off, none⟩) k rows) (m : Nat) : Elems w (some ⟨b, off + m * k, none⟩) k (rows.drop m) := by
  intro i r hr
  rw [List.getElem?_drop] at hr
  obtain ⟨b', off', e, hlt, hc⟩ := h (m + i) r hr
  cases e
  refine ⟨b, off + m * k, rfl, hlt, fun j u hu => ?_⟩
  have := hc j u hu
  rw [Nat.add_mul, ← Nat.add_assoc] at this
  exact this
theorem elems_take {w : World} {A : Option Addr} {k : Nat} {rows : List (List Value)} (h : Elems w A k rows) (m : Nat) : Elems w A k (rows.take m) := by
  intro i r hr
  rw [List.getElem?_take] at hr
  split at hr
  · exact h i r hr
  · cases hr
theorem itm_parts {w : World} {q m a n : Nat} (h : Elems w (some ⟨q, 0, none⟩) 2 ((allL m).map Itm.cells)) (ha : a + 1 ≤ n) (hn : n ≤ m) :
    (∀ j u, ((((allL n).take a).map Itm.cells).flatten)[j]? = some u → w.cell? ((⟨q, 0, none⟩ : Addr).add j) = some u) ∧ (∀ j u, ((((allL n).drop (a + 1)).map Itm.cells).flatten)[j]? = some u → w.cell? ((⟨q, (a + 1) * 2, none⟩ : Addr).add j) = some u) := by
  have h2 : ∀ (l : List Itm), ∀ r ∈ l.map Itm.cells, r.length = 2 := fun l r hr => by obtain ⟨e, _, rfl⟩ := List.mem_map.1 hr; rfl
  have htk : (allL m).take n = allL n := by
    unfold allL
    rw [← List.map_take, List.take_range, Nat.min_eq_left hn]
  have hn' : Elems w (some ⟨q, 0, none⟩) 2 ((allL n).map Itm.cells) := by
    have := elems_take h n
    rw [← List.map_take, htk] at this
    exact this
  refine ⟨fun j u hj => ?_, fun j u hj => ?_⟩
  · rw [Addr.add_mid]
    have ht := elems_take hn' a
    rw [← List.map_take] at ht
    exact ht.flat (by decide) (h2 _) j u hj
  · rw [Addr.add_mid]
    have hd := elems_drop hn' (a + 1)
    rw [← List.map_drop, Nat.zero_add] at hd
    exact hd.flat (by decide) (h2 _) j u hj
set_option maxHeartbeats 8000000 in
set_option maxRecDepth 100000 in
theorem begins_any (A : Option Addr) (cap : Nat) (bs : List Bool) (left out_ : Int) (w : World) (hel : Elems w A 1 (bs.map boolC)) :
    Calls Tryz.prog 3 #[.slice A bs.length cap, .int .i64 left, .int .i64 out_] w fun e w' => e = .returned (.bool true) ∧ Below w.heap.size w w' := by
  have haw := fun W => awake26_any W
  have HAW := Lib.hid haw
  have HEL := Lib.hid hel
  clear haw hel
  by_cases hl60 : (60 : Int) < (bs.length : Int)
  · go_enter Tryz.func3, Tryz.ntmps3
    go_wp2_with (go_at_call 10; (with_reducible refine (HAW.out _).mono ?_); rintro e w1 ⟨rfl, hb1⟩; have HB1 := Lib.hid hb1; clear hb1)
    go_ret
    exact ⟨rfl, HB1.out⟩
  · have hbg := fun W => begun_ok 64 W (by decide) (by decide)
    have p64 : planA 64 = #[.int .i64 64, .int .i64 8, .int .i64 10, .int .i64 54, .int .i64 26, .int .i64 19, .int .i64 4084] := by kernel_rfl
    rw [p64] at hbg
    have eF : ∀ (e : Int) (has : Bool) (vv : ByteArray) (A : Option Addr) (m c : Nat) (x y : Int) (W : World), (Instr.field 35 (.agg #[.int .i64 e, .bool has, .string vv, .slice A m c, .int .i64 x, .int .i64 y, .int .i64 0, .int .i64 0, .int .i64 0, .int .i64 0, .int .i64 0, .int .i64 0, .int .i64 0]) 0).run Tryz.prog W = .ok (.int .i64 e) W := fun e has vv A m c x y W => by kernel_rfl
    have HBG := Lib.hid hbg
    clear hbg p64
    go_enter Tryz.func3, Tryz.ntmps3
    go_wp2_with (first
      | (go_at_call 10; (with_reducible refine (HAW.out _).mono ?_); rintro e w1 ⟨rfl, hb1⟩; have HB1 := Lib.hid hb1; clear hb1)
      | (go_at_call 11; (with_reducible refine (HBG.out _).mono ?_); rintro e w2 ⟨bm, g2, rfl, hm2, hbm2, hg2, hb2⟩; have HM2 := Lib.hid hm2; have HBM2 := Lib.hid hbm2; have HG2 := Lib.hid hg2; have HB2 := Lib.hid (below_next HB1.out hb2); clear hm2 hbm2 hg2 hb2))
    have hbm : w.heap.size ≤ bm := Nat.le_trans HB1.out.size HBM2.out
    have hgg : w.heap.size ≤ g2 := Nat.le_trans HB1.out.size HG2.out
    have HBM := Lib.hid hbm
    have hlen : bs.length ≤ 60 := by omega
    have hA0 : AllAt ((w2.alloc (.cells #[.int .i64 64, .int .i64 8, .int .i64 10, .int .i64 54, .int .i64 26, .int .i64 19, .int .i64 4084] 26)).alloc (.cells #[] 41)) (w2.heap.size + 1) 0 0 := ⟨[], heap_new_at (by simp), rfl, Nat.le_refl _, by unfold maxLen; omega, fun i hi => by omega, fun c u _ hu => by simp at hu⟩
    have hM0 : ModelAt ((w2.alloc (.cells #[.int .i64 64, .int .i64 8, .int .i64 10, .int .i64 54, .int .i64 26, .int .i64 19, .int .i64 4084] 26)).alloc (.cells #[] 41)) bm g2 64 (rowsB 0 0) := HM2.out.below (below_alloc (below_alloc (Below.refl _ w2)))
    have hB0 : Below w.heap.size w ((w2.alloc (.cells #[.int .i64 64, .int .i64 8, .int .i64 10, .int .i64 54, .int .i64 26, .int .i64 19, .int .i64 4084] 26)).alloc (.cells #[] 41)) := below_alloc (below_alloc HB2.out)
    have hq0 : w.heap.size ≤ w2.heap.size + 1 := Nat.le_succ_of_le HB2.out.size
    generalize (w2.alloc (.cells #[.int .i64 64, .int .i64 8, .int .i64 10, .int .i64 54, .int .i64 26, .int .i64 19, .int .i64 4084] 26)).alloc (.cells #[] 41) = W0 at *
    go_loopw [11, 9, 10, 12] (fun i v sv _ wr => ∃ (k s g q cap2 : Nat), i = .int .i64 k ∧ v = .slice (some ⟨q, 0, none⟩) k cap2 ∧ sv = .int .i64 s ∧ k ≤ bs.length ∧ s ≤ k ∧ ModelAt wr bm g 64 (rowsB s k) ∧ w.heap.size ≤ g ∧ w.heap.size ≤ q ∧ AllAt wr q cap2 k ∧ Below w.heap.size w wr) (fun i _ _ _ _ => bs.length + 1 - (intOf i).toNat)
    case atStart => exact ⟨0, 0, g2, w2.heap.size + 1, 0, rfl, rfl, rfl, Nat.zero_le _, Nat.le_refl _, hM0, hgg, hq0, hA0, hB0⟩
    case round =>
      obtain ⟨k, s, g, q, cap2, rfl, rfl, rfl, hk, hs, hmo, hg, hq, hall, hbel⟩ := hrel
      clear hM0 hA0 hB0
      by_cases hkl : k < bs.length
      · have hkI : (k : Int) < (bs.length : Int) := by omega
        obtain ⟨bk, hbk⟩ := get_lt hkl
        obtain ⟨b, off, rfl, hblt, d0⟩ := bool_row HEL.out hbk
        have hcell : ∀ W, Below w.heap.size w W → W.cell? ⟨b, off + k, none⟩ = some (.bool bk) ∧ b < W.heap.size := fun W hW => ⟨keep_cell hW hblt d0, keep_lt hW hblt⟩
        have hk60 : k < 60 := by omega
        have hu : IntKind.u8.wrap ((k : Int) + 1) = (k : Int) + 1 := by simp [IntKind.wrap, IntKind.signed, IntKind.bits]; omega
        have hcv : ∀ W : World, (convert 30 9 (.slice (some ⟨W.heap.size, 0, none⟩) 1 1)).run Tryz.prog (W.alloc (.cells #[.int .u8 ((k : Int) + 1)] 5)) = .ok (.string (kb k)) (W.alloc (.cells #[.int .u8 ((k : Int) + 1)] 5)) := fun W => by
          have := conv_one W ((k : Int) + 1)
          rw [show ((k : Int) + 1).toNat = k + 1 by omega] at this
          exact this
        have hlast := rowsB_last hs
        have hrl := rowsB_len s k
        have hdo : ∀ W, Below wr.heap.size wr W → Calls Tryz.prog 12 #[.pointer (some ⟨bm, 0, none⟩), .agg #[.int .i64 1, .string (kb k), .string ⟨#[]⟩, .int .u64 0, .string ⟨#[]⟩, .string ⟨#[]⟩]] W fun e w' => ∃ (val : ByteArray) (A1 : Option Addr) (k1 c1 : Nat) (x y : Int) (g' : Nat) (has : Bool), e = .returned (.agg #[.int .i64 0, .bool has, .string val, .slice A1 k1 c1, .int .i64 x, .int .i64 y, .int .i64 0, .int .i64 0, .int .i64 0, .int .i64 0, .int .i64 0, .int .i64 0, .int .i64 0]) ∧ ModelAt w' bm g' 64 (rowsB s (k + 1)) ∧ w.heap.size ≤ g' ∧ Below w.heap.size W w' ∧ Fr (fun k => k = bm ∨ k = g) W w' := fun W hW => by
          refine (do_step w.heap.size bm g 64 (rowsB s k) (allL k) (putB k) W (Nat.le_trans hbel.size hW.size) HBM.out hg (hmo.below hW) hlast (by omega) (by rw [allL_len]; omega) (Int.le_refl 0) (show (0 : Int) < 18446744073709551616 by decide)).mono ?_
          rintro e w' ⟨val, A1, k1, c1, x, y, g', he, hm', h3, h4, h5⟩
          rw [cap64, err_put hk60 (by decide)] at he
          rw [cap64, rows_put hk60 (by decide) hs] at hm'
          exact ⟨val, A1, k1, c1, x, y, g', _, he, hm', h3, h4, h5⟩
        have hlast2 := rowsB_last (show s ≤ k + 1 by omega)
        have hrl2 := rowsB_len s (k + 1)
        have hdo2 : ∀ (g : Nat) W, Below w.heap.size w W → w.heap.size ≤ g → ModelAt W bm g 64 (rowsB s (k + 1)) → Calls Tryz.prog 12 #[.pointer (some ⟨bm, 0, none⟩), .agg #[.int .i64 6, .string ⟨#[]⟩, .string ⟨#[]⟩, .int .u64 0, .string ⟨#[]⟩, .string ⟨#[]⟩]] W fun e w' => ∃ (v : Value) (g' : Nat), e = .returned v ∧ ModelAt w' bm g' 64 (rowsB (k + 1) (k + 1)) ∧ w.heap.size ≤ g' ∧ Below w.heap.size W w' ∧ Fr (fun k => k = bm ∨ k = g) W w' := fun g W hW hg hm => by
          refine (do_step w.heap.size bm g 64 (rowsB s (k + 1)) (allL (k + 1)) syncO W hW.size HBM.out hg hm hlast2 (by omega) (by rw [allL_len]; omega) (Int.le_refl 0) (by decide)).mono ?_
          rintro e w' ⟨val, A1, k1, c1, x, y, g', rfl, hm', h3, h4, h5⟩
          rw [rows_sync] at hm'
          exact ⟨_, g', rfl, hm', h3, h4, h5⟩
        have HDO := Lib.hid hdo
        have HDO2 := Lib.hid hdo2
        have HCE := Lib.hid hcell
        have HMO := Lib.hid hmo
        have HAL := Lib.hid hall
        have HBE := Lib.hid hbel
        clear hdo hdo2 hcell hmo hall hbel hlast hrl hlast2 hrl2 hbk d0 hblt
        cases bk with
        | true =>
          go_wp2_with (first
            | (go_at_call 12; (with_reducible refine (HDO2.out g4 _ HB5.out HG4.out HM5.out).mono ?_); rintro e w6 ⟨v6, g6, rfl, hm6, hg6, hb6, hf6⟩; have HAL6 := Lib.hid (HAL5.out.keep HM5.out hf6); have HM6 := Lib.hid hm6; have HG6 := Lib.hid hg6; have HB6 := Lib.hid (HB5.out.trans hb6); clear hm6 hg6 hb6 hf6)
            | (go_at_call 12; (with_reducible refine (HDO.out _ (below_alloc (Below.refl _ wr))).mono ?_); rintro e w4 ⟨val, A1, k1, c1, x, y, g4, has, rfl, hm4, hg4, hb4, hf4⟩; have hal4 : AllAt w4 q cap2 k := (HAL.out.below (below_alloc (Below.refl _ wr))).keep (HMO.out.below (below_alloc (Below.refl _ wr))) hf4; have HAL4 := Lib.hid hal4; have HM4 := Lib.hid hm4; have HG4 := Lib.hid hg4; have HB4 := Lib.hid ((below_alloc HBE.out).trans hb4); clear hal4 hm4 hg4 hb4 hf4)
            | (at_builtin; (refine all_append rfl (some 47) rfl _ _ rfl q cap2 w4.heap.size 1 k rfl (by simp [Act.eval]) (HAL4.out.below (below_alloc (Below.refl _ w4))) (heap_alloc_new w4 _) (by omega) ?_; intro q5 cap5 w5 hal5 hq5 hm5 hf5; have hb5 : Below w.heap.size w w5 := (below_alloc HB4.out).trans (hf5.to_below (below_alloc HB4.out).size (fun i hi e => by omega)); obtain ⟨e0, el⟩ := HCE.out _ hb5; have HM5 := Lib.hid (hm5 _ _ _ _ (HM4.out.below (below_alloc (Below.refl _ w4)))); have HAL5 := Lib.hid hal5; have HQ5 := Lib.hid (show w.heap.size ≤ q5 from hq5.elim (fun h => by omega) (fun h => Nat.le_trans (below_alloc HB4.out).size h)); have HB5 := Lib.hid hb5; clear hb5 hal5 hq5 hm5 hf5)))
          refine ⟨⟨k + 1, k + 1, g6, q5, cap5, by go_num, rfl, by go_num, by omega, Nat.le_refl _, HM6.out, HG6.out, HQ5.out, HAL6.out, HB6.out⟩, ?_⟩
          simp [intOf]
          omega
        | false =>
          go_wp2_with (first
            | (go_at_call 12; (with_reducible refine (HDO.out _ (below_alloc (Below.refl _ wr))).mono ?_); rintro e w4 ⟨val, A1, k1, c1, x, y, g4, has, rfl, hm4, hg4, hb4, hf4⟩; have hal4 : AllAt w4 q cap2 k := (HAL.out.below (below_alloc (Below.refl _ wr))).keep (HMO.out.below (below_alloc (Below.refl _ wr))) hf4; have HAL4 := Lib.hid hal4; have HM4 := Lib.hid hm4; have HG4 := Lib.hid hg4; have HB4 := Lib.hid ((below_alloc HBE.out).trans hb4); clear hal4 hm4 hg4 hb4 hf4)
            | (at_builtin; (refine all_append rfl (some 47) rfl _ _ rfl q cap2 w4.heap.size 1 k rfl (by simp [Act.eval]) (HAL4.out.below (below_alloc (Below.refl _ w4))) (heap_alloc_new w4 _) (by omega) ?_; intro q5 cap5 w5 hal5 hq5 hm5 hf5; have hb5 : Below w.heap.size w w5 := (below_alloc HB4.out).trans (hf5.to_below (below_alloc HB4.out).size (fun i hi e => by omega)); obtain ⟨e0, el⟩ := HCE.out _ hb5; have HM5 := Lib.hid (hm5 _ _ _ _ (HM4.out.below (below_alloc (Below.refl _ w4)))); have HAL5 := Lib.hid hal5; have HQ5 := Lib.hid (show w.heap.size ≤ q5 from hq5.elim (fun h => by omega) (fun h => Nat.le_trans (below_alloc HB4.out).size h)); have HB5 := Lib.hid hb5; clear hb5 hal5 hq5 hm5 hf5)))
          refine ⟨⟨k + 1, s, g4, q5, cap5, by go_num, rfl, rfl, by omega, by omega, HM5.out, HG4.out, HQ5.out, HAL5.out, HB5.out⟩, ?_⟩
          simp [intOf]
          omega
      · obtain rfl : k = bs.length := by omega
        obtain ⟨n, hn, hK⟩ := at_mod left bs.length (by omega)
        have hu : IntKind.u64.wrap ((bs.length : Int) + 1) = (bs.length : Int) + 1 := by simp [IntKind.wrap, IntKind.signed, IntKind.bits]; omega
        have hne0 : (((bs.length : Int) + 1) == 0) = false := by simp; omega
        have hrl := rowsB_len s bs.length
        have hlast := rowsB_last hs
        obtain ⟨hc1, hc2⟩ := hall.le
        have hlt : ∀ W, Below wr.heap.size wr W → Calls Tryz.prog 13 #[.pointer (some ⟨bm, 0, none⟩)] W fun e w' => e = .returned (.int .i64 ((bs.length : Int) - (s : Int))) ∧ Below W.heap.size W w' := fun W hW => by
          have := late_any bm g 64 (rowsB s bs.length) W (hmo.below hW) (by omega)
          rw [show ((rowsB s bs.length).length : Int) - 1 = (bs.length : Int) - (s : Int) by omega] at this
          exact this
        have hla := fun (g : Nat) W (hm : ModelAt W bm g 64 (rowsB s bs.length)) (ha : AllAt W q cap2 bs.length) => lost_any bm g 64 (rowsB s bs.length) (some ⟨q, 0, none⟩) cap2 (allL n) W hm (ha.elems hn) (by rw [allL_len]; omega) (by omega) (fun l hl => by
          unfold rowsB at hl
          obtain ⟨j, hj, rfl⟩ := List.mem_map.1 hl
          have := List.mem_range.1 hj
          rw [allL_len]; omega)
        simp only [allL_len] at hla
        unfold LostRes at hla
        simp only [lost_all hlen hs hn, iso_self (rises_allL (show n ≤ 60 by omega))] at hla
        have hlg := fun (a : Nat) (ha : a + 1 < n) (g : Nat) (A' : Option Addr) (c' : Nat) W (hm : ModelAt W bm g 64 (rowsB s bs.length)) (he : Elems W A' 2 (((allL n).eraseIdx a).map Itm.cells)) => lost_any bm g 64 (rowsB s bs.length) A' c' ((allL n).eraseIdx a) W hm he (by rw [List.length_eraseIdx, allL_len]; split <;> omega) (by omega) (fun l hl => by
          unfold rowsB at hl
          obtain ⟨j, hj, rfl⟩ := List.mem_map.1 hl
          have := List.mem_range.1 hj
          rw [allL_len]; omega)
        unfold LostRes at hlg
        have hl1 := fun (g : Nat) W (hm : ModelAt W bm g 64 [allL n]) => late_any bm g 64 [allL n] W hm (by simp)
        have hi1 := fun (g : Nat) W (hm : ModelAt W bm g 64 [allL n]) => mitems_any bm g 64 [allL n] (allL n) W hm rfl (by simp) (by rw [allL_len]; omega)
        simp only [allL_len] at hi1
        have HLT := Lib.hid hlt
        have HLA := Lib.hid hla
        have HLG := Lib.hid hlg
        have HL1 := Lib.hid (show ∀ (g : Nat) W, ModelAt W bm g 64 [allL n] → Calls Tryz.prog 13 #[.pointer (some ⟨bm, 0, none⟩)] W fun e w' => e = .returned (.int .i64 0) ∧ Below W.heap.size W w' from hl1)
        have HI1 := Lib.hid hi1
        have HMO := Lib.hid hmo
        have HAL := Lib.hid hall
        have HBE := Lib.hid hbel
        have hncI : (n : Int) ≤ (cap2 : Int) := by omega
        have hn0 : (0 : Int) ≤ (n : Int) := by omega
        clear hlt hla hlg hl1 hi1 hmo hall hbel hrl hlast
        by_cases hn2 : 2 ≤ n
        · have hnI : (1 : Int) < (n : Int) := by omega
          obtain ⟨a, ha, hK2⟩ := at_mod out_ (n - 2) (by omega)
          rw [show (((n - 2 : Nat) : Int) + 1) = (n : Int) - 1 by omega] at hK2
          have hu2 : IntKind.u64.wrap ((n : Int) - 1) = (n : Int) - 1 := by simp [IntKind.wrap, IntKind.signed, IntKind.bits]; omega
          have hne2 : (((n : Int) - 1) == 0) = false := by simp; omega
          go_wp2_with (go_at_call 13; (with_reducible refine (HLT.out _ (Below.refl _ wr)).mono ?_); rintro e w7 ⟨rfl, hb7⟩; have HB7 := Lib.hid hb7; clear hb7)
          have haI : (a : Int) ≤ (cap2 : Int) := by omega
          have ha0 : (0 : Int) ≤ (a : Int) := by omega
          have ha1 : (a : Int) + 1 ≤ (n : Int) := by omega
          have ha2 : (0 : Int) ≤ (a : Int) + 1 := by omega
          have hct : ((a : Int) + 1).toNat = a + 1 := by omega
          have hcne : ¬ cap2 = a + 1 := by omega
          have hwa : IntKind.i64.wrap ((a : Int) + 1) = (a : Int) + 1 := by rw [IntKind.wrap_i64]; omega
          rw [hK2]
          have hps := fun W (hW : Below w7.heap.size w7 W) => itm_parts ((HAL.out.below (HB7.out)).elems (Nat.le_refl _) |>.below hW) (show a + 1 ≤ n by omega) hn
          have hlen1 : ((allL n).take a).length = a := by rw [List.length_take, allL_len]; omega
          have hlen2 : ((allL n).drop (a + 1)).length = n - (a + 1) := by rw [List.length_drop, allL_len]
          have hrest : (allL n).take a ++ (allL n).drop (a + 1) = (allL n).eraseIdx a := (List.eraseIdx_eq_take_drop_succ _ a).symm
          have hrl : ((allL n).eraseIdx a).length = n - 1 := by rw [List.length_eraseIdx, allL_len, if_pos (by omega)]
          have hgapB := lost_gap (s := s) hlen hn (show a + 1 < n by omega)
          have hlg := HLG.out a (by omega)
          rw [hgapB, hrl] at hlg
          have HT := Lib.hid (fun W hW => (hps W hW).1)
          have HD := Lib.hid (fun W hW => (hps W hW).2)
          have HTK := Lib.hid hlen1
          have HDK := Lib.hid hlen2
          have HREST := Lib.hid hrest
          have HRL := Lib.hid hrl
          have HLG2 := Lib.hid hlg
          have hA1 : ([] : List Itm).length + ((allL n).take a).length ≤ 100000 := by rw [hlen1]; simp; omega
          have hA2 : ((allL n).take a).length + ((allL n).drop (a + 1)).length ≤ 100000 := by rw [hlen1, hlen2]; omega
          have B4 : Below w7.heap.size w7 w7.drew := (Below.refl _ w7).drew
          clear hps hlen1 hlen2 hrest hrl hgapB hlg hK2
          refine rg_start (n := 12) (fun w' => True) #[false, false, false, false, false, false, false, false, false, false, false, false] (by kernel_rfl) rfl rfl trivial (fun hHeld => ?_)
          refine rg_take (i := 1) (N := (some 82)) (v := ?_) (a' := ?_) #[false, true, false, false, false, false, false, false, false, false, false, false] rfl rfl (by kernel_rfl) (fun _ _ _ h => h) (by rfl) ?_ hHeld ?_ ?_
          rotate_left 2
          · rintro w' _s
            go_simp
            try with_reducible rfl
          · simp only [Act.put, List.setIfInBounds_toArray, List.set_cons_zero, List.set_cons_succ]
            rfl
          refine rg_take (i := 2) (N := (some 83)) (v := ?_) (a' := ?_) #[false, true, true, false, false, false, false, false, false, false, false, false] rfl rfl (by kernel_rfl) (fun _ _ _ h => h) (by rfl) ?_ hHeld ?_ ?_
          rotate_left 2
          · rintro w' _s
            go_simp
            try with_reducible rfl
          · simp only [Act.put, List.setIfInBounds_toArray, List.set_cons_zero, List.set_cons_succ]
            rfl
          refine rg_take (i := 3) (N := (some 84)) (v := ?_) (a' := ?_) #[false, true, true, true, false, false, false, false, false, false, false, false] rfl rfl (by kernel_rfl) (fun _ _ _ h => h) (by rfl) ?_ hHeld ?_ ?_
          rotate_left 2
          · rintro w' _s
            go_simp
            try with_reducible rfl
          · simp only [Act.put, List.setIfInBounds_toArray, List.set_cons_zero, List.set_cons_succ]
            rfl
          refine rg_take (i := 5) (N := (some 86)) (v := ?_) (a' := ?_) #[false, true, true, true, false, true, false, false, false, false, false, false] rfl rfl (by kernel_rfl) (fun _ _ _ h => h) (by rfl) ?_ hHeld ?_ ?_
          rotate_left 2
          · rintro w' _s
            go_simp
            try with_reducible rfl
          · simp only [Act.put, List.setIfInBounds_toArray, List.set_cons_zero, List.set_cons_succ]
            rfl
          refine rg_take (i := 6) (N := (some 87)) (v := ?_) (a' := ?_) #[false, true, true, true, false, true, true, false, false, false, false, false] rfl rfl (by kernel_rfl) (fun _ _ _ h => h) (by rfl) ?_ hHeld ?_ ?_
          rotate_left 2
          · rintro w' _s
            go_simp
            try with_reducible rfl
          · simp only [Act.put, List.setIfInBounds_toArray, List.set_cons_zero, List.set_cons_succ]
            rfl
          refine rg_take (i := 7) (N := (some 88)) (v := ?_) (a' := ?_) #[false, true, true, true, false, true, true, true, false, false, false, false] rfl rfl (by kernel_rfl) (fun _ _ _ h => h) (by rfl) ?_ hHeld ?_ ?_
          rotate_left 2
          · rintro w' _s
            go_simp
            try with_reducible rfl
          · simp only [Act.put, List.setIfInBounds_toArray, List.set_cons_zero, List.set_cons_succ]
            rfl
          refine rg_take (i := 8) (N := (some 89)) (v := ?_) (a' := ?_) #[false, true, true, true, false, true, true, true, true, false, false, false] rfl rfl (by kernel_rfl) (fun _ _ _ h => h) (by rfl) ?_ hHeld ?_ ?_
          rotate_left 2
          · rintro w' _s
            go_simp
            try with_reducible rfl
          · simp only [Act.put, List.setIfInBounds_toArray, List.set_cons_zero, List.set_cons_succ]
            rfl
          refine rg_take (i := 9) (N := (some 90)) (v := ?_) (a' := ?_) #[false, true, true, true, false, true, true, true, true, true, false, false] rfl rfl (by kernel_rfl) (fun _ _ _ h => h) (by rfl) ?_ hHeld ?_ ?_
          rotate_left 2
          · rintro w' _s
            go_simp
            try with_reducible rfl
          · simp only [Act.put, List.setIfInBounds_toArray, List.set_cons_zero, List.set_cons_succ]
            rfl
          refine rg_one (i := 0) #[true, true, true, true, false, true, true, true, true, true, false, false] rfl (by kernel_rfl) (by rfl) (fun K hK => ?_)
          (refine oper_emptyM (some 81) rfl rfl ?_; intro g0 w8 ho8 hb8; have B8 := B4.trans (hb8.mono B4.size); simp only [Act.put, List.setIfInBounds_toArray, List.set_cons_zero, List.set_cons_succ])
          repeat go_step
          refine hK.out _ _ ?_ (fun hHeld => ?_)
          · trivial
          clear hK K
          refine rg_one (i := 4) #[true, true, true, true, true, true, true, true, true, true, false, false] rfl (by kernel_rfl) (by rfl) (fun K hK => ?_)
          (refine itmO_append (some 85) rfl (Operand.tmp 81) (Operand.tmp 84) rfl w7.heap.size (.slice (some ⟨g0, 0, none⟩) 0 0) [] ((allL n).take a) a ⟨q, 0, none⟩ cap2 HTK.out rfl rfl (ho8.base B4.size) (HT.out _ B8) hA1 B8.size a (by rw [List.nil_append, HTK.out]) ?_; intro A9 c9 w9 ho9 hf9; rw [List.nil_append] at ho9; have B9 := B8.trans (hf9.to_below B8.size (fun q hq e => own_ge (ho8.base B4.size) hq e)); simp only [Act.put, List.setIfInBounds_toArray, List.set_cons_zero, List.set_cons_succ])
          repeat go_step
          refine hK.out _ _ ?_ (fun hHeld => ?_)
          · trivial
          clear hK K
          refine rg_one (i := 10) #[true, true, true, true, true, true, true, true, true, true, true, false] rfl (by kernel_rfl) (by rfl) (fun K hK => ?_)
          (refine itmO_append (some 91) rfl (Operand.tmp 85) (Operand.tmp 90) rfl w7.heap.size (.slice A9 a c9) ((allL n).take a) ((allL n).drop (a + 1)) (n - (a + 1)) ⟨q, (a + 1) * 2, none⟩ (cap2 - (a + 1)) HDK.out rfl rfl ho9 (HD.out _ B9) hA2 B9.size (n - 1) (by rw [HREST.out, HRL.out]) ?_; intro A10 c10 w10 ho10 hf10; rw [HREST.out] at ho10; have B10 := B9.trans (hf10.to_below B9.size (fun q hq e => own_ge ho9 hq e)); simp only [Act.put, List.setIfInBounds_toArray, List.set_cons_zero, List.set_cons_succ])
          repeat go_step
          refine hK.out _ _ ?_ (fun hHeld => ?_)
          · trivial
          clear hK K
          refine rg_take (i := 11) (N := (some 15)) (v := ?_) (a' := ?_) #[true, true, true, true, true, true, true, true, true, true, true, true] rfl rfl (by kernel_rfl) (fun _ _ _ h => h) (by rfl) ?_ hHeld ?_ ?_
          rotate_left 2
          · rintro w' _s
            go_simp
            try with_reducible rfl
          · simp only [Act.put, List.setIfInBounds_toArray, List.set_cons_zero, List.set_cons_succ]
            rfl
          refine rg_done (by kernel_rfl) ?_
          have HO10 := Lib.hid ho10
          have hb10 := below_next HB7.out B10
          have hlg := fun W (e : W = w10) => HLG2.out g A10 c10 w10 (HMO.out.below hb10) (HO10.out.elems Itm.clen)
          have HLG3 := Lib.hid hlg
          have HB10 := Lib.hid hb10
          clear hlg B4 B8 B9 B10 hb10 ho8 ho9 ho10 hf9 hf10 hb8 hwa hu hne0 hu2 hne2 hA1 hA2
          go_wp2_with (go_at_call 14; (with_reducible refine (HLG3.out w10 rfl).mono ?_); rintro e w11 ⟨g11, rfl, hm11, hg11, hf11⟩; rw [if_neg (by decide)] at hm11; have hal11 := (HAL.out.below HB10.out).keep (HMO.out.below HB10.out) (hf11.mono (fun k _ e => .inl e)); have HM11 := Lib.hid hm11; have HAL11 := Lib.hid hal11; have HB11 := Lib.hid ((below_next HBE.out HB10.out).trans (hf11.to_below (below_next HBE.out HB10.out).size (fun i hi e => by have := HBM.out; omega))); clear hm11 hal11 hf11 hg11)
          cases hsn : decide (s ≤ n) with
          | true =>
            have hla := HLA.out g11 w11 HM11.out HAL11.out
            rw [hsn, if_pos rfl] at hla
            have hsI : (s : Int) ≤ (n : Int) := by have := of_decide_eq_true hsn; omega
            have HLA2 := Lib.hid hla
            clear hla hsn
            go_wp2_with (first
              | (go_at_call 14; (with_reducible refine HLA2.out.mono ?_); rintro e w12 ⟨g12, rfl, hm12, hg12, hf12⟩; have HM12 := Lib.hid hm12; have HB12 := Lib.hid (HB11.out.trans (hf12.to_below HB11.out.size (fun i hi e => by have := HBM.out; omega))); clear hm12 hg12 hf12)
              | (go_at_call 13; (with_reducible refine (HL1.out g12 _ HM12.out).mono ?_); rintro e w13 ⟨rfl, hb13⟩; have HM13 := Lib.hid (HM12.out.below hb13); have HB13 := Lib.hid (below_next HB12.out hb13); clear hb13)
              | (go_at_call 15; (with_reducible refine (HI1.out g12 _ HM13.out).mono ?_); rintro e w14 ⟨A14, c14, rfl, _, hb14⟩; have HB14 := Lib.hid (below_next HB13.out hb14); clear hb14))
            go_ret
            exact ⟨rfl, HB14.out⟩
          | false =>
            have hla := HLA.out g11 w11 HM11.out HAL11.out
            rw [hsn, if_neg (by decide)] at hla
            have hsI : ¬ (s : Int) ≤ (n : Int) := by have := of_decide_eq_false hsn; omega
            have hsJ : (n : Int) < (s : Int) := by omega
            have HLA2 := Lib.hid hla
            clear hla hsn
            go_wp2_with (go_at_call 14; (with_reducible refine HLA2.out.mono ?_); rintro e w12 ⟨g12, rfl, hm12, hg12, hf12⟩; have HB12 := Lib.hid (HB11.out.trans (hf12.to_below HB11.out.size (fun i hi e => by have := HBM.out; omega))); clear hm12 hg12 hf12)
            go_ret
            exact ⟨rfl, HB12.out⟩
        · have hnI : ¬ (1 : Int) < (n : Int) := by omega
          go_wp2_with (go_at_call 13; (with_reducible refine (HLT.out _ (Below.refl _ wr)).mono ?_); rintro e w7 ⟨rfl, hb7⟩; have HB7 := Lib.hid hb7; clear hb7)
          have HM11 := Lib.hid (HMO.out.below HB7.out)
          have HAL11 := Lib.hid (HAL.out.below HB7.out)
          have HB11 := Lib.hid (below_next HBE.out HB7.out)
          clear hu hne0
          cases hsn : decide (s ≤ n) with
          | true =>
            have hla := HLA.out g w7 HM11.out HAL11.out
            rw [hsn, if_pos rfl] at hla
            have hsI : (s : Int) ≤ (n : Int) := by have := of_decide_eq_true hsn; omega
            have HLA2 := Lib.hid hla
            clear hla hsn
            go_wp2_with (first
              | (go_at_call 14; (with_reducible refine HLA2.out.mono ?_); rintro e w12 ⟨g12, rfl, hm12, hg12, hf12⟩; have HM12 := Lib.hid hm12; have HB12 := Lib.hid (HB11.out.trans (hf12.to_below HB11.out.size (fun i hi e => by have := HBM.out; omega))); clear hm12 hg12 hf12)
              | (go_at_call 13; (with_reducible refine (HL1.out g12 _ HM12.out).mono ?_); rintro e w13 ⟨rfl, hb13⟩; have HM13 := Lib.hid (HM12.out.below hb13); have HB13 := Lib.hid (below_next HB12.out hb13); clear hb13)
              | (go_at_call 15; (with_reducible refine (HI1.out g12 _ HM13.out).mono ?_); rintro e w14 ⟨A14, c14, rfl, _, hb14⟩; have HB14 := Lib.hid (below_next HB13.out hb14); clear hb14))
            go_ret
            exact ⟨rfl, HB14.out⟩
          | false =>
            have hla := HLA.out g w7 HM11.out HAL11.out
            rw [hsn, if_neg (by decide)] at hla
            have hsI : ¬ (s : Int) ≤ (n : Int) := by have := of_decide_eq_false hsn; omega
            have hsJ : (n : Int) < (s : Int) := by omega
            have HLA2 := Lib.hid hla
            clear hla hsn
            go_wp2_with (go_at_call 14; (with_reducible refine HLA2.out.mono ?_); rintro e w12 ⟨g12, rfl, hm12, hg12, hf12⟩; have HB12 := Lib.hid (HB11.out.trans (hf12.to_below HB11.out.size (fun i hi e => by have := HBM.out; omega))); clear hm12 hg12 hf12)
            go_ret
            exact ⟨rfl, HB12.out⟩
end Go.Proofs.YtdfgdnaejnngoaaGreat
