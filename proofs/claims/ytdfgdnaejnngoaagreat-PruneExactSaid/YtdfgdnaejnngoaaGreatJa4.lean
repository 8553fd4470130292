import Derived.Test.YtdfgdnaejnngoaaGreatJa3
import Derived.Laws.BytesArg
import Derived.Laws.MakeOwn
import Derived.Shelf.Spec.SlicesInsertGrow
namespace Go.Proofs.YtdfgdnaejnngoaaGreat
open Go.RowKit
/-! slices.Delete of one item: the walk. -/
theorem oper_runTo {P : Program} {o : Oper} {a : Act} {w : World} {K : Act → World → Prop} {Q : Exit → Act → World → Prop} (N : Option Tmp) (hN : o.dst = N) (v : Value) (w' : World) (hrun : (execOp a.eval o).run P w = .ok (.value v) w') (h : K (a.put N v) w') : Oper.wp P o a w K Q := by
  subst hN
  unfold Oper.wp
  rw [hrun, Oper.upon_value]
  exact h
theorem op_append_room {o : Oper} {ac : Act} {w : World} {K : Act → World → Prop} {Q : Exit → Act → World → Prop} (N : Option Tmp) (hN : o.dst = N) (s x : Operand) (ho : o.op = .call { callee := .builtin .append, args := #[s, x], argTypes := #[29, 29] })
    (g i cap m c a : Nat) (cur news : List Value) (hs : ac.eval s = .slice (some ⟨g, 0, none⟩) i cap) (hx : ac.eval x = .slice (some ⟨g, a, none⟩) m c) (h : w.heap[g]? = some (.cells cur.toArray 41 (0, 0))) (hl : news.length = m * 2) (hnews : ∀ j u, news[j]? = some u → w.cell? ((⟨g, a, none⟩ : Addr).add j) = some u) (h1 : ∀ u ∈ news, u.oneCell' = true)
    (hroom : i + m ≤ cap) (hfit : i * 2 + news.length ≤ cur.length) (hK : K (ac.put N (.slice (some ⟨g, 0, none⟩) (i + m) cap)) (w.setCells g (i * 2) news)) : Oper.wp Tryz.prog o ac w K Q := by
  have hr := append_room w g i i cap m c a o.type cur news h hl hnews h1 hroom hfit
  refine oper_runTo N hN _ _ ?_ hK
  unfold execOp
  simp only [ho, resolve, invoke, builtin, Sem.run_bind, Sem.run_pure, Result.andThen_ok, List.map_toArray, List.map_cons, List.map_nil, hs, hx]
  rw [hr]
  rfl
theorem fl_drop (l : List Itm) (k : Nat) (hk : k ≤ l.length) : (fl l).drop (k * 2) = fl (l.drop k) := by
  have h : fl l = fl (l.take k) ++ fl (l.drop k) := by rw [← fl_append, List.take_append_drop]
  rw [h]
  exact List.drop_left' (by rw [fl_len, List.length_take, Nat.min_eq_left hk])
theorem del_news {w : World} {g : Nat} {cur : List Value} {l : List Itm} (hg : w.heap[g]? = some (.cells cur.toArray 41 (0, 0))) (ht : cur.take (l.length * 2) = fl l) (k : Nat) (hk : k ≤ l.length) : ∀ j u, (fl (l.drop k))[j]? = some u → w.cell? ((⟨g, k * 2, none⟩ : Addr).add j) = some u := by
  intro j u hj
  rw [← fl_drop l k hk, List.getElem?_drop, ← ht, List.getElem?_take] at hj
  split at hj
  · rw [Addr.add_mid, Lib.cell_of_heap hg]
    simpa using hj
  · cases hj
theorem fl_one (l : List Itm) : ∀ u ∈ fl l, u.oneCell' = true := by
  intro u hu
  obtain ⟨r, hr, hu⟩ := List.mem_flatten.1 hu
  obtain ⟨e, _, rfl⟩ := List.mem_map.1 hr
  exact itm_one e u hu
set_option maxHeartbeats 1000000 in
set_option maxRecDepth 100000 in
theorem delete_any (B g cap i : Nat) (l : List Itm) (w : World) (h : OwnsM w B (.slice (some ⟨g, 0, none⟩) l.length cap) l) (hi : i < l.length) (hl : l.length ≤ 100000) : Calls Tryz.prog 119 #[.slice (some ⟨g, 0, none⟩) l.length cap, .int .i64 i, .int .i64 (i + 1)] w
    fun e w' => e = .returned (.slice (some ⟨g, 0, none⟩) (l.length - 1) cap) ∧ OwnsM w' B (.slice (some ⟨g, 0, none⟩) (l.length - 1) cap) (l.eraseIdx i) ∧ Fr (fun k => k = g) w w' := by
  obtain ⟨cur, hg, hB, hcl, hcm, hlc, ht, _⟩ := h.block
  have hcap : cap ≤ 9223372036854775807 := by unfold maxLen at hcm; omega
  have hiI : (i : Int) < (l.length : Int) := by omega
  have hlcI : (l.length : Int) ≤ (cap : Int) := by omega
  have hic : i ≤ cap := by omega
  have hi1 : (0 : Int) ≤ (i : Int) + 1 ∧ (i : Int) + 1 ≤ (l.length : Int) := by omega
  have HG := Lib.hid hg
  have HT := Lib.hid ht
  clear h hg ht
  have hlen : (fl (l.drop (i + 1))).length = (l.length - (i + 1)) * 2 := by rw [fl_len, List.length_drop]
  have hfit : i * 2 + (fl (l.drop (i + 1))).length ≤ cur.length := by rw [hlen]; omega
  have hnw := del_news HG.out HT.out (i + 1) (by omega)
  have hdm := del_move l i hi cur (by omega) HT.out
  have HLEN := Lib.hid hlen
  have HFIT := Lib.hid hfit
  have HNW := Lib.hid hnw
  have HDM := Lib.hid hdm
  clear hlen hfit hnw hdm
  by_cases hce : cap = i + 1
  · have hdz : fl (l.drop (i + 1)) = [] := by
      apply List.eq_nil_of_length_eq_zero
      rw [HLEN.out]
      omega
    have HWE := Lib.hid (show ∀ W : World, W.setCells g (i * 2) [] = W.setCells g (i * 2) (fl (l.drop (i + 1))) from fun W => by rw [hdz])
    clear hdz hcap
    have hii : (i : Int) ≤ (i : Int) + 1 := by omega
    have hfit0 : i * 2 + ([] : List Value).length ≤ cur.length := by have := HFIT.out; simp; omega
    have HF0 := Lib.hid hfit0
    clear hfit0
    subst hce
    go_enter Tryz.func119, Tryz.ntmps119
    go_wp2
    refine rg_start (n := 8) (fun w' => Fr (fun k => k = g) w w') #[false, false, false, false, false, false, false, false] (by kernel_rfl) rfl rfl (Fr.refl _ w).drew (fun hHeld => ?_)
    refine rg_take (i := 0) (N := (some 20)) (v := ?_) (a' := ?_) #[true, false, false, false, false, false, false, false] rfl rfl (by kernel_rfl) (fun _ _ _ h => h) (by rfl) ?_ hHeld ?_ ?_
    rotate_left 2
    · rintro w' s0
      go_simp
      try with_reducible rfl
    · simp only [Act.put, List.setIfInBounds_toArray, List.set_cons_zero, List.set_cons_succ]
      rfl
    refine rg_take (i := 1) (N := (some 21)) (v := ?_) (a' := ?_) #[true, true, false, false, false, false, false, false] rfl rfl (by kernel_rfl) (fun _ _ _ h => h) (by rfl) ?_ hHeld ?_ ?_
    rotate_left 2
    · rintro w' s0
      go_simp
      try with_reducible rfl
    · simp only [Act.put, List.setIfInBounds_toArray, List.set_cons_zero, List.set_cons_succ]
      rfl
    refine rg_take (i := 2) (N := (some 22)) (v := ?_) (a' := ?_) #[true, true, true, false, false, false, false, false] rfl rfl (by kernel_rfl) (fun _ _ _ h => h) (by rfl) ?_ hHeld ?_ ?_
    rotate_left 2
    · rintro w' s0
      go_simp
      try with_reducible rfl
    · simp only [Act.put, List.setIfInBounds_toArray, List.set_cons_zero, List.set_cons_succ]
      rfl
    refine rg_take (i := 3) (N := (some 23)) (v := ?_) (a' := ?_) #[true, true, true, true, false, false, false, false] rfl rfl (by kernel_rfl) (fun _ _ _ h => h) (by rfl) ?_ hHeld ?_ ?_
    rotate_left 2
    · rintro w' s0
      go_simp
      try with_reducible rfl
    · simp only [Act.put, List.setIfInBounds_toArray, List.set_cons_zero, List.set_cons_succ]
      rfl
    refine rg_take (i := 4) (N := (some 24)) (v := ?_) (a' := ?_) #[true, true, true, true, true, false, false, false] rfl rfl (by kernel_rfl) (fun _ _ _ h => h) (by rfl) ?_ hHeld ?_ ?_
    rotate_left 2
    · rintro w' s0
      go_simp
      try with_reducible rfl
    · simp only [Act.put, List.setIfInBounds_toArray, List.set_cons_zero, List.set_cons_succ]
      rfl
    refine rg_take (i := 5) (N := (some 25)) (v := ?_) (a' := ?_) #[true, true, true, true, true, true, false, false] rfl rfl (by kernel_rfl) (fun _ _ _ h => h) (by rfl) ?_ hHeld ?_ ?_
    rotate_left 2
    · rintro w' s0
      go_simp
      try with_reducible rfl
    · simp only [Act.put, List.setIfInBounds_toArray, List.set_cons_zero, List.set_cons_succ]
      rfl
    refine rg_one (i := 6) #[true, true, true, true, true, true, true, false] rfl (by kernel_rfl) (by rfl) (fun K hK => ?_)
    have s0 := hHeld
    clear hHeld
    (refine op_append_room (some 26) rfl (Operand.tmp 22) (Operand.tmp 25) rfl g i (i + 1) 0 0 0 cur [] rfl rfl HG.out rfl (fun j u hj => by simp at hj) (fun u hu => by simp at hu) (by omega) HF0.out ?_; simp only [Act.put, List.setIfInBounds_toArray, List.set_cons_zero, List.set_cons_succ])
    repeat go_step
    refine hK.out _ _ ?_ (fun hHeld => ?_)
    · exact s0.tr (setCells_is_fr g _ _ _)
    clear hK K
    clear s0
    refine rg_take (i := 7) (N := (some 0)) (v := ?_) (a' := ?_) #[true, true, true, true, true, true, true, true] rfl rfl (by kernel_rfl) (fun _ _ _ h => h) (by rfl) ?_ hHeld ?_ ?_
    rotate_left 2
    · rintro w' s0
      go_simp
      try with_reducible rfl
    · simp only [Act.put, List.setIfInBounds_toArray, List.set_cons_zero, List.set_cons_succ]
      rfl
    refine rg_done (by kernel_rfl) ?_
    rw [HWE.out] at hHeld
    rw [HWE.out, Nat.add_zero]
    have hli : l.length - 1 = i := by omega
    have HLI := Lib.hid hli
    clear hli
    have hg2 := setCells_heap (fl (l.drop (i + 1))) w.drew (i * 2) cur HG.out
    generalize w.drew.setCells g (i * 2) (fl (l.drop (i + 1))) = W at *
    have hw2 : (wrL cur (i * 2) (fl (l.drop (i + 1)))).length = cur.length := HDM.out.2
    have hclr : ∀ ty, (Builtin.clear_ #[29] ty #[.slice (some ⟨g, i * 2, none⟩) (l.length - i) 1]).run Tryz.prog W = .ok (.tuple #[]) (W.setCells g (i * 2) zs2) := fun ty => by rw [show l.length - i = 1 from by omega]; exact clear_one W g (i * 2) 1 ty _ hg2 (by rw [hw2]; omega)
    have HG2 := Lib.hid hg2
    clear hg2 hw2
    go_wp2
    go_ret
    have hE := erase_len l i hi
    rw [HLI.out]
    refine ⟨rfl, ?_, hHeld.tr (setCells_is_fr g _ _ _)⟩
    have hE2 : (l.eraseIdx i).length = i := hE.trans HLI.out
    have hT : (wrL cur (i * 2) (fl (l.drop (i + 1)))).take (i * 2) = fl (l.eraseIdx i) := by have := HDM.out.1; rw [HLI.out] at this; exact this
    have hfin := OwnsM.of_block (B := B) (cap := i + 1) (l := l.eraseIdx i) (setCells_heap zs2 W (i * 2) _ HG2.out) hB (by rw [wrL_length, HDM.out.2]; exact hcl) hcm (by omega) (by rw [hE2, wr_take _ _ _ (by rw [HDM.out.2]; show i * 2 + 2 ≤ _; omega)]; exact hT)
    rw [hE2] at hfin
    exact hfin
  · go_enter Tryz.func119, Tryz.ntmps119
    go_wp2
    refine rg_start (n := 8) (fun w' => Fr (fun k => k = g) w w') #[false, false, false, false, false, false, false, false] (by kernel_rfl) rfl rfl (Fr.refl _ w).drew (fun hHeld => ?_)
    refine rg_take (i := 0) (N := (some 20)) (v := ?_) (a' := ?_) #[true, false, false, false, false, false, false, false] rfl rfl (by kernel_rfl) (fun _ _ _ h => h) (by rfl) ?_ hHeld ?_ ?_
    rotate_left 2
    · rintro w' s0
      go_simp
      try with_reducible rfl
    · simp only [Act.put, List.setIfInBounds_toArray, List.set_cons_zero, List.set_cons_succ]
      rfl
    refine rg_take (i := 1) (N := (some 21)) (v := ?_) (a' := ?_) #[true, true, false, false, false, false, false, false] rfl rfl (by kernel_rfl) (fun _ _ _ h => h) (by rfl) ?_ hHeld ?_ ?_
    rotate_left 2
    · rintro w' s0
      go_simp
      try with_reducible rfl
    · simp only [Act.put, List.setIfInBounds_toArray, List.set_cons_zero, List.set_cons_succ]
      rfl
    refine rg_take (i := 2) (N := (some 22)) (v := ?_) (a' := ?_) #[true, true, true, false, false, false, false, false] rfl rfl (by kernel_rfl) (fun _ _ _ h => h) (by rfl) ?_ hHeld ?_ ?_
    rotate_left 2
    · rintro w' s0
      go_simp
      try with_reducible rfl
    · simp only [Act.put, List.setIfInBounds_toArray, List.set_cons_zero, List.set_cons_succ]
      rfl
    refine rg_take (i := 3) (N := (some 23)) (v := ?_) (a' := ?_) #[true, true, true, true, false, false, false, false] rfl rfl (by kernel_rfl) (fun _ _ _ h => h) (by rfl) ?_ hHeld ?_ ?_
    rotate_left 2
    · rintro w' s0
      go_simp
      try with_reducible rfl
    · simp only [Act.put, List.setIfInBounds_toArray, List.set_cons_zero, List.set_cons_succ]
      rfl
    refine rg_take (i := 4) (N := (some 24)) (v := ?_) (a' := ?_) #[true, true, true, true, true, false, false, false] rfl rfl (by kernel_rfl) (fun _ _ _ h => h) (by rfl) ?_ hHeld ?_ ?_
    rotate_left 2
    · rintro w' s0
      go_simp
      try with_reducible rfl
    · simp only [Act.put, List.setIfInBounds_toArray, List.set_cons_zero, List.set_cons_succ]
      rfl
    refine rg_take (i := 5) (N := (some 25)) (v := ?_) (a' := ?_) #[true, true, true, true, true, true, false, false] rfl rfl (by kernel_rfl) (fun _ _ _ h => h) (by rfl) ?_ hHeld ?_ ?_
    rotate_left 2
    · rintro w' s0
      go_simp
      try with_reducible rfl
    · simp only [Act.put, List.setIfInBounds_toArray, List.set_cons_zero, List.set_cons_succ]
      rfl
    refine rg_one (i := 6) #[true, true, true, true, true, true, true, false] rfl (by kernel_rfl) (by rfl) (fun K hK => ?_)
    have s0 := hHeld
    clear hHeld
    (refine op_append_room (some 26) rfl (Operand.tmp 22) (Operand.tmp 25) rfl g i cap (l.length - (i + 1)) (cap - (i + 1)) ((i + 1) * 2) cur (fl (l.drop (i + 1))) rfl rfl HG.out HLEN.out HNW.out (fl_one _) (by omega) HFIT.out ?_; simp only [Act.put, List.setIfInBounds_toArray, List.set_cons_zero, List.set_cons_succ])
    repeat go_step
    refine hK.out _ _ ?_ (fun hHeld => ?_)
    · exact s0.tr (setCells_is_fr g _ _ _)
    clear hK K
    clear s0
    refine rg_take (i := 7) (N := (some 0)) (v := ?_) (a' := ?_) #[true, true, true, true, true, true, true, true] rfl rfl (by kernel_rfl) (fun _ _ _ h => h) (by rfl) ?_ hHeld ?_ ?_
    rotate_left 2
    · rintro w' s0
      go_simp
      try with_reducible rfl
    · simp only [Act.put, List.setIfInBounds_toArray, List.set_cons_zero, List.set_cons_succ]
      rfl
    refine rg_done (by kernel_rfl) ?_
    rw [show i + (l.length - (i + 1)) = l.length - 1 from by omega]
    have hg2 := setCells_heap (fl (l.drop (i + 1))) w.drew (i * 2) cur HG.out
    have hn1 : ((l.length - 1 : Nat) : Int) = (l.length : Int) - 1 := by omega
    generalize w.drew.setCells g (i * 2) (fl (l.drop (i + 1))) = W at *
    have hw2 : (wrL cur (i * 2) (fl (l.drop (i + 1)))).length = cur.length := HDM.out.2
    have hclr : ∀ ty, (Builtin.clear_ #[29] ty #[.slice (some ⟨g, (l.length - 1) * 2, none⟩) (l.length - (l.length - 1)) (cap - (l.length - 1))]).run Tryz.prog W = .ok (.tuple #[]) (W.setCells g ((l.length - 1) * 2) zs2) := fun ty => by rw [show l.length - (l.length - 1) = 1 from by omega]; exact clear_one W g ((l.length - 1) * 2) (cap - (l.length - 1)) ty _ hg2 (by rw [hw2]; omega)
    have HG2 := Lib.hid hg2
    clear hg2 hw2
    go_wp2
    go_ret
    have hE := erase_len l i hi
    refine ⟨rfl, ?_, hHeld.tr (setCells_is_fr g _ _ _)⟩
    rw [← hE]
    refine OwnsM.of_block (setCells_heap zs2 W _ _ HG2.out) hB (by rw [wrL_length, HDM.out.2]; exact hcl) hcm (by omega) ?_
    rw [hE, wr_take _ _ _ (by rw [HDM.out.2]; show (l.length - 1) * 2 + 2 ≤ _; omega)]
    exact HDM.out.1
end Go.Proofs.YtdfgdnaejnngoaaGreat
namespace Go.Proofs.YtdfgdnaejnngoaaGreat
open Go.RowKit
/-! Items by their keys: the pure law of leaves. -/
def getL (l : List Itm) (k : ByteArray) : Option ByteArray := (l.find? fun x => decide (x.key = k)).map Itm.val
def insR (k v : ByteArray) : List Itm → List Itm
  | [] => [⟨k, v⟩]
  | x :: l => if klt x.key k = true then x :: insR k v l else if x.key = k then ⟨k, v⟩ :: l else ⟨k, v⟩ :: x :: l
def delR (k : ByteArray) (l : List Itm) : List Itm := l.filter fun x => !decide (x.key = k)
def putO (l : List Itm) (k : ByteArray) : Option ByteArray → List Itm
  | some v => insR k v l
  | none => delR k l
def doL (l : List Itm) (x : Mg) : List Itm := putO l x.key (applyO x (getL l x.key))
theorem klt_ne {a b : ByteArray} (h : klt a b = true) : a ≠ b := fun e => by subst e; rw [klt_irrefl] at h; cases h
theorem klt_asym {a b : ByteArray} (h : klt a b = true) : klt b a = false := by
  cases h' : klt b a
  · rfl
  · have := klt_trans h h'
    rw [klt_irrefl] at this
    cases this
theorem getL_nil (k : ByteArray) : getL [] k = none := rfl
theorem getL_cons (x : Itm) (l : List Itm) (k : ByteArray) : getL (x :: l) k = if x.key = k then some x.val else getL l k := by
  unfold getL
  rw [List.find?_cons]
  by_cases h : x.key = k <;> simp [h]
theorem getL_none {l : List Itm} {k : ByteArray} (h : ∀ y ∈ l, y.key ≠ k) : getL l k = none := by
  induction l with
  | nil => rfl
  | cons x l ih => rw [getL_cons, if_neg (h x (by simp)), ih (fun y hy => h y (by simp [hy]))]
theorem getL_mem {l : List Itm} {k v : ByteArray} (h : getL l k = some v) : (⟨k, v⟩ : Itm) ∈ l := by
  induction l with
  | nil => cases h
  | cons x l ih =>
    rw [getL_cons] at h
    split at h
    · next e => cases h; subst e; simp
    · exact List.mem_cons_of_mem _ (ih h)
theorem getL_of_mem {l : List Itm} (hr : Rises l) {x : Itm} (h : x ∈ l) : getL l x.key = some x.val := by
  induction l with
  | nil => cases h
  | cons y l ih =>
    rw [getL_cons]
    rcases List.mem_cons.1 h with rfl | h'
    · rw [if_pos rfl]
    · rw [if_neg (klt_ne (hr.1 x h')), ih hr.2 h']
theorem Rises.tail_ne {x : Itm} {l : List Itm} (h : Rises (x :: l)) : ∀ y ∈ l, y.key ≠ x.key := fun y hy => (klt_ne (h.1 y hy)).symm
theorem Rises.ge_ne {x : Itm} {l : List Itm} (h : Rises (x :: l)) {k : ByteArray} (h1 : klt x.key k = false) : ∀ y ∈ l, y.key ≠ k := fun y hy e => by
  subst e
  rw [h.1 y hy] at h1
  cases h1
theorem lb_cons (x : Itm) (l : List Itm) (k : ByteArray) : lb (x :: l) k = if klt x.key k = true then lb l k + 1 else 0 := by
  unfold lb
  rw [List.takeWhile_cons]
  split <;> simp
theorem hasK_cons (x : Itm) (l : List Itm) (k : ByteArray) : hasK (x :: l) k = if klt x.key k = true then hasK l k else decide (x.key = k) := by
  unfold hasK
  rw [lb_cons]
  split <;> simp
theorem hasK_get : ∀ {l : List Itm} (k : ByteArray), Rises l → hasK l k = (getL l k).isSome
  | [], k, _ => by simp [hasK, getL]
  | x :: l, k, h => by
    rw [hasK_cons, getL_cons]
    by_cases h1 : klt x.key k = true
    · rw [if_pos h1, if_neg (klt_ne h1), hasK_get k h.2]
    · rw [if_neg h1]
      by_cases e : x.key = k
      · simp [e]
      · rw [if_neg e, getL_none (h.ge_ne (by simpa using h1))]
        simp [e]
theorem find_get : ∀ {l : List Itm} (k : ByteArray), Rises l → findV l k = getL l k
  | [], k, _ => by simp [findV, hasK, getL, lb]
  | x :: l, k, h => by
    have ih := find_get k h.2
    unfold findV at ih ⊢
    rw [hasK_cons, lb_cons, getL_cons]
    by_cases h1 : klt x.key k = true
    · rw [if_pos h1, if_pos h1, if_neg (klt_ne h1), List.getElem?_cons_succ, ih]
    · rw [if_neg h1, if_neg h1]
      by_cases e : x.key = k
      · simp [e]
      · rw [if_neg e, getL_none (h.ge_ne (by simpa using h1))]
        simp [e]
theorem set_ins : ∀ {l : List Itm} (k v : ByteArray), Rises l → hasK l k = true → l.set (lb l k) ⟨k, v⟩ = insR k v l
  | [], k, v, _, hh => by simp [hasK] at hh
  | x :: l, k, v, h, hh => by
    rw [lb_cons, insR]
    rw [hasK_cons] at hh
    by_cases h1 : klt x.key k = true
    · rw [if_pos h1] at hh
      rw [if_pos h1, if_pos h1, List.set_cons_succ, set_ins k v h.2 hh]
    · rw [if_neg h1] at hh
      rw [if_neg h1, if_neg h1, if_pos (by simpa using hh), List.set_cons_zero]
theorem insert_ins : ∀ {l : List Itm} (k v : ByteArray), Rises l → hasK l k = false → l.insertIdx (lb l k) ⟨k, v⟩ = insR k v l
  | [], k, v, _, hh => by simp [lb, insR]
  | x :: l, k, v, h, hh => by
    rw [lb_cons, insR]
    rw [hasK_cons] at hh
    by_cases h1 : klt x.key k = true
    · rw [if_pos h1] at hh
      rw [if_pos h1, if_pos h1, List.insertIdx_succ_cons, insert_ins k v h.2 hh]
    · rw [if_neg h1] at hh
      rw [if_neg h1, if_neg h1, if_neg (by simpa using hh), List.insertIdx_zero]
theorem erase_del : ∀ {l : List Itm} (k : ByteArray), Rises l → hasK l k = true → l.eraseIdx (lb l k) = delR k l
  | [], k, _, hh => by simp [hasK] at hh
  | x :: l, k, h, hh => by
    unfold delR
    rw [lb_cons, List.filter_cons]
    rw [hasK_cons] at hh
    by_cases h1 : klt x.key k = true
    · rw [if_pos h1] at hh
      rw [if_pos h1, List.eraseIdx_cons_succ, erase_del k h.2 hh, if_pos (by simp [klt_ne h1])]
      rfl
    · rw [if_neg h1] at hh
      have e : x.key = k := by simpa using hh
      rw [if_neg h1, List.eraseIdx_cons_zero, if_neg (by simp [e])]
      symm
      rw [List.filter_eq_self]
      intro y hy
      have := h.ge_ne (by simpa using h1) y hy
      simp [this]
theorem del_none {l : List Itm} (k : ByteArray) (hr : Rises l) (hh : hasK l k = false) : delR k l = l := by
  rw [hasK_get k hr] at hh
  unfold delR
  rw [List.filter_eq_self]
  intro y hy
  by_cases e : y.key = k
  · subst e
    rw [getL_of_mem hr hy] at hh
    cases hh
  · simp [e]
theorem get_ins (k v k' : ByteArray) : ∀ l : List Itm, getL (insR k v l) k' = if k' = k then some v else getL l k'
  | [] => by rw [insR, getL_cons, getL_nil]; by_cases h : k' = k <;> simp [h]; intro e; exact absurd e.symm h
  | x :: l => by
    rw [insR]
    have ih := get_ins k v k' l
    split
    · next h1 =>
      rw [getL_cons, getL_cons, ih]
      by_cases h : k' = k
      · subst h; simp [klt_ne h1]
      · simp [h]
    · split
      · next h1 e =>
        rw [getL_cons, getL_cons]
        by_cases h : k' = k
        · subst h; simp
        · have h' : ¬ k = k' := fun e' => h e'.symm
          simp [h, e, h']
      · rw [getL_cons]
        by_cases h : k' = k
        · subst h; simp
        · have h' : ¬ k = k' := fun e' => h e'.symm
          simp [h, h']
theorem get_del (k k' : ByteArray) : ∀ l : List Itm, getL (delR k l) k' = if k' = k then none else getL l k'
  | [] => by simp [delR, getL]
  | x :: l => by
    have ih := get_del k k' l
    unfold delR at ih ⊢
    rw [List.filter_cons]
    by_cases e : x.key = k
    · rw [if_neg (by simp [e]), ih, getL_cons]
      by_cases h : k' = k
      · simp [h]
      · have h' : ¬ k = k' := fun e' => h e'.symm
        simp [h, e, h']
    · rw [if_pos (by simp [e]), getL_cons, getL_cons, ih]
      by_cases h : k' = k
      · subst h; simp [e]
      · simp [h]
theorem get_put (l : List Itm) (k k' : ByteArray) (o : Option ByteArray) : getL (putO l k o) k' = if k' = k then o else getL l k' := by
  cases o with
  | none => exact get_del k k' l
  | some v => exact get_ins k v k' l
theorem mem_ins {k v : ByteArray} {y : Itm} : ∀ {l : List Itm}, y ∈ insR k v l → y = ⟨k, v⟩ ∨ y ∈ l
  | [], h => by simp [insR] at h; exact .inl h
  | x :: l, h => by
    rw [insR] at h
    split at h
    · rcases List.mem_cons.1 h with rfl | h
      · exact .inr (by simp)
      · rcases mem_ins h with h | h
        · exact .inl h
        · exact .inr (by simp [h])
    · split at h
      · rcases List.mem_cons.1 h with h | h
        · exact .inl h
        · exact .inr (by simp [h])
      · rcases List.mem_cons.1 h with h | h
        · exact .inl h
        · exact .inr h
theorem rises_ins (k v : ByteArray) : ∀ {l : List Itm}, Rises l → Rises (insR k v l)
  | [], _ => ⟨by simp, trivial⟩
  | x :: l, h => by
    rw [insR]
    split
    · next h1 =>
      refine ⟨fun y hy => ?_, rises_ins k v h.2⟩
      rcases mem_ins hy with rfl | hy
      · exact h1
      · exact h.1 y hy
    · next h1 =>
      split
      · next e => exact ⟨fun y hy => by rw [← e]; exact h.1 y hy, h.2⟩
      · next e =>
        have hk : klt k x.key = true := by
          cases h2 : klt k x.key
          · exact absurd (klt_tri (by simpa using h1) h2) e
          · rfl
        refine ⟨fun y hy => ?_, h⟩
        rcases List.mem_cons.1 hy with rfl | hy
        · exact hk
        · exact klt_trans hk (h.1 y hy)
theorem rises_filter (p : Itm → Bool) : ∀ {l : List Itm}, Rises l → Rises (l.filter p)
  | [], _ => trivial
  | x :: l, h => by
    rw [List.filter_cons]
    split
    · exact ⟨fun y hy => h.1 y (List.mem_filter.1 hy).1, rises_filter p h.2⟩
    · exact rises_filter p h.2
theorem rises_put {l : List Itm} (h : Rises l) (k : ByteArray) (o : Option ByteArray) : Rises (putO l k o) := by
  cases o with
  | none => exact rises_filter _ h
  | some v => exact rises_ins k v h
theorem rises_ext : ∀ {a b : List Itm}, Rises a → Rises b → (∀ k, getL a k = getL b k) → a = b
  | [], [], _, _, _ => rfl
  | [], y :: b, _, _, h => by
    have := h y.key
    rw [getL_cons, if_pos rfl] at this
    cases this
  | x :: a, [], _, _, h => by
    have := h x.key
    rw [getL_cons, if_pos rfl] at this
    cases this
  | x :: a, y :: b, ha, hb, h => by
    have hx := h x.key
    have hy := h y.key
    rw [getL_cons, if_pos rfl, getL_cons] at hx
    rw [getL_cons, getL_cons, if_pos rfl] at hy
    have e : x.key = y.key := by
      by_cases e : x.key = y.key
      · exact e
      · rw [if_neg (fun e' => e e'.symm)] at hx
        rw [if_neg e] at hy
        have h1 := hb.1 _ (getL_mem hx.symm)
        have h2 := ha.1 _ (getL_mem hy)
        rw [klt_asym h1] at h2
        cases h2
    rw [if_pos e.symm] at hx
    have ev : x.val = y.val := by simpa using hx
    have exy : x = y := by cases x; cases y; simp at e ev; simp [e, ev]
    subst exy
    have : a = b := rises_ext ha.2 hb.2 (fun k => by
      have hk := h k
      rw [getL_cons, getL_cons] at hk
      by_cases e : x.key = k
      · subst e
        rw [getL_none ha.tail_ne, getL_none hb.tail_ne]
      · rw [if_neg e, if_neg e] at hk
        exact hk)
    rw [this]
def wO (k : ByteArray) : Option ByteArray → Int
  | some v => itW ⟨k, v⟩
  | none => 0
theorem sumW_ins (k v : ByteArray) : ∀ {l : List Itm}, Rises l → sumW (insR k v l) = sumW l + itW ⟨k, v⟩ - wO k (getL l k)
  | [], _ => by simp [insR, sumW, getL, wO]
  | x :: l, h => by
    rw [insR, getL_cons]
    split
    · next h1 =>
      rw [if_neg (klt_ne h1), sumW, sumW, sumW_ins k v h.2]
      omega
    · next h1 =>
      split
      · next e =>
        subst e
        have hx : itW ⟨x.key, x.val⟩ = itW x := rfl
        simp only [sumW, wO]
        omega
      · next e =>
        rw [getL_none (h.ge_ne (by simpa using h1))]
        simp only [sumW, wO]
        omega
theorem sumW_del (k : ByteArray) : ∀ {l : List Itm}, Rises l → sumW (delR k l) = sumW l - wO k (getL l k)
  | [], _ => by simp [delR, sumW, getL, wO]
  | x :: l, h => by
    have ih := sumW_del k h.2
    rw [getL_cons]
    unfold delR at ih ⊢
    rw [List.filter_cons]
    by_cases e : x.key = k
    · subst e
      rw [getL_none h.tail_ne] at ih
      have hx : itW ⟨x.key, x.val⟩ = itW x := rfl
      rw [if_neg (by simp), if_pos rfl, ih]
      simp only [sumW, wO]
      omega
    · rw [if_pos (by simp [e]), if_neg e, sumW, sumW, ih]
      omega
theorem sumW_put {l : List Itm} (h : Rises l) (k : ByteArray) (o : Option ByteArray) : sumW (putO l k o) = sumW l + wO k o - wO k (getL l k) := by
  cases o with
  | none => simp only [putO, sumW_del k h, wO]; omega
  | some v => simp only [putO, sumW_ins k v h, wO]
theorem len_ins (k v : ByteArray) : ∀ {l : List Itm}, Rises l → (insR k v l).length = l.length + if (getL l k).isSome = true then 0 else 1
  | [], _ => by simp [insR, getL]
  | x :: l, h => by
    rw [insR, getL_cons]
    split
    · next h1 =>
      rw [if_neg (klt_ne h1), List.length_cons, List.length_cons, len_ins k v h.2]
      omega
    · next h1 =>
      split
      · next e => simp
      · next e =>
        rw [getL_none (h.ge_ne (by simpa using h1))]
        simp
theorem len_del (k : ByteArray) : ∀ {l : List Itm}, Rises l → (delR k l).length + (if (getL l k).isSome = true then 1 else 0) = l.length
  | [], _ => by simp [delR, getL]
  | x :: l, h => by
    have ih := len_del k h.2
    rw [getL_cons]
    unfold delR at ih ⊢
    rw [List.filter_cons]
    by_cases e : x.key = k
    · subst e
      rw [getL_none h.tail_ne] at ih
      rw [if_neg (by simp), if_pos rfl]
      simp at ih ⊢
      exact ih
    · rw [if_pos (by simp [e]), if_neg e, List.length_cons, List.length_cons, ← ih]
      omega
theorem put_len {l : List Itm} (h : Rises l) (k : ByteArray) (o : Option ByteArray) : (putO l k o).length ≤ l.length + 1 := by
  cases o with
  | none => have := len_del k h; simp only [putO]; omega
  | some v => have := len_ins k v h; simp only [putO]; rw [this]; split <;> omega
/-- what a message makes is an item -/
theorem apply_ok {x : Mg} {l : List Itm} (hm : isMsg x = true) (ho : ∀ y ∈ l, y.ok) : ∀ v, applyO x (getL l x.key) = some v → (⟨x.key, v⟩ : Itm).ok := by
  intro v hv
  unfold isMsg at hm
  rw [Bool.and_eq_true] at hm
  obtain ⟨hk, hm2⟩ := hm
  refine ⟨hk, ?_⟩
  unfold applyO at hv
  rw [if_pos (by unfold isMsg; rw [hk, hm2]; rfl)] at hv
  have hsz : ∀ u w, isVal u = true → isVal (sumS u w) = true := by
    intro u w hu
    unfold sumS
    split
    · unfold isVal valB
      simp [ByteArray.size, valBytes_length]
    · exact hu
  simp only [Bool.or_eq_true, Bool.and_eq_true, decide_eq_true_eq] at hm2
  by_cases h2 : x.kind = 2
  · rw [if_pos h2] at hv; cases hv
  rw [if_neg h2] at hv
  by_cases h1 : x.kind = 1
  · rw [if_pos h1] at hv
    cases hv
    rcases hm2 with h | h | h
    · exact h.2
    · exact absurd h.1 h2
    · exact absurd h.1 (by omega)
  · rw [if_neg h1] at hv
    have h8 : (x.val.size : Int) = 8 := by
      rcases hm2 with h | h | h
      · exact absurd h.1 h1
      · exact absurd h.1 h2
      · exact h.2
    have hv8 : isVal x.val = true := by unfold isVal; simp; omega
    cases hg : getL l x.key with
    | none => rw [hg] at hv; cases hv; exact hv8
    | some u =>
      rw [hg] at hv
      cases hv
      exact hsz u x.val (ho _ (getL_mem hg)).2
theorem oks_put {l : List Itm} (ho : ∀ y ∈ l, y.ok) (k : ByteArray) (o : Option ByteArray) (hk : ∀ v, o = some v → (⟨k, v⟩ : Itm).ok) : ∀ y ∈ putO l k o, y.ok := by
  intro y hy
  cases o with
  | none => exact ho y (List.mem_filter.1 hy).1
  | some v =>
    rcases mem_ins hy with rfl | hy
    · exact hk v rfl
    · exact ho y hy
theorem oks_do {l : List Itm} (ho : ∀ y ∈ l, y.ok) {x : Mg} (hm : isMsg x = true) : ∀ y ∈ doL l x, y.ok := oks_put ho _ _ (apply_ok hm ho)
theorem rises_do {l : List Itm} (h : Rises l) (x : Mg) : Rises (doL l x) := rises_put h _ _
end Go.Proofs.YtdfgdnaejnngoaaGreat
namespace Go.Proofs.YtdfgdnaejnngoaaGreat
open Go.RowKit
/-! Prune: the pure law. -/
def msgO (o : Ord) : Option Mg := if o.kind = 1 then some ⟨1, o.key, o.val⟩ else if o.kind = 2 then some ⟨2, o.key, ⟨#[]⟩⟩ else if o.kind = 3 then some ⟨3, o.key, valB o.n.toNat⟩ else none
def stepI (l : List Itm) (o : Ord) : List Itm := match msgO o with
  | some m => if isMsg m = true then doL l m else l
  | none => l
def itemsO (os : List Ord) : List Itm := os.foldl stepI []
def apK (k : ByteArray) (s : Option ByteArray) (o : Ord) : Option ByteArray := if o.key = k then (match msgO o with | some m => applyO m s | none => s) else s
def resetB (k : ByteArray) (o : Ord) : Bool := decide (o.key = k) && (decide (o.kind = 1) || decide (o.kind = 2))
def aliveB (o : Ord) (os : List Ord) : Bool := (decide (o.kind = 1) || decide (o.kind = 3)) && !os.any (resetB o.key)
def pruneL : List Ord → List Ord
  | [] => []
  | o :: os => if aliveB o os = true then o :: pruneL os else pruneL os
def aliveL (j : Nat) : List Ord → List Nat
  | [] => []
  | o :: os => if aliveB o os = true then j :: aliveL (j + 1) os else aliveL (j + 1) os
theorem applyO_not {m : Mg} (h : ¬ isMsg m = true) (s : Option ByteArray) : applyO m s = s := by unfold applyO; rw [if_neg h]
theorem applyO_put {m : Mg} (h : isMsg m = true) (h1 : m.kind = 1) (s : Option ByteArray) : applyO m s = some m.val := by unfold applyO; rw [if_pos h, if_neg (by omega), if_pos h1]
theorem applyO_del {m : Mg} (h : isMsg m = true) (h1 : m.kind = 2) (s : Option ByteArray) : applyO m s = none := by unfold applyO; rw [if_pos h, if_pos h1]
theorem msgO_key {o : Ord} {m : Mg} (h : msgO o = some m) : m.key = o.key := by
  unfold msgO at h
  split at h
  · cases h; rfl
  · split at h
    · cases h; rfl
    · split at h
      · cases h; rfl
      · cases h
theorem get_step (l : List Itm) (o : Ord) (k : ByteArray) : getL (stepI l o) k = apK k (getL l k) o := by
  unfold stepI apK
  cases hm : msgO o with
  | none => simp
  | some m =>
    have hk := msgO_key hm
    dsimp only
    by_cases h1 : isMsg m = true
    · rw [if_pos h1]
      unfold doL
      rw [get_put, hk]
      by_cases e : o.key = k
      · subst e; simp
      · have e' : ¬ k = o.key := fun e' => e e'.symm
        simp [e, e']
    · rw [if_neg h1, applyO_not h1]
      split <;> rfl
theorem get_steps (k : ByteArray) : ∀ (os : List Ord) (l : List Itm), getL (os.foldl stepI l) k = os.foldl (apK k) (getL l k)
  | [], l => rfl
  | o :: os, l => by rw [List.foldl_cons, List.foldl_cons, get_steps k os, get_step]
theorem rises_step {l : List Itm} (h : Rises l) (o : Ord) : Rises (stepI l o) := by
  unfold stepI
  split
  · split
    · exact rises_do h _
    · exact h
  · exact h
theorem oks_step {l : List Itm} (h : ∀ y ∈ l, y.ok) (o : Ord) : ∀ y ∈ stepI l o, y.ok := by
  unfold stepI
  split
  · split
    · next hm => exact oks_do h hm
    · exact h
  · exact h
theorem rises_steps : ∀ (os : List Ord) {l : List Itm}, Rises l → Rises (os.foldl stepI l)
  | [], _, h => h
  | o :: os, l, h => by rw [List.foldl_cons]; exact rises_steps os (rises_step h o)
theorem rises_items (os : List Ord) : Rises (itemsO os) := rises_steps os (l := []) trivial
theorem step_len {l : List Itm} (h : Rises l) (o : Ord) : (stepI l o).length ≤ l.length + 1 := by
  unfold stepI
  split
  · split
    · exact put_len h _ _
    · omega
  · omega
theorem items_ext {us vs : List Ord} (h : ∀ k, us.foldl (apK k) none = vs.foldl (apK k) none) : itemsO us = itemsO vs :=
  rises_ext (rises_items us) (rises_items vs) (fun k => by unfold itemsO; rw [get_steps, get_steps]; exact h k)
theorem items_get (os : List Ord) (k : ByteArray) : getL (itemsO os) k = os.foldl (apK k) none := by unfold itemsO; rw [get_steps]; rfl
/-! What a model answers. -/
def errU (c : Int) (now : List Itm) (m : Mg) : Int :=
  if isMsg m = true then
    (if m.kind = 2 ∧ getL now m.key = none then 0
     else if m.kind = 3 ∧ (getL now m.key).any (fun v => decide (v.size ≠ 8)) = true then 10
     else if sumW (doL now m) ≤ c then 0 else 9)
  else 1
def isRng (lo hi : ByteArray) : Bool := decide ((lo.size : Int) ≤ 8) && (decide ((hi.size : Int) ≤ 8) && !(!hi.toList.isEmpty && klt hi lo))
def errO (c : Int) (now : List Itm) (o : Ord) : Int :=
  if isOrd o = true then
    (match msgO o with
     | some m => errU c now m
     | none => if o.kind = 4 then (if isKey o.key = true then 0 else 1) else if o.kind = 5 then (if isRng o.lo o.hi = true then 0 else 1) else 0)
  else 1
def plainL (c : Int) : List Itm → List Ord → Bool
  | _, [] => true
  | now, o :: os => decide (errO c now o = 0) && plainL c (stepI now o) os
theorem errO_ok {c : Int} {now : List Itm} {o : Ord} (h : errO c now o = 0) : isOrd o = true ∧ ∀ m, msgO o = some m → isMsg m = true ∧ (m.kind = 3 → (getL now m.key).any (fun v => decide (v.size ≠ 8)) = false) ∧ (getL now m.key ≠ none ∨ m.kind ≠ 2 → sumW (doL now m) ≤ c) := by
  unfold errO at h
  by_cases h1 : isOrd o = true
  · rw [if_pos h1] at h
    refine ⟨h1, fun m hm => ?_⟩
    rw [hm] at h
    dsimp only at h
    unfold errU at h
    by_cases h2 : isMsg m = true
    · rw [if_pos h2] at h
      refine ⟨h2, ?_, ?_⟩
      · intro h3
        cases ha : (getL now m.key).any (fun v => decide (v.size ≠ 8))
        · rfl
        · rw [if_neg (fun hh => by omega), if_pos ⟨h3, ha⟩] at h
          cases h
      · intro hk
        rw [if_neg (fun hh => by rcases hk with hk | hk; exact hk hh.2; exact hk hh.1)] at h
        split at h
        · cases h
        · split at h
          · assumption
          · cases h
    · rw [if_neg h2] at h; cases h
  · rw [if_neg h1] at h; cases h
theorem errO_mk {c : Int} {now : List Itm} {o : Ord} {m : Mg} (h1 : isOrd o = true) (hm : msgO o = some m) (h2 : isMsg m = true) (h3 : m.kind = 3 → (getL now m.key).any (fun v => decide (v.size ≠ 8)) = false) (h4 : sumW (doL now m) ≤ c) : errO c now o = 0 := by
  unfold errO
  rw [if_pos h1, hm]
  dsimp only
  unfold errU
  rw [if_pos h2]
  split
  · rfl
  · split
    · next hh =>
      rw [h3 hh.1] at hh
      cases hh.2
    · rfl
/-! Fewer items weigh less. -/
theorem itW_nn (x : Itm) : 0 ≤ itW x := by unfold itW; omega
theorem sumW_filter (p : Itm → Bool) : ∀ l : List Itm, sumW (l.filter p) ≤ sumW l
  | [] => Int.le_refl _
  | x :: l => by
    have := sumW_filter p l
    have := itW_nn x
    rw [List.filter_cons]
    split <;> simp only [sumW] <;> omega
theorem get_filter (p : ByteArray → Bool) (k : ByteArray) : ∀ l : List Itm, getL (l.filter fun x => p x.key) k = if p k = true then getL l k else none
  | [] => by simp [getL]
  | x :: l => by
    have ih := get_filter p k l
    rw [List.filter_cons]
    by_cases e : x.key = k
    · subst e
      by_cases hp : p x.key = true
      · rw [if_pos hp, if_pos hp, getL_cons, getL_cons, if_pos rfl, if_pos rfl]
      · rw [if_neg hp, if_neg hp, ih, if_neg hp]
    · rw [getL_cons, if_neg e]
      split
      · rw [getL_cons, if_neg e, ih]
      · exact ih
theorem sub_weight {a b : List Itm} (ha : Rises a) (hb : Rises b) (h : ∀ k, getL a k = getL b k ∨ getL a k = none) : sumW a ≤ sumW b := by
  have e : a = b.filter fun x => (getL a x.key).isSome := by
    refine rises_ext ha (rises_filter _ hb) (fun k => ?_)
    rw [get_filter (fun k => (getL a k).isSome)]
    rcases h k with h | h
    · split
      · exact h
      · next hn => simpa using hn
    · rw [h]; rfl
  rw [e]
  exact sumW_filter _ _
/-! A plain row, pruned. -/
def Held (now now' : List Itm) (os : List Ord) : Prop := ∀ k, if os.any (resetB k) = true then getL now' k = none else getL now' k = getL now k
theorem prune_plain (c : Int) : ∀ (os : List Ord) (now now' : List Itm), Rises now → Rises now' → Held now now' os → plainL c now os = true →
    plainL c now' (pruneL os) = true ∧ (pruneL os).foldl stepI now' = os.foldl stepI now
  | [], now, now', hr, hr', hi, _ => ⟨rfl, rises_ext hr' hr (fun k => by have := hi k; simp at this; exact this)⟩
  | o :: os, now, now', hr, hr', hi, hp => by
    rw [plainL, Bool.and_eq_true, decide_eq_true_eq] at hp
    obtain ⟨he, hp⟩ := hp
    obtain ⟨ho, hm⟩ := errO_ok he
    rw [List.foldl_cons, pruneL]
    by_cases ha : aliveB o os = true
    · rw [if_pos ha]
      unfold aliveB at ha
      rw [Bool.and_eq_true, Bool.not_eq_true'] at ha
      obtain ⟨hk, hn⟩ := ha
      have hk' : o.kind = 1 ∨ o.kind = 3 := by simpa using hk
      -- what stands at the key is the same, for an Add
      have heq3 : o.kind = 3 → getL now' o.key = getL now o.key := fun h3 => by
        have := hi o.key
        rw [List.any_cons, hn] at this
        simpa [resetB, h3] using this
      obtain ⟨m, hmo⟩ : ∃ m, msgO o = some m := by unfold msgO; rcases hk' with h | h <;> simp [h]
      have hmk := msgO_key hmo
      have hkk : m.kind = o.kind := by
        unfold msgO at hmo
        rcases hk' with h | h <;> simp [h] at hmo <;> (subst hmo; simp [h])
      obtain ⟨g1, g2, g3⟩ := hm m hmo
      have hst : stepI now o = doL now m := by unfold stepI; rw [hmo]; simp [g1]
      have hst' : stepI now' o = doL now' m := by unfold stepI; rw [hmo]; simp [g1]
      have hap : apK o.key (getL now' o.key) o = apK o.key (getL now o.key) o := by
        rcases hk' with h | h
        · have e1 : ∀ s, apK o.key s o = some m.val := by
            intro s
            unfold apK
            rw [if_pos rfl, hmo]
            exact applyO_put g1 (by omega) _
          rw [e1, e1]
        · rw [heq3 h]
      have hH : Held (stepI now o) (stepI now' o) os := by
        intro k
        rw [get_step, get_step]
        by_cases e : o.key = k
        · subst e
          rw [hn]
          simpa using hap
        · have := hi k
          rw [List.any_cons] at this
          simp only [resetB, e, decide_false, Bool.false_and, Bool.false_or] at this
          unfold apK
          rw [if_neg e, if_neg e]
          exact this
      have hsub : ∀ k, getL (stepI now' o) k = getL (stepI now o) k ∨ getL (stepI now' o) k = none := by
        intro k
        have := hH k
        split at this
        · exact .inr this
        · exact .inl this
      have hw := sub_weight (rises_step hr' o) (rises_step hr o) hsub
      rw [hst, hst'] at hw
      have ih := prune_plain c os (stepI now o) (stepI now' o) (rises_step hr o) (rises_step hr' o) hH hp
      refine ⟨?_, ih.2⟩
      rw [plainL, ih.1, Bool.and_true, decide_eq_true_eq]
      refine errO_mk ho hmo g1 ?_ (Int.le_trans hw (g3 (.inr (by omega))))
      intro h3
      have := g2 h3
      rw [hmk] at this ⊢
      rw [heq3 (by omega)]
      exact this
    · rw [if_neg ha]
      refine prune_plain c os (stepI now o) now' (rises_step hr o) hr' ?_ hp
      intro k
      have hk := hi k
      rw [List.any_cons] at hk
      by_cases hn : os.any (resetB k) = true
      · rw [if_pos hn]
        rw [hn, Bool.or_true, if_pos rfl] at hk
        exact hk
      · rw [if_neg hn]
        have hn' : os.any (resetB k) = false := by simpa using hn
        rw [hn', Bool.or_false] at hk
        rw [get_step]
        by_cases e : o.key = k
        · subst e
          have hkk : ¬ o.kind = 1 ∧ ¬ o.kind = 3 := by
            unfold aliveB at ha
            rw [hn'] at ha
            simp at ha
            exact ha
          by_cases h2 : o.kind = 2
          · rw [if_pos (by simp [resetB, h2])] at hk
            rw [hk]
            unfold apK
            have hmo : msgO o = some ⟨2, o.key, ⟨#[]⟩⟩ := by unfold msgO; simp [h2]
            rw [if_pos rfl, hmo]
            exact (applyO_del (hm _ hmo).1 rfl _).symm
          · rw [if_neg (by simp [resetB, h2, hkk.1])] at hk
            rw [hk]
            unfold apK msgO
            simp [hkk.1, hkk.2, h2]
        · rw [if_neg (by simp [resetB, e])] at hk
          rw [hk]
          unfold apK
          rw [if_neg e]
theorem prune_same (c : Int) (os : List Ord) (h : plainL c [] os = true) : plainL c [] (pruneL os) = true ∧ itemsO (pruneL os) = itemsO os :=
  prune_plain c os [] [] trivial trivial (fun k => by split <;> rfl) h
theorem prune_sub : ∀ os : List Ord, (pruneL os).Sublist os
  | [] => List.Sublist.refl _
  | o :: os => by
    rw [pruneL]
    split
    · exact (prune_sub os).cons_cons o
    · exact (prune_sub os).cons o
theorem alive_sub {o : Ord} {us vs : List Ord} (h : us.Sublist vs) (ha : aliveB o vs = true) : aliveB o us = true := by
  unfold aliveB at ha ⊢
  rw [Bool.and_eq_true, Bool.not_eq_true'] at ha ⊢
  refine ⟨ha.1, ?_⟩
  rw [List.any_eq_false] at ha ⊢
  exact fun x hx => ha.2 x (h.subset hx)
theorem prune_twice : ∀ os : List Ord, pruneL (pruneL os) = pruneL os
  | [] => rfl
  | o :: os => by
    rw [pruneL]
    split
    · next h => rw [pruneL, if_pos (alive_sub (prune_sub os) h), prune_twice os]
    · exact prune_twice os
theorem alive_len : ∀ (os : List Ord) (j : Nat), (aliveL j os).length = (pruneL os).length
  | [], _ => rfl
  | o :: os, j => by
    rw [aliveL, pruneL]
    split
    · rw [List.length_cons, List.length_cons, alive_len os]
    · exact alive_len os _
theorem alive_get : ∀ (os : List Ord) (pre : List Ord), (aliveL pre.length os).map (fun i => (pre ++ os)[i]?) = (pruneL os).map some
  | [], _ => rfl
  | o :: os, pre => by
    have ih := alive_get os (pre ++ [o])
    rw [List.length_append, List.append_assoc] at ih
    rw [aliveL, pruneL]
    split
    · rw [List.map_cons, List.map_cons]
      refine List.cons_eq_cons.2 ⟨by simp, ih⟩
    · exact ih
end Go.Proofs.YtdfgdnaejnngoaaGreat
namespace Go.Proofs.YtdfgdnaejnngoaaGreat
open Go.RowKit

theorem conv_one (W : World) (x : Int) : (convert 30 9 (.slice (some ⟨W.heap.size, 0, none⟩) 1 1)).run Tryz.prog (W.alloc (.cells #[.int .u8 x] 5)) = .ok (.string ⟨#[UInt8.ofNat x.toNat]⟩) (W.alloc (.cells #[.int .u8 x] 5)) :=
  run_convert_bytes_arg _ 30 5 Tryz.underlying30 Tryz.underlying5 W.heap.size 0 1 1 [x] rfl (fun i hi => by
    have : i = 0 := by omega
    subst this
    rw [Lib.cell_of_heap (heap_alloc_new W _)]; rfl) 9 Tryz.underlying9
theorem conv_at (W : World) (b c : Nat) (bs : List UInt8) (h : ∀ j x, bs[j]? = some x → W.cell? ⟨b, j, none⟩ = some (.int .u8 (x.toNat : Int))) : (convert 30 9 (.slice (some ⟨b, 0, none⟩) bs.length c)).run Tryz.prog W = .ok (.string ⟨bs.toArray⟩) W := by
  have := run_convert_bytes_arg (P := Tryz.prog) W 30 5 Tryz.underlying30 Tryz.underlying5 b 0 bs.length c (bs.map fun x => (x.toNat : Int)) (by simp) (fun i hi => by
    rw [Nat.zero_add, h i bs[i] (List.getElem?_eq_getElem hi)]
    simp [List.getD, hi]) 9 Tryz.underlying9
  rw [this]
  have e : strOfNums (bs.map fun x => (x.toNat : Int)) = ⟨bs.toArray⟩ := by
    simp [strOfNums, Function.comp_def]
  rw [e]

theorem A_infob : (Tryz.prog.info? 5).map (fun i => (i.zero, i.size, i.bytes)) = some (some (.int .u8 0), 1, 1) := by kernel_rfl
theorem make8 (W : World) : (Instr.makeSlice 30 (.int .i64 8) (.int .i64 8)).run Tryz.prog W = .ok (.slice (some ⟨W.heap.size, 0, none⟩) 8 8) (W.alloc (.cells #[.int .u8 0, .int .u8 0, .int .u8 0, .int .u8 0, .int .u8 0, .int .u8 0, .int .u8 0, .int .u8 0] 5)) := by
  obtain ⟨i0, hi0, hz0, hz1, hz2⟩ := info_parts A_infob
  have h := run_makeSlice (P := Tryz.prog) W 30 5 i0 _ Tryz.underlying30 hi0 hz0 .i64 .i64 8 8 (by omega) (by omega) (by rw [hz1]; decide) (by rw [hz2]; decide) (by omega)
  rw [h, hz1]
  have e : madeCells (Value.int .u8 0).cells (Int.toNat 8 * 1) = #[.int .u8 0, .int .u8 0, .int .u8 0, .int .u8 0, .int .u8 0, .int .u8 0, .int .u8 0, .int .u8 0] := by kernel_rfl
  rw [e]
  rfl

theorem byte_at {t : ByteArray} {k : Nat} (h : k < t.size) {x : UInt8} (hx : t.data.toList[k]? = some x) : t[k] = x := by
  have hk := (List.getElem?_eq_some_iff.1 hx).2
  rw [← hk]
  rfl
theorem ofNat_mod {a b : Nat} (h : a % 256 = b % 256) : UInt8.ofNat a = UInt8.ofNat b := by
  apply UInt8.toNat_inj.1
  simp [UInt8.toNat_ofNat', h]
theorem numBytes_mod (wd n : Nat) : numBytes wd n = (List.range wd).reverse.map fun i => UInt8.ofNat (n / 256 ^ i % 256) := by
  unfold numBytes
  refine List.map_congr_left (fun i _ => ofNat_mod (by omega))
theorem valBytes_eight (n : Nat) : valBytes n = numBytes 8 n := by
  have h4 : ∀ i, i < 4 → n % 4294967296 / 256 ^ i % 256 = n / 256 ^ i % 256 := by
    intro i hi
    rcases i with _ | _ | _ | _ | i
    all_goals try simp only [Nat.zero_add, Nat.reduceAdd, Nat.reducePow]
    all_goals omega
  have h8 : ∀ i, i < 4 → n / 4294967296 / 256 ^ i % 256 = n / 256 ^ (i + 4) % 256 := by
    intro i hi
    rcases i with _ | _ | _ | _ | i
    all_goals try simp only [Nat.zero_add, Nat.reduceAdd, Nat.reducePow]
    all_goals omega
  unfold valBytes
  rw [numBytes_mod, numBytes_mod, numBytes_mod]
  have e4 : (List.range 4).reverse = [3, 2, 1, 0] := by decide
  have e8 : (List.range 8).reverse = [7, 6, 5, 4, 3, 2, 1, 0] := by decide
  rw [e4, e8]
  simp only [List.map_cons, List.map_nil, List.cons_append, List.nil_append]
  rw [h4 3 (by omega), h4 2 (by omega), h4 1 (by omega), h4 0 (by omega), h8 3 (by omega), h8 2 (by omega), h8 1 (by omega), h8 0 (by omega)]
def u8v (x : UInt8) : Value := .int .u8 (x.toNat : Int)
def vrow (n m : Nat) : List Value := List.replicate m (.int .u8 0) ++ (numBytes (8 - m) n).map u8v
theorem vrow_at (n j : Nat) : (vrow n (j + 1))[j]? = some (.int .u8 0) := by
  unfold vrow
  rw [List.getElem?_append_left (by simp)]
  simp
theorem vrow_set (n j : Nat) (hj : j < 8) : (vrow n (j + 1)).set j (.int .u8 ((n / 256 ^ (7 - j) % 256 : Nat) : Int)) = vrow n j := by
  unfold vrow
  have e : 8 - j = (7 - j) + 1 := by omega
  rw [show 8 - (j + 1) = 7 - j by omega, e, numBytes_succ, List.map_cons, List.set_append_left _ _ (by simp)]
  have h2 : (List.replicate (j + 1) (Value.int .u8 0)).set j (.int .u8 ((n / 256 ^ (7 - j) % 256 : Nat) : Int)) = List.replicate j (Value.int .u8 0) ++ [.int .u8 ((n / 256 ^ (7 - j) % 256 : Nat) : Int)] := by
    rw [List.replicate_succ', List.set_append_right _ _ (by simp)]
    simp
  rw [h2, List.append_assoc, List.singleton_append]
  simp [u8v, UInt8.toNat_ofNat']
/-- eight bytes in block b, the last ones set -/
def VAt (w : World) (b n m : Nat) : Prop := w.heap[b]? = some (.cells (vrow n m).toArray 5 (0, 0))
theorem VAt.cell {w : World} {b n j : Nat} (h : VAt w b n (j + 1)) : w.cell? ⟨b, j, none⟩ = some (.int .u8 0) := by
  rw [Lib.cell_of_heap h]
  simpa using vrow_at n j
theorem VAt.f {w : World} {b n m : Nat} (h : VAt w b n m) (j : Nat) : w.frozen? ⟨b, j, none⟩ = false := Lib.frozen_of_heap h j
theorem VAt.set {w : World} {b n j : Nat} (h : VAt w b n (j + 1)) (hj : j < 8) : VAt (w.setCell ⟨b, j, none⟩ (.int .u8 ((n / 256 ^ (7 - j) % 256 : Nat) : Int))) b n j := by
  unfold VAt at *
  rw [← vrow_set n j hj]
  simp [World.setCell, Array.getElem?_modify, h]
theorem VAt.done {w : World} {b n : Nat} (h : VAt w b n 0) : ∀ j x, (numBytes 8 n)[j]? = some x → w.cell? ⟨b, j, none⟩ = some (.int .u8 (x.toNat : Int)) := by
  intro j x hx
  rw [Lib.cell_of_heap h]
  simp [vrow, hx, u8v]

theorem u64_small (x : Int) (h0 : 0 ≤ x) (h1 : x < 18446744073709551616) : IntKind.u64.wrap x = x := by
  rw [IntKind.wrap_u64]
  omega

set_option maxRecDepth 100000 in
theorem refValue_any (n : Nat) (w : World) (hn : n < 18446744073709551616) : Calls Tryz.prog 59 #[.int .u64 (n : Int)] w fun e w' => e = .returned (.string ⟨(valBytes n).toArray⟩) ∧ Below w.heap.size w w' := by
  have hmk := make8
  have Hn := Lib.hid hn
  clear hn
  go_enter Tryz.func59, Tryz.ntmps59
  go_wp2
  go_loopw [0, 4] (fun x i wr => ∃ m : Nat, m ≤ 8 ∧ i = .int .i64 ((m : Int) - 1) ∧ x = .int .u64 ((n / 256 ^ (8 - m) : Nat) : Int) ∧ VAt wr w.heap.size n m ∧ Below w.heap.size w wr) (fun _ i _ => (intOf i + 1).toNat)
  case atStart => exact ⟨8, by omega, rfl, by simp, heap_alloc_new w _, Below.alloc (Below.refl _ _) (Nat.le_refl _) _⟩
  case round =>
    obtain ⟨m, hm, rfl, rfl, hv, hb⟩ := hrel
    rcases m with _ | j
    · have hcv := conv_at wr w.heap.size 8 _ hv.done
      rw [numBytes_length] at hcv
      have Hcv := Lib.hid hcv
      have e1 : ((0 : Nat) : Int) - 1 = -1 := by omega
      rw [e1]
      clear hcv e1
      have hcv := Hcv.out
      go_wp2
      go_ret
      rw [valBytes_eight]
      exact ⟨rfl, hb⟩
    · have hc := hv.cell
      have hf := hv.f j
      have e1 : ((j + 1 : Nat) : Int) - 1 = (j : Int) := by omega
      rw [e1]
      have hq : n / 256 ^ (8 - (j + 1)) ≤ n := Nat.div_le_self _ _
      have e2 : 8 - (j + 1) = 7 - j := by omega
      rw [e2] at hq ⊢
      have Hq := Lib.hid hq
      have Hv := Lib.hid hv
      generalize hy : n / 256 ^ (7 - j) = y at Hq ⊢
      have Hy := Lib.hid hy
      clear e1 e2 hv hq hy
      go_wp2
      go_round
      case rel =>
        have ey : IntKind.u64.wrap ((y : Int) / 256) = ((y / 256 : Nat) : Int) := by rw [u64_small _ (by omega) (by have := Hq.out; have := Hn.out; omega)]; omega
        have es : (y : Int) % 256 = ((n / 256 ^ (7 - j) % 256 : Nat) : Int) := by rw [Hy.out]; omega
        have ed : y / 256 = n / 256 ^ (8 - j) := by rw [show 8 - j = (7 - j) + 1 by omega, Nat.pow_succ, ← Nat.div_div_eq_div_mul, Hy.out]
        rw [ey, es]
        exact ⟨j, by omega, rfl, by rw [ed], Hv.out.set (by omega), Below.setCell hb (Nat.le_refl _) _⟩
      case measure => simp [intOf]

theorem refNumber_no (v : ByteArray) (w : World) (hv : v.size ≠ 8) : Calls Tryz.prog 138 #[.string v] w fun e w' => e = .returned (.tuple #[.int .u64 0, .bool false]) ∧ Below w.heap.size w w' := by
  have h8 : ((v.size : Int) != 8) = true := by simp; omega
  clear hv
  go_enter Tryz.func138, Tryz.ntmps138
  go_wp2
  go_ret2
  exact ⟨rfl, Below.refl _ _⟩
theorem beVal_append (a : List UInt8) : ∀ (n : Nat) (b : List UInt8), b.length = n → beVal (a ++ b) = beVal a * 256 ^ n + beVal b := by
  intro n
  induction n with
  | zero => intro b hb; have : b = [] := List.eq_nil_of_length_eq_zero hb; subst this; simp [beVal]
  | succ n ih =>
    intro b hb
    have hd : b = b.dropLast ++ [b.getLast (by intro e; subst e; simp at hb)] := (List.dropLast_concat_getLast _).symm
    rw [hd, ← List.append_assoc, beVal_snoc, ih b.dropLast (by simp [hb]), beVal_snoc]
    simp [Nat.pow_succ, Nat.add_mul, Nat.mul_assoc, Nat.add_assoc]
theorem numOf_eight (v : ByteArray) (hv : v.size = 8) : numOf v = beVal v.data.toList := by
  have e : v.data.toList = (v.extract 0 4).data.toList ++ (v.extract 4 v.size).data.toList := by
    have hs : v.data.toList.length = 8 := by simpa using hv
    simp only [ByteArray.data_extract, Array.toList_extract, List.extract_eq_take_drop]
    rw [hv]
    have h4 : List.take 4 (List.drop 4 v.data.toList) = List.drop 4 v.data.toList := List.take_of_length_le (by rw [List.length_drop, hs]; omega)
    simp [h4]
  rw [e, beVal_append _ 4 _ (by have := hv; simp at *; omega)]
  rfl
set_option maxRecDepth 100000 in
theorem refNumber_yes (v : ByteArray) (w : World) (hv : v.size = 8) : Calls Tryz.prog 138 #[.string v] w fun e w' => e = .returned (.tuple #[.int .u64 (numOf v : Int), .bool true]) ∧ Below w.heap.size w w' := by
  have h8 : ((v.size : Int) != 8) = false := by simp; omega
  have Hno := Lib.hid (numOf_eight v hv)
  generalize numOf v = N at Hno ⊢
  have htl : v.data.toList.length = 8 := by simpa using hv
  have Htl := Lib.hid htl
  clear htl
  go_enter Tryz.func138, Tryz.ntmps138
  go_wp2
  go_loop [4, 5] (fun x i => ∃ k : Nat, k ≤ 8 ∧ i = .int .i64 k ∧ x = .int .u64 (beVal (v.data.toList.take k))) (fun _ i => 8 - (intOf i).toNat)
  case atStart => exact ⟨0, by omega, rfl, rfl⟩
  case round =>
    obtain ⟨k, hk, rfl, rfl⟩ := hrel
    by_cases hlt : k < 8
    · have hkv : k < v.size := by omega
      obtain ⟨x, hx⟩ : ∃ x, v.data.toList[k]? = some x := ⟨v.data.toList[k]'(by rw [Htl.out]; exact hlt), List.getElem?_eq_getElem _⟩
      have hx8 := x.toNat_lt
      generalize hy : beVal (v.data.toList.take k) = y
      have Hv := Lib.hid hy
      have Hx := Lib.hid hx
      clear hy hx
      go_wp2
      go_round
      case rel => exact ⟨k + 1, by omega, by go_num, by
        have hl := beVal_lt (v.data.toList.take k)
        rw [Hv.out, List.length_take, Nat.min_eq_left (by rw [Htl.out]; omega)] at hl
        have hle : 256 ^ k ≤ 256 ^ 7 := Nat.pow_le_pow_right (by omega) (by omega)
        rw [byte_at hkv Hx.out, u64_small (x.toNat : Int) (by omega) (by omega), u64_small ((y : Int) * 256) (by omega) (by omega), u64_small _ (by omega) (by omega), List.take_add_one, Hx.out, Option.toList_some, beVal_snoc, Hv.out]
        go_num⟩
      case measure => simp [intOf]; omega
    · have hke : k = 8 := by omega
      subst hke
      go_wp2
      go_ret2
      rw [Hno.out, ← Htl.out, List.take_length]
      exact ⟨rfl, Below.refl _ _⟩
end Go.Proofs.YtdfgdnaejnngoaaGreat
namespace Go.Proofs.YtdfgdnaejnngoaaGreat
open Go.RowKit
/-! Numbers and their values; what a key's Adds come to. -/
theorem beVal_cons (x : UInt8) (l : List UInt8) : beVal (x :: l) = x.toNat * 256 ^ l.length + beVal l := by
  have := beVal_append [x] l.length l rfl
  simpa [beVal] using this
theorem beVal_num (n : Nat) : ∀ wd : Nat, beVal (numBytes wd n) = n % 256 ^ wd
  | 0 => by simp [numBytes_zero, beVal, Nat.mod_one]
  | wd + 1 => by
    have h := Nat.mod_mul (a := 256 ^ wd) (b := 256) (x := n)
    rw [numBytes_succ, beVal_cons, beVal_num n wd, numBytes_length, UInt8.toNat_ofNat']
    rw [show 256 ^ (wd + 1) = 256 ^ wd * 256 from Nat.pow_succ _ _, h, show (2 : Nat) ^ 8 = 256 from rfl, Nat.add_comm, Nat.mul_comm (256 ^ wd)]
theorem num_mod (n : Nat) : ∀ wd k : Nat, wd ≤ k → numBytes wd (n % 256 ^ k) = numBytes wd n
  | 0, _, _ => rfl
  | wd + 1, k, h => by
    rw [numBytes_succ, numBytes_succ, num_mod n wd k (by omega)]
    congr 1
    apply UInt8.toNat_inj.1
    rw [UInt8.toNat_ofNat', UInt8.toNat_ofNat']
    obtain ⟨d, rfl⟩ : ∃ d, k = wd + (d + 1) := ⟨k - wd - 1, by omega⟩
    rw [Nat.pow_add, Nat.mod_mul_right_div_self]
    rw [show (2 : Nat) ^ 8 = 256 from rfl, Nat.pow_succ, Nat.mul_comm (256 ^ d), Nat.mod_mul_right_mod]
theorem num_val : ∀ l : List UInt8, numBytes l.length (beVal l) = l
  | [] => rfl
  | x :: l => by
    have ih := num_val l
    have hb := beVal_lt l
    rw [List.length_cons, numBytes_succ, beVal_cons]
    have h1 : (x.toNat * 256 ^ l.length + beVal l) / 256 ^ l.length = x.toNat := by
      rw [Nat.mul_comm, Nat.mul_add_div (Nat.pow_pos (by decide)), Nat.div_eq_of_lt hb, Nat.add_zero]
    rw [h1, ← num_mod _ l.length l.length (Nat.le_refl _), Nat.mul_comm, Nat.mul_add_mod, num_mod _ _ _ (Nat.le_refl _), ih]
    congr 1
    exact UInt8.ofNat_toNat
theorem valB_size (n : Nat) : (valB n).size = 8 := by simp [valB, ByteArray.size, valBytes_length]
theorem num_valB (n : Nat) (hn : n < 18446744073709551616) : numOf (valB n) = n := by
  rw [numOf_eight _ (valB_size n)]
  show beVal (valBytes n).toArray.toList = n
  rw [valBytes_eight, beVal_num]
  exact Nat.mod_eq_of_lt hn
theorem valB_num {v : ByteArray} (h : v.size = 8) : valB (numOf v) = v := by
  apply ByteArray.ext
  show (valBytes (numOf v)).toArray = v.data
  rw [valBytes_eight, numOf_eight v h]
  have hl : v.data.toList.length = 8 := by simpa using h
  have := num_val v.data.toList
  rw [hl] at this
  rw [this]
theorem numOf_lt {v : ByteArray} (h : v.size = 8) : numOf v < 18446744073709551616 := by
  rw [numOf_eight v h]
  have hl : v.data.toList.length = 8 := by simpa using h
  have := beVal_lt v.data.toList
  rw [hl] at this
  exact this
theorem valB_inj {a b : Nat} (ha : a < 18446744073709551616) (hb : b < 18446744073709551616) (h : valB a = valB b) : a = b := by
  rw [← num_valB a ha, ← num_valB b hb, h]
end Go.Proofs.YtdfgdnaejnngoaaGreat
namespace Go.Proofs.YtdfgdnaejnngoaaGreat
open Go.RowKit
/-! slices.Insert of one item. -/
theorem insertIdx_eq {α : Type} (x : α) : ∀ (l : List α) (i : Nat), i ≤ l.length → l.insertIdx i x = l.take i ++ x :: l.drop i
  | l, 0, _ => by simp
  | [], i + 1, h => by simp at h
  | y :: l, i + 1, h => by rw [List.insertIdx_succ_cons, insertIdx_eq x l i (by simpa using h)]; simp
theorem insertIdx_len (x : Itm) (l : List Itm) (i : Nat) (h : i ≤ l.length) : (l.insertIdx i x).length = l.length + 1 := by
  rw [insertIdx_eq x l i h, List.length_append, List.length_cons, List.length_take, List.length_drop]; omega
theorem fl_ins (x : Itm) (l : List Itm) (i : Nat) (h : i ≤ l.length) : fl (l.insertIdx i x) = fl (l.take i) ++ (x.cells ++ fl (l.drop i)) := by
  rw [insertIdx_eq x l i h, fl_append]; simp [fl]
/-- x laid at its place, and what followed behind it: in either order -/
theorem ins_lay (cur D xs : List Value) (i n : Nat) (hx : xs.length = 2) (hD : D.length = n * 2) (hc : (i + 1 + n) * 2 ≤ cur.length) :
    (wrL (wrL cur ((i + 1) * 2) D) (i * 2) xs).take ((i + 1 + n) * 2) = cur.take (i * 2) ++ (xs ++ D) ∧ (wrL (wrL cur (i * 2) xs) ((i + 1) * 2) D).take ((i + 1 + n) * 2) = cur.take (i * 2) ++ (xs ++ D) := by
  have hsp : cur = cur.take (i * 2) ++ ((cur.drop (i * 2)).take 2 ++ cur.drop (i * 2 + 2)) := by
    have h1 : cur.drop (i * 2 + 2) = (cur.drop (i * 2)).drop 2 := by rw [List.drop_drop]
    rw [h1, List.take_append_drop, List.take_append_drop]
  generalize hP : cur.take (i * 2) = P at hsp ⊢
  generalize hX : (cur.drop (i * 2)).take 2 = X at hsp
  generalize hY : cur.drop (i * 2 + 2) = Y at hsp
  have lP : P.length = i * 2 := by rw [← hP, List.length_take]; omega
  have lX : X.length = 2 := by rw [← hX, List.length_take, List.length_drop]; omega
  have lY : D.length ≤ Y.length := by rw [← hY, List.length_drop]; omega
  subst hsp
  have hlen : (P ++ (xs ++ D)).length = (i + 1 + n) * 2 := by rw [List.length_append, List.length_append, lP, hx, hD]; omega
  constructor
  · have e1 : wrL (P ++ (X ++ Y)) ((i + 1) * 2) D = P ++ (X ++ (D ++ Y.drop D.length)) := by
      have := wrL_seg (P ++ X) Y D ((i + 1) * 2) (by rw [List.length_append, lP, lX]; omega) lY
      rw [List.append_assoc, List.append_assoc] at this
      exact this
    have e2 := wrL_seg P (X ++ (D ++ Y.drop D.length)) xs (i * 2) lP (by rw [List.length_append, lX, hx]; omega)
    rw [e1, e2, hx, List.drop_left' lX, ← List.append_assoc xs, ← List.append_assoc P]
    exact List.take_left' hlen
  · have e1 := wrL_seg P (X ++ Y) xs (i * 2) lP (by rw [List.length_append, lX, hx]; omega)
    rw [hx, List.drop_left' lX] at e1
    have e2 := wrL_seg (P ++ xs) Y D ((i + 1) * 2) (by rw [List.length_append, lP, hx]; omega) lY
    rw [List.append_assoc, List.append_assoc] at e2
    rw [e1, e2, ← List.append_assoc xs, ← List.append_assoc P]
    exact List.take_left' hlen
theorem wrL_len2 {β : Type} (l a b : List β) (o p : Nat) : (wrL (wrL l o a) p b).length = l.length := by rw [wrL_length, wrL_length]
theorem sz_item : (Tryz.prog.info? 41).map (·.size) = some 2 := by kernel_rfl
theorem overl (w : World) (vb g a lb cb : Nat) (hne : vb ≠ g) {ca : Nat} {ta tb : TypeId} {ka kb : Nat} (hsa : w.shape? vb = some (ta, ka)) (hsb : w.shape? g = some (tb, kb)) (hkb : kb ≠ 0) (hfa : w.frozen? ⟨vb, 0, none⟩ = false) (hfe : w.frozen? ⟨vb, ka, none⟩ = false) :
    (callFunc 136 #[.slice (some ⟨vb, 0, none⟩) 1 ca, .slice (some ⟨g, a, none⟩) lb cb]).run Tryz.prog w = .ok (.value (.bool false)) w := by
  rw [run_callFunc_extern Tryz.func136 (by kernel_rfl) (by kernel_rfl) (by kernel_rfl) (e := Extern.SlicesOverlaps.overlaps #[29, 29] #[4]) (by kernel_rfl),
    Lib.run_overlaps_apart w 29 4 41 Tryz.underlying29 2 (fun w => by kernel_rfl) ⟨vb, 0, none⟩ ⟨g, a, none⟩ 1 ca lb cb hne ta tb ka kb hsa hsb hkb hfa hfe]
  rfl
/-- an item in a block of its own -/
def ItmAt (w : World) (b : Nat) (x : Itm) (T : TypeId) : Prop := w.heap[b]? = some (.cells #[.string x.key, .string x.val] T (0, 0))
theorem ItmAt.cells {w : World} {b : Nat} {x : Itm} {T : TypeId} (h : ItmAt w b x T) : ∀ j u, x.cells[j]? = some u → w.cell? ((⟨b, 0, none⟩ : Addr).add j) = some u := by
  intro j u hj
  rw [Addr.add_mid, Lib.cell_of_heap h]
  simpa [Itm.cells] using hj
theorem shape_of {w : World} {b : Nat} {cs : Array Value} {T : TypeId} {fz : Nat × Nat} (h : w.heap[b]? = some (.cells cs T fz)) : w.shape? b = some (T, cs.size) := by
  simp [World.shape?, h]
set_option maxHeartbeats 2000000 in
set_option maxRecDepth 100000 in
theorem insert_end (B vb cap c : Nat) (A : Option Addr) (l : List Itm) (x : Itm) (T : TypeId) (w : World) (h : OwnsM w B (.slice A l.length cap) l) (hB : B ≤ w.heap.size) (hx : ItmAt w vb x T) (hl : l.length ≤ 90000) : Calls Tryz.prog 118 #[.slice A l.length cap, .int .i64 l.length, .slice (some ⟨vb, 0, none⟩) 1 c] w
    fun e w' => ∃ A' cap', e = .returned (.slice A' (l.length + 1) cap') ∧ OwnsM w' B (.slice A' (l.length + 1) cap') (l ++ [x]) ∧ Fr (fun k => (Value.slice A l.length cap).ownBlock = some k) w w' := by
  have hcc : (cap : Int) ≤ 9223372036854775807 ∧ (l.length : Int) ≤ cap := by
    rcases h.2 with ⟨he, h0⟩ | ⟨g', cap', cur, he, hb, hgg, hc1, hc2, hc3, htake⟩
    · simp at he; omega
    · simp at he; unfold maxLen at hc2; omega
  have hc1 := hcc.1
  have hc2 := hcc.2
  clear hcc
  have HX := Lib.hid hx.cells
  have HO := Lib.hid h
  clear hx h
  by_cases hce : cap = l.length
  · subst hce
    go_enter Tryz.func118, Tryz.ntmps118
    go_wp2_with (at_builtin; refine itm_append rfl (some 25) rfl _ _ rfl B (.slice A l.length l.length) l [x] 1 ⟨vb, 0, none⟩ c rfl rfl rfl HO.out (by simpa using HX.out) (by simp; omega) hB (l.length + 1) (by simp) ?_)
    intro A2 c2 w2 ho2 hf2
    have HO2 := Lib.hid ho2
    clear ho2
    go_wp2
    go_ret
    exact ⟨A2, c2, rfl, HO2.out, hf2⟩
  · have hce2 : ¬ (cap = l.length) := hce
    go_enter Tryz.func118, Tryz.ntmps118
    go_wp2_with (at_builtin; refine itm_append rfl (some 25) rfl _ _ rfl B (.slice A l.length cap) l [x] 1 ⟨vb, 0, none⟩ c rfl rfl rfl HO.out (by simpa using HX.out) (by simp; omega) hB (l.length + 1) (by simp) ?_)
    intro A2 c2 w2 ho2 hf2
    have HO2 := Lib.hid ho2
    clear ho2
    go_wp2
    go_ret
    exact ⟨A2, c2, rfl, HO2.out, hf2⟩
theorem copy_cells (w : World) (ty : TypeId) (g o dLen dCap : Nat) (a : Addr) (sLen sCap : Nat) (cur cs : List Value) (n : Nat) (hg : w.heap[g]? = some (.cells cur.toArray 41 (0, 0))) (hn : n = Nat.min sLen dLen) (hl : cs.length = n * 2)
    (hsrc : ∀ j v, cs[j]? = some v → w.cell? (a.add j) = some v) (hfit : o + cs.length ≤ cur.length) (h1 : ∀ v ∈ cs, v.oneCell' = true) :
    (Builtin.copy_ #[29, 29] ty #[.slice (some ⟨g, o, none⟩) dLen dCap, .slice (some a) sLen sCap]).run Tryz.prog w = .ok (goInt n) (w.setCells g o cs) := by
  have hld := run_loadCells_list (P := Tryz.prog) w a cs hsrc
  have hst := run_storeCells_cells (P := Tryz.prog) g o cs 0 w (by simp only [Nat.add_zero]; exact blk_there hg o cs.length hfit) (fun j _ => Lib.frozen_of_heap hg _) h1
  simp only [Nat.add_zero] at hst
  rw [hl] at hld
  obtain ⟨i0, hi0, hz0, hz1, hz2⟩ := info_parts M_info
  simp [Builtin.copy_, run_underlying Tryz.underlying29, Builtin.lenOf, Builtin.firstCells, sizeOf, typeInfo, hi0, hz1, ← hn, hld, hst]
theorem op_copy {o : Oper} {ac : Act} {w : World} {K : Act → World → Prop} {Q : Exit → Act → World → Prop} (N : Option Tmp) (hN : o.dst = N) (d s : Operand) (ho : o.op = .call { callee := .builtin .copy, args := #[d, s], argTypes := #[29, 29] })
    (v u : Value) (hd : ac.eval d = v) (hs : ac.eval s = u) {v' : Value} {w' : World} (hr : (Builtin.copy_ #[29, 29] o.type #[v, u]).run Tryz.prog w = .ok v' w') (hK : K (ac.put N v') w') : Oper.wp Tryz.prog o ac w K Q := by
  subst hN
  exact wp_copy_runI w d s _ _ ho v u hd hs hr hK
theorem setCells_cell_out (w : World) (g o : Nat) (us : List Value) {b : Nat} (hb : b ≠ g) (k : Nat) : (w.setCells g o us).cell? ⟨b, k, none⟩ = w.cell? ⟨b, k, none⟩ :=
  World.cell?_setCells_out g us o w ⟨b, k, none⟩ (fun h _ => absurd h hb)
set_option maxHeartbeats 2000000 in
set_option maxRecDepth 100000 in
theorem insert_shift (B vb g cap c i : Nat) (l : List Itm) (x : Itm) (T : TypeId) (w : World) (h : OwnsM w B (.slice (some ⟨g, 0, none⟩) l.length cap) l) (hx : ItmAt w vb x T) (hvg : vb ≠ g) (hfe : w.frozen? ⟨vb, 2, none⟩ = false) (hi : i < l.length) (hroom : l.length + 1 ≤ cap) (hl : l.length ≤ 90000) :
    Calls Tryz.prog 118 #[.slice (some ⟨g, 0, none⟩) l.length cap, .int .i64 i, .slice (some ⟨vb, 0, none⟩) 1 c] w
    fun e w' => ∃ A' cap', e = .returned (.slice A' (l.length + 1) cap') ∧ OwnsM w' B (.slice A' (l.length + 1) cap') (l.insertIdx i x) ∧ Fr (fun k => k = g) w w' := by
  obtain ⟨cur, hg, hB, hcl, hcm, hlc, ht, _⟩ := h.block
  have hcc : (cap : Int) ≤ 9223372036854775807 := by unfold maxLen at hcm; omega
  have hlcI : (l.length : Int) + 1 ≤ (cap : Int) := by omega
  have hiI : (i : Int) < (l.length : Int) := by omega
  have hne : ((i : Int) == (l.length : Int)) = false := by simp; omega
  have hb2 : ¬ (cap = i + 1) := by omega
  have hb4 : ¬ (cap = i) := by omega
  have hb5 : (i : Int) ≤ (l.length : Int) + 1 := by omega
  have hD : (fl (l.drop i)).length = (l.length - i) * 2 := by rw [fl_len, List.length_drop]
  have hov := fun a lb cb => overl w vb g a lb cb hvg (ca := c) (shape_of hx) (shape_of hg) (by rw [List.size_toArray]; omega) (by exact Lib.frozen_of_heap hx 0) (by exact hfe)
  have hcp1 : ∀ ty dl dc sl sc, dl = l.length - i → sl = l.length + 1 - i → (Builtin.copy_ #[29, 29] ty #[.slice (some ⟨g, (i + 1) * 2, none⟩) dl dc, .slice (some ⟨g, i * 2, none⟩) sl sc]).run Tryz.prog w.drew = .ok (goInt ((l.length - i : Nat) : Int)) (w.drew.setCells g ((i + 1) * 2) (fl (l.drop i))) := by
    intro ty dl dc sl sc h1 h2
    subst h1 h2
    exact copy_cells w.drew ty g ((i + 1) * 2) (l.length - i) dc ⟨g, i * 2, none⟩ (l.length + 1 - i) sc cur (fl (l.drop i)) (l.length - i) hg (by show _ = min _ _; omega) hD (fun j v hj => del_news hg ht i (by omega) j v hj) (by rw [hD]; omega) (fl_one _)
  have hg1 := setCells_heap (fl (l.drop i)) w.drew ((i + 1) * 2) cur hg
  have hf1 : Fr (fun k => k = g) w (w.drew.setCells g ((i + 1) * 2) (fl (l.drop i))) := (Fr.refl _ w).drew.tr (setCells_is_fr g _ _ _)
  have hx1 : ∀ j v, x.cells[j]? = some v → (w.drew.setCells g ((i + 1) * 2) (fl (l.drop i))).cell? ((⟨vb, 0, none⟩ : Addr).add j) = some v := by
    intro j v hj
    rw [Addr.add_mid, setCells_cell_out _ _ _ _ hvg]
    have := hx.cells j v hj
    rw [Addr.add_mid] at this
    exact this
  generalize w.drew.setCells g ((i + 1) * 2) (fl (l.drop i)) = W1 at hcp1 hg1 hf1 hx1
  have hcp2 : ∀ ty dc, (Builtin.copy_ #[29, 29] ty #[.slice (some ⟨g, i * 2, none⟩) (l.length + 1 - i) dc, .slice (some ⟨vb, 0, none⟩) 1 c]).run Tryz.prog W1 = .ok (goInt ((1 : Nat) : Int)) (W1.setCells g (i * 2) x.cells) := by
    intro ty dc
    exact copy_cells W1 ty g (i * 2) (l.length + 1 - i) dc ⟨vb, 0, none⟩ 1 c _ x.cells 1 hg1 (by show _ = min _ _; omega) rfl hx1 (by rw [wrL_length]; simp [Itm.cells]; omega) (itm_one x)
  have hg2 := setCells_heap x.cells W1 (i * 2) _ hg1
  have hf2 : Fr (fun k => k = g) w (W1.setCells g (i * 2) x.cells) := hf1.tr (setCells_is_fr g _ _ _)
  generalize W1.setCells g (i * 2) x.cells = W2 at hcp2 hg2 hf2
  have hfin : OwnsM W2 B (.slice (some ⟨g, 0, none⟩) (l.length + 1) cap) (l.insertIdx i x) := by
    have hn := insertIdx_len x l i (by omega)
    rw [← hn]
    refine OwnsM.of_block hg2 hB (by rw [wrL_len2]; exact hcl) hcm (by omega) ?_
    have hlay := (ins_lay cur (fl (l.drop i)) x.cells i (l.length - i) rfl hD (by omega)).1
    rw [show i + 1 + (l.length - i) = l.length + 1 from by omega] at hlay
    rw [hn, hlay]
    show _ = fl (l.insertIdx i x)
    rw [fl_ins x l i (by omega)]
    have e : cur.take (i * 2) = fl (l.take i) := by
      have h1 : cur.take (i * 2) = (fl l).take (i * 2) := by
        show _ = ((l.map Itm.cells).flatten).take (i * 2)
        rw [← ht, List.take_take]
        congr 1
        omega
      rw [h1]
      have h2 : fl l = fl (l.take i) ++ fl (l.drop i) := by rw [← fl_append, List.take_append_drop]
      rw [h2]
      exact List.take_left' (by rw [fl_len, List.length_take]; omega)
    rw [e]
  have HF := Lib.hid hfin
  have HFR := Lib.hid hf2
  have C1 := Lib.hid hcp1
  have C2 := Lib.hid hcp2
  have hw1 : IntKind.i64.wrap ((i : Int) + 1) = (i : Int) + 1 := by rw [IntKind.wrap_i64]; omega
  have hb1' : (0 : Int) ≤ (i : Int) + 1 := by omega
  have htn : ((i : Int) + 1).toNat = i + 1 := by omega
  have hil : (i : Int) ≤ (l.length : Int) := by omega
  clear hfin hf2 hcp1 hcp2 hg1 hf1 hx1 hg2 hD hg ht hx h hfe
  go_enter Tryz.func118, Tryz.ntmps118
  go_wp2_with (simp only [hov])
  refine rg_start (n := 9) (fun w' => True) #[false, false, false, false, false, false, false, false, false] (by kernel_rfl) rfl rfl trivial (fun hHeld => ?_)
  refine rg_take (i := 0) (N := (some 69)) (v := ?_) (a' := ?_) #[true, false, false, false, false, false, false, false, false] rfl rfl (by kernel_rfl) (fun _ _ _ h => h) (by rfl) ?_ hHeld ?_ ?_
  rotate_left 2
  · rintro w' _s
    go_simp
    try with_reducible rfl
  · simp only [Act.put, List.setIfInBounds_toArray, List.set_cons_zero, List.set_cons_succ]
    rfl
  refine rg_take (i := 1) (N := (some 70)) (v := ?_) (a' := ?_) #[true, true, false, false, false, false, false, false, false] rfl rfl (by kernel_rfl) (fun _ _ _ h => h) (by rfl) ?_ hHeld ?_ ?_
  rotate_left 2
  · rintro w' _s
    go_simp
    try with_reducible rfl
  · simp only [Act.put, List.setIfInBounds_toArray, List.set_cons_zero, List.set_cons_succ]
    rfl
  refine rg_take (i := 2) (N := (some 71)) (v := ?_) (a' := ?_) #[true, true, true, false, false, false, false, false, false] rfl rfl (by kernel_rfl) (fun _ _ _ h => h) (by rfl) ?_ hHeld ?_ ?_
  rotate_left 2
  · rintro w' _s
    go_simp
    try with_reducible rfl
  · simp only [Act.put, List.setIfInBounds_toArray, List.set_cons_zero, List.set_cons_succ]
    rfl
  refine rg_take (i := 3) (N := (some 72)) (v := ?_) (a' := ?_) #[true, true, true, true, false, false, false, false, false] rfl rfl (by kernel_rfl) (fun _ _ _ h => h) (by rfl) ?_ hHeld ?_ ?_
  rotate_left 2
  · rintro w' _s
    go_simp
    try with_reducible rfl
  · simp only [Act.put, List.setIfInBounds_toArray, List.set_cons_zero, List.set_cons_succ]
    rfl
  refine rg_take (i := 4) (N := (some 73)) (v := ?_) (a' := ?_) #[true, true, true, true, true, false, false, false, false] rfl rfl (by kernel_rfl) (fun _ _ _ h => h) (by rfl) ?_ hHeld ?_ ?_
  rotate_left 2
  · rintro w' _s
    go_simp
    try with_reducible rfl
  · simp only [Act.put, List.setIfInBounds_toArray, List.set_cons_zero, List.set_cons_succ]
    rfl
  refine rg_take (i := 5) (N := (some 74)) (v := ?_) (a' := ?_) #[true, true, true, true, true, true, false, false, false] rfl rfl (by kernel_rfl) (fun _ _ _ h => h) (by rfl) ?_ hHeld ?_ ?_
  rotate_left 2
  · rintro w' _s
    go_simp
    try with_reducible rfl
  · simp only [Act.put, List.setIfInBounds_toArray, List.set_cons_zero, List.set_cons_succ]
    rfl
  refine rg_take (i := 6) (N := (some 75)) (v := ?_) (a' := ?_) #[true, true, true, true, true, true, true, false, false] rfl rfl (by kernel_rfl) (fun _ _ _ h => h) (by rfl) ?_ hHeld ?_ ?_
  rotate_left 2
  · rintro w' _s
    go_simp
    try with_reducible rfl
  · simp only [Act.put, List.setIfInBounds_toArray, List.set_cons_zero, List.set_cons_succ]
    rfl
  refine rg_take (i := 7) (N := (some 76)) (v := ?_) (a' := ?_) #[true, true, true, true, true, true, true, true, false] rfl rfl (by kernel_rfl) (fun _ _ _ h => h) (by rfl) ?_ hHeld ?_ ?_
  rotate_left 2
  · rintro w' _s
    go_simp
    try with_reducible rfl
  · simp only [Act.put, List.setIfInBounds_toArray, List.set_cons_zero, List.set_cons_succ]
    rfl
  refine rg_one (i := 8) #[true, true, true, true, true, true, true, true, true] rfl (by kernel_rfl) (by rfl) (fun K hK => ?_)
  (refine op_copy (some 77) rfl (Operand.tmp 73) (Operand.tmp 76) rfl _ _ rfl rfl (C1.out _ _ _ _ _ (by omega) (by omega)) ?_; simp only [Act.put, List.setIfInBounds_toArray, List.set_cons_zero, List.set_cons_succ])
  repeat go_step
  refine hK.out _ _ ?_ (fun hHeld => ?_)
  · trivial
  clear hK K
  refine rg_done (by kernel_rfl) ?_
  have hc2 := C2.out
  go_wp2
  go_ret
  exact ⟨_, _, rfl, HF.out, HFR.out⟩
set_option maxHeartbeats 2000000 in
set_option maxRecDepth 100000 in
theorem insert_grow (B vb g cap c i : Nat) (l : List Itm) (x : Itm) (T : TypeId) (w : World) (h : OwnsM w B (.slice (some ⟨g, 0, none⟩) l.length cap) l) (hBw : B ≤ w.heap.size) (hx : ItmAt w vb x T) (hi : i < l.length) (hroom : cap < l.length + 1) (hl : l.length ≤ 90000) :
    Calls Tryz.prog 118 #[.slice (some ⟨g, 0, none⟩) l.length cap, .int .i64 i, .slice (some ⟨vb, 0, none⟩) 1 c] w
    fun e w' => ∃ A' cap', e = .returned (.slice A' (l.length + 1) cap') ∧ OwnsM w' B (.slice A' (l.length + 1) cap') (l.insertIdx i x) ∧ Fr (fun k => k = g) w w' := by
  obtain ⟨cur, hg, hB, hcl, hcm, hlc, ht, _⟩ := h.block
  obtain rfl : cap = l.length := by omega
  obtain ⟨i0, hi0, hz0, hz1, hz2⟩ := info_parts M_info
  have hglt := lt_of_row hg
  have hiI : (i : Int) < (l.length : Int) := by omega
  have hlI : (l.length : Int) ≤ 90000 := by omega
  have hne : ((i : Int) == (l.length : Int)) = false := by simp; omega
  have hb2 : ¬ (l.length = i + 1) ∨ l.length = i + 1 := by omega
  have hb4 : ¬ (l.length = i) := by omega
  have hD : (fl (l.drop i)).length = (l.length - i) * 2 := by rw [fl_len, List.length_drop]
  have hold : (Builtin.firstCells i0.size i (.slice (some ⟨g, 0, none⟩) i l.length)).run Tryz.prog w.drew = .ok (fl (l.take i)).toArray w.drew := by
    rw [hz1]
    refine run_firstCells_some w.drew 2 i ⟨g, 0, none⟩ i l.length (fl (l.take i)) (by rw [fl_len, List.length_take]; omega) (fun j v hj => ?_)
    have h2 : fl l = fl (l.take i) ++ fl (l.drop i) := by rw [← fl_append, List.take_append_drop]
    have h3 : (fl l)[j]? = some v := by
      rw [h2, List.getElem?_append_left (List.getElem?_eq_some_iff.1 hj).1]
      exact hj
    have h4 : fl l = (l.map Itm.cells).flatten := rfl
    rw [h4, ← ht, List.getElem?_take] at h3
    split at h3
    · rw [Addr.add_mid, Lib.cell_of_heap (w := w.drew) hg]
      simpa using h3
    · cases h3
  have hrz : ∀ ty, (Builtin.append_ #[29, 3] ty #[.slice (some ⟨g, 0, none⟩) i l.length, .int .i64 ((l.length : Int) + 1 - (i : Int))]).run Tryz.prog w = .ok (.slice (some ⟨w.heap.size, 0, none⟩) (l.length + 1) (grownCap w (l.length + 1) l.length 41)) (w.drew.alloc (.cells ((fl (l.take i)).toArray ++ Builtin.zeroCells (Value.agg #[.string ⟨#[]⟩, .string ⟨#[]⟩]).cells (l.length + 1 - i) ++ Builtin.zeroCells (Value.agg #[.string ⟨#[]⟩, .string ⟨#[]⟩]).cells (grownCap w (l.length + 1) l.length 41 - (l.length + 1))) 41)) := fun ty => by
    have h := Lib.run_append_grow_zeros w 29 3 ty 41 i0 _ .i64 .i64 Tryz.underlying29 Tryz.underlying3 hi0 hz0 (some ⟨g, 0, none⟩) i l.length (fl (l.take i)) hold (l.length + 1 - i) (by omega) (by omega) (by omega) (by omega) (by rw [hz2]; omega) (by rw [hz2]; exact growslice_fits (by omega) (by omega))
    rw [show ((l.length + 1 - i : Nat) : Int) = (l.length : Int) + 1 - (i : Int) from by omega, show i + (l.length + 1 - i) = l.length + 1 from by omega] at h
    exact h
  have hGn : l.length + 1 ≤ grownCap w (l.length + 1) l.length 41 := grownCap_ge w _ _ _
  have hGm : grownCap w (l.length + 1) l.length 41 ≤ maxLen := grownCap_le_maxLen w _ _ _ (by unfold maxLen; omega)
  generalize grownCap w (l.length + 1) l.length 41 = G at hrz hGn hGm
  obtain ⟨row, hrow⟩ : ∃ row : List Value, row.toArray = (fl (l.take i)).toArray ++ Builtin.zeroCells (Value.agg #[.string ⟨#[]⟩, .string ⟨#[]⟩]).cells (l.length + 1 - i) ++ Builtin.zeroCells (Value.agg #[.string ⟨#[]⟩, .string ⟨#[]⟩]).cells (G - (l.length + 1)) := ⟨_, Array.toArray_toList⟩
  have hrl : row.length = G * 2 := by
    have := congrArg Array.size hrow
    have hc2 : (Value.agg #[.string ⟨#[]⟩, .string ⟨#[]⟩]).cells.size = 2 := by kernel_rfl
    simp only [List.size_toArray, Array.size_append, size_zeroCells, hc2, fl_len, List.length_take] at this
    omega
  have hrt : row.take (i * 2) = fl (l.take i) := by
    have := congrArg Array.toList hrow
    simp only [Array.toList_append, List.append_assoc] at this
    rw [this]
    exact List.take_left' (by simp only [fl_len, List.length_take]; omega)
  rw [← hrow] at hrz
  have hg1 : (w.drew.alloc (.cells row.toArray 41)).heap[w.heap.size]? = some (.cells row.toArray 41 (0, 0)) := heap_alloc_new w.drew _
  have hb1 : Below w.heap.size w (w.drew.alloc (.cells row.toArray 41)) := (Below.refl _ w).drew.alloc (Nat.le_refl _) _
  have hs1 : (w.drew.alloc (.cells row.toArray 41)).heap.size = w.heap.size + 1 := by simp
  generalize w.drew.alloc (.cells row.toArray 41) = W1 at hrz hg1 hb1 hs1
  have hvlt := lt_of_row hx
  have hx1 : ∀ j v, x.cells[j]? = some v → W1.cell? ((⟨vb, 0, none⟩ : Addr).add j) = some v := by
    intro j v hj
    have := hx.cells j v hj
    rw [Addr.add_mid] at this ⊢
    exact (hb1.cell (p := ⟨vb, _, none⟩) hvlt).trans this
  have hcp1 : ∀ ty dc, (Builtin.copy_ #[29, 29] ty #[.slice (some ⟨w.heap.size, i * 2, none⟩) (l.length + 1 - i) dc, .slice (some ⟨vb, 0, none⟩) 1 c]).run Tryz.prog W1 = .ok (goInt ((1 : Nat) : Int)) (W1.setCells w.heap.size (i * 2) x.cells) := by
    intro ty dc
    exact copy_cells W1 ty w.heap.size (i * 2) (l.length + 1 - i) dc ⟨vb, 0, none⟩ 1 c row x.cells 1 hg1 (by show _ = min _ _; omega) rfl hx1 (by rw [hrl]; simp [Itm.cells]; omega) (itm_one x)
  have hg2 := setCells_heap x.cells W1 (i * 2) row hg1
  have hf2 : Fr (fun k => k = w.heap.size) W1 (W1.setCells w.heap.size (i * 2) x.cells) := setCells_is_fr w.heap.size _ _ _
  generalize W1.setCells w.heap.size (i * 2) x.cells = W2 at hcp1 hg2 hf2
  have hb2' : Below w.heap.size w W2 := hb1.trans (hf2.to_below (by omega) (fun k hk e => by omega))
  have hgO : W2.heap[g]? = some (.cells cur.toArray 41 (0, 0)) := (hb2'.block g hglt).trans hg
  have hcp2 : ∀ ty dl dc sl sc, dl = l.length - i → sl = l.length - i → (Builtin.copy_ #[29, 29] ty #[.slice (some ⟨w.heap.size, (i + 1) * 2, none⟩) dl dc, .slice (some ⟨g, i * 2, none⟩) sl sc]).run Tryz.prog W2.drew = .ok (goInt ((l.length - i : Nat) : Int)) (W2.drew.setCells w.heap.size ((i + 1) * 2) (fl (l.drop i))) := by
    intro ty dl dc sl sc h1 h2
    subst h1 h2
    exact copy_cells W2.drew ty w.heap.size ((i + 1) * 2) (l.length - i) dc ⟨g, i * 2, none⟩ (l.length - i) sc _ (fl (l.drop i)) (l.length - i) hg2 (by show _ = min _ _; omega) hD (fun j v hj => del_news (w := W2.drew) hgO ht i (by omega) j v hj) (by rw [hD, wrL_length, hrl]; omega) (fl_one _)
  have hg3 := setCells_heap (fl (l.drop i)) W2.drew ((i + 1) * 2) _ hg2
  have hf3 : Fr (fun k => k = w.heap.size) W2 (W2.drew.setCells w.heap.size ((i + 1) * 2) (fl (l.drop i))) := (Fr.refl _ W2).drew.tr (setCells_is_fr w.heap.size _ _ _)
  generalize W2.drew.setCells w.heap.size ((i + 1) * 2) (fl (l.drop i)) = W3 at hcp2 hg3 hf3
  have hb3 : Below w.heap.size w W3 := hb2'.trans (hf3.to_below hb2'.size (fun k hk e => by omega))
  have hfin : OwnsM W3 B (.slice (some ⟨w.heap.size, 0, none⟩) (l.length + 1) G) (l.insertIdx i x) := by
    have hn := insertIdx_len x l i (by omega)
    rw [← hn]
    refine OwnsM.of_block hg3 hBw (by rw [wrL_len2]; exact hrl) hGm (by omega) ?_
    have hlay := (ins_lay row (fl (l.drop i)) x.cells i (l.length - i) rfl hD (by omega)).2
    rw [show i + 1 + (l.length - i) = l.length + 1 from by omega] at hlay
    rw [hn, hlay, hrt]
    exact (fl_ins x l i (by omega)).symm
  have HF := Lib.hid hfin
  have HFR := Lib.hid hb3
  have R1 := Lib.hid hrz
  have C1 := Lib.hid hcp1
  have C2 := Lib.hid hcp2
  have hGi : ¬ (G = i) := by omega
  have hGim : ¬ (G = i + 1) := by omega
  have hG63 : (G : Int) ≤ 9223372036854775807 := by unfold maxLen at hGm; omega
  have hGnI : (l.length : Int) + 1 ≤ (G : Int) := by omega
  have hw1 : IntKind.i64.wrap ((i : Int) + 1) = (i : Int) + 1 := by rw [IntKind.wrap_i64]; omega
  have hb1' : (0 : Int) ≤ (i : Int) + 1 := by omega
  have htn : ((i : Int) + 1).toNat = i + 1 := by omega
  have hil : (i : Int) ≤ (l.length : Int) := by omega
  clear hfin hb3 hrz hcp1 hcp2 hg1 hb1 hs1 hx1 hg2 hf2 hb2' hgO hg3 hf3 hD hg ht hx h hold hrow hrl hrt hz0 hz1 hz2 hi0 hb2
  go_enter Tryz.func118, Tryz.ntmps118
  go_wp2_with (at_builtin; refine Lib.wpList_append_run _ rfl _ _ _ _ rfl _ _ rfl rfl _ _ (R1.out _) ?_; have hc1 := C1.out)
  refine rg_start (n := 9) (fun w' => True) #[false, false, false, false, false, false, false, false, false] (by kernel_rfl) rfl rfl trivial (fun hHeld => ?_)
  refine rg_take (i := 0) (N := (some 46)) (v := ?_) (a' := ?_) #[true, false, false, false, false, false, false, false, false] rfl rfl (by kernel_rfl) (fun _ _ _ h => h) (by rfl) ?_ hHeld ?_ ?_
  rotate_left 2
  · rintro w' _s
    go_simp
    try with_reducible rfl
  · simp only [Act.put, List.setIfInBounds_toArray, List.set_cons_zero, List.set_cons_succ]
    rfl
  refine rg_take (i := 1) (N := (some 47)) (v := ?_) (a' := ?_) #[true, true, false, false, false, false, false, false, false] rfl rfl (by kernel_rfl) (fun _ _ _ h => h) (by rfl) ?_ hHeld ?_ ?_
  rotate_left 2
  · rintro w' _s
    go_simp
    try with_reducible rfl
  · simp only [Act.put, List.setIfInBounds_toArray, List.set_cons_zero, List.set_cons_succ]
    rfl
  refine rg_take (i := 2) (N := (some 48)) (v := ?_) (a' := ?_) #[true, true, true, false, false, false, false, false, false] rfl rfl (by kernel_rfl) (fun _ _ _ h => h) (by rfl) ?_ hHeld ?_ ?_
  rotate_left 2
  · rintro w' _s
    go_simp
    try with_reducible rfl
  · simp only [Act.put, List.setIfInBounds_toArray, List.set_cons_zero, List.set_cons_succ]
    rfl
  refine rg_take (i := 3) (N := (some 49)) (v := ?_) (a' := ?_) #[true, true, true, true, false, false, false, false, false] rfl rfl (by kernel_rfl) (fun _ _ _ h => h) (by rfl) ?_ hHeld ?_ ?_
  rotate_left 2
  · rintro w' _s
    go_simp
    try with_reducible rfl
  · simp only [Act.put, List.setIfInBounds_toArray, List.set_cons_zero, List.set_cons_succ]
    rfl
  refine rg_take (i := 4) (N := (some 50)) (v := ?_) (a' := ?_) #[true, true, true, true, true, false, false, false, false] rfl rfl (by kernel_rfl) (fun _ _ _ h => h) (by rfl) ?_ hHeld ?_ ?_
  rotate_left 2
  · rintro w' _s
    go_simp
    try with_reducible rfl
  · simp only [Act.put, List.setIfInBounds_toArray, List.set_cons_zero, List.set_cons_succ]
    rfl
  refine rg_take (i := 5) (N := (some 51)) (v := ?_) (a' := ?_) #[true, true, true, true, true, true, false, false, false] rfl rfl (by kernel_rfl) (fun _ _ _ h => h) (by rfl) ?_ hHeld ?_ ?_
  rotate_left 2
  · rintro w' _s
    go_simp
    try with_reducible rfl
  · simp only [Act.put, List.setIfInBounds_toArray, List.set_cons_zero, List.set_cons_succ]
    rfl
  refine rg_take (i := 6) (N := (some 52)) (v := ?_) (a' := ?_) #[true, true, true, true, true, true, true, false, false] rfl rfl (by kernel_rfl) (fun _ _ _ h => h) (by rfl) ?_ hHeld ?_ ?_
  rotate_left 2
  · rintro w' _s
    go_simp
    try with_reducible rfl
  · simp only [Act.put, List.setIfInBounds_toArray, List.set_cons_zero, List.set_cons_succ]
    rfl
  refine rg_take (i := 7) (N := (some 53)) (v := ?_) (a' := ?_) #[true, true, true, true, true, true, true, true, false] rfl rfl (by kernel_rfl) (fun _ _ _ h => h) (by rfl) ?_ hHeld ?_ ?_
  rotate_left 2
  · rintro w' _s
    go_simp
    try with_reducible rfl
  · simp only [Act.put, List.setIfInBounds_toArray, List.set_cons_zero, List.set_cons_succ]
    rfl
  refine rg_one (i := 8) #[true, true, true, true, true, true, true, true, true] rfl (by kernel_rfl) (by rfl) (fun K hK => ?_)
  (refine op_copy (some 54) rfl (Operand.tmp 50) (Operand.tmp 53) rfl _ _ rfl rfl (C2.out _ _ _ _ _ (by omega) (by omega)) ?_; simp only [Act.put, List.setIfInBounds_toArray, List.set_cons_zero, List.set_cons_succ])
  repeat go_step
  refine hK.out _ _ ?_ (fun hHeld => ?_)
  · trivial
  clear hK K
  refine rg_done (by kernel_rfl) ?_
  go_wp2
  go_ret
  exact ⟨_, _, rfl, HF.out, Fr.of_below HFR.out⟩
theorem insert_any (B vb cap c i : Nat) (A : Option Addr) (l : List Itm) (x : Itm) (T : TypeId) (w : World) (h : OwnsM w B (.slice A l.length cap) l) (hB : B ≤ w.heap.size) (hx : ItmAt w vb x T) (hvg : (Value.slice A l.length cap).ownBlock ≠ some vb) (hi : i ≤ l.length) (hl : l.length ≤ 90000) :
    Calls Tryz.prog 118 #[.slice A l.length cap, .int .i64 i, .slice (some ⟨vb, 0, none⟩) 1 c] w
    fun e w' => ∃ A' cap', e = .returned (.slice A' (l.length + 1) cap') ∧ OwnsM w' B (.slice A' (l.length + 1) cap') (l.insertIdx i x) ∧ Fr (fun k => (Value.slice A l.length cap).ownBlock = some k) w w' := by
  by_cases he : i = l.length
  · subst he
    have := insert_end B vb cap c A l x T w h hB hx hl
    rw [List.insertIdx_length_self]
    exact this
  · have hi2 : i < l.length := by omega
    rcases h.2 with ⟨he2, h0⟩ | ⟨g, cap', cur, he2, hb, hgg, hc1, hc2, hc3, htake⟩
    · omega
    · simp at he2
      obtain ⟨rfl, rfl⟩ := he2
      have hown : (fun k => (Value.slice (some ⟨g, 0, none⟩) l.length cap).ownBlock = some k) = (fun k => k = g) := by
        funext k
        simp [Value.ownBlock, eq_comm]
      rw [hown]
      have hne : vb ≠ g := fun e => hvg (by subst e; rfl)
      by_cases hr : l.length + 1 ≤ cap
      · exact insert_shift B vb g cap c i l x T w h hx hne (Lib.frozen_of_heap hx 2) hi2 hr hl
      · exact insert_grow B vb g cap c i l x T w h hB hx hi2 (by omega) hl
end Go.Proofs.YtdfgdnaejnngoaaGreat
