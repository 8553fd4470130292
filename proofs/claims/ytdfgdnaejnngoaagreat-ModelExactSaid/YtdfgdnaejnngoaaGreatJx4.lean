import Derived.Test.YtdfgdnaejnngoaaGreatJx3
import Derived.Shelf.Spec.SlicesInsertGrow
set_option linter.unusedVariables false
set_option linter.unusedSimpArgs false
namespace Go.Proofs.YtdfgdnaejnngoaaGreat
open Go.RowKit
/-! slices.Delete of one item: the walk. -/
theorem oper_runTo {P : Program} {o : Oper} {a : Act} {w : World} {K : Act → World → Prop} {Q : Exit → Act → World → Prop} (N : Option Tmp) (hN : o.dst = N) (v : Value) (w' : World) (hrun : (execOp a.eval o).run P w = .ok (.value v) w') (h : K (a.put N v) w') : Oper.wp P o a w K Q := by
  subst hN
  unfold Oper.wp
  rw [hrun, Oper.upon_value]
  exact h
theorem op_append_room {o : Oper} {ac : Act} {w : World} {K : Act → World → Prop} {Q : Exit → Act → World → Prop} (N : Option Tmp) (hN : o.dst = N) (s x : Operand) (ho : o.op = .call { callee := .builtin .append, args := #[s, x], argTypes := #[29, 29] })
    (g i cap m c a : Nat) (cur news : List Value) (hs : ac.eval s = .slice (some ⟨g, 0, none⟩) i cap) (hx : ac.eval x = .slice (some ⟨g, a, none⟩) m c) (h : w.heap[g]? = some (.cells cur.toArray 41 (0, 0))) (hl : news.length = m * 2) (hnews : ∀ j u, news[j]? = some u → w.cell? ((⟨g, a, none⟩ : Addr).add j) = some u) (h1 : ∀ u ∈ news, u.oneCell' = true)
    (hroom : i + m ≤ cap) (hfit : i * 2 + news.length ≤ cur.length) (hK : K (ac.put N (.slice (some ⟨g, 0, none⟩) (i + m) cap)) (w.setCells g (i * 2) news)) : Oper.wp Tryz.prog o ac w K Q := by
  have hr := append_room w g i i cap m c a o.type cur news h hl hnews h1 hroom hfit
  refine oper_runTo N hN _ _ ?_ hK
  unfold execOp
  simp only [ho, resolve, invoke, builtin, Sem.run_bind, Sem.run_pure, Result.andThen_ok, List.map_toArray, List.map_cons, List.map_nil, hs, hx]
  rw [hr]
  rfl
theorem fl_drop (l : List Itm) (k : Nat) (hk : k ≤ l.length) : (fl l).drop (k * 2) = fl (l.drop k) := by
  have h : fl l = fl (l.take k) ++ fl (l.drop k) := by rw [← fl_append, List.take_append_drop]
  rw [h]
  exact List.drop_left' (by rw [fl_len, List.length_take, Nat.min_eq_left hk])
theorem del_news {w : World} {g : Nat} {cur : List Value} {l : List Itm} (hg : w.heap[g]? = some (.cells cur.toArray 41 (0, 0))) (ht : cur.take (l.length * 2) = fl l) (k : Nat) (hk : k ≤ l.length) : ∀ j u, (fl (l.drop k))[j]? = some u → w.cell? ((⟨g, k * 2, none⟩ : Addr).add j) = some u := by
  intro j u hj
  rw [← fl_drop l k hk, List.getElem?_drop, ← ht, List.getElem?_take] at hj
  split at hj
  · rw [Addr.add_mid, Lib.cell_of_heap hg]
    simpa using hj
  · cases hj
theorem fl_one (l : List Itm) : ∀ u ∈ fl l, u.oneCell' = true := by
  intro u hu
  obtain ⟨r, hr, hu⟩ := List.mem_flatten.1 hu
  obtain ⟨e, _, rfl⟩ := List.mem_map.1 hr
  exact itm_one e u hu
set_option maxHeartbeats 1000000 in
set_option maxRecDepth 100000 in
theorem delete_any (B g cap i : Nat) (l : List Itm) (w : World) (h : OwnsM w B (.slice (some ⟨g, 0, none⟩) l.length cap) l) (hi : i < l.length) (hl : l.length ≤ 100000) : Calls Tryz.prog 119 #[.slice (some ⟨g, 0, none⟩) l.length cap, .int .i64 i, .int .i64 (i + 1)] w
    fun e w' => e = .returned (.slice (some ⟨g, 0, none⟩) (l.length - 1) cap) ∧ OwnsM w' B (.slice (some ⟨g, 0, none⟩) (l.length - 1) cap) (l.eraseIdx i) ∧ Fr (fun k => k = g) w w' := by
  obtain ⟨cur, hg, hB, hcl, hcm, hlc, ht, _⟩ := h.block
  have hcap : cap ≤ 9223372036854775807 := by unfold maxLen at hcm; omega
  have hiI : (i : Int) < (l.length : Int) := by omega
  have hlcI : (l.length : Int) ≤ (cap : Int) := by omega
  have hic : i ≤ cap := by omega
  have hi1 : (0 : Int) ≤ (i : Int) + 1 ∧ (i : Int) + 1 ≤ (l.length : Int) := by omega
  have HG := Lib.hid hg
  have HT := Lib.hid ht
  clear h hg ht
  have hlen : (fl (l.drop (i + 1))).length = (l.length - (i + 1)) * 2 := by rw [fl_len, List.length_drop]
  have hfit : i * 2 + (fl (l.drop (i + 1))).length ≤ cur.length := by rw [hlen]; omega
  have hnw := del_news HG.out HT.out (i + 1) (by omega)
  have hdm := del_move l i hi cur (by omega) HT.out
  have HLEN := Lib.hid hlen
  have HFIT := Lib.hid hfit
  have HNW := Lib.hid hnw
  have HDM := Lib.hid hdm
  clear hlen hfit hnw hdm
  by_cases hce : cap = i + 1
  · have hdz : fl (l.drop (i + 1)) = [] := by
      apply List.eq_nil_of_length_eq_zero
      rw [HLEN.out]
      omega
    have HWE := Lib.hid (show ∀ W : World, W.setCells g (i * 2) [] = W.setCells g (i * 2) (fl (l.drop (i + 1))) from fun W => by rw [hdz])
    clear hdz hcap
    have hii : (i : Int) ≤ (i : Int) + 1 := by omega
    have hfit0 : i * 2 + ([] : List Value).length ≤ cur.length := by have := HFIT.out; simp; omega
    have HF0 := Lib.hid hfit0
    clear hfit0
    subst hce
    go_enter Tryz.func119, Tryz.ntmps119
    go_wp2
    refine rg_start (n := 8) (fun w' => Fr (fun k => k = g) w w') #[false, false, false, false, false, false, false, false] (by kernel_rfl) rfl rfl (Fr.refl _ w).drew (fun hHeld => ?_)
    refine rg_take (i := 0) (N := (some 20)) (v := ?_) (a' := ?_) #[true, false, false, false, false, false, false, false] rfl rfl (by kernel_rfl) (fun _ _ _ h => h) (by rfl) ?_ hHeld ?_ ?_
    rotate_left 2
    · rintro w' s0
      go_simp
      try with_reducible rfl
    · simp only [Act.put, List.setIfInBounds_toArray, List.set_cons_zero, List.set_cons_succ]
      rfl
    refine rg_take (i := 1) (N := (some 21)) (v := ?_) (a' := ?_) #[true, true, false, false, false, false, false, false] rfl rfl (by kernel_rfl) (fun _ _ _ h => h) (by rfl) ?_ hHeld ?_ ?_
    rotate_left 2
    · rintro w' s0
      go_simp
      try with_reducible rfl
    · simp only [Act.put, List.setIfInBounds_toArray, List.set_cons_zero, List.set_cons_succ]
      rfl
    refine rg_take (i := 2) (N := (some 22)) (v := ?_) (a' := ?_) #[true, true, true, false, false, false, false, false] rfl rfl (by kernel_rfl) (fun _ _ _ h => h) (by rfl) ?_ hHeld ?_ ?_
    rotate_left 2
    · rintro w' s0
      go_simp
      try with_reducible rfl
    · simp only [Act.put, List.setIfInBounds_toArray, List.set_cons_zero, List.set_cons_succ]
      rfl
    refine rg_take (i := 3) (N := (some 23)) (v := ?_) (a' := ?_) #[true, true, true, true, false, false, false, false] rfl rfl (by kernel_rfl) (fun _ _ _ h => h) (by rfl) ?_ hHeld ?_ ?_
    rotate_left 2
    · rintro w' s0
      go_simp
      try with_reducible rfl
    · simp only [Act.put, List.setIfInBounds_toArray, List.set_cons_zero, List.set_cons_succ]
      rfl
    refine rg_take (i := 4) (N := (some 24)) (v := ?_) (a' := ?_) #[true, true, true, true, true, false, false, false] rfl rfl (by kernel_rfl) (fun _ _ _ h => h) (by rfl) ?_ hHeld ?_ ?_
    rotate_left 2
    · rintro w' s0
      go_simp
      try with_reducible rfl
    · simp only [Act.put, List.setIfInBounds_toArray, List.set_cons_zero, List.set_cons_succ]
      rfl
    refine rg_take (i := 5) (N := (some 25)) (v := ?_) (a' := ?_) #[true, true, true, true, true, true, false, false] rfl rfl (by kernel_rfl) (fun _ _ _ h => h) (by rfl) ?_ hHeld ?_ ?_
    rotate_left 2
    · rintro w' s0
      go_simp
      try with_reducible rfl
    · simp only [Act.put, List.setIfInBounds_toArray, List.set_cons_zero, List.set_cons_succ]
      rfl
    refine rg_one (i := 6) #[true, true, true, true, true, true, true, false] rfl (by kernel_rfl) (by rfl) (fun K hK => ?_)
    have s0 := hHeld
    clear hHeld
    (refine op_append_room (some 26) rfl (Operand.tmp 22) (Operand.tmp 25) rfl g i (i + 1) 0 0 0 cur [] rfl rfl HG.out rfl (fun j u hj => by simp at hj) (fun u hu => by simp at hu) (by omega) HF0.out ?_; simp only [Act.put, List.setIfInBounds_toArray, List.set_cons_zero, List.set_cons_succ])
    repeat go_step
    refine hK.out _ _ ?_ (fun hHeld => ?_)
    · exact s0.tr (setCells_is_fr g _ _ _)
    clear hK K
    clear s0
    refine rg_take (i := 7) (N := (some 0)) (v := ?_) (a' := ?_) #[true, true, true, true, true, true, true, true] rfl rfl (by kernel_rfl) (fun _ _ _ h => h) (by rfl) ?_ hHeld ?_ ?_
    rotate_left 2
    · rintro w' s0
      go_simp
      try with_reducible rfl
    · simp only [Act.put, List.setIfInBounds_toArray, List.set_cons_zero, List.set_cons_succ]
      rfl
    refine rg_done (by kernel_rfl) ?_
    rw [HWE.out] at hHeld
    rw [HWE.out, Nat.add_zero]
    have hli : l.length - 1 = i := by omega
    have HLI := Lib.hid hli
    clear hli
    have hg2 := setCells_heap (fl (l.drop (i + 1))) w.drew (i * 2) cur HG.out
    generalize w.drew.setCells g (i * 2) (fl (l.drop (i + 1))) = W at *
    have hw2 : (wrL cur (i * 2) (fl (l.drop (i + 1)))).length = cur.length := HDM.out.2
    have hclr : ∀ ty, (Builtin.clear_ #[29] ty #[.slice (some ⟨g, i * 2, none⟩) (l.length - i) 1]).run Tryz.prog W = .ok (.tuple #[]) (W.setCells g (i * 2) zs2) := fun ty => by rw [show l.length - i = 1 from by omega]; exact clear_one W g (i * 2) 1 ty _ hg2 (by rw [hw2]; omega)
    have HG2 := Lib.hid hg2
    clear hg2 hw2
    go_wp2
    go_ret
    have hE := erase_len l i hi
    rw [HLI.out]
    refine ⟨rfl, ?_, hHeld.tr (setCells_is_fr g _ _ _)⟩
    have hE2 : (l.eraseIdx i).length = i := hE.trans HLI.out
    have hT : (wrL cur (i * 2) (fl (l.drop (i + 1)))).take (i * 2) = fl (l.eraseIdx i) := by have := HDM.out.1; rw [HLI.out] at this; exact this
    have hfin := OwnsM.of_block (B := B) (cap := i + 1) (l := l.eraseIdx i) (setCells_heap zs2 W (i * 2) _ HG2.out) hB (by rw [wrL_length, HDM.out.2]; exact hcl) hcm (by omega) (by rw [hE2, wr_take _ _ _ (by rw [HDM.out.2]; show i * 2 + 2 ≤ _; omega)]; exact hT)
    rw [hE2] at hfin
    exact hfin
  · go_enter Tryz.func119, Tryz.ntmps119
    go_wp2
    refine rg_start (n := 8) (fun w' => Fr (fun k => k = g) w w') #[false, false, false, false, false, false, false, false] (by kernel_rfl) rfl rfl (Fr.refl _ w).drew (fun hHeld => ?_)
    refine rg_take (i := 0) (N := (some 20)) (v := ?_) (a' := ?_) #[true, false, false, false, false, false, false, false] rfl rfl (by kernel_rfl) (fun _ _ _ h => h) (by rfl) ?_ hHeld ?_ ?_
    rotate_left 2
    · rintro w' s0
      go_simp
      try with_reducible rfl
    · simp only [Act.put, List.setIfInBounds_toArray, List.set_cons_zero, List.set_cons_succ]
      rfl
    refine rg_take (i := 1) (N := (some 21)) (v := ?_) (a' := ?_) #[true, true, false, false, false, false, false, false] rfl rfl (by kernel_rfl) (fun _ _ _ h => h) (by rfl) ?_ hHeld ?_ ?_
    rotate_left 2
    · rintro w' s0
      go_simp
      try with_reducible rfl
    · simp only [Act.put, List.setIfInBounds_toArray, List.set_cons_zero, List.set_cons_succ]
      rfl
    refine rg_take (i := 2) (N := (some 22)) (v := ?_) (a' := ?_) #[true, true, true, false, false, false, false, false] rfl rfl (by kernel_rfl) (fun _ _ _ h => h) (by rfl) ?_ hHeld ?_ ?_
    rotate_left 2
    · rintro w' s0
      go_simp
      try with_reducible rfl
    · simp only [Act.put, List.setIfInBounds_toArray, List.set_cons_zero, List.set_cons_succ]
      rfl
    refine rg_take (i := 3) (N := (some 23)) (v := ?_) (a' := ?_) #[true, true, true, true, false, false, false, false] rfl rfl (by kernel_rfl) (fun _ _ _ h => h) (by rfl) ?_ hHeld ?_ ?_
    rotate_left 2
    · rintro w' s0
      go_simp
      try with_reducible rfl
    · simp only [Act.put, List.setIfInBounds_toArray, List.set_cons_zero, List.set_cons_succ]
      rfl
    refine rg_take (i := 4) (N := (some 24)) (v := ?_) (a' := ?_) #[true, true, true, true, true, false, false, false] rfl rfl (by kernel_rfl) (fun _ _ _ h => h) (by rfl) ?_ hHeld ?_ ?_
    rotate_left 2
    · rintro w' s0
      go_simp
      try with_reducible rfl
    · simp only [Act.put, List.setIfInBounds_toArray, List.set_cons_zero, List.set_cons_succ]
      rfl
    refine rg_take (i := 5) (N := (some 25)) (v := ?_) (a' := ?_) #[true, true, true, true, true, true, false, false] rfl rfl (by kernel_rfl) (fun _ _ _ h => h) (by rfl) ?_ hHeld ?_ ?_
    rotate_left 2
    · rintro w' s0
      go_simp
      try with_reducible rfl
    · simp only [Act.put, List.setIfInBounds_toArray, List.set_cons_zero, List.set_cons_succ]
      rfl
    refine rg_one (i := 6) #[true, true, true, true, true, true, true, false] rfl (by kernel_rfl) (by rfl) (fun K hK => ?_)
    have s0 := hHeld
    clear hHeld
    (refine op_append_room (some 26) rfl (Operand.tmp 22) (Operand.tmp 25) rfl g i cap (l.length - (i + 1)) (cap - (i + 1)) ((i + 1) * 2) cur (fl (l.drop (i + 1))) rfl rfl HG.out HLEN.out HNW.out (fl_one _) (by omega) HFIT.out ?_; simp only [Act.put, List.setIfInBounds_toArray, List.set_cons_zero, List.set_cons_succ])
    repeat go_step
    refine hK.out _ _ ?_ (fun hHeld => ?_)
    · exact s0.tr (setCells_is_fr g _ _ _)
    clear hK K
    clear s0
    refine rg_take (i := 7) (N := (some 0)) (v := ?_) (a' := ?_) #[true, true, true, true, true, true, true, true] rfl rfl (by kernel_rfl) (fun _ _ _ h => h) (by rfl) ?_ hHeld ?_ ?_
    rotate_left 2
    · rintro w' s0
      go_simp
      try with_reducible rfl
    · simp only [Act.put, List.setIfInBounds_toArray, List.set_cons_zero, List.set_cons_succ]
      rfl
    refine rg_done (by kernel_rfl) ?_
    rw [show i + (l.length - (i + 1)) = l.length - 1 from by omega]
    have hg2 := setCells_heap (fl (l.drop (i + 1))) w.drew (i * 2) cur HG.out
    have hn1 : ((l.length - 1 : Nat) : Int) = (l.length : Int) - 1 := by omega
    generalize w.drew.setCells g (i * 2) (fl (l.drop (i + 1))) = W at *
    have hw2 : (wrL cur (i * 2) (fl (l.drop (i + 1)))).length = cur.length := HDM.out.2
    have hclr : ∀ ty, (Builtin.clear_ #[29] ty #[.slice (some ⟨g, (l.length - 1) * 2, none⟩) (l.length - (l.length - 1)) (cap - (l.length - 1))]).run Tryz.prog W = .ok (.tuple #[]) (W.setCells g ((l.length - 1) * 2) zs2) := fun ty => by rw [show l.length - (l.length - 1) = 1 from by omega]; exact clear_one W g ((l.length - 1) * 2) (cap - (l.length - 1)) ty _ hg2 (by rw [hw2]; omega)
    have HG2 := Lib.hid hg2
    clear hg2 hw2
    go_wp2
    go_ret
    have hE := erase_len l i hi
    refine ⟨rfl, ?_, hHeld.tr (setCells_is_fr g _ _ _)⟩
    rw [← hE]
    refine OwnsM.of_block (setCells_heap zs2 W _ _ HG2.out) hB (by rw [wrL_length, HDM.out.2]; exact hcl) hcm (by omega) ?_
    rw [hE, wr_take _ _ _ (by rw [HDM.out.2]; show (l.length - 1) * 2 + 2 ≤ _; omega)]
    exact HDM.out.1
end Go.Proofs.YtdfgdnaejnngoaaGreat
namespace Go.Proofs.YtdfgdnaejnngoaaGreat
open Go.RowKit
/-! slices.Insert of one item. -/
theorem insertIdx_eq {α : Type} (x : α) : ∀ (l : List α) (i : Nat), i ≤ l.length → l.insertIdx i x = l.take i ++ x :: l.drop i
  | l, 0, _ => by simp
  | [], i + 1, h => by simp at h
  | y :: l, i + 1, h => by rw [List.insertIdx_succ_cons, insertIdx_eq x l i (by simpa using h)]; simp
theorem insertIdx_len (x : Itm) (l : List Itm) (i : Nat) (h : i ≤ l.length) : (l.insertIdx i x).length = l.length + 1 := by
  rw [insertIdx_eq x l i h, List.length_append, List.length_cons, List.length_take, List.length_drop]; omega
theorem fl_ins (x : Itm) (l : List Itm) (i : Nat) (h : i ≤ l.length) : fl (l.insertIdx i x) = fl (l.take i) ++ (x.cells ++ fl (l.drop i)) := by
  rw [insertIdx_eq x l i h, fl_append]; simp [fl]
/-- x laid at its place, and what followed behind it: in either order -/
theorem ins_lay (cur D xs : List Value) (i n : Nat) (hx : xs.length = 2) (hD : D.length = n * 2) (hc : (i + 1 + n) * 2 ≤ cur.length) :
    (wrL (wrL cur ((i + 1) * 2) D) (i * 2) xs).take ((i + 1 + n) * 2) = cur.take (i * 2) ++ (xs ++ D) ∧ (wrL (wrL cur (i * 2) xs) ((i + 1) * 2) D).take ((i + 1 + n) * 2) = cur.take (i * 2) ++ (xs ++ D) := by
  have hsp : cur = cur.take (i * 2) ++ ((cur.drop (i * 2)).take 2 ++ cur.drop (i * 2 + 2)) := by
    have h1 : cur.drop (i * 2 + 2) = (cur.drop (i * 2)).drop 2 := by rw [List.drop_drop]
    rw [h1, List.take_append_drop, List.take_append_drop]
  generalize hP : cur.take (i * 2) = P at hsp ⊢
  generalize hX : (cur.drop (i * 2)).take 2 = X at hsp
  generalize hY : cur.drop (i * 2 + 2) = Y at hsp
  have lP : P.length = i * 2 := by rw [← hP, List.length_take]; omega
  have lX : X.length = 2 := by rw [← hX, List.length_take, List.length_drop]; omega
  have lY : D.length ≤ Y.length := by rw [← hY, List.length_drop]; omega
  subst hsp
  have hlen : (P ++ (xs ++ D)).length = (i + 1 + n) * 2 := by rw [List.length_append, List.length_append, lP, hx, hD]; omega
  constructor
  · have e1 : wrL (P ++ (X ++ Y)) ((i + 1) * 2) D = P ++ (X ++ (D ++ Y.drop D.length)) := by
      have := wrL_seg (P ++ X) Y D ((i + 1) * 2) (by rw [List.length_append, lP, lX]; omega) lY
      rw [List.append_assoc, List.append_assoc] at this
      exact this
    have e2 := wrL_seg P (X ++ (D ++ Y.drop D.length)) xs (i * 2) lP (by rw [List.length_append, lX, hx]; omega)
    rw [e1, e2, hx, List.drop_left' lX, ← List.append_assoc xs, ← List.append_assoc P]
    exact List.take_left' hlen
  · have e1 := wrL_seg P (X ++ Y) xs (i * 2) lP (by rw [List.length_append, lX, hx]; omega)
    rw [hx, List.drop_left' lX] at e1
    have e2 := wrL_seg (P ++ xs) Y D ((i + 1) * 2) (by rw [List.length_append, lP, hx]; omega) lY
    rw [List.append_assoc, List.append_assoc] at e2
    rw [e1, e2, ← List.append_assoc xs, ← List.append_assoc P]
    exact List.take_left' hlen
theorem wrL_len2 {β : Type} (l a b : List β) (o p : Nat) : (wrL (wrL l o a) p b).length = l.length := by rw [wrL_length, wrL_length]
theorem sz_item : (Tryz.prog.info? 41).map (·.size) = some 2 := by kernel_rfl
theorem overl (w : World) (vb g a lb cb : Nat) (hne : vb ≠ g) {ca : Nat} {ta tb : TypeId} {ka kb : Nat} (hsa : w.shape? vb = some (ta, ka)) (hsb : w.shape? g = some (tb, kb)) (hkb : kb ≠ 0) (hfa : w.frozen? ⟨vb, 0, none⟩ = false) (hfe : w.frozen? ⟨vb, ka, none⟩ = false) :
    (callFunc 136 #[.slice (some ⟨vb, 0, none⟩) 1 ca, .slice (some ⟨g, a, none⟩) lb cb]).run Tryz.prog w = .ok (.value (.bool false)) w := by
  rw [run_callFunc_extern Tryz.func136 (by kernel_rfl) (by kernel_rfl) (by kernel_rfl) (e := Extern.SlicesOverlaps.overlaps #[29, 29] #[4]) (by kernel_rfl),
    Lib.run_overlaps_apart w 29 4 41 Tryz.underlying29 2 (fun w => by kernel_rfl) ⟨vb, 0, none⟩ ⟨g, a, none⟩ 1 ca lb cb hne ta tb ka kb hsa hsb hkb hfa hfe]
  rfl
/-- an item in a block of its own -/
def ItmAt (w : World) (b : Nat) (x : Itm) (T : TypeId) : Prop := w.heap[b]? = some (.cells #[.string x.key, .string x.val] T (0, 0))
theorem ItmAt.cells {w : World} {b : Nat} {x : Itm} {T : TypeId} (h : ItmAt w b x T) : ∀ j u, x.cells[j]? = some u → w.cell? ((⟨b, 0, none⟩ : Addr).add j) = some u := by
  intro j u hj
  rw [Addr.add_mid, Lib.cell_of_heap h]
  simpa [Itm.cells] using hj
theorem shape_of {w : World} {b : Nat} {cs : Array Value} {T : TypeId} {fz : Nat × Nat} (h : w.heap[b]? = some (.cells cs T fz)) : w.shape? b = some (T, cs.size) := by
  simp [World.shape?, h]
set_option maxHeartbeats 2000000 in
set_option maxRecDepth 100000 in
theorem insert_end (B vb cap c : Nat) (A : Option Addr) (l : List Itm) (x : Itm) (T : TypeId) (w : World) (h : OwnsM w B (.slice A l.length cap) l) (hB : B ≤ w.heap.size) (hx : ItmAt w vb x T) (hl : l.length ≤ 90000) : Calls Tryz.prog 118 #[.slice A l.length cap, .int .i64 l.length, .slice (some ⟨vb, 0, none⟩) 1 c] w
    fun e w' => ∃ A' cap', e = .returned (.slice A' (l.length + 1) cap') ∧ OwnsM w' B (.slice A' (l.length + 1) cap') (l ++ [x]) ∧ Fr (fun k => (Value.slice A l.length cap).ownBlock = some k) w w' := by
  have hcc : (cap : Int) ≤ 9223372036854775807 ∧ (l.length : Int) ≤ cap := by
    rcases h.2 with ⟨he, h0⟩ | ⟨g', cap', cur, he, hb, hgg, hc1, hc2, hc3, htake⟩
    · simp at he; omega
    · simp at he; unfold maxLen at hc2; omega
  have hc1 := hcc.1
  have hc2 := hcc.2
  clear hcc
  have HX := Lib.hid hx.cells
  have HO := Lib.hid h
  clear hx h
  by_cases hce : cap = l.length
  · subst hce
    go_enter Tryz.func118, Tryz.ntmps118
    go_wp2_with (at_builtin; refine itm_append rfl (some 25) rfl _ _ rfl B (.slice A l.length l.length) l [x] 1 ⟨vb, 0, none⟩ c rfl rfl rfl HO.out (by simpa using HX.out) (by simp; omega) hB (l.length + 1) (by simp) ?_)
    intro A2 c2 w2 ho2 hf2
    have HO2 := Lib.hid ho2
    clear ho2
    go_wp2
    go_ret
    exact ⟨A2, c2, rfl, HO2.out, hf2⟩
  · have hce2 : ¬ (cap = l.length) := hce
    go_enter Tryz.func118, Tryz.ntmps118
    go_wp2_with (at_builtin; refine itm_append rfl (some 25) rfl _ _ rfl B (.slice A l.length cap) l [x] 1 ⟨vb, 0, none⟩ c rfl rfl rfl HO.out (by simpa using HX.out) (by simp; omega) hB (l.length + 1) (by simp) ?_)
    intro A2 c2 w2 ho2 hf2
    have HO2 := Lib.hid ho2
    clear ho2
    go_wp2
    go_ret
    exact ⟨A2, c2, rfl, HO2.out, hf2⟩
theorem copy_cells (w : World) (ty : TypeId) (g o dLen dCap : Nat) (a : Addr) (sLen sCap : Nat) (cur cs : List Value) (n : Nat) (hg : w.heap[g]? = some (.cells cur.toArray 41 (0, 0))) (hn : n = Nat.min sLen dLen) (hl : cs.length = n * 2)
    (hsrc : ∀ j v, cs[j]? = some v → w.cell? (a.add j) = some v) (hfit : o + cs.length ≤ cur.length) (h1 : ∀ v ∈ cs, v.oneCell' = true) :
    (Builtin.copy_ #[29, 29] ty #[.slice (some ⟨g, o, none⟩) dLen dCap, .slice (some a) sLen sCap]).run Tryz.prog w = .ok (goInt n) (w.setCells g o cs) := by
  have hld := run_loadCells_list (P := Tryz.prog) w a cs hsrc
  have hst := run_storeCells_cells (P := Tryz.prog) g o cs 0 w (by simp only [Nat.add_zero]; exact blk_there hg o cs.length hfit) (fun j _ => Lib.frozen_of_heap hg _) h1
  simp only [Nat.add_zero] at hst
  rw [hl] at hld
  obtain ⟨i0, hi0, hz0, hz1, hz2⟩ := info_parts M_info
  simp [Builtin.copy_, run_underlying Tryz.underlying29, Builtin.lenOf, Builtin.firstCells, sizeOf, typeInfo, hi0, hz1, ← hn, hld, hst]
theorem op_copy {o : Oper} {ac : Act} {w : World} {K : Act → World → Prop} {Q : Exit → Act → World → Prop} (N : Option Tmp) (hN : o.dst = N) (d s : Operand) (ho : o.op = .call { callee := .builtin .copy, args := #[d, s], argTypes := #[29, 29] })
    (v u : Value) (hd : ac.eval d = v) (hs : ac.eval s = u) {v' : Value} {w' : World} (hr : (Builtin.copy_ #[29, 29] o.type #[v, u]).run Tryz.prog w = .ok v' w') (hK : K (ac.put N v') w') : Oper.wp Tryz.prog o ac w K Q := by
  subst hN
  exact wp_copy_runI w d s _ _ ho v u hd hs hr hK
theorem setCells_cell_out (w : World) (g o : Nat) (us : List Value) {b : Nat} (hb : b ≠ g) (k : Nat) : (w.setCells g o us).cell? ⟨b, k, none⟩ = w.cell? ⟨b, k, none⟩ :=
  World.cell?_setCells_out g us o w ⟨b, k, none⟩ (fun h _ => absurd h hb)
set_option maxHeartbeats 2000000 in
set_option maxRecDepth 100000 in
theorem insert_shift (B vb g cap c i : Nat) (l : List Itm) (x : Itm) (T : TypeId) (w : World) (h : OwnsM w B (.slice (some ⟨g, 0, none⟩) l.length cap) l) (hx : ItmAt w vb x T) (hvg : vb ≠ g) (hfe : w.frozen? ⟨vb, 2, none⟩ = false) (hi : i < l.length) (hroom : l.length + 1 ≤ cap) (hl : l.length ≤ 90000) :
    Calls Tryz.prog 118 #[.slice (some ⟨g, 0, none⟩) l.length cap, .int .i64 i, .slice (some ⟨vb, 0, none⟩) 1 c] w
    fun e w' => ∃ A' cap', e = .returned (.slice A' (l.length + 1) cap') ∧ OwnsM w' B (.slice A' (l.length + 1) cap') (l.insertIdx i x) ∧ Fr (fun k => k = g) w w' := by
  obtain ⟨cur, hg, hB, hcl, hcm, hlc, ht, _⟩ := h.block
  have hcc : (cap : Int) ≤ 9223372036854775807 := by unfold maxLen at hcm; omega
  have hlcI : (l.length : Int) + 1 ≤ (cap : Int) := by omega
  have hiI : (i : Int) < (l.length : Int) := by omega
  have hne : ((i : Int) == (l.length : Int)) = false := by simp; omega
  have hb2 : ¬ (cap = i + 1) := by omega
  have hb4 : ¬ (cap = i) := by omega
  have hb5 : (i : Int) ≤ (l.length : Int) + 1 := by omega
  have hD : (fl (l.drop i)).length = (l.length - i) * 2 := by rw [fl_len, List.length_drop]
  have hov := fun a lb cb => overl w vb g a lb cb hvg (ca := c) (shape_of hx) (shape_of hg) (by rw [List.size_toArray]; omega) (by exact Lib.frozen_of_heap hx 0) (by exact hfe)
  have hcp1 : ∀ ty dl dc sl sc, dl = l.length - i → sl = l.length + 1 - i → (Builtin.copy_ #[29, 29] ty #[.slice (some ⟨g, (i + 1) * 2, none⟩) dl dc, .slice (some ⟨g, i * 2, none⟩) sl sc]).run Tryz.prog w.drew = .ok (goInt ((l.length - i : Nat) : Int)) (w.drew.setCells g ((i + 1) * 2) (fl (l.drop i))) := by
    intro ty dl dc sl sc h1 h2
    subst h1 h2
    exact copy_cells w.drew ty g ((i + 1) * 2) (l.length - i) dc ⟨g, i * 2, none⟩ (l.length + 1 - i) sc cur (fl (l.drop i)) (l.length - i) hg (by show _ = min _ _; omega) hD (fun j v hj => del_news hg ht i (by omega) j v hj) (by rw [hD]; omega) (fl_one _)
  have hg1 := setCells_heap (fl (l.drop i)) w.drew ((i + 1) * 2) cur hg
  have hf1 : Fr (fun k => k = g) w (w.drew.setCells g ((i + 1) * 2) (fl (l.drop i))) := (Fr.refl _ w).drew.tr (setCells_is_fr g _ _ _)
  have hx1 : ∀ j v, x.cells[j]? = some v → (w.drew.setCells g ((i + 1) * 2) (fl (l.drop i))).cell? ((⟨vb, 0, none⟩ : Addr).add j) = some v := by
    intro j v hj
    rw [Addr.add_mid, setCells_cell_out _ _ _ _ hvg]
    have := hx.cells j v hj
    rw [Addr.add_mid] at this
    exact this
  generalize w.drew.setCells g ((i + 1) * 2) (fl (l.drop i)) = W1 at hcp1 hg1 hf1 hx1
  have hcp2 : ∀ ty dc, (Builtin.copy_ #[29, 29] ty #[.slice (some ⟨g, i * 2, none⟩) (l.length + 1 - i) dc, .slice (some ⟨vb, 0, none⟩) 1 c]).run Tryz.prog W1 = .ok (goInt ((1 : Nat) : Int)) (W1.setCells g (i * 2) x.cells) := by
    intro ty dc
    exact copy_cells W1 ty g (i * 2) (l.length + 1 - i) dc ⟨vb, 0, none⟩ 1 c _ x.cells 1 hg1 (by show _ = min _ _; omega) rfl hx1 (by rw [wrL_length]; simp [Itm.cells]; omega) (itm_one x)
  have hg2 := setCells_heap x.cells W1 (i * 2) _ hg1
  have hf2 : Fr (fun k => k = g) w (W1.setCells g (i * 2) x.cells) := hf1.tr (setCells_is_fr g _ _ _)
  generalize W1.setCells g (i * 2) x.cells = W2 at hcp2 hg2 hf2
  have hfin : OwnsM W2 B (.slice (some ⟨g, 0, none⟩) (l.length + 1) cap) (l.insertIdx i x) := by
    have hn := insertIdx_len x l i (by omega)
    rw [← hn]
    refine OwnsM.of_block hg2 hB (by rw [wrL_len2]; exact hcl) hcm (by omega) ?_
    have hlay := (ins_lay cur (fl (l.drop i)) x.cells i (l.length - i) rfl hD (by omega)).1
    rw [show i + 1 + (l.length - i) = l.length + 1 from by omega] at hlay
    rw [hn, hlay]
    show _ = fl (l.insertIdx i x)
    rw [fl_ins x l i (by omega)]
    have e : cur.take (i * 2) = fl (l.take i) := by
      have h1 : cur.take (i * 2) = (fl l).take (i * 2) := by
        show _ = ((l.map Itm.cells).flatten).take (i * 2)
        rw [← ht, List.take_take]
        congr 1
        omega
      rw [h1]
      have h2 : fl l = fl (l.take i) ++ fl (l.drop i) := by rw [← fl_append, List.take_append_drop]
      rw [h2]
      exact List.take_left' (by rw [fl_len, List.length_take]; omega)
    rw [e]
  have HF := Lib.hid hfin
  have HFR := Lib.hid hf2
  have C1 := Lib.hid hcp1
  have C2 := Lib.hid hcp2
  have hw1 : IntKind.i64.wrap ((i : Int) + 1) = (i : Int) + 1 := by rw [IntKind.wrap_i64]; omega
  have hb1' : (0 : Int) ≤ (i : Int) + 1 := by omega
  have htn : ((i : Int) + 1).toNat = i + 1 := by omega
  have hil : (i : Int) ≤ (l.length : Int) := by omega
  clear hfin hf2 hcp1 hcp2 hg1 hf1 hx1 hg2 hD hg ht hx h hfe
  go_enter Tryz.func118, Tryz.ntmps118
  go_wp2_with (simp only [hov])
  refine rg_start (n := 9) (fun w' => True) #[false, false, false, false, false, false, false, false, false] (by kernel_rfl) rfl rfl trivial (fun hHeld => ?_)
  refine rg_take (i := 0) (N := (some 69)) (v := ?_) (a' := ?_) #[true, false, false, false, false, false, false, false, false] rfl rfl (by kernel_rfl) (fun _ _ _ h => h) (by rfl) ?_ hHeld ?_ ?_
  rotate_left 2
  · rintro w' _s
    go_simp
    try with_reducible rfl
  · simp only [Act.put, List.setIfInBounds_toArray, List.set_cons_zero, List.set_cons_succ]
    rfl
  refine rg_take (i := 1) (N := (some 70)) (v := ?_) (a' := ?_) #[true, true, false, false, false, false, false, false, false] rfl rfl (by kernel_rfl) (fun _ _ _ h => h) (by rfl) ?_ hHeld ?_ ?_
  rotate_left 2
  · rintro w' _s
    go_simp
    try with_reducible rfl
  · simp only [Act.put, List.setIfInBounds_toArray, List.set_cons_zero, List.set_cons_succ]
    rfl
  refine rg_take (i := 2) (N := (some 71)) (v := ?_) (a' := ?_) #[true, true, true, false, false, false, false, false, false] rfl rfl (by kernel_rfl) (fun _ _ _ h => h) (by rfl) ?_ hHeld ?_ ?_
  rotate_left 2
  · rintro w' _s
    go_simp
    try with_reducible rfl
  · simp only [Act.put, List.setIfInBounds_toArray, List.set_cons_zero, List.set_cons_succ]
    rfl
  refine rg_take (i := 3) (N := (some 72)) (v := ?_) (a' := ?_) #[true, true, true, true, false, false, false, false, false] rfl rfl (by kernel_rfl) (fun _ _ _ h => h) (by rfl) ?_ hHeld ?_ ?_
  rotate_left 2
  · rintro w' _s
    go_simp
    try with_reducible rfl
  · simp only [Act.put, List.setIfInBounds_toArray, List.set_cons_zero, List.set_cons_succ]
    rfl
  refine rg_take (i := 4) (N := (some 73)) (v := ?_) (a' := ?_) #[true, true, true, true, true, false, false, false, false] rfl rfl (by kernel_rfl) (fun _ _ _ h => h) (by rfl) ?_ hHeld ?_ ?_
  rotate_left 2
  · rintro w' _s
    go_simp
    try with_reducible rfl
  · simp only [Act.put, List.setIfInBounds_toArray, List.set_cons_zero, List.set_cons_succ]
    rfl
  refine rg_take (i := 5) (N := (some 74)) (v := ?_) (a' := ?_) #[true, true, true, true, true, true, false, false, false] rfl rfl (by kernel_rfl) (fun _ _ _ h => h) (by rfl) ?_ hHeld ?_ ?_
  rotate_left 2
  · rintro w' _s
    go_simp
    try with_reducible rfl
  · simp only [Act.put, List.setIfInBounds_toArray, List.set_cons_zero, List.set_cons_succ]
    rfl
  refine rg_take (i := 6) (N := (some 75)) (v := ?_) (a' := ?_) #[true, true, true, true, true, true, true, false, false] rfl rfl (by kernel_rfl) (fun _ _ _ h => h) (by rfl) ?_ hHeld ?_ ?_
  rotate_left 2
  · rintro w' _s
    go_simp
    try with_reducible rfl
  · simp only [Act.put, List.setIfInBounds_toArray, List.set_cons_zero, List.set_cons_succ]
    rfl
  refine rg_take (i := 7) (N := (some 76)) (v := ?_) (a' := ?_) #[true, true, true, true, true, true, true, true, false] rfl rfl (by kernel_rfl) (fun _ _ _ h => h) (by rfl) ?_ hHeld ?_ ?_
  rotate_left 2
  · rintro w' _s
    go_simp
    try with_reducible rfl
  · simp only [Act.put, List.setIfInBounds_toArray, List.set_cons_zero, List.set_cons_succ]
    rfl
  refine rg_one (i := 8) #[true, true, true, true, true, true, true, true, true] rfl (by kernel_rfl) (by rfl) (fun K hK => ?_)
  (refine op_copy (some 77) rfl (Operand.tmp 73) (Operand.tmp 76) rfl _ _ rfl rfl (C1.out _ _ _ _ _ (by omega) (by omega)) ?_; simp only [Act.put, List.setIfInBounds_toArray, List.set_cons_zero, List.set_cons_succ])
  repeat go_step
  refine hK.out _ _ ?_ (fun hHeld => ?_)
  · trivial
  clear hK K
  refine rg_done (by kernel_rfl) ?_
  have hc2 := C2.out
  go_wp2
  go_ret
  exact ⟨_, _, rfl, HF.out, HFR.out⟩
set_option maxHeartbeats 2000000 in
set_option maxRecDepth 100000 in
theorem insert_grow (B vb g cap c i : Nat) (l : List Itm) (x : Itm) (T : TypeId) (w : World) (h : OwnsM w B (.slice (some ⟨g, 0, none⟩) l.length cap) l) (hBw : B ≤ w.heap.size) (hx : ItmAt w vb x T) (hi : i < l.length) (hroom : cap < l.length + 1) (hl : l.length ≤ 90000) :
    Calls Tryz.prog 118 #[.slice (some ⟨g, 0, none⟩) l.length cap, .int .i64 i, .slice (some ⟨vb, 0, none⟩) 1 c] w
    fun e w' => ∃ A' cap', e = .returned (.slice A' (l.length + 1) cap') ∧ OwnsM w' B (.slice A' (l.length + 1) cap') (l.insertIdx i x) ∧ Fr (fun k => k = g) w w' := by
  obtain ⟨cur, hg, hB, hcl, hcm, hlc, ht, _⟩ := h.block
  obtain rfl : cap = l.length := by omega
  obtain ⟨i0, hi0, hz0, hz1, hz2⟩ := info_parts M_info
  have hglt := lt_of_row hg
  have hiI : (i : Int) < (l.length : Int) := by omega
  have hlI : (l.length : Int) ≤ 90000 := by omega
  have hne : ((i : Int) == (l.length : Int)) = false := by simp; omega
  have hb2 : ¬ (l.length = i + 1) ∨ l.length = i + 1 := by omega
  have hb4 : ¬ (l.length = i) := by omega
  have hD : (fl (l.drop i)).length = (l.length - i) * 2 := by rw [fl_len, List.length_drop]
  have hold : (Builtin.firstCells i0.size i (.slice (some ⟨g, 0, none⟩) i l.length)).run Tryz.prog w.drew = .ok (fl (l.take i)).toArray w.drew := by
    rw [hz1]
    refine run_firstCells_some w.drew 2 i ⟨g, 0, none⟩ i l.length (fl (l.take i)) (by rw [fl_len, List.length_take]; omega) (fun j v hj => ?_)
    have h2 : fl l = fl (l.take i) ++ fl (l.drop i) := by rw [← fl_append, List.take_append_drop]
    have h3 : (fl l)[j]? = some v := by
      rw [h2, List.getElem?_append_left (List.getElem?_eq_some_iff.1 hj).1]
      exact hj
    have h4 : fl l = (l.map Itm.cells).flatten := rfl
    rw [h4, ← ht, List.getElem?_take] at h3
    split at h3
    · rw [Addr.add_mid, Lib.cell_of_heap (w := w.drew) hg]
      simpa using h3
    · cases h3
  have hrz : ∀ ty, (Builtin.append_ #[29, 3] ty #[.slice (some ⟨g, 0, none⟩) i l.length, .int .i64 ((l.length : Int) + 1 - (i : Int))]).run Tryz.prog w = .ok (.slice (some ⟨w.heap.size, 0, none⟩) (l.length + 1) (grownCap w (l.length + 1) l.length 41)) (w.drew.alloc (.cells ((fl (l.take i)).toArray ++ Builtin.zeroCells (Value.agg #[.string ⟨#[]⟩, .string ⟨#[]⟩]).cells (l.length + 1 - i) ++ Builtin.zeroCells (Value.agg #[.string ⟨#[]⟩, .string ⟨#[]⟩]).cells (grownCap w (l.length + 1) l.length 41 - (l.length + 1))) 41)) := fun ty => by
    have h := Lib.run_append_grow_zeros w 29 3 ty 41 i0 _ .i64 .i64 Tryz.underlying29 Tryz.underlying3 hi0 hz0 (some ⟨g, 0, none⟩) i l.length (fl (l.take i)) hold (l.length + 1 - i) (by omega) (by omega) (by omega) (by omega) (by rw [hz2]; omega) (by rw [hz2]; exact growslice_fits (by omega) (by omega))
    rw [show ((l.length + 1 - i : Nat) : Int) = (l.length : Int) + 1 - (i : Int) from by omega, show i + (l.length + 1 - i) = l.length + 1 from by omega] at h
    exact h
  have hGn : l.length + 1 ≤ grownCap w (l.length + 1) l.length 41 := grownCap_ge w _ _ _
  have hGm : grownCap w (l.length + 1) l.length 41 ≤ maxLen := grownCap_le_maxLen w _ _ _ (by unfold maxLen; omega)
  generalize grownCap w (l.length + 1) l.length 41 = G at hrz hGn hGm
  obtain ⟨row, hrow⟩ : ∃ row : List Value, row.toArray = (fl (l.take i)).toArray ++ Builtin.zeroCells (Value.agg #[.string ⟨#[]⟩, .string ⟨#[]⟩]).cells (l.length + 1 - i) ++ Builtin.zeroCells (Value.agg #[.string ⟨#[]⟩, .string ⟨#[]⟩]).cells (G - (l.length + 1)) := ⟨_, Array.toArray_toList⟩
  have hrl : row.length = G * 2 := by
    have := congrArg Array.size hrow
    have hc2 : (Value.agg #[.string ⟨#[]⟩, .string ⟨#[]⟩]).cells.size = 2 := by kernel_rfl
    simp only [List.size_toArray, Array.size_append, size_zeroCells, hc2, fl_len, List.length_take] at this
    omega
  have hrt : row.take (i * 2) = fl (l.take i) := by
    have := congrArg Array.toList hrow
    simp only [Array.toList_append, List.append_assoc] at this
    rw [this]
    exact List.take_left' (by simp only [fl_len, List.length_take]; omega)
  rw [← hrow] at hrz
  have hg1 : (w.drew.alloc (.cells row.toArray 41)).heap[w.heap.size]? = some (.cells row.toArray 41 (0, 0)) := heap_alloc_new w.drew _
  have hb1 : Below w.heap.size w (w.drew.alloc (.cells row.toArray 41)) := (Below.refl _ w).drew.alloc (Nat.le_refl _) _
  have hs1 : (w.drew.alloc (.cells row.toArray 41)).heap.size = w.heap.size + 1 := by simp
  generalize w.drew.alloc (.cells row.toArray 41) = W1 at hrz hg1 hb1 hs1
  have hvlt := lt_of_row hx
  have hx1 : ∀ j v, x.cells[j]? = some v → W1.cell? ((⟨vb, 0, none⟩ : Addr).add j) = some v := by
    intro j v hj
    have := hx.cells j v hj
    rw [Addr.add_mid] at this ⊢
    exact (hb1.cell (p := ⟨vb, _, none⟩) hvlt).trans this
  have hcp1 : ∀ ty dc, (Builtin.copy_ #[29, 29] ty #[.slice (some ⟨w.heap.size, i * 2, none⟩) (l.length + 1 - i) dc, .slice (some ⟨vb, 0, none⟩) 1 c]).run Tryz.prog W1 = .ok (goInt ((1 : Nat) : Int)) (W1.setCells w.heap.size (i * 2) x.cells) := by
    intro ty dc
    exact copy_cells W1 ty w.heap.size (i * 2) (l.length + 1 - i) dc ⟨vb, 0, none⟩ 1 c row x.cells 1 hg1 (by show _ = min _ _; omega) rfl hx1 (by rw [hrl]; simp [Itm.cells]; omega) (itm_one x)
  have hg2 := setCells_heap x.cells W1 (i * 2) row hg1
  have hf2 : Fr (fun k => k = w.heap.size) W1 (W1.setCells w.heap.size (i * 2) x.cells) := setCells_is_fr w.heap.size _ _ _
  generalize W1.setCells w.heap.size (i * 2) x.cells = W2 at hcp1 hg2 hf2
  have hb2' : Below w.heap.size w W2 := hb1.trans (hf2.to_below (by omega) (fun k hk e => by omega))
  have hgO : W2.heap[g]? = some (.cells cur.toArray 41 (0, 0)) := (hb2'.block g hglt).trans hg
  have hcp2 : ∀ ty dl dc sl sc, dl = l.length - i → sl = l.length - i → (Builtin.copy_ #[29, 29] ty #[.slice (some ⟨w.heap.size, (i + 1) * 2, none⟩) dl dc, .slice (some ⟨g, i * 2, none⟩) sl sc]).run Tryz.prog W2.drew = .ok (goInt ((l.length - i : Nat) : Int)) (W2.drew.setCells w.heap.size ((i + 1) * 2) (fl (l.drop i))) := by
    intro ty dl dc sl sc h1 h2
    subst h1 h2
    exact copy_cells W2.drew ty w.heap.size ((i + 1) * 2) (l.length - i) dc ⟨g, i * 2, none⟩ (l.length - i) sc _ (fl (l.drop i)) (l.length - i) hg2 (by show _ = min _ _; omega) hD (fun j v hj => del_news (w := W2.drew) hgO ht i (by omega) j v hj) (by rw [hD, wrL_length, hrl]; omega) (fl_one _)
  have hg3 := setCells_heap (fl (l.drop i)) W2.drew ((i + 1) * 2) _ hg2
  have hf3 : Fr (fun k => k = w.heap.size) W2 (W2.drew.setCells w.heap.size ((i + 1) * 2) (fl (l.drop i))) := (Fr.refl _ W2).drew.tr (setCells_is_fr w.heap.size _ _ _)
  generalize W2.drew.setCells w.heap.size ((i + 1) * 2) (fl (l.drop i)) = W3 at hcp2 hg3 hf3
  have hb3 : Below w.heap.size w W3 := hb2'.trans (hf3.to_below hb2'.size (fun k hk e => by omega))
  have hfin : OwnsM W3 B (.slice (some ⟨w.heap.size, 0, none⟩) (l.length + 1) G) (l.insertIdx i x) := by
    have hn := insertIdx_len x l i (by omega)
    rw [← hn]
    refine OwnsM.of_block hg3 hBw (by rw [wrL_len2]; exact hrl) hGm (by omega) ?_
    have hlay := (ins_lay row (fl (l.drop i)) x.cells i (l.length - i) rfl hD (by omega)).2
    rw [show i + 1 + (l.length - i) = l.length + 1 from by omega] at hlay
    rw [hn, hlay, hrt]
    exact (fl_ins x l i (by omega)).symm
  have HF := Lib.hid hfin
  have HFR := Lib.hid hb3
  have R1 := Lib.hid hrz
  have C1 := Lib.hid hcp1
  have C2 := Lib.hid hcp2
  have hGi : ¬ (G = i) := by omega
  have hGim : ¬ (G = i + 1) := by omega
  have hG63 : (G : Int) ≤ 9223372036854775807 := by unfold maxLen at hGm; omega
  have hGnI : (l.length : Int) + 1 ≤ (G : Int) := by omega
  have hw1 : IntKind.i64.wrap ((i : Int) + 1) = (i : Int) + 1 := by rw [IntKind.wrap_i64]; omega
  have hb1' : (0 : Int) ≤ (i : Int) + 1 := by omega
  have htn : ((i : Int) + 1).toNat = i + 1 := by omega
  have hil : (i : Int) ≤ (l.length : Int) := by omega
  clear hfin hb3 hrz hcp1 hcp2 hg1 hb1 hs1 hx1 hg2 hf2 hb2' hgO hg3 hf3 hD hg ht hx h hold hrow hrl hrt hz0 hz1 hz2 hi0 hb2
  go_enter Tryz.func118, Tryz.ntmps118
  go_wp2_with (at_builtin; refine Lib.wpList_append_run _ rfl _ _ _ _ rfl _ _ rfl rfl _ _ (R1.out _) ?_; have hc1 := C1.out)
  refine rg_start (n := 9) (fun w' => True) #[false, false, false, false, false, false, false, false, false] (by kernel_rfl) rfl rfl trivial (fun hHeld => ?_)
  refine rg_take (i := 0) (N := (some 46)) (v := ?_) (a' := ?_) #[true, false, false, false, false, false, false, false, false] rfl rfl (by kernel_rfl) (fun _ _ _ h => h) (by rfl) ?_ hHeld ?_ ?_
  rotate_left 2
  · rintro w' _s
    go_simp
    try with_reducible rfl
  · simp only [Act.put, List.setIfInBounds_toArray, List.set_cons_zero, List.set_cons_succ]
    rfl
  refine rg_take (i := 1) (N := (some 47)) (v := ?_) (a' := ?_) #[true, true, false, false, false, false, false, false, false] rfl rfl (by kernel_rfl) (fun _ _ _ h => h) (by rfl) ?_ hHeld ?_ ?_
  rotate_left 2
  · rintro w' _s
    go_simp
    try with_reducible rfl
  · simp only [Act.put, List.setIfInBounds_toArray, List.set_cons_zero, List.set_cons_succ]
    rfl
  refine rg_take (i := 2) (N := (some 48)) (v := ?_) (a' := ?_) #[true, true, true, false, false, false, false, false, false] rfl rfl (by kernel_rfl) (fun _ _ _ h => h) (by rfl) ?_ hHeld ?_ ?_
  rotate_left 2
  · rintro w' _s
    go_simp
    try with_reducible rfl
  · simp only [Act.put, List.setIfInBounds_toArray, List.set_cons_zero, List.set_cons_succ]
    rfl
  refine rg_take (i := 3) (N := (some 49)) (v := ?_) (a' := ?_) #[true, true, true, true, false, false, false, false, false] rfl rfl (by kernel_rfl) (fun _ _ _ h => h) (by rfl) ?_ hHeld ?_ ?_
  rotate_left 2
  · rintro w' _s
    go_simp
    try with_reducible rfl
  · simp only [Act.put, List.setIfInBounds_toArray, List.set_cons_zero, List.set_cons_succ]
    rfl
  refine rg_take (i := 4) (N := (some 50)) (v := ?_) (a' := ?_) #[true, true, true, true, true, false, false, false, false] rfl rfl (by kernel_rfl) (fun _ _ _ h => h) (by rfl) ?_ hHeld ?_ ?_
  rotate_left 2
  · rintro w' _s
    go_simp
    try with_reducible rfl
  · simp only [Act.put, List.setIfInBounds_toArray, List.set_cons_zero, List.set_cons_succ]
    rfl
  refine rg_take (i := 5) (N := (some 51)) (v := ?_) (a' := ?_) #[true, true, true, true, true, true, false, false, false] rfl rfl (by kernel_rfl) (fun _ _ _ h => h) (by rfl) ?_ hHeld ?_ ?_
  rotate_left 2
  · rintro w' _s
    go_simp
    try with_reducible rfl
  · simp only [Act.put, List.setIfInBounds_toArray, List.set_cons_zero, List.set_cons_succ]
    rfl
  refine rg_take (i := 6) (N := (some 52)) (v := ?_) (a' := ?_) #[true, true, true, true, true, true, true, false, false] rfl rfl (by kernel_rfl) (fun _ _ _ h => h) (by rfl) ?_ hHeld ?_ ?_
  rotate_left 2
  · rintro w' _s
    go_simp
    try with_reducible rfl
  · simp only [Act.put, List.setIfInBounds_toArray, List.set_cons_zero, List.set_cons_succ]
    rfl
  refine rg_take (i := 7) (N := (some 53)) (v := ?_) (a' := ?_) #[true, true, true, true, true, true, true, true, false] rfl rfl (by kernel_rfl) (fun _ _ _ h => h) (by rfl) ?_ hHeld ?_ ?_
  rotate_left 2
  · rintro w' _s
    go_simp
    try with_reducible rfl
  · simp only [Act.put, List.setIfInBounds_toArray, List.set_cons_zero, List.set_cons_succ]
    rfl
  refine rg_one (i := 8) #[true, true, true, true, true, true, true, true, true] rfl (by kernel_rfl) (by rfl) (fun K hK => ?_)
  (refine op_copy (some 54) rfl (Operand.tmp 50) (Operand.tmp 53) rfl _ _ rfl rfl (C2.out _ _ _ _ _ (by omega) (by omega)) ?_; simp only [Act.put, List.setIfInBounds_toArray, List.set_cons_zero, List.set_cons_succ])
  repeat go_step
  refine hK.out _ _ ?_ (fun hHeld => ?_)
  · trivial
  clear hK K
  refine rg_done (by kernel_rfl) ?_
  go_wp2
  go_ret
  exact ⟨_, _, rfl, HF.out, Fr.of_below HFR.out⟩
theorem insert_any (B vb cap c i : Nat) (A : Option Addr) (l : List Itm) (x : Itm) (T : TypeId) (w : World) (h : OwnsM w B (.slice A l.length cap) l) (hB : B ≤ w.heap.size) (hx : ItmAt w vb x T) (hvg : (Value.slice A l.length cap).ownBlock ≠ some vb) (hi : i ≤ l.length) (hl : l.length ≤ 90000) :
    Calls Tryz.prog 118 #[.slice A l.length cap, .int .i64 i, .slice (some ⟨vb, 0, none⟩) 1 c] w
    fun e w' => ∃ A' cap', e = .returned (.slice A' (l.length + 1) cap') ∧ OwnsM w' B (.slice A' (l.length + 1) cap') (l.insertIdx i x) ∧ Fr (fun k => (Value.slice A l.length cap).ownBlock = some k) w w' := by
  by_cases he : i = l.length
  · subst he
    have := insert_end B vb cap c A l x T w h hB hx hl
    rw [List.insertIdx_length_self]
    exact this
  · have hi2 : i < l.length := by omega
    rcases h.2 with ⟨he2, h0⟩ | ⟨g, cap', cur, he2, hb, hgg, hc1, hc2, hc3, htake⟩
    · omega
    · simp at he2
      obtain ⟨rfl, rfl⟩ := he2
      have hown : (fun k => (Value.slice (some ⟨g, 0, none⟩) l.length cap).ownBlock = some k) = (fun k => k = g) := by
        funext k
        simp [Value.ownBlock, eq_comm]
      rw [hown]
      have hne : vb ≠ g := fun e => hvg (by subst e; rfl)
      by_cases hr : l.length + 1 ≤ cap
      · exact insert_shift B vb g cap c i l x T w h hx hne (Lib.frozen_of_heap hx 2) hi2 hr hl
      · exact insert_grow B vb g cap c i l x T w h hB hx hi2 (by omega) hl
end Go.Proofs.YtdfgdnaejnngoaaGreat
namespace Go.Proofs.YtdfgdnaejnngoaaGreat
open Go.RowKit
/-! Items by their keys: the pure law of leaves. -/
def getL (l : List Itm) (k : ByteArray) : Option ByteArray := (l.find? fun x => decide (x.key = k)).map Itm.val
def insR (k v : ByteArray) : List Itm → List Itm
  | [] => [⟨k, v⟩]
  | x :: l => if klt x.key k = true then x :: insR k v l else if x.key = k then ⟨k, v⟩ :: l else ⟨k, v⟩ :: x :: l
def delR (k : ByteArray) (l : List Itm) : List Itm := l.filter fun x => !decide (x.key = k)
def putO (l : List Itm) (k : ByteArray) : Option ByteArray → List Itm
  | some v => insR k v l
  | none => delR k l
def doL (l : List Itm) (x : Mg) : List Itm := putO l x.key (applyO x (getL l x.key))
theorem klt_ne {a b : ByteArray} (h : klt a b = true) : a ≠ b := fun e => by subst e; rw [klt_irrefl] at h; cases h
theorem klt_asym {a b : ByteArray} (h : klt a b = true) : klt b a = false := by
  cases h' : klt b a
  · rfl
  · have := klt_trans h h'
    rw [klt_irrefl] at this
    cases this
theorem getL_nil (k : ByteArray) : getL [] k = none := rfl
theorem getL_cons (x : Itm) (l : List Itm) (k : ByteArray) : getL (x :: l) k = if x.key = k then some x.val else getL l k := by
  unfold getL
  rw [List.find?_cons]
  by_cases h : x.key = k <;> simp [h]
theorem getL_none {l : List Itm} {k : ByteArray} (h : ∀ y ∈ l, y.key ≠ k) : getL l k = none := by
  induction l with
  | nil => rfl
  | cons x l ih => rw [getL_cons, if_neg (h x (by simp)), ih (fun y hy => h y (by simp [hy]))]
theorem getL_mem {l : List Itm} {k v : ByteArray} (h : getL l k = some v) : (⟨k, v⟩ : Itm) ∈ l := by
  induction l with
  | nil => cases h
  | cons x l ih =>
    rw [getL_cons] at h
    split at h
    · next e => cases h; subst e; simp
    · exact List.mem_cons_of_mem _ (ih h)
theorem getL_of_mem {l : List Itm} (hr : Rises l) {x : Itm} (h : x ∈ l) : getL l x.key = some x.val := by
  induction l with
  | nil => cases h
  | cons y l ih =>
    rw [getL_cons]
    rcases List.mem_cons.1 h with rfl | h'
    · rw [if_pos rfl]
    · rw [if_neg (klt_ne (hr.1 x h')), ih hr.2 h']
theorem Rises.tail_ne {x : Itm} {l : List Itm} (h : Rises (x :: l)) : ∀ y ∈ l, y.key ≠ x.key := fun y hy => (klt_ne (h.1 y hy)).symm
theorem Rises.ge_ne {x : Itm} {l : List Itm} (h : Rises (x :: l)) {k : ByteArray} (h1 : klt x.key k = false) : ∀ y ∈ l, y.key ≠ k := fun y hy e => by
  subst e
  rw [h.1 y hy] at h1
  cases h1
theorem lb_cons (x : Itm) (l : List Itm) (k : ByteArray) : lb (x :: l) k = if klt x.key k = true then lb l k + 1 else 0 := by
  unfold lb
  rw [List.takeWhile_cons]
  split <;> simp
theorem hasK_cons (x : Itm) (l : List Itm) (k : ByteArray) : hasK (x :: l) k = if klt x.key k = true then hasK l k else decide (x.key = k) := by
  unfold hasK
  rw [lb_cons]
  split <;> simp
theorem hasK_get : ∀ {l : List Itm} (k : ByteArray), Rises l → hasK l k = (getL l k).isSome
  | [], k, _ => by simp [hasK, getL]
  | x :: l, k, h => by
    rw [hasK_cons, getL_cons]
    by_cases h1 : klt x.key k = true
    · rw [if_pos h1, if_neg (klt_ne h1), hasK_get k h.2]
    · rw [if_neg h1]
      by_cases e : x.key = k
      · simp [e]
      · rw [if_neg e, getL_none (h.ge_ne (by simpa using h1))]
        simp [e]
theorem find_get : ∀ {l : List Itm} (k : ByteArray), Rises l → findV l k = getL l k
  | [], k, _ => by simp [findV, hasK, getL, lb]
  | x :: l, k, h => by
    have ih := find_get k h.2
    unfold findV at ih ⊢
    rw [hasK_cons, lb_cons, getL_cons]
    by_cases h1 : klt x.key k = true
    · rw [if_pos h1, if_pos h1, if_neg (klt_ne h1), List.getElem?_cons_succ, ih]
    · rw [if_neg h1, if_neg h1]
      by_cases e : x.key = k
      · simp [e]
      · rw [if_neg e, getL_none (h.ge_ne (by simpa using h1))]
        simp [e]
theorem set_ins : ∀ {l : List Itm} (k v : ByteArray), Rises l → hasK l k = true → l.set (lb l k) ⟨k, v⟩ = insR k v l
  | [], k, v, _, hh => by simp [hasK] at hh
  | x :: l, k, v, h, hh => by
    rw [lb_cons, insR]
    rw [hasK_cons] at hh
    by_cases h1 : klt x.key k = true
    · rw [if_pos h1] at hh
      rw [if_pos h1, if_pos h1, List.set_cons_succ, set_ins k v h.2 hh]
    · rw [if_neg h1] at hh
      rw [if_neg h1, if_neg h1, if_pos (by simpa using hh), List.set_cons_zero]
theorem insert_ins : ∀ {l : List Itm} (k v : ByteArray), Rises l → hasK l k = false → l.insertIdx (lb l k) ⟨k, v⟩ = insR k v l
  | [], k, v, _, hh => by simp [lb, insR]
  | x :: l, k, v, h, hh => by
    rw [lb_cons, insR]
    rw [hasK_cons] at hh
    by_cases h1 : klt x.key k = true
    · rw [if_pos h1] at hh
      rw [if_pos h1, if_pos h1, List.insertIdx_succ_cons, insert_ins k v h.2 hh]
    · rw [if_neg h1] at hh
      rw [if_neg h1, if_neg h1, if_neg (by simpa using hh), List.insertIdx_zero]
theorem erase_del : ∀ {l : List Itm} (k : ByteArray), Rises l → hasK l k = true → l.eraseIdx (lb l k) = delR k l
  | [], k, _, hh => by simp [hasK] at hh
  | x :: l, k, h, hh => by
    unfold delR
    rw [lb_cons, List.filter_cons]
    rw [hasK_cons] at hh
    by_cases h1 : klt x.key k = true
    · rw [if_pos h1] at hh
      rw [if_pos h1, List.eraseIdx_cons_succ, erase_del k h.2 hh, if_pos (by simp [klt_ne h1])]
      rfl
    · rw [if_neg h1] at hh
      have e : x.key = k := by simpa using hh
      rw [if_neg h1, List.eraseIdx_cons_zero, if_neg (by simp [e])]
      symm
      rw [List.filter_eq_self]
      intro y hy
      have := h.ge_ne (by simpa using h1) y hy
      simp [this]
theorem del_none {l : List Itm} (k : ByteArray) (hr : Rises l) (hh : hasK l k = false) : delR k l = l := by
  rw [hasK_get k hr] at hh
  unfold delR
  rw [List.filter_eq_self]
  intro y hy
  by_cases e : y.key = k
  · subst e
    rw [getL_of_mem hr hy] at hh
    cases hh
  · simp [e]
theorem get_ins (k v k' : ByteArray) : ∀ l : List Itm, getL (insR k v l) k' = if k' = k then some v else getL l k'
  | [] => by rw [insR, getL_cons, getL_nil]; by_cases h : k' = k <;> simp [h]; intro e; exact absurd e.symm h
  | x :: l => by
    rw [insR]
    have ih := get_ins k v k' l
    split
    · next h1 =>
      rw [getL_cons, getL_cons, ih]
      by_cases h : k' = k
      · subst h; simp [klt_ne h1]
      · simp [h]
    · split
      · next h1 e =>
        rw [getL_cons, getL_cons]
        by_cases h : k' = k
        · subst h; simp
        · have h' : ¬ k = k' := fun e' => h e'.symm
          simp [h, e, h']
      · rw [getL_cons]
        by_cases h : k' = k
        · subst h; simp
        · have h' : ¬ k = k' := fun e' => h e'.symm
          simp [h, h']
theorem get_del (k k' : ByteArray) : ∀ l : List Itm, getL (delR k l) k' = if k' = k then none else getL l k'
  | [] => by simp [delR, getL]
  | x :: l => by
    have ih := get_del k k' l
    unfold delR at ih ⊢
    rw [List.filter_cons]
    by_cases e : x.key = k
    · rw [if_neg (by simp [e]), ih, getL_cons]
      by_cases h : k' = k
      · simp [h]
      · have h' : ¬ k = k' := fun e' => h e'.symm
        simp [h, e, h']
    · rw [if_pos (by simp [e]), getL_cons, getL_cons, ih]
      by_cases h : k' = k
      · subst h; simp [e]
      · simp [h]
theorem get_put (l : List Itm) (k k' : ByteArray) (o : Option ByteArray) : getL (putO l k o) k' = if k' = k then o else getL l k' := by
  cases o with
  | none => exact get_del k k' l
  | some v => exact get_ins k v k' l
theorem mem_ins {k v : ByteArray} {y : Itm} : ∀ {l : List Itm}, y ∈ insR k v l → y = ⟨k, v⟩ ∨ y ∈ l
  | [], h => by simp [insR] at h; exact .inl h
  | x :: l, h => by
    rw [insR] at h
    split at h
    · rcases List.mem_cons.1 h with rfl | h
      · exact .inr (by simp)
      · rcases mem_ins h with h | h
        · exact .inl h
        · exact .inr (by simp [h])
    · split at h
      · rcases List.mem_cons.1 h with h | h
        · exact .inl h
        · exact .inr (by simp [h])
      · rcases List.mem_cons.1 h with h | h
        · exact .inl h
        · exact .inr h
theorem rises_ins (k v : ByteArray) : ∀ {l : List Itm}, Rises l → Rises (insR k v l)
  | [], _ => ⟨by simp, trivial⟩
  | x :: l, h => by
    rw [insR]
    split
    · next h1 =>
      refine ⟨fun y hy => ?_, rises_ins k v h.2⟩
      rcases mem_ins hy with rfl | hy
      · exact h1
      · exact h.1 y hy
    · next h1 =>
      split
      · next e => exact ⟨fun y hy => by rw [← e]; exact h.1 y hy, h.2⟩
      · next e =>
        have hk : klt k x.key = true := by
          cases h2 : klt k x.key
          · exact absurd (klt_tri (by simpa using h1) h2) e
          · rfl
        refine ⟨fun y hy => ?_, h⟩
        rcases List.mem_cons.1 hy with rfl | hy
        · exact hk
        · exact klt_trans hk (h.1 y hy)
theorem rises_filter (p : Itm → Bool) : ∀ {l : List Itm}, Rises l → Rises (l.filter p)
  | [], _ => trivial
  | x :: l, h => by
    rw [List.filter_cons]
    split
    · exact ⟨fun y hy => h.1 y (List.mem_filter.1 hy).1, rises_filter p h.2⟩
    · exact rises_filter p h.2
theorem rises_put {l : List Itm} (h : Rises l) (k : ByteArray) (o : Option ByteArray) : Rises (putO l k o) := by
  cases o with
  | none => exact rises_filter _ h
  | some v => exact rises_ins k v h
theorem rises_ext : ∀ {a b : List Itm}, Rises a → Rises b → (∀ k, getL a k = getL b k) → a = b
  | [], [], _, _, _ => rfl
  | [], y :: b, _, _, h => by
    have := h y.key
    rw [getL_cons, if_pos rfl] at this
    cases this
  | x :: a, [], _, _, h => by
    have := h x.key
    rw [getL_cons, if_pos rfl] at this
    cases this
  | x :: a, y :: b, ha, hb, h => by
    have hx := h x.key
    have hy := h y.key
    rw [getL_cons, if_pos rfl, getL_cons] at hx
    rw [getL_cons, getL_cons, if_pos rfl] at hy
    have e : x.key = y.key := by
      by_cases e : x.key = y.key
      · exact e
      · rw [if_neg (fun e' => e e'.symm)] at hx
        rw [if_neg e] at hy
        have h1 := hb.1 _ (getL_mem hx.symm)
        have h2 := ha.1 _ (getL_mem hy)
        rw [klt_asym h1] at h2
        cases h2
    rw [if_pos e.symm] at hx
    have ev : x.val = y.val := by simpa using hx
    have exy : x = y := by cases x; cases y; simp at e ev; simp [e, ev]
    subst exy
    have : a = b := rises_ext ha.2 hb.2 (fun k => by
      have hk := h k
      rw [getL_cons, getL_cons] at hk
      by_cases e : x.key = k
      · subst e
        rw [getL_none ha.tail_ne, getL_none hb.tail_ne]
      · rw [if_neg e, if_neg e] at hk
        exact hk)
    rw [this]
def wO (k : ByteArray) : Option ByteArray → Int
  | some v => itW ⟨k, v⟩
  | none => 0
theorem sumW_ins (k v : ByteArray) : ∀ {l : List Itm}, Rises l → sumW (insR k v l) = sumW l + itW ⟨k, v⟩ - wO k (getL l k)
  | [], _ => by simp [insR, sumW, getL, wO]
  | x :: l, h => by
    rw [insR, getL_cons]
    split
    · next h1 =>
      rw [if_neg (klt_ne h1), sumW, sumW, sumW_ins k v h.2]
      omega
    · next h1 =>
      split
      · next e =>
        subst e
        have hx : itW ⟨x.key, x.val⟩ = itW x := rfl
        simp only [sumW, wO]
        omega
      · next e =>
        rw [getL_none (h.ge_ne (by simpa using h1))]
        simp only [sumW, wO]
        omega
theorem sumW_del (k : ByteArray) : ∀ {l : List Itm}, Rises l → sumW (delR k l) = sumW l - wO k (getL l k)
  | [], _ => by simp [delR, sumW, getL, wO]
  | x :: l, h => by
    have ih := sumW_del k h.2
    rw [getL_cons]
    unfold delR at ih ⊢
    rw [List.filter_cons]
    by_cases e : x.key = k
    · subst e
      rw [getL_none h.tail_ne] at ih
      have hx : itW ⟨x.key, x.val⟩ = itW x := rfl
      rw [if_neg (by simp), if_pos rfl, ih]
      simp only [sumW, wO]
      omega
    · rw [if_pos (by simp [e]), if_neg e, sumW, sumW, ih]
      omega
theorem sumW_put {l : List Itm} (h : Rises l) (k : ByteArray) (o : Option ByteArray) : sumW (putO l k o) = sumW l + wO k o - wO k (getL l k) := by
  cases o with
  | none => simp only [putO, sumW_del k h, wO]; omega
  | some v => simp only [putO, sumW_ins k v h, wO]
theorem len_ins (k v : ByteArray) : ∀ {l : List Itm}, Rises l → (insR k v l).length = l.length + if (getL l k).isSome = true then 0 else 1
  | [], _ => by simp [insR, getL]
  | x :: l, h => by
    rw [insR, getL_cons]
    split
    · next h1 =>
      rw [if_neg (klt_ne h1), List.length_cons, List.length_cons, len_ins k v h.2]
      omega
    · next h1 =>
      split
      · next e => simp
      · next e =>
        rw [getL_none (h.ge_ne (by simpa using h1))]
        simp
theorem len_del (k : ByteArray) : ∀ {l : List Itm}, Rises l → (delR k l).length + (if (getL l k).isSome = true then 1 else 0) = l.length
  | [], _ => by simp [delR, getL]
  | x :: l, h => by
    have ih := len_del k h.2
    rw [getL_cons]
    unfold delR at ih ⊢
    rw [List.filter_cons]
    by_cases e : x.key = k
    · subst e
      rw [getL_none h.tail_ne] at ih
      rw [if_neg (by simp), if_pos rfl]
      simp at ih ⊢
      exact ih
    · rw [if_pos (by simp [e]), if_neg e, List.length_cons, List.length_cons, ← ih]
      omega
theorem put_len {l : List Itm} (h : Rises l) (k : ByteArray) (o : Option ByteArray) : (putO l k o).length ≤ l.length + 1 := by
  cases o with
  | none => have := len_del k h; simp only [putO]; omega
  | some v => have := len_ins k v h; simp only [putO]; rw [this]; split <;> omega
/-- what a message makes is an item -/
theorem apply_ok {x : Mg} {l : List Itm} (hm : isMsg x = true) (ho : ∀ y ∈ l, y.ok) : ∀ v, applyO x (getL l x.key) = some v → (⟨x.key, v⟩ : Itm).ok := by
  intro v hv
  unfold isMsg at hm
  rw [Bool.and_eq_true] at hm
  obtain ⟨hk, hm2⟩ := hm
  refine ⟨hk, ?_⟩
  unfold applyO at hv
  rw [if_pos (by unfold isMsg; rw [hk, hm2]; rfl)] at hv
  have hsz : ∀ u w, isVal u = true → isVal (sumS u w) = true := by
    intro u w hu
    unfold sumS
    split
    · unfold isVal valB
      simp [ByteArray.size, valBytes_length]
    · exact hu
  simp only [Bool.or_eq_true, Bool.and_eq_true, decide_eq_true_eq] at hm2
  by_cases h2 : x.kind = 2
  · rw [if_pos h2] at hv; cases hv
  rw [if_neg h2] at hv
  by_cases h1 : x.kind = 1
  · rw [if_pos h1] at hv
    cases hv
    rcases hm2 with h | h | h
    · exact h.2
    · exact absurd h.1 h2
    · exact absurd h.1 (by omega)
  · rw [if_neg h1] at hv
    have h8 : (x.val.size : Int) = 8 := by
      rcases hm2 with h | h | h
      · exact absurd h.1 h1
      · exact absurd h.1 h2
      · exact h.2
    have hv8 : isVal x.val = true := by unfold isVal; simp; omega
    cases hg : getL l x.key with
    | none => rw [hg] at hv; cases hv; exact hv8
    | some u =>
      rw [hg] at hv
      cases hv
      exact hsz u x.val (ho _ (getL_mem hg)).2
theorem oks_put {l : List Itm} (ho : ∀ y ∈ l, y.ok) (k : ByteArray) (o : Option ByteArray) (hk : ∀ v, o = some v → (⟨k, v⟩ : Itm).ok) : ∀ y ∈ putO l k o, y.ok := by
  intro y hy
  cases o with
  | none => exact ho y (List.mem_filter.1 hy).1
  | some v =>
    rcases mem_ins hy with rfl | hy
    · exact hk v rfl
    · exact ho y hy
theorem oks_do {l : List Itm} (ho : ∀ y ∈ l, y.ok) {x : Mg} (hm : isMsg x = true) : ∀ y ∈ doL l x, y.ok := oks_put ho _ _ (apply_ok hm ho)
theorem rises_do {l : List Itm} (h : Rises l) (x : Mg) : Rises (doL l x) := rises_put h _ _
end Go.Proofs.YtdfgdnaejnngoaaGreat
namespace Go.Proofs.YtdfgdnaejnngoaaGreat
open Go.RowKit
/-! leaf.do: a message to a leaf that is still made. -/
/-- a leaf that is still made -/
structure DoAt (w : World) (B b : Nat) (A : Option Addr) (cap : Nat) (l : List Itm) : Prop where
  cell : w.heap[b]? = some (.cells #[.slice A l.length cap, .int .i64 0] 139 (0, 0))
  own : OwnsM w B (.slice A l.length cap) l
theorem DoAt.lt {w : World} {B b cap : Nat} {A : Option Addr} {l : List Itm} (h : DoAt w B b A cap l) : b < w.heap.size := lt_of_row h.cell
theorem DoAt.fr {S : Nat → Prop} {w w' : World} {B b cap : Nat} {A : Option Addr} {l : List Itm} (h : DoAt w B b A cap l) (hf : Fr S w w') (h1 : ¬ S b) (h2 : ∀ k, B ≤ k → ¬ S k) : DoAt w' B b A cap l := ⟨hf.row h1 h.cell, h.own.fr hf h2⟩
theorem DoAt.below {w w' : World} {B b cap : Nat} {A : Option Addr} {l : List Itm} (h : DoAt w B b A cap l) (hf : Below w.heap.size w w') : DoAt w' B b A cap l := h.fr (Fr.of_below (S := fun _ => False) hf) id (fun _ _ h => h)
theorem DoAt.c0 {w : World} {B b cap : Nat} {A : Option Addr} {l : List Itm} (h : DoAt w B b A cap l) : w.cell? ⟨b, 0, none⟩ = some (.slice A l.length cap) := by rw [Lib.cell_of_heap h.cell]; rfl
theorem DoAt.f0 {w : World} {B b cap : Nat} {A : Option Addr} {l : List Itm} (h : DoAt w B b A cap l) : w.frozen? ⟨b, 0, none⟩ = false := Lib.frozen_of_heap h.cell 0
/-- a block of items is not the leaf's -/
theorem not_leaf {w : World} {B b : Nat} {v : Value} {l : List Itm} {cs : Array Value} {fz : Nat × Nat} (h : OwnsM w B v l) (hb : w.heap[b]? = some (.cells cs 139 fz)) : v.ownBlock ≠ some b := by
  intro e
  rcases h.2 with ⟨he, _⟩ | ⟨g, cap, cur, he, _, hgg, _⟩
  · subst he; cases e
  · subst he
    simp only [Value.ownBlock, Option.some.injEq] at e
    subst e
    rw [hb] at hgg
    simp only [Option.some.injEq, Obj.cells.injEq] at hgg
    exact absurd hgg.2.1 (by decide)
def DoRes (B b : Nat) (A : Option Addr) (w : World) (n cap : Nat) (m : List Itm) (e : Ending) (w' : World) : Prop := e = .returned (.tuple #[]) ∧ ∃ A' cap', DoAt w' B b A' cap' m ∧ Fr (fun k => k = b ∨ (Value.slice A n cap).ownBlock = some k) w w'
theorem do_store {w w3 : World} {B b n cap cap' : Nat} {A A' : Option Addr} {v0 : Value} {m : List Itm} {S : Nat → Prop} (hrow : w3.heap[b]? = some (.cells #[v0, .int .i64 0] 139 (0, 0))) (ho : OwnsM w3 B (.slice A' m.length cap') m) (hf : Fr S w w3) (hS : ∀ q, q < w.heap.size → S q → q = b ∨ (Value.slice A n cap).ownBlock = some q) :
    DoRes B b A w n cap m (.returned (.tuple #[])) (w3.setCell ⟨b, 0, none⟩ (.slice A' m.length cap')) := by
  have hfs : Fr (fun q => q = b) w3 (w3.setCell ⟨b, 0, none⟩ (.slice A' m.length cap')) := (Fr.refl (fun q => q = b) w3).setCell (p := ⟨b, 0, none⟩) (fun _ => rfl) _
  refine ⟨rfl, A', cap', ⟨by rw [setCell_row hrow]; rfl, ho.fr' hfs (fun g hg e => ?_)⟩, (hf.mono hS).trans hfs (fun q _ e => .inl e)⟩
  subst e
  exact not_leaf ho hrow hg
theorem box_cells {w w1 : World} {T : TypeId} {cs : Array Value} (h : Below (w.alloc (.cells cs T)).heap.size (w.alloc (.cells cs T)) w1) : w1.heap[w.heap.size]? = some (.cells cs T (0, 0)) := by
  rw [h.block w.heap.size (by simp)]
  exact heap_alloc_new w _
set_option maxHeartbeats 1000000 in
set_option maxRecDepth 100000 in
theorem do_none (B b cap : Nat) (A : Option Addr) (l : List Itm) (x : Mg) (w : World) (h : DoAt w B b A cap l) (hr : Rises l) (hl : l.length ≤ 80000) (hk : hasK l x.key = false) (ha : applyO x none = none) :
    Calls Tryz.prog 92 #[.pointer (some ⟨b, 0, none⟩), x.v] w (DoRes B b A w l.length cap l) := by
  obtain ⟨kind, k, v⟩ := x
  have hD : ∀ W, Below w.heap.size w W → DoAt W B b A cap l := fun W hW => h.below hW
  have hP : ∀ W, Below w.heap.size w W → Calls Tryz.prog 107 #[.pointer (some ⟨b, 0, none⟩), .string k] W fun e w' => e = .returned (.tuple #[.int .i64 (lb l k), .bool false]) ∧ Below W.heap.size W w' := fun W hW => by
    have := place_any b cap A l k W (hD W hW).c0 ((hD W hW).own.elems Itm.clen) hr (by omega)
    rw [hk] at this
    exact this
  have hA := fun W => msgApply_any ⟨kind, k, v⟩ none W
  rw [ha, Mg.v_def] at hA
  dsimp only [strO, Option.getD, Option.isSome] at hA
  have HP := Lib.hid (hP _ (Below.alloc (Below.refl _ w) (Nat.le_refl _) (.cells #[.int .i64 kind, .string k, .string v] 90)))
  have HA := Lib.hid hA
  have HD := Lib.hid hD
  generalize lb l k = i at HP
  clear hP hA hD h hr hk ha hl
  rw [Mg.v_def]
  go_enter Tryz.func92, Tryz.ntmps92
  go_wp2_with (first | (go_at_call 107; (with_reducible refine HP.out.mono ?_); rintro e w1 ⟨rfl, hb1⟩; obtain ⟨c0, c1, c2⟩ := box3 hb1; have HB1 := Lib.hid (below_next (Below.alloc (Below.refl _ _) (Nat.le_refl _) _) hb1); clear hb1) | (go_at_call 117; (with_reducible refine (HA.out _).mono ?_); rintro e w2 ⟨rfl, hb2⟩; have c1' := (hb2.cell (p := ⟨w.heap.size, 1, none⟩) (World.block_lt_of_cell? _ _ c1)).trans c1; have HB2 := Lib.hid (below_next HB1.out hb2); clear hb2 c0 c1 c2))
  go_end0
  exact ⟨rfl, A, cap, HD.out _ (below_alloc HB2.out), Fr.of_below (below_alloc HB2.out)⟩
set_option maxHeartbeats 1000000 in
set_option maxRecDepth 100000 in
theorem do_set (B b cap : Nat) (A : Option Addr) (l : List Itm) (x : Mg) (u : ByteArray) (w : World) (h : DoAt w B b A cap l) (hr : Rises l) (hl : l.length ≤ 80000) (y : Itm) (hk : hasK l x.key = true) (hy : l[lb l x.key]? = some y) (ha : applyO x (some y.val) = some u) :
    Calls Tryz.prog 92 #[.pointer (some ⟨b, 0, none⟩), x.v] w (DoRes B b A w l.length cap (l.set (lb l x.key) ⟨x.key, u⟩)) := by
  obtain ⟨kind, k, v⟩ := x
  obtain ⟨g, rfl, hBg, hglt, hcap, hrow⟩ := h.own.row Itm.clen hy
  have hgb : g ≠ b := fun e => not_leaf h.own h.cell (by rw [e]; rfl)
  have hD : ∀ W, Below w.heap.size w W → DoAt W B b (some ⟨g, 0, none⟩) cap l := fun W hW => h.below hW
  have hP : ∀ W, Below w.heap.size w W → Calls Tryz.prog 107 #[.pointer (some ⟨b, 0, none⟩), .string k] W fun e w' => e = .returned (.tuple #[.int .i64 (lb l k), .bool true]) ∧ Below W.heap.size W w' := fun W hW => by
    have := place_any b cap (some ⟨g, 0, none⟩) l k W (hD W hW).c0 ((hD W hW).own.elems Itm.clen) hr (by omega)
    rw [hk] at this
    exact this
  have hA := fun W => msgApply_any ⟨kind, k, v⟩ (some y.val) W
  rw [ha, Mg.v_def] at hA
  dsimp only [strO, Option.getD, Option.isSome] at hA
  have HP := Lib.hid (hP _ (Below.alloc (Below.refl _ w) (Nat.le_refl _) (.cells #[.int .i64 kind, .string k, .string v] 90)))
  have HA := Lib.hid hA
  have HD := Lib.hid hD
  dsimp only at hy hk ⊢
  have hil := (List.getElem?_eq_some_iff.1 hy).1
  have hblt := h.lt
  generalize lb l k = i at *
  have hiI : (i : Int) < (l.length : Int) := by omega
  have hd0 : ∀ W, Below w.heap.size w W → W.cell? ⟨b, 0, none⟩ = some (.slice (some ⟨g, 0, none⟩) l.length cap) := fun W hW => (hD W hW).c0
  have he0 : ∀ W, Below w.heap.size w W → W.cell? ⟨g, i * 2, none⟩ = some (.string y.key) := fun W hW => (hW.cell (p := ⟨g, _, none⟩) hglt).trans (hrow 0 _ rfl)
  have he1 : ∀ W, Below w.heap.size w W → W.cell? ⟨g, i * 2 + 1, none⟩ = some (.string y.val) := fun W hW => (hW.cell (p := ⟨g, _, none⟩) hglt).trans (hrow 1 _ rfl)
  have hfz : ∀ W, Below w.heap.size w W → ∀ o, W.frozen? ⟨g, o, none⟩ = false := fun W hW o => (hD W hW).own.unfrozen o
  have D0 := Lib.hid hd0
  have E0 := Lib.hid he0
  have E1 := Lib.hid he1
  have FZ := Lib.hid hfz
  clear hP hA hD hd0 he0 he1 hfz h hr hk ha hl hrow hy hcap
  rw [Mg.v_def]
  obtain ⟨yk, yv⟩ := y
  dsimp only at E0 E1 HA
  go_enter Tryz.func92, Tryz.ntmps92
  go_wp2_with (first | (go_at_call 107; (with_reducible refine HP.out.mono ?_); rintro e w1 ⟨rfl, hb1⟩; obtain ⟨c0, c1, c2⟩ := box3 hb1; have HB1 := Lib.hid (below_next (Below.alloc (Below.refl _ _) (Nat.le_refl _) _) hb1); clear hb1; have d0 := D0.out _ HB1.out; have d1 := E1.out _ HB1.out) | (go_at_call 117; (with_reducible refine (HA.out _).mono ?_); rintro e w2 ⟨rfl, hb2⟩; have c1' := (hb2.cell (p := ⟨w.heap.size, 1, none⟩) (World.block_lt_of_cell? _ _ c1)).trans c1; have HB2 := Lib.hid (below_next HB1.out hb2); clear hb2 c0 c1 c2 d0 d1))
  have hb3 : Below w.heap.size w (w2.alloc (.cells #[.string k, .string u] 41)) := below_alloc HB2.out
  have x0 : (w2.alloc (.cells #[.string k, .string u] 41)).cell? ⟨w2.heap.size, 0, none⟩ = some (.string k) := by rw [Lib.cell_of_heap (heap_alloc_new w2 _)]; rfl
  have x1 : (w2.alloc (.cells #[.string k, .string u] 41)).cell? ⟨w2.heap.size, 1, none⟩ = some (.string u) := by rw [Lib.cell_of_heap (heap_alloc_new w2 _)]; rfl
  have hgw : g < w2.heap.size := Nat.lt_of_lt_of_le hglt HB2.out.size
  have hxl : w2.heap.size < (w2.alloc (.cells #[.string k, .string u] 41)).heap.size := by simp
  clear c1' HB2
  generalize w2.alloc (.cells #[.string k, .string u] 41) = W3 at *
  generalize w2.heap.size = xb at *
  have d0 := D0.out _ hb3
  have e0 := E0.out _ hb3
  have e1 := E1.out _ hb3
  have f0 := FZ.out _ hb3 (i * 2)
  have f1 := FZ.out _ hb3 (i * 2 + 1)
  have e1' : (W3.setCell ⟨g, i * 2, none⟩ (.string k)).cell? ⟨g, i * 2 + 1, none⟩ = some (.string yv) := by rw [World.cell?_setCell_other _ _ _ _ (by simp)]; exact e1
  have HB3 := Lib.hid hb3
  clear hb3
  refine rg_start (n := 8) (fun w' => w'.cell? ⟨b, 0, none⟩ = some (.slice (some ⟨g, 0, none⟩) l.length cap) ∧ w'.cell? ⟨xb, 0, none⟩ = some (.string k) ∧ w'.cell? ⟨xb, 1, none⟩ = some (.string u)) #[false, false, false, false, false, false, false, false] (by kernel_rfl) rfl rfl ⟨d0, x0, x1⟩ (fun hHeld => ?_)
  refine rg_take (i := 0) (N := (some 42)) (v := ?_) (a' := ?_) #[true, false, false, false, false, false, false, false] rfl rfl (by kernel_rfl) (fun _ _ _ h => h) (by rfl) ?_ hHeld ?_ ?_
  rotate_left 2
  · rintro w' ⟨s0, s1, s2⟩
    go_simp
    try with_reducible rfl
  · simp only [Act.put, List.setIfInBounds_toArray, List.set_cons_zero, List.set_cons_succ]
    rfl
  refine rg_take (i := 1) (N := (some 43)) (v := ?_) (a' := ?_) #[true, true, false, false, false, false, false, false] rfl rfl (by kernel_rfl) (fun _ _ _ h => h) (by rfl) ?_ hHeld ?_ ?_
  rotate_left 2
  · rintro w' ⟨s0, s1, s2⟩
    go_simp
    try with_reducible rfl
  · simp only [Act.put, List.setIfInBounds_toArray, List.set_cons_zero, List.set_cons_succ]
    rfl
  refine rg_take (i := 2) (N := (some 44)) (v := ?_) (a' := ?_) #[true, true, true, false, false, false, false, false] rfl rfl (by kernel_rfl) (fun _ _ _ h => h) (by rfl) ?_ hHeld ?_ ?_
  rotate_left 2
  · rintro w' ⟨s0, s1, s2⟩
    go_simp
    try with_reducible rfl
  · simp only [Act.put, List.setIfInBounds_toArray, List.set_cons_zero, List.set_cons_succ]
    rfl
  refine rg_take (i := 3) (N := (some 45)) (v := ?_) (a' := ?_) #[true, true, true, true, false, false, false, false] rfl rfl (by kernel_rfl) (fun _ _ _ h => h) (by rfl) ?_ hHeld ?_ ?_
  rotate_left 2
  · rintro w' ⟨s0, s1, s2⟩
    go_simp
    try with_reducible rfl
  · simp only [Act.put, List.setIfInBounds_toArray, List.set_cons_zero, List.set_cons_succ]
    rfl
  refine rg_take (i := 4) (N := (some 46)) (v := ?_) (a' := ?_) #[true, true, true, true, true, false, false, false] rfl rfl (by kernel_rfl) (fun _ _ _ h => h) (by rfl) ?_ hHeld ?_ ?_
  rotate_left 2
  · rintro w' ⟨s0, s1, s2⟩
    go_simp
    try with_reducible rfl
  · simp only [Act.put, List.setIfInBounds_toArray, List.set_cons_zero, List.set_cons_succ]
    rfl
  refine rg_take (i := 5) (N := (some 47)) (v := ?_) (a' := ?_) #[true, true, true, true, true, true, false, false] rfl rfl (by kernel_rfl) (fun _ _ _ h => h) (by rfl) ?_ hHeld ?_ ?_
  rotate_left 2
  · rintro w' ⟨s0, s1, s2⟩
    go_simp
    try with_reducible rfl
  · simp only [Act.put, List.setIfInBounds_toArray, List.set_cons_zero, List.set_cons_succ]
    rfl
  refine rg_take (i := 6) (N := (some 48)) (v := ?_) (a' := ?_) #[true, true, true, true, true, true, true, false] rfl rfl (by kernel_rfl) (fun _ _ _ h => h) (by rfl) ?_ hHeld ?_ ?_
  rotate_left 2
  · rintro w' ⟨s0, s1, s2⟩
    go_simp
    try with_reducible rfl
  · simp only [Act.put, List.setIfInBounds_toArray, List.set_cons_zero, List.set_cons_succ]
    rfl
  refine rg_one (i := 7) #[true, true, true, true, true, true, true, true] rfl (by kernel_rfl) (by rfl) (fun K hK => ?_)
  obtain ⟨s0, s1, s2⟩ := hHeld
  repeat go_step
  refine hK.out _ _ ?_ (fun hHeld => ?_)
  · have hf : Fr (fun q => q = g) W3 _ := wrW_fr (g := g) [.string k, .string u] W3 (i * 2); exact ⟨hf.cell (World.block_lt_of_cell? _ _ d0) (fun e => hgb e.symm) d0, hf.cell hxl (by omega) x0, hf.cell hxl (by omega) x1⟩
  clear hK K
  clear s0 s1 s2
  refine rg_done (by kernel_rfl) ?_
  go_end0
  have hDo := HD.out W3 HB3.out
  have hf : Fr (fun q => q = g) W3 (wrW W3 g (i * 2) [.string k, .string u]) := wrW_fr (g := g) [.string k, .string u] W3 (i * 2)
  have how := hDo.own.write Itm.clen (i := i) hil ⟨k, u⟩
  have hrow := hf.row (fun e => hgb e.symm) hDo.cell
  have hlen : (l.set i ⟨k, u⟩).length = l.length := List.length_set
  exact ⟨rfl, some ⟨g, 0, none⟩, cap, ⟨by rw [hlen]; exact hrow, by rw [hlen]; exact how⟩, ((Fr.of_below HB3.out).tr (hf.mono (fun q _ e => .inr (by subst e; rfl)))).drew⟩
set_option maxHeartbeats 1000000 in
set_option maxRecDepth 100000 in
theorem do_del (B b cap : Nat) (A : Option Addr) (l : List Itm) (x : Mg) (w : World) (h : DoAt w B b A cap l) (hr : Rises l) (hl : l.length ≤ 80000) (y : Itm) (hk : hasK l x.key = true) (hy : l[lb l x.key]? = some y) (ha : applyO x (some y.val) = none) :
    Calls Tryz.prog 92 #[.pointer (some ⟨b, 0, none⟩), x.v] w (DoRes B b A w l.length cap (l.eraseIdx (lb l x.key))) := by
  obtain ⟨kind, k, v⟩ := x
  obtain ⟨g, rfl, hBg, hglt, hcap, hrow⟩ := h.own.row Itm.clen hy
  have hgb : g ≠ b := fun e => not_leaf h.own h.cell (by rw [e]; rfl)
  have hD : ∀ W, Below w.heap.size w W → DoAt W B b (some ⟨g, 0, none⟩) cap l := fun W hW => h.below hW
  have hP : ∀ W, Below w.heap.size w W → Calls Tryz.prog 107 #[.pointer (some ⟨b, 0, none⟩), .string k] W fun e w' => e = .returned (.tuple #[.int .i64 (lb l k), .bool true]) ∧ Below W.heap.size W w' := fun W hW => by
    have := place_any b cap (some ⟨g, 0, none⟩) l k W (hD W hW).c0 ((hD W hW).own.elems Itm.clen) hr (by omega)
    rw [hk] at this
    exact this
  have hA := fun W => msgApply_any ⟨kind, k, v⟩ (some y.val) W
  rw [ha, Mg.v_def] at hA
  dsimp only [strO, Option.getD, Option.isSome] at hA
  have HP := Lib.hid (hP _ (Below.alloc (Below.refl _ w) (Nat.le_refl _) (.cells #[.int .i64 kind, .string k, .string v] 90)))
  have HA := Lib.hid hA
  have HD := Lib.hid hD
  dsimp only at hy hk ⊢
  have hil := (List.getElem?_eq_some_iff.1 hy).1
  have hblt := h.lt
  generalize lb l k = i at *
  have hdl : ∀ W, Below w.heap.size w W → Calls Tryz.prog 119 #[.slice (some ⟨g, 0, none⟩) l.length cap, .int .i64 i, .int .i64 ((i : Int) + 1)] W
      fun e w' => e = .returned (.slice (some ⟨g, 0, none⟩) (l.length - 1) cap) ∧ OwnsM w' B (.slice (some ⟨g, 0, none⟩) (l.length - 1) cap) (l.eraseIdx i) ∧ Fr (fun k => k = g) W w' := fun W hW => delete_any B g cap i l W (hD W hW).own hil (by omega)
  have hiI : (i : Int) < (l.length : Int) := by omega
  have hd0 : ∀ W, Below w.heap.size w W → W.cell? ⟨b, 0, none⟩ = some (.slice (some ⟨g, 0, none⟩) l.length cap) := fun W hW => (hD W hW).c0
  have he1 : ∀ W, Below w.heap.size w W → W.cell? ⟨g, i * 2 + 1, none⟩ = some (.string y.val) := fun W hW => (hW.cell (p := ⟨g, _, none⟩) hglt).trans (hrow 1 _ rfl)
  have D0 := Lib.hid hd0
  have E1 := Lib.hid he1
  have DL := Lib.hid hdl
  clear hP hA hD hd0 he1 h hr hk ha hrow hy hcap hdl
  rw [Mg.v_def]
  obtain ⟨yk, yv⟩ := y
  dsimp only at E1 HA
  go_enter Tryz.func92, Tryz.ntmps92
  go_wp2_with (first | (go_at_call 107; (with_reducible refine HP.out.mono ?_); rintro e w1 ⟨rfl, hb1⟩; obtain ⟨c0, c1, c2⟩ := box3 hb1; have HB1 := Lib.hid (below_next (Below.alloc (Below.refl _ _) (Nat.le_refl _) _) hb1); clear hb1; have d0 := D0.out _ HB1.out; have d1 := E1.out _ HB1.out) | (go_at_call 117; (with_reducible refine (HA.out _).mono ?_); rintro e w2 ⟨rfl, hb2⟩; have c1' := (hb2.cell (p := ⟨w.heap.size, 1, none⟩) (World.block_lt_of_cell? _ _ c1)).trans c1; have HB2 := Lib.hid (below_alloc (o := .cells #[.string k, .string ⟨#[]⟩] 41) (below_next HB1.out hb2)); clear hb2 c0 c1 c2 d0 d1; have d0 := D0.out _ HB2.out) | (go_at_call 119; (with_reducible refine (DL.out _ HB2.out).mono ?_); rintro e w3 ⟨rfl, ho3, hf3⟩; have hrow3 := hf3.row (fun e => hgb e.symm) (HD.out _ HB2.out).cell; have d3 : w3.cell? ⟨b, 0, none⟩ = some (.slice (some ⟨g, 0, none⟩) l.length cap) := (by rw [Lib.cell_of_heap hrow3]; rfl); have f3 := Lib.frozen_of_heap hrow3 0; have HF3 := Lib.hid ((Fr.of_below HB2.out).tr (S := fun q => q = b ∨ q = g) (hf3.mono (fun q _ e => .inr e))); have HO3 := Lib.hid ho3; have HR3 := Lib.hid hrow3; clear ho3 hf3 hrow3 d0 HB2 c1'))
  go_end0
  have hE := erase_len l i hil
  have HO4 := HO3.out
  rw [← hE] at HO4 ⊢
  exact do_store HR3.out HO4 HF3.out (fun q _ e => e.imp id (fun e => by subst e; rfl))
set_option maxHeartbeats 1000000 in
set_option maxRecDepth 100000 in
theorem do_ins (B b cap : Nat) (A : Option Addr) (l : List Itm) (x : Mg) (u : ByteArray) (w : World) (h : DoAt w B b A cap l) (hBw : B ≤ w.heap.size) (hr : Rises l) (hl : l.length ≤ 80000) (hk : hasK l x.key = false) (ha : applyO x none = some u) :
    Calls Tryz.prog 92 #[.pointer (some ⟨b, 0, none⟩), x.v] w (DoRes B b A w l.length cap (l.insertIdx (lb l x.key) ⟨x.key, u⟩)) := by
  obtain ⟨kind, k, v⟩ := x
  have hD : ∀ W, Below w.heap.size w W → DoAt W B b A cap l := fun W hW => h.below hW
  have hP : ∀ W, Below w.heap.size w W → Calls Tryz.prog 107 #[.pointer (some ⟨b, 0, none⟩), .string k] W fun e w' => e = .returned (.tuple #[.int .i64 (lb l k), .bool false]) ∧ Below W.heap.size W w' := fun W hW => by
    have := place_any b cap A l k W (hD W hW).c0 ((hD W hW).own.elems Itm.clen) hr (by omega)
    rw [hk] at this
    exact this
  have hA := fun W => msgApply_any ⟨kind, k, v⟩ none W
  rw [ha, Mg.v_def] at hA
  dsimp only [strO, Option.getD, Option.isSome] at hA
  have HP := Lib.hid (hP _ (Below.alloc (Below.refl _ w) (Nat.le_refl _) (.cells #[.int .i64 kind, .string k, .string v] 90)))
  have HA := Lib.hid hA
  have HD := Lib.hid hD
  dsimp only at hk ⊢
  have hblt := h.lt
  have hil := lb_le l k
  generalize lb l k = i at *
  have hio := insertIdx_len ⟨k, u⟩ l i hil
  have hoq : ∀ q, (Value.slice A l.length cap).ownBlock = some q → q < w.heap.size := fun q e => by
    rcases h.own.2 with ⟨he, _⟩ | ⟨g, cap', cur, he, _, hgg, _⟩
    · rw [he] at e; cases e
    · rw [he] at e
      simp only [Value.ownBlock, Option.some.injEq] at e
      subst e
      exact lt_of_row hgg
  have hin : ∀ W vb T, Below w.heap.size w W → w.heap.size ≤ vb → ItmAt W vb ⟨k, u⟩ T → Calls Tryz.prog 118 #[.slice A l.length cap, .int .i64 i, .slice (some ⟨vb, 0, none⟩) 1 1] W
      fun e w' => ∃ A' cap', e = .returned (.slice A' (l.length + 1) cap') ∧ OwnsM w' B (.slice A' (l.length + 1) cap') (l.insertIdx i ⟨k, u⟩) ∧ Fr (fun k => (Value.slice A l.length cap).ownBlock = some k) W w' := fun W vb T hW hvb hx =>
    insert_any B vb cap 1 i A l ⟨k, u⟩ T W (hD W hW).own (Nat.le_trans hBw hW.size) hx (fun e => by have := hoq _ e; omega) hil (by omega)
  have hbn : (Value.slice A l.length cap).ownBlock ≠ some b := not_leaf h.own h.cell
  have hd0 : ∀ W, Below w.heap.size w W → W.cell? ⟨b, 0, none⟩ = some (.slice A l.length cap) := fun W hW => (hD W hW).c0
  have D0 := Lib.hid hd0
  have IN := Lib.hid hin
  have HIO := Lib.hid hio
  have HBN := Lib.hid hbn
  have HOQ := Lib.hid hoq
  clear hP hA hD hd0 h hr hk ha hin hio hbn hoq
  rw [Mg.v_def]
  go_enter Tryz.func92, Tryz.ntmps92
  go_wp2_with (first | (go_at_call 107; (with_reducible refine HP.out.mono ?_); rintro e w1 ⟨rfl, hb1⟩; obtain ⟨c0, c1, c2⟩ := box3 hb1; have HB1 := Lib.hid (below_next (Below.alloc (Below.refl _ _) (Nat.le_refl _) _) hb1); clear hb1) | (go_at_call 117; (with_reducible refine (HA.out _).mono ?_); rintro e w2 ⟨rfl, hb2⟩; have c1' := (hb2.cell (p := ⟨w.heap.size, 1, none⟩) (World.block_lt_of_cell? _ _ c1)).trans c1; have HB2 := Lib.hid (below_next HB1.out hb2); clear hb2 c0 c1 c2))
  have hb3 : Below w.heap.size w (w2.alloc (.cells #[.string k, .string u] 41)) := below_alloc HB2.out
  have x0 : (w2.alloc (.cells #[.string k, .string u] 41)).cell? ⟨w2.heap.size, 0, none⟩ = some (.string k) := by rw [Lib.cell_of_heap (heap_alloc_new w2 _)]; rfl
  have x1 : (w2.alloc (.cells #[.string k, .string u] 41)).cell? ⟨w2.heap.size, 1, none⟩ = some (.string u) := by rw [Lib.cell_of_heap (heap_alloc_new w2 _)]; rfl
  have hxl : w2.heap.size < (w2.alloc (.cells #[.string k, .string u] 41)).heap.size := by simp
  have hxw : w.heap.size ≤ w2.heap.size := HB2.out.size
  clear c1' HB2
  generalize w2.alloc (.cells #[.string k, .string u] 41) = W3 at *
  generalize w2.heap.size = xb at *
  have d0 := D0.out _ hb3
  have hb3l : b < W3.heap.size := World.block_lt_of_cell? _ _ d0
  have HB3 := Lib.hid hb3
  clear hb3
  have HB4 : Hid (Below w.heap.size w ((W3.alloc (.cells #[.string k, .string u] 41)).drew)) := Lib.hid (below_alloc HB3.out).drew
  have HIX : Hid (ItmAt ((W3.alloc (.cells #[.string k, .string u] 41)).drew) W3.heap.size ⟨k, u⟩ 41) := Lib.hid (heap_alloc_new W3 _)
  have hid : (W3.alloc (.cells #[.string k, .string u] 41)).drew.cell? ⟨b, 0, none⟩ = some (.slice A l.length cap) := keep_cell_alloc hb3l d0
  refine rg_start (n := 12) (fun w' => w'.cell? ⟨xb, 0, none⟩ = some (.string k) ∧ w'.cell? ⟨xb, 1, none⟩ = some (.string u) ∧ xb < w'.heap.size) #[false, false, false, false, false, false, false, false, false, false, false, false] (by kernel_rfl) rfl rfl ⟨x0, x1, hxl⟩ (fun hHeld => ?_)
  refine rg_take (i := 0) (N := (some 51)) (v := ?_) (a' := ?_) #[true, false, false, false, false, false, false, false, false, false, false, false] rfl rfl (by kernel_rfl) (fun _ _ _ h => h) (by rfl) ?_ hHeld ?_ ?_
  rotate_left 2
  · rintro w' ⟨s0, s1, s2⟩
    go_simp
    try with_reducible rfl
  · simp only [Act.put, List.setIfInBounds_toArray, List.set_cons_zero, List.set_cons_succ]
    rfl
  refine rg_take (i := 1) (N := (some 52)) (v := ?_) (a' := ?_) #[true, true, false, false, false, false, false, false, false, false, false, false] rfl rfl (by kernel_rfl) (fun _ _ _ h => h) (by rfl) ?_ hHeld ?_ ?_
  rotate_left 2
  · rintro w' ⟨s0, s1, s2⟩
    go_simp
    try with_reducible rfl
  · simp only [Act.put, List.setIfInBounds_toArray, List.set_cons_zero, List.set_cons_succ]
    rfl
  refine rg_take (i := 2) (N := (some 53)) (v := ?_) (a' := ?_) #[true, true, true, false, false, false, false, false, false, false, false, false] rfl rfl (by kernel_rfl) (fun _ _ _ h => h) (by rfl) ?_ hHeld ?_ ?_
  rotate_left 2
  · rintro w' ⟨s0, s1, s2⟩
    go_simp
    try with_reducible rfl
  · simp only [Act.put, List.setIfInBounds_toArray, List.set_cons_zero, List.set_cons_succ]
    rfl
  refine rg_take (i := 3) (N := (some 54)) (v := ?_) (a' := ?_) #[true, true, true, true, false, false, false, false, false, false, false, false] rfl rfl (by kernel_rfl) (fun _ _ _ h => h) (by rfl) ?_ hHeld ?_ ?_
  rotate_left 2
  · rintro w' ⟨s0, s1, s2⟩
    go_simp
    try with_reducible rfl
  · simp only [Act.put, List.setIfInBounds_toArray, List.set_cons_zero, List.set_cons_succ]
    rfl
  refine rg_take (i := 5) (N := (some 56)) (v := ?_) (a' := ?_) #[true, true, true, true, false, true, false, false, false, false, false, false] rfl rfl (by kernel_rfl) (fun _ _ _ h => h) (by rfl) ?_ hHeld ?_ ?_
  rotate_left 2
  · rintro w' ⟨s0, s1, s2⟩
    go_simp
    try with_reducible rfl
  · simp only [Act.put, List.setIfInBounds_toArray, List.set_cons_zero, List.set_cons_succ]
    rfl
  refine rg_take (i := 6) (N := (some 57)) (v := ?_) (a' := ?_) #[true, true, true, true, false, true, true, false, false, false, false, false] rfl rfl (by kernel_rfl) (fun _ _ _ h => h) (by rfl) ?_ hHeld ?_ ?_
  rotate_left 2
  · rintro w' ⟨s0, s1, s2⟩
    go_simp
    try with_reducible rfl
  · simp only [Act.put, List.setIfInBounds_toArray, List.set_cons_zero, List.set_cons_succ]
    rfl
  refine rg_two (i := 4) (j := 7) #[true, true, true, true, true, true, true, false, false, false, false, false] #[true, true, true, true, false, true, true, true, false, false, false, false] rfl rfl (by kernel_rfl) (by rfl) (by rfl) (fun K hK => ?_) (fun K hK => ?_)
  · skip
    obtain ⟨s0, s1, s2⟩ := hHeld
    repeat go_step
    (skip)
    try dsimp only
    refine hK.out _ _ ?_ (fun hHeld => ?_)
    · exact ⟨s0, s1, s2⟩
    clear hK K
    clear s0 s1 s2
    refine rg_one (i := 7) #[true, true, true, true, true, true, true, true, false, false, false, false] rfl (by kernel_rfl) (by rfl) (fun K hK => ?_)
    obtain ⟨s0, s1, s2⟩ := hHeld
    repeat go_step
    refine hK.out _ _ ?_ (fun hHeld => ?_)
    · exact ⟨keep_cell_alloc s2 s0, keep_cell_alloc s2 s1, keep_lt_alloc s2⟩
    clear hK K
    clear s0 s1 s2
    refine rg_one (i := 8) #[true, true, true, true, true, true, true, true, true, false, false, false] rfl (by kernel_rfl) (by rfl) (fun K hK => ?_)
    obtain ⟨s0, s1, s2⟩ := hHeld
    repeat go_step
    ((with_reducible refine (IN.out _ W3.heap.size 41 HB4.out HB3.out.size HIX.out).mono ?_); rintro e w5 ⟨A5, c5, rfl, ho5, hf5⟩; have hrow5 := hf5.row HBN.out (HD.out _ (below_alloc (o := .cells #[.string k, .string u] 41) HB3.out).drew).cell; have d5 : w5.cell? ⟨b, 0, none⟩ = some (.slice A l.length cap) := (by rw [Lib.cell_of_heap hrow5]; rfl); have f5 := Lib.frozen_of_heap hrow5 0; have s0' := hf5.cell s2 (fun e => by have := HOQ.out _ e; omega) s0; have s1' := hf5.cell s2 (fun e => by have := HOQ.out _ e; omega) s1; have s2' := Nat.lt_of_lt_of_le s2 hf5.size; have HF5 := Lib.hid ((Fr.of_below (below_alloc (o := .cells #[.string k, .string u] 41) HB3.out).drew).tr (S := fun q => (Value.slice A l.length cap).ownBlock = some q) hf5); have HO5 := Lib.hid ho5; have HR5 := Lib.hid hrow5; clear ho5 hf5 hrow5)
    try dsimp only
    refine hK.out _ _ ?_ (fun hHeld => ?_)
    · exact ⟨s0', s1', s2'⟩
    clear hK K
    clear s0 s1 s2
    refine rg_take (i := 9) (N := (some 60)) (v := ?_) (a' := ?_) #[true, true, true, true, true, true, true, true, true, true, false, false] rfl rfl (by kernel_rfl) (fun _ _ _ h => h) (by rfl) ?_ hHeld ?_ ?_
    rotate_left 2
    · rintro w' ⟨s0, s1, s2⟩
      go_simp
      try with_reducible rfl
    · simp only [Act.put, List.setIfInBounds_toArray, List.set_cons_zero, List.set_cons_succ]
      rfl
    refine rg_take (i := 10) (N := (some 61)) (v := ?_) (a' := ?_) #[true, true, true, true, true, true, true, true, true, true, true, false] rfl rfl (by kernel_rfl) (fun _ _ _ h => h) (by rfl) ?_ hHeld ?_ ?_
    rotate_left 2
    · rintro w' ⟨s0, s1, s2⟩
      go_simp
      try with_reducible rfl
    · simp only [Act.put, List.setIfInBounds_toArray, List.set_cons_zero, List.set_cons_succ]
      rfl
    refine rg_one (i := 11) #[true, true, true, true, true, true, true, true, true, true, true, true] rfl (by kernel_rfl) (by rfl) (fun K hK => ?_)
    obtain ⟨s0, s1, s2⟩ := hHeld
    repeat go_step
    refine hK.out _ _ ?_ (fun hHeld => ?_)
    · have hfs : Fr (fun q => q = b) w5 _ := (Fr.refl (fun q => q = b) w5).setCell (p := ⟨b, 0, none⟩) (fun _ => rfl) (.slice A5 (l.length + 1) c5); exact ⟨hfs.cell s2 (by omega) s0, hfs.cell s2 (by omega) s1, Nat.lt_of_lt_of_le s2 hfs.size⟩
    clear hK K
    clear s0 s1 s2
    refine rg_done (by kernel_rfl) ?_
    go_end0
    have HO6 := HO5.out
    rw [← HIO.out] at HO6 ⊢
    exact do_store HR5.out HO6 HF5.out (fun q _ e => .inr e)
  · skip
    obtain ⟨s0, s1, s2⟩ := hHeld
    repeat go_step
    refine hK.out _ _ ?_ (fun hHeld => ?_)
    · exact ⟨keep_cell_alloc s2 s0, keep_cell_alloc s2 s1, keep_lt_alloc s2⟩
    clear hK K
    clear s0 s1 s2
    refine rg_one (i := 4) #[true, true, true, true, true, true, true, true, false, false, false, false] rfl (by kernel_rfl) (by rfl) (fun K hK => ?_)
    obtain ⟨s0, s1, s2⟩ := hHeld
    repeat go_step
    (skip)
    try dsimp only
    refine hK.out _ _ ?_ (fun hHeld => ?_)
    · exact ⟨s0, s1, s2⟩
    clear hK K
    clear s0 s1 s2
    refine rg_one (i := 8) #[true, true, true, true, true, true, true, true, true, false, false, false] rfl (by kernel_rfl) (by rfl) (fun K hK => ?_)
    obtain ⟨s0, s1, s2⟩ := hHeld
    repeat go_step
    ((with_reducible refine (IN.out _ W3.heap.size 41 HB4.out HB3.out.size HIX.out).mono ?_); rintro e w5 ⟨A5, c5, rfl, ho5, hf5⟩; have hrow5 := hf5.row HBN.out (HD.out _ (below_alloc (o := .cells #[.string k, .string u] 41) HB3.out).drew).cell; have d5 : w5.cell? ⟨b, 0, none⟩ = some (.slice A l.length cap) := (by rw [Lib.cell_of_heap hrow5]; rfl); have f5 := Lib.frozen_of_heap hrow5 0; have s0' := hf5.cell s2 (fun e => by have := HOQ.out _ e; omega) s0; have s1' := hf5.cell s2 (fun e => by have := HOQ.out _ e; omega) s1; have s2' := Nat.lt_of_lt_of_le s2 hf5.size; have HF5 := Lib.hid ((Fr.of_below (below_alloc (o := .cells #[.string k, .string u] 41) HB3.out).drew).tr (S := fun q => (Value.slice A l.length cap).ownBlock = some q) hf5); have HO5 := Lib.hid ho5; have HR5 := Lib.hid hrow5; clear ho5 hf5 hrow5)
    try dsimp only
    refine hK.out _ _ ?_ (fun hHeld => ?_)
    · exact ⟨s0', s1', s2'⟩
    clear hK K
    clear s0 s1 s2
    refine rg_take (i := 9) (N := (some 60)) (v := ?_) (a' := ?_) #[true, true, true, true, true, true, true, true, true, true, false, false] rfl rfl (by kernel_rfl) (fun _ _ _ h => h) (by rfl) ?_ hHeld ?_ ?_
    rotate_left 2
    · rintro w' ⟨s0, s1, s2⟩
      go_simp
      try with_reducible rfl
    · simp only [Act.put, List.setIfInBounds_toArray, List.set_cons_zero, List.set_cons_succ]
      rfl
    refine rg_take (i := 10) (N := (some 61)) (v := ?_) (a' := ?_) #[true, true, true, true, true, true, true, true, true, true, true, false] rfl rfl (by kernel_rfl) (fun _ _ _ h => h) (by rfl) ?_ hHeld ?_ ?_
    rotate_left 2
    · rintro w' ⟨s0, s1, s2⟩
      go_simp
      try with_reducible rfl
    · simp only [Act.put, List.setIfInBounds_toArray, List.set_cons_zero, List.set_cons_succ]
      rfl
    refine rg_one (i := 11) #[true, true, true, true, true, true, true, true, true, true, true, true] rfl (by kernel_rfl) (by rfl) (fun K hK => ?_)
    obtain ⟨s0, s1, s2⟩ := hHeld
    repeat go_step
    refine hK.out _ _ ?_ (fun hHeld => ?_)
    · have hfs : Fr (fun q => q = b) w5 _ := (Fr.refl (fun q => q = b) w5).setCell (p := ⟨b, 0, none⟩) (fun _ => rfl) (.slice A5 (l.length + 1) c5); exact ⟨hfs.cell s2 (by omega) s0, hfs.cell s2 (by omega) s1, Nat.lt_of_lt_of_le s2 hfs.size⟩
    clear hK K
    clear s0 s1 s2
    refine rg_done (by kernel_rfl) ?_
    go_end0
    have HO6 := HO5.out
    rw [← HIO.out] at HO6 ⊢
    exact do_store HR5.out HO6 HF5.out (fun q _ e => .inr e)
theorem do_any (B b cap : Nat) (A : Option Addr) (l : List Itm) (x : Mg) (w : World) (h : DoAt w B b A cap l) (hBw : B ≤ w.heap.size) (hr : Rises l) (hl : l.length ≤ 80000) :
    Calls Tryz.prog 92 #[.pointer (some ⟨b, 0, none⟩), x.v] w (DoRes B b A w l.length cap (doL l x)) := by
  have hg := hasK_get x.key hr
  have hf := find_get x.key hr
  cases hk : hasK l x.key with
  | false =>
    rw [hk] at hg
    have hn : getL l x.key = none := by
      cases h : getL l x.key
      · rfl
      · rw [h] at hg; cases hg
    unfold doL
    rw [hn]
    cases ha : applyO x none with
    | none =>
      show Calls Tryz.prog 92 _ w (DoRes B b A w l.length cap (delR x.key l))
      rw [del_none x.key hr hk]
      exact do_none B b cap A l x w h hr hl hk ha
    | some u =>
      show Calls Tryz.prog 92 _ w (DoRes B b A w l.length cap (insR x.key u l))
      rw [← insert_ins x.key u hr hk]
      exact do_ins B b cap A l x u w h hBw hr hl hk ha
  | true =>
    unfold findV at hf
    rw [hk, if_pos rfl] at hf
    rw [hk] at hg
    cases hy : l[lb l x.key]? with
    | none =>
      rw [hy] at hf
      rw [← hf] at hg
      cases hg
    | some y =>
      rw [hy, Option.map_some] at hf
      unfold doL
      rw [← hf]
      cases ha : applyO x (some y.val) with
      | none =>
        show Calls Tryz.prog 92 _ w (DoRes B b A w l.length cap (delR x.key l))
        rw [← erase_del x.key hr hk]
        exact do_del B b cap A l x w h hr hl y hk hy ha
      | some u =>
        show Calls Tryz.prog 92 _ w (DoRes B b A w l.length cap (insR x.key u l))
        rw [← set_ins x.key u hr hk]
        exact do_set B b cap A l x u w h hr hl y hk hy ha
end Go.Proofs.YtdfgdnaejnngoaaGreat
