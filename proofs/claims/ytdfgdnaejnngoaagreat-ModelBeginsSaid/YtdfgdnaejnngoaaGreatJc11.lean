import Derived.Test.YtdfgdnaejnngoaaGreatJc10
import Derived.Test.YtdfgdnaejnngoaaGreatJc9
import Derived.Test.YtdfgdnaejnngoaaGreatJc7
set_option linter.unusedVariables false
set_option linter.unusedSimpArgs false
namespace Go.Proofs.YtdfgdnaejnngoaaGreat
open Go.RowKit
/-! grangerref33.Alive. -/
theorem take_dropR {α : Type} {l : List α} {j i : Nat} {x : α} (h : l[j]? = some x) (hi : i ≤ j) : (l.take (j + 1)).drop i = (l.take j).drop i ++ [x] := by
  have hj := (List.getElem?_eq_some_iff.1 h).1
  rw [take_snocR h, List.drop_append_of_le_length (by rw [List.length_take]; omega)]
theorem ord_rowA {w : World} {b off : Nat} {os : List Ord} (hel : Elems w (some ⟨b, off, none⟩) 6 (os.map Ord.cells)) {k : Nat} {o : Ord} (ho : os[k]? = some o) : b < w.heap.size ∧ w.cell? ⟨b, off + k * 6, none⟩ = some (.int .i64 o.kind) ∧ w.cell? ⟨b, off + k * 6 + 1, none⟩ = some (.string o.key) ∧ w.cell? ⟨b, off + k * 6 + 2, none⟩ = some (.string o.val) ∧ w.cell? ⟨b, off + k * 6 + 3, none⟩ = some (.int .u64 o.n) ∧ w.cell? ⟨b, off + k * 6 + 4, none⟩ = some (.string o.lo) ∧ w.cell? ⟨b, off + k * 6 + 5, none⟩ = some (.string o.hi) := by
  obtain ⟨b', off', e, h⟩ := ord_row hel ho
  cases e
  exact h
theorem alive_next {os : List Ord} {k : Nat} {o : Ord} {L : List Nat} (ho : os[k]? = some o) (hal : aliveL 0 os = L ++ aliveL k (os.drop k)) : (aliveB o (os.drop (k + 1)) = true → aliveL 0 os = (L ++ [k]) ++ aliveL (k + 1) (os.drop (k + 1))) ∧ (aliveB o (os.drop (k + 1)) = false → aliveL 0 os = L ++ aliveL (k + 1) (os.drop (k + 1))) := by
  have hdr : os.drop k = o :: os.drop (k + 1) := by
    obtain ⟨hk', rfl⟩ := List.getElem?_eq_some_iff.1 ho
    exact List.drop_eq_getElem_cons hk'
  rw [hdr, aliveL] at hal
  refine ⟨fun h => ?_, fun h => ?_⟩
  · rw [hal, if_pos h]; simp
  · rw [hal, if_neg (by rw [h]; decide)]
set_option maxHeartbeats 4000000 in
set_option maxRecDepth 100000 in
theorem refAlive_any (A : Option Addr) (cap : Nat) (os : List Ord) (w : World) (hel : Elems w A 6 (os.map Ord.cells)) (hl : os.length ≤ 1000) :
    Calls Tryz.prog 24 #[.slice A os.length cap] w fun e w' => ∃ A' c', e = .returned (.slice A' (aliveL 0 os).length c') ∧ OwnsN w' w.heap.size (.slice A' (aliveL 0 os).length c') (aliveL 0 os) ∧ Below w.heap.size w w' := by
  have HEL := Lib.hid hel
  clear hel
  go_enter Tryz.func24, Tryz.ntmps24
  go_wp2
  have HO0 := Lib.hid (show OwnsN (w.alloc (.cells #[] 3)) w.heap.size (.slice (some ⟨w.heap.size, 0, none⟩) 0 0) [] from OwnsG.empty (heap_alloc_new w _) (Nat.le_refl _))
  go_loopw [4, 3, 5, 6] (fun i v _ _ wr => ∃ (k c2 : Nat) (A2 : Option Addr) (L : List Nat), i = .int .i64 k ∧ k ≤ os.length ∧ v = .slice A2 L.length c2 ∧ OwnsN wr w.heap.size (.slice A2 L.length c2) L ∧ L.length ≤ k ∧ aliveL 0 os = L ++ aliveL k (os.drop k) ∧ Below w.heap.size w wr) (fun i _ _ _ _ => os.length + 1 - (intOf i).toNat)
  case atStart => exact ⟨0, 0, _, [], rfl, Nat.zero_le _, rfl, HO0.out, Nat.le_refl _, rfl, below_alloc (Below.refl _ w)⟩
  case round =>
    obtain ⟨k, c2, A2, L, rfl, hk, rfl, how, hLk, hal, hbel⟩ := hrel
    by_cases hkl : k < os.length
    · have hkI : (k : Int) < (os.length : Int) := by omega
      have hw1 : wrap64 ((k : Int) + 1) = ((k + 1 : Nat) : Int) := by unfold wrap64; omega
      obtain ⟨o, ho⟩ := get_lt hkl
      obtain ⟨b, off, rfl, hblt, d0, d1, d2, d3, d4, d5⟩ := ord_row (HEL.out.below hbel) ho
      obtain ⟨hat, haf⟩ := alive_next ho hal
      have HAT := Lib.hid hat
      have HAF := Lib.hid haf
      have HOW := Lib.hid how
      have HBEL := Lib.hid hbel
      obtain ⟨kind, key, val, n, lo, hi⟩ := o
      have HAB := Lib.hid (show aliveB ⟨kind, key, val, n, lo, hi⟩ (os.drop (k + 1)) = ((decide (kind = 1) || decide (kind = 3)) && !((os.take os.length).drop (k + 1)).any (resetB key)) by rw [List.take_length]; rfl)
      dsimp only at d0 d1 d2 d3 d4 d5
      clear hat haf how hbel hal ho
      obtain ⟨bb, hbb⟩ : ∃ bb, (decide (kind = 1) || decide (kind = 3)) = bb := ⟨_, rfl⟩
      have hkc : (kind = 1 ∧ Hid (bb = true)) ∨ (kind = 3 ∧ Hid (bb = true)) ∨ ((kind == 1) = false ∧ (kind == 3) = false ∧ Hid (bb = false)) := by
        by_cases h1 : kind = 1
        · exact .inl ⟨h1, Lib.hid (by rw [← hbb]; simp [h1])⟩
        · by_cases h3 : kind = 3
          · exact .inr (.inl ⟨h3, Lib.hid (by rw [← hbb]; simp [h3])⟩)
          · exact .inr (.inr ⟨by simp [h1], by simp [h3], Lib.hid (by rw [← hbb]; simp [h1, h3])⟩)
      rw [hbb] at HAB
      clear hbb
      rcases hkc with ⟨rfl, HBB⟩ | ⟨rfl, HBB⟩ | ⟨e1, e3, HBB⟩
      all_goals
        go_wp2
        go_loopw [6, 5] (fun j v w2 => ∃ (m : Nat) (q : Bool), j = .int .i64 m ∧ k + 1 ≤ m ∧ m ≤ os.length ∧ v = .bool q ∧ Hid (q = (bb && !((os.take m).drop (k + 1)).any (resetB key))) ∧ Below wr.heap.size wr w2) (fun j _ _ => os.length + 1 - (intOf j).toNat)
        case atStart => exact ⟨k + 1, _, by go_num, Nat.le_refl _, by omega, rfl, Lib.hid (by rw [HBB.out, List.drop_eq_nil_of_le (by rw [List.length_take]; omega)]; rfl), Below.refl _ _⟩
        case round =>
          rename World => wr2
          obtain ⟨m, q, rfl, hm1, hm, rfl, HQ, hb2⟩ := hrel
          by_cases hml : m < os.length
          · have hmI : (m : Int) < (os.length : Int) := by omega
            obtain ⟨x, hx⟩ := get_lt hml
            obtain ⟨_, x0, x1, _, _, _, _⟩ := ord_rowA (HEL.out.below (below_next HBEL.out hb2)) hx
            have o1 := keep_cell hb2 hblt d1
            have hbl2 := keep_lt hb2 hblt
            have hst : ((os.take (m + 1)).drop (k + 1)).any (resetB key) = (((os.take m).drop (k + 1)).any (resetB key) || resetB key x) := by rw [take_dropR hx hm1, List.any_append]; simp
            have hqq : (x.key.toList == key.toList) = decide (x.key = key) := eqB
            have HST := Lib.hid hst
            have HB2 := Lib.hid hb2
            obtain ⟨xkd, xk, xv, xn, xl, xh⟩ := x
            dsimp only at x0 x1 hqq
            clear hst hb2 hx
            by_cases e : xk = key
            · subst e
              rw [decide_eq_true rfl] at hqq
              by_cases h1 : xkd = 1
              · subst h1
                go_wp2
                go_quiet (fail)
                go_wp2
                refine ⟨⟨m + 1, false, by go_num, by omega, by omega, rfl, Lib.hid (by rw [HST.out]; simp [resetB]), below_drewN HB2.out _⟩, ?_⟩
                simp [intOf]
                omega
              · by_cases h2 : xkd = 2
                · subst h2
                  go_wp2
                  go_quiet (fail)
                  go_wp2
                  refine ⟨⟨m + 1, false, by go_num, by omega, by omega, rfl, Lib.hid (by rw [HST.out]; simp [resetB]), below_drewN HB2.out _⟩, ?_⟩
                  simp [intOf]
                  omega
                · have f1 : (xkd == 1) = false := by simp [h1]
                  have f2 : (xkd == 2) = false := by simp [h2]
                  have HN := Lib.hid (show resetB xk ⟨xkd, xk, xv, xn, xl, xh⟩ = false by simp [resetB, h1, h2])
                  clear h1 h2
                  go_wp2
                  go_quiet (fail)
                  go_wp2
                  refine ⟨⟨m + 1, q, by go_num, by omega, by omega, rfl, Lib.hid (by rw [HST.out, HN.out, Bool.or_false]; exact HQ.out), below_drewN HB2.out _⟩, ?_⟩
                  simp [intOf]
                  omega
            · rw [decide_eq_false e] at hqq
              have HN := Lib.hid (show resetB key ⟨xkd, xk, xv, xn, xl, xh⟩ = false by simp [resetB, e])
              clear e
              go_wp2
              go_quiet (fail)
              go_wp2
              refine ⟨⟨m + 1, q, by go_num, by omega, by omega, rfl, Lib.hid (by rw [HST.out, HN.out, Bool.or_false]; exact HQ.out), below_drewN HB2.out _⟩, ?_⟩
              simp [intOf]
              omega
          · obtain rfl : m = os.length := by omega
            have hqv := HQ.out.trans HAB.out.symm
            have HB2 := Lib.hid hb2
            have hw2l : L.length + 1 ≤ 1001 := by omega
            cases hq : q with
            | true =>
              have HAL := Lib.hid (HAT.out (by rw [← hqv]; exact hq))
              clear hqv hb2
              subst hq
              go_wp2_with (at_builtin; go_loud (refine nat_append rfl (some 67) rfl _ _ rfl w.heap.size (.slice A2 L.length c2) L [k] 1 ⟨wr2.heap.size, 0, none⟩ 1 rfl rfl (by simp [Act.eval]) ((HOW.out.below HB2.out).alloc _) (nat_news (heap_alloc_new wr2 _)) (by simp; omega) (by have := HBEL.out.size; have := HB2.out.size; simp; omega) (L.length + 1) (by simp) ?_; intro A3 c3 w3 ho3 hf3; have HO3 := Lib.hid ho3; have HF3 := Lib.hid hf3; clear ho3 hf3))
              have hb3 := fun o : Obj => below_alloc (o := o) (below_next HBEL.out HB2.out)
              refine ⟨⟨k + 1, c3, A3, L ++ [k], by go_num, by omega, by simp, by rw [List.length_append]; exact HO3.out, by simp; omega, HAL.out, (hb3 _).trans (HF3.out.to_below (hb3 _).size (fun i hi e => nat_ge (HOW.out.below HB2.out) hi e))⟩, ?_⟩
              simp [intOf]
              omega
            | false =>
              have HAL := Lib.hid (HAF.out (by rw [← hqv]; exact hq))
              clear hqv hb2
              subst hq
              go_wp2
              refine ⟨⟨k + 1, c2, A2, L, by go_num, by omega, rfl, HOW.out.below HB2.out, by omega, HAL.out, below_next HBEL.out HB2.out⟩, ?_⟩
              simp [intOf]
              omega
    · obtain rfl : k = os.length := by omega
      rw [List.drop_length] at hal
      simp only [aliveL, List.append_nil] at hal
      have HOW := Lib.hid how
      have HB2 := Lib.hid hbel
      have HAL := Lib.hid hal
      clear how hbel hal
      go_wp2
      go_ret
      rw [HAL.out]
      exact ⟨A2, c2, rfl, HOW.out, HB2.out⟩
end Go.Proofs.YtdfgdnaejnngoaaGreat
namespace Go.Proofs.YtdfgdnaejnngoaaGreat
open Go.RowKit
theorem elems_other {w w' : World} {A : Option Addr} {q : Nat} {l : List Itm} {cs : List Value} {T : TypeId} (h : Elems w A 2 (l.map Itm.cells)) (hq : w.heap[q]? = some (.cells cs.toArray T (0, 0)))
    (hns : ∀ i a b, cs[i]? = some (.string a) → cs[i + 1]? = some (.string b) → False) (hf : Fr (fun k => k = q) w w') : Elems w' A 2 (l.map Itm.cells) := by
  intro i r hr
  obtain ⟨b, o, e2, hlt, hc⟩ := h i r hr
  rw [List.getElem?_map, Option.map_eq_some_iff] at hr
  obtain ⟨x, hx, rfl⟩ := hr
  have hb : ¬ b = q := by
    rintro rfl
    have c0 := hc 0 _ rfl
    have c1 := hc 1 _ rfl
    rw [Lib.cell_of_heap hq] at c0 c1
    refine hns (o + i * 2) x.key x.val ?_ ?_
    · simpa using c0
    · simpa using c1
  exact ⟨b, o, e2, Nat.lt_of_lt_of_le hlt hf.size, fun j u hu => hf.cell hlt hb (hc j u hu)⟩
theorem fr_drewN (S : Nat → Prop) (w : World) (n : Nat) : Fr S w (w.drewN n) := Fr.of_below (below_drewN (Below.refl _ w) n)
theorem got_row {w4 w5 : World} {s : Nat} {has : Bool} {val : ByteArray} (h : w4.heap[s]? = some (.cells (refC 0 has val (.slice none 0 0) 0 0).toArray 76 (0, 0))) (hw : w5.heap[s]? = w4.heap[s]?) (v : ByteArray) :
    ((w5.setCell ⟨s, 2, none⟩ (.string v)).setCell ⟨s, 1, none⟩ (.bool true)).heap[s]? = some (.cells (refC 0 true v (.slice none 0 0) 0 0).toArray 76 (0, 0)) :=
  setCell_row (setCell_row (hw.trans h) 2 (.string v)) 1 (.bool true)
theorem got_fr (w5 : World) (s : Nat) (v : ByteArray) : Fr (fun q => q = s) w5 ((w5.setCell ⟨s, 2, none⟩ (.string v)).setCell ⟨s, 1, none⟩ (.bool true)) :=
  ((Fr.refl (fun q => q = s) w5).setCell (p := ⟨s, 2, none⟩) (fun _ => rfl) _).setCell (p := ⟨s, 1, none⟩) (fun _ => rfl) _
set_option maxHeartbeats 4000000 in
set_option maxRecDepth 100000 in
theorem refDo_get (bu : Nat) (c : Int) (ls : List (List Itm)) (l : List Itm) (key val : ByteArray) (n : Int) (lo hi : ByteArray) (w : World) (h : RefAt w bu c ls) (hl : ls[ls.length - 1]? = some l) (hn : ls.length ≤ 90000) (hln : l.length ≤ 60000) (hri : Rises l) (ho : isOrd ⟨4, key, val, n, lo, hi⟩ = true) :
    Calls Tryz.prog 36 #[.pointer (some ⟨bu, 0, none⟩), (Ord.mk 4 key val n lo hi).v] w (RefDo bu c (if isKey key = true then 0 else 1, (getL l key).isSome, strO (getL l key), [], 0, 0) ls w) := by
  have hia := fun W => refIs_any ⟨4, key, val, n, lo, hi⟩ W
  rw [ho] at hia
  have hnow := fun W (hW : Below w.heap.size w W) => refNow_any bu c ls l W (h.below hW) hl hn
  have hk := fun W => ref07Is_any key W
  rw [Ord.v_def] at hia ⊢
  dsimp only at hia ⊢
  have hbul := h.lt
  have HI := Lib.hid hia
  have HN := Lib.hid hnow
  have HK := Lib.hid hk
  have HRF := Lib.hid h
  have HRI := Lib.hid hri
  have HMS := Lib.hid refans_size
  obtain ⟨E, hE⟩ : ∃ E : Int, (if isKey key = true then 0 else 1) = E := ⟨_, rfl⟩
  rw [hE]
  have HEE := Lib.hid hE
  clear hia ho h hl hnow hk hri hE
  go_enter Tryz.func36, Tryz.ntmps36
  go_wp2_with (first
    | (go_at_call 64; (with_reducible refine (HI.out _).mono ?_); rintro e w1 ⟨rfl, hb1⟩; have hbo : QBox w.heap.size ⟨4, key, val, n, lo, hi⟩ w1 := box_below (((Fr.refl (fun _ => False) _).alloc _).row id (((Fr.refl (fun _ => False) _).alloc _).row id (heap_alloc_new w _))) hb1; have hba : RBox (w.heap.size + 1) w1 := box_below (((Fr.refl (fun _ => False) _).alloc _).row id (heap_new_at (by simp))) hb1; have hbc : RBox (w.heap.size + 2) w1 := box_below (heap_new_at (by simp)) hb1; have d0 : w1.cell? ⟨w.heap.size, 0, none⟩ = some (.int .i64 4) := (by rw [Lib.cell_of_heap hbo]; rfl); have d1 : w1.cell? ⟨w.heap.size, 1, none⟩ = some (.string key) := (by rw [Lib.cell_of_heap hbo]; rfl); have d2 : w1.cell? ⟨w.heap.size, 2, none⟩ = some (.string val) := (by rw [Lib.cell_of_heap hbo]; rfl); have d3 : w1.cell? ⟨w.heap.size, 3, none⟩ = some (.int .u64 n) := (by rw [Lib.cell_of_heap hbo]; rfl); have d4 : w1.cell? ⟨w.heap.size, 4, none⟩ = some (.string lo) := (by rw [Lib.cell_of_heap hbo]; rfl); have d5 : w1.cell? ⟨w.heap.size, 5, none⟩ = some (.string hi) := (by rw [Lib.cell_of_heap hbo]; rfl); have hxl := lt_of_row hbo; have HBO := Lib.hid hbo; have HBA := Lib.hid hba; have HBC := Lib.hid hbc; have HB1 := Lib.hid (below_next (below_alloc (below_alloc (below_alloc (Below.refl _ w)))) hb1); skip; clear hb1 hbo hba hbc)
    | (go_at_call 40; (with_reducible refine (HN.out _ HB1.out).mono ?_); rintro e w2 ⟨A2, c2, rfl, hel2, hb2⟩; have HBO2 := Lib.hid (show QBox w.heap.size ⟨4, key, val, n, lo, hi⟩ w2 from box_below HBO.out hb2); have HBA2 := Lib.hid (show RBox (w.heap.size + 1) w2 from box_below HBA.out hb2); have HBC2 := Lib.hid (show RBox (w.heap.size + 2) w2 from box_below HBC.out hb2); have HB2 := Lib.hid (below_next HB1.out hb2); have HE2 := Lib.hid hel2; clear hel2 hb2))
  go_loopw [7] (fun i wr => ∃ k : Nat, i = .int .i64 k ∧ k ≤ l.length ∧ wr.heap[w.heap.size + 2]? = some (.cells (refC 0 (getL (l.take k) key).isSome (strO (getL (l.take k) key)) (.slice none 0 0) 0 0).toArray 76 (0, 0)) ∧ Fr (fun q => q = w.heap.size + 2) w2 wr) (fun i _ => l.length + 1 - (intOf i).toNat)
  case atStart => exact ⟨0, rfl, Nat.zero_le _, HBC2.out, Fr.refl _ _⟩
  case round =>
    obtain ⟨k, rfl, hk, hbx, hfr⟩ := hrel
    have hw2 := HB2.out.size
    have hbo : QBox w.heap.size ⟨4, key, val, n, lo, hi⟩ wr := hfr.row (by omega) HBO2.out
    have q1 : wr.cell? ⟨w.heap.size, 1, none⟩ = some (.string key) := by rw [Lib.cell_of_heap hbo]; rfl
    have hxl := lt_of_row hbo
    by_cases hkl : k < l.length
    · have hkI : (k : Int) < (l.length : Int) := by omega
      obtain ⟨y, hy⟩ := get_lt hkl
      obtain ⟨b, off, rfl, hlt, d0, d1⟩ := itm_rowR (elems_other HE2.out HBC2.out (ref_nopair _ _ _ _ _ _ _ _) hfr) hy
      have hgt := get_take HRI.out hy key
      have hq : (y.key.toList == key.toList) = decide (y.key = key) := eqB
      have HGT := Lib.hid hgt
      have HFR := Lib.hid hfr
      have HBX := Lib.hid hbx
      have f1 := Lib.frozen_of_heap hbx 1
      have f2 := Lib.frozen_of_heap hbx 2
      have z1 : wr.cell? ⟨w.heap.size + 2, 1, none⟩ = some (.bool (getL (l.take k) key).isSome) := by rw [Lib.cell_of_heap hbx]; rfl
      have z2 : wr.cell? ⟨w.heap.size + 2, 2, none⟩ = some (.string (strO (getL (l.take k) key))) := by rw [Lib.cell_of_heap hbx]; rfl
      clear hgt hbx hy hfr hbo
      obtain ⟨yk, yv⟩ := y
      dsimp only at d0 d1 hq HGT
      by_cases e : yk = key
      · subst e
        rw [decide_eq_true rfl] at hq
        rw [if_pos rfl] at HGT
        go_wp2
        go_quiet (fail)
        go_wp2
        refine ⟨⟨k + 1, by go_num, by omega, by rw [HGT.out]; exact got_row HBX.out (by rfl) _, (HFR.out.trans (fr_drewN _ _ _) (fun i _ e => e)).trans (got_fr _ (w.heap.size + 2) _) (fun i _ e => e)⟩, ?_⟩
        simp [intOf]
        omega
      · rw [decide_eq_false e] at hq
        rw [if_neg e] at HGT
        go_wp2
        go_quiet (fail)
        go_wp2
        refine ⟨⟨k + 1, by go_num, by omega, by rw [HGT.out]; exact HBX.out, HFR.out.trans (fr_drewN _ _ _) (fun i _ e => e)⟩, ?_⟩
        simp [intOf]
        omega
    · obtain rfl : k = l.length := by omega
      rw [List.take_length] at hbx
      have hba : RBox (w.heap.size + 1) wr := hfr.row (by omega) HBA2.out
      have hk2 := HK.out
      generalize getL l key = g at *
      have HFR := Lib.hid hfr
      have HBX := Lib.hid hbx
      have HBAR := Lib.hid hba
      clear hbx hfr hbo hba
      cases hik : isKey key with
      | true =>
        rw [hik] at hk2
        have HK2 := Lib.hid hk2
        obtain rfl : E = 0 := by rw [← HEE.out, hik]; rfl
        clear hk2 HK hik HEE
        go_wp2_with (first
          | (go_at_call 66; (with_reducible refine (HK2.out _).mono ?_); rintro e w5 ⟨rfl, hb5⟩; have HRC := Lib.hid (show w5.heap[w.heap.size + 2]? = some (.cells (refC 0 g.isSome (strO g) (.slice none 0 0) 0 0).toArray 76 (0, 0)) from box_below HBX.out hb5); have HBA5 := Lib.hid (show RBox (w.heap.size + 1) w5 from box_below HBAR.out hb5); have HFC := Lib.hid (HFR.out.trans (Fr.of_below (S := fun q => q = w.heap.size + 2) hb5) (fun i _ e => e)); clear hb5)
          | (refine wpList_load_mid rfl 76 (Operand.tmp 5) rfl (w.heap.size + 2) 0 rfl (refC 0 g.isSome (strO g) (.slice none 0 0) 0 0) _ (row_range HRC.out) Tryz.underlying76 rfl HMS.out ?_)
          | (refine wpList_store_row rfl 76 (Operand.tmp 4) (Operand.tmp 108) rfl (w.heap.size + 1) _ (refC 0 g.isSome (strO g) (.slice none 0 0) 0 0) _ rfl rfl HBA5.out rfl HMS.out (refans_all _ _ _ _ _ _ _ _) ?_; intro w9 hr9 hf9; have HR9 := Lib.hid hr9; have HF9 := Lib.hid hf9; clear hr9 hf9))
        refine bodyPost_ret (v := refV 0 g.isSome (strO g) (.slice none 0 0) 0 0) (results_cell (a := 4) (t := 76) (ad := ⟨w.heap.size + 1, 0, none⟩) Tryz.results36 rfl (load_row _ HR9.out _ Tryz.underlying76 rfl HMS.out)) rfl ?_
        exact refdo_done hbul HB2.out (HRF.out.below HB2.out) (Fr.refl _ _) (Nat.le_succ _) HBC2.out HFC.out HBA5.out HF9.out rfl (elems_nil _ _)
      | false =>
        rw [hik] at hk2
        have HK2 := Lib.hid hk2
        obtain rfl : E = 1 := by rw [← HEE.out, hik]; rfl
        clear hk2 HK hik HEE
        go_wp2_with (first
          | (go_at_call 66; (with_reducible refine (HK2.out _).mono ?_); rintro e w5 ⟨rfl, hb5⟩; have hrc5 : w5.heap[w.heap.size + 2]? = some (.cells (refC 0 g.isSome (strO g) (.slice none 0 0) 0 0).toArray 76 (0, 0)) := box_below HBX.out hb5; have z0 : w5.cell? ⟨w.heap.size + 2, 0, none⟩ = some (.int .i64 0) := (by rw [Lib.cell_of_heap hrc5]; rfl); have y0 := Lib.frozen_of_heap hrc5 0; have HRC := Lib.hid (setCell_row hrc5 0 (.int .i64 1)); have hba5 : RBox (w.heap.size + 1) w5 := box_below HBAR.out hb5; have hfc : Fr (fun q => q = w.heap.size + 2) w5 (w5.setCell ⟨w.heap.size + 2, 0, none⟩ (.int .i64 1)) := (Fr.refl (fun q => q = w.heap.size + 2) w5).setCell (p := ⟨w.heap.size + 2, 0, none⟩) (fun _ => rfl) _; have HBA5 := Lib.hid (hfc.row (by omega) hba5); have HFC := Lib.hid ((HFR.out.trans (Fr.of_below (S := fun q => q = w.heap.size + 2) hb5) (fun i _ e => e)).trans hfc (fun i _ e => e)); clear hb5 hrc5 hba5 hfc)
          | (refine wpList_load_mid rfl 76 (Operand.tmp 5) rfl (w.heap.size + 2) 0 rfl (refC 1 g.isSome (strO g) (.slice none 0 0) 0 0) _ (row_range HRC.out) Tryz.underlying76 rfl HMS.out ?_)
          | (refine wpList_store_row rfl 76 (Operand.tmp 4) (Operand.tmp 108) rfl (w.heap.size + 1) _ (refC 1 g.isSome (strO g) (.slice none 0 0) 0 0) _ rfl rfl HBA5.out rfl HMS.out (refans_all _ _ _ _ _ _ _ _) ?_; intro w9 hr9 hf9; have HR9 := Lib.hid hr9; have HF9 := Lib.hid hf9; clear hr9 hf9))
        refine bodyPost_ret (v := refV 1 g.isSome (strO g) (.slice none 0 0) 0 0) (results_cell (a := 4) (t := 76) (ad := ⟨w.heap.size + 1, 0, none⟩) Tryz.results36 rfl (load_row _ HR9.out _ Tryz.underlying76 rfl HMS.out)) rfl ?_
        exact refdo_done hbul HB2.out (HRF.out.below HB2.out) (Fr.refl _ _) (Nat.le_succ _) HBC2.out HFC.out HBA5.out HF9.out rfl (elems_nil _ _)
end Go.Proofs.YtdfgdnaejnngoaaGreat
namespace Go.Proofs.YtdfgdnaejnngoaaGreat
open Go.RowKit
/-! slices.Equal over items; leaf.Same; model.Lost; begun. -/
set_option maxHeartbeats 1000000 in
set_option maxRecDepth 100000 in
theorem itmsEqual_any (A B : Option Addr) (ca cb : Nat) (la lb : List Itm) (w : World) (ha : Elems w A 2 (la.map Itm.cells)) (hb : Elems w B 2 (lb.map Itm.cells)) (hl : la.length ≤ 80000) (hl2 : lb.length ≤ 80000) :
    Calls Tryz.prog 63 #[.slice A la.length ca, .slice B lb.length cb] w fun e w' => e = .returned (.bool (decide (la = lb))) ∧ Below w.heap.size w w' := by
  by_cases hn : la.length = lb.length
  · have HA := Lib.hid ha
    have HB := Lib.hid hb
    have hq := fun a b W => neq_itm a b W
    simp only [Itm.v_def] at hq
    have HQ := Lib.hid hq
    have hgu : Tryz.prog.eqGuardType Tryz.prog.depth 41 = false := by kernel_rfl
    obtain ⟨R, hR⟩ : ∃ R, decide (la = lb) = R := ⟨_, rfl⟩
    rw [hR]
    have HR := Lib.hid hR
    have HN := Lib.hid hn
    rw [← hn]
    clear hq ha hb hR hl2 hn
    go_enter Tryz.func63, Tryz.ntmps63
    go_wp2
    go_loopw [13, 5] (fun i _ wr => ∃ k : Nat, i = .int .i64 k ∧ k ≤ la.length ∧ la.take k = lb.take k ∧ Below w.heap.size w wr) (fun i _ _ => la.length + 1 - (intOf i).toNat)
    case atStart => exact ⟨0, rfl, Nat.zero_le _, rfl, (by repeat (first | assumption | exact Below.refl _ _ | (refine below_step (w := ?_) ?_ ?_ ?_; rotate_left 2; assumption) | refine Below.drew ?_ | refine below_drewN ?_ _ | refine Below.alloc ?_ ?_ _ | refine Below.setCell ?_ ?_ _ | (focus (simp; done)) | (focus (simp; omega)) | omega))⟩
    case round =>
      obtain ⟨k, rfl, hk, htk, hbel⟩ := hrel
      by_cases hkl : k < la.length
      · have hkI : (k : Int) < (la.length : Int) := by omega
        obtain ⟨y, hy⟩ := get_lt hkl
        obtain ⟨z, hz⟩ := get_lt (l := lb) (i := k) (by have := HN.out; omega)
        obtain ⟨b1, o1, rfl, hlt1, d0, d1⟩ := itm_rowR (HA.out.below hbel) hy
        obtain ⟨b2, o2, rfl, hlt2, e0, e1⟩ := itm_rowR (HB.out.below hbel) hz
        have hqq := fun W => HQ.out y z W
        have htk2 : la.take (k + 1) = lb.take (k + 1) ↔ y = z := by
          rw [take_snocR hy, take_snocR hz, htk]
          simp
        have hne : y ≠ z → la ≠ lb := fun h e => by
          subst e
          rw [hy] at hz
          cases hz
          exact h rfl
        have HTK := Lib.hid htk2
        have HNE := Lib.hid hne
        have HBL := Lib.hid hbel
        clear htk htk2 hne hbel hy hz
        obtain ⟨yk, yv⟩ := y
        obtain ⟨zk, zv⟩ := z
        dsimp only at d0 d1 e0 e1 hqq
        by_cases hyz : (⟨yk, yv⟩ : Itm) = ⟨zk, zv⟩
        · have hyz' := hyz
          simp only [Itm.mk.injEq] at hyz'
          obtain ⟨rfl, rfl⟩ := hyz'
          simp only [decide_true, Bool.not_true] at hqq
          have HT2 := Lib.hid (HTK.out.2 rfl)
          clear hyz HTK HNE
          go_wp2
          go_quiet (fail)
          go_wp2
          refine ⟨⟨k + 1, by go_num, by omega, HT2.out, below_drewN HBL.out _⟩, ?_⟩
          simp [intOf]
          omega
        · rw [decide_eq_false hyz] at hqq
          simp only [Bool.not_false] at hqq
          have hRf : R = false := by rw [← HR.out]; exact decide_eq_false (HNE.out hyz)
          subst hRf
          clear hyz HTK HNE
          go_wp2
          go_quiet (fail)
          go_wp2
          go_ret
          exact ⟨rfl, below_drewN HBL.out _⟩
      · obtain rfl : k = la.length := by omega
        have hRt : R = true := by
          rw [← HR.out]
          rw [List.take_length, HN.out, List.take_length] at htk
          exact decide_eq_true htk
        subst hRt
        have HBL := Lib.hid hbel
        clear htk hbel
        go_wp2
        go_ret
        exact ⟨rfl, HBL.out⟩
  · have hne : la ≠ lb := fun e => hn (by rw [e])
    have hni : ((la.length : Int) != (lb.length : Int)) = true := by simp; omega
    rw [decide_eq_false hne]
    clear ha hb hne hn
    go_enter Tryz.func63, Tryz.ntmps63
    go_wp2
    go_ret
    exact ⟨rfl, (by repeat (first | assumption | exact Below.refl _ _ | (refine below_step (w := ?_) ?_ ?_ ?_; rotate_left 2; assumption) | refine Below.drew ?_ | refine below_drewN ?_ _ | refine Below.alloc ?_ ?_ _ | refine Below.setCell ?_ ?_ _ | (focus (simp; done)) | (focus (simp; omega)) | omega))⟩
set_option maxRecDepth 100000 in
theorem leafSame_any (p1 c1 p2 c2 : Nat) (A1 A2 : Option Addr) (l1 l2 : List Itm) (w : World) (h1 : LeafAt w p1 A1 c1 l1) (h2 : LeafAt w p2 A2 c2 l2) (n1 : l1.length ≤ 80000) (n2 : l2.length ≤ 80000) :
    Calls Tryz.prog 53 #[.pointer (some ⟨p1, 0, none⟩), .pointer (some ⟨p2, 0, none⟩)] w fun e w' => e = .returned (.bool (decide (l1 = l2))) ∧ Below w.heap.size w w' := by
  have d1 := h1.c0
  have d2 := h2.c0
  have hs := fun W (hW : Below w.heap.size w W) => itmsEqual_any A1 A2 c1 c2 l1 l2 W (h1.els.below hW) (h2.els.below hW) n1 n2
  generalize decide (l1 = l2) = R at *
  have HS := Lib.hid hs
  have hp1 := h1.lt
  have hp2 := h2.lt
  clear h1 h2 hs
  go_enter Tryz.func53, Tryz.ntmps53
  go_wp2
  refine rg_start (n := 10) (fun w' => w'.cell? ⟨p1, 0, none⟩ = some (.slice A1 l1.length c1) ∧ w'.cell? ⟨p2, 0, none⟩ = some (.slice A2 l2.length c2) ∧ Below w.heap.size w w') #[false, false, false, false, false, false, false, false, false, false] (by kernel_rfl) rfl rfl ⟨d1, d2, (Below.refl _ w).drew⟩ (fun hHeld => ?_)
  refine rg_take (i := 0) (N := (some 17)) (v := ?_) (a' := ?_) #[true, false, false, false, false, false, false, false, false, false] rfl rfl (by kernel_rfl) (fun _ _ _ h => h) (by rfl) ?_ hHeld ?_ ?_
  rotate_left 2
  · rintro w' ⟨s0, s1, s2⟩
    go_simp
    try with_reducible rfl
  · simp only [Act.put, List.setIfInBounds_toArray, List.set_cons_zero, List.set_cons_succ]
    rfl
  refine rg_take (i := 1) (N := (some 18)) (v := ?_) (a' := ?_) #[true, true, false, false, false, false, false, false, false, false] rfl rfl (by kernel_rfl) (fun _ _ _ h => h) (by rfl) ?_ hHeld ?_ ?_
  rotate_left 2
  · rintro w' ⟨s0, s1, s2⟩
    go_simp
    try with_reducible rfl
  · simp only [Act.put, List.setIfInBounds_toArray, List.set_cons_zero, List.set_cons_succ]
    rfl
  refine rg_take (i := 2) (N := (some 19)) (v := ?_) (a' := ?_) #[true, true, true, false, false, false, false, false, false, false] rfl rfl (by kernel_rfl) (fun _ _ _ h => h) (by rfl) ?_ hHeld ?_ ?_
  rotate_left 2
  · rintro w' ⟨s0, s1, s2⟩
    go_simp
    try with_reducible rfl
  · simp only [Act.put, List.setIfInBounds_toArray, List.set_cons_zero, List.set_cons_succ]
    rfl
  refine rg_take (i := 3) (N := (some 20)) (v := ?_) (a' := ?_) #[true, true, true, true, false, false, false, false, false, false] rfl rfl (by kernel_rfl) (fun _ _ _ h => h) (by rfl) ?_ hHeld ?_ ?_
  rotate_left 2
  · rintro w' ⟨s0, s1, s2⟩
    go_simp
    try with_reducible rfl
  · simp only [Act.put, List.setIfInBounds_toArray, List.set_cons_zero, List.set_cons_succ]
    rfl
  refine rg_take (i := 4) (N := (some 21)) (v := ?_) (a' := ?_) #[true, true, true, true, true, false, false, false, false, false] rfl rfl (by kernel_rfl) (fun _ _ _ h => h) (by rfl) ?_ hHeld ?_ ?_
  rotate_left 2
  · rintro w' ⟨s0, s1, s2⟩
    go_simp
    try with_reducible rfl
  · simp only [Act.put, List.setIfInBounds_toArray, List.set_cons_zero, List.set_cons_succ]
    rfl
  refine rg_take (i := 5) (N := (some 22)) (v := ?_) (a' := ?_) #[true, true, true, true, true, true, false, false, false, false] rfl rfl (by kernel_rfl) (fun _ _ _ h => h) (by rfl) ?_ hHeld ?_ ?_
  rotate_left 2
  · rintro w' ⟨s0, s1, s2⟩
    go_simp
    try with_reducible rfl
  · simp only [Act.put, List.setIfInBounds_toArray, List.set_cons_zero, List.set_cons_succ]
    rfl
  refine rg_take (i := 6) (N := (some 23)) (v := ?_) (a' := ?_) #[true, true, true, true, true, true, true, false, false, false] rfl rfl (by kernel_rfl) (fun _ _ _ h => h) (by rfl) ?_ hHeld ?_ ?_
  rotate_left 2
  · rintro w' ⟨s0, s1, s2⟩
    go_simp
    try with_reducible rfl
  · simp only [Act.put, List.setIfInBounds_toArray, List.set_cons_zero, List.set_cons_succ]
    rfl
  refine rg_take (i := 7) (N := (some 24)) (v := ?_) (a' := ?_) #[true, true, true, true, true, true, true, true, false, false] rfl rfl (by kernel_rfl) (fun _ _ _ h => h) (by rfl) ?_ hHeld ?_ ?_
  rotate_left 2
  · rintro w' ⟨s0, s1, s2⟩
    go_simp
    try with_reducible rfl
  · simp only [Act.put, List.setIfInBounds_toArray, List.set_cons_zero, List.set_cons_succ]
    rfl
  refine rg_one (i := 8) #[true, true, true, true, true, true, true, true, true, false] rfl (by kernel_rfl) (by rfl) (fun K hK => ?_)
  obtain ⟨s0, s1, s2⟩ := hHeld
  repeat go_step
  ((with_reducible refine (HS.out _ s2).mono ?_); rintro e w1 ⟨rfl, hb1⟩)
  try dsimp only
  refine hK.out _ _ ?_ (fun hHeld => ?_)
  · exact ⟨keep_cell hb1 (keep_lt s2 hp1) s0, keep_cell hb1 (keep_lt s2 hp2) s1, below_next s2 hb1⟩
  clear hK K
  clear s0 s1 s2
  refine rg_take (i := 9) (N := (some 4)) (v := ?_) (a' := ?_) #[true, true, true, true, true, true, true, true, true, true] rfl rfl (by kernel_rfl) (fun _ _ _ h => h) (by rfl) ?_ hHeld ?_ ?_
  rotate_left 2
  · rintro w' ⟨s0, s1, s2⟩
    go_simp
    try with_reducible rfl
  · simp only [Act.put, List.setIfInBounds_toArray, List.set_cons_zero, List.set_cons_succ]
    rfl
  refine rg_done (by kernel_rfl) ?_
  go_wp2
  go_ret
  exact ⟨rfl, hHeld.2.2⟩
end Go.Proofs.YtdfgdnaejnngoaaGreat
namespace Go.Proofs.YtdfgdnaejnngoaaGreat
open Go.RowKit
/-! order.Same; what of nil is answered. -/
structure Sta where
  a0 : Int
  a1 : Int
  a2 : Int
  a3 : Int
  a4 : Int
  a5 : Int
  a6 : Int
  a7 : Int
  a8 : Int
  deriving DecidableEq
def Sta.cells (s : Sta) : List Value := [.int .i64 s.a0, .int .i64 s.a1, .int .i64 s.a2, .int .i64 s.a3, .int .i64 s.a4, .int .i64 s.a5, .int .i64 s.a6, .int .i64 s.a7, .int .i64 s.a8]
def Sta.v (p : Sta) : Value := .agg #[.int .i64 p.a0, .int .i64 p.a1, .int .i64 p.a2, .int .i64 p.a3, .int .i64 p.a4, .int .i64 p.a5, .int .i64 p.a6, .int .i64 p.a7, .int .i64 p.a8]
theorem Sta.v_def (p : Sta) : p.v = .agg #[.int .i64 p.a0, .int .i64 p.a1, .int .i64 p.a2, .int .i64 p.a3, .int .i64 p.a4, .int .i64 p.a5, .int .i64 p.a6, .int .i64 p.a7, .int .i64 p.a8] := rfl
theorem eql_sta (a b : Sta) (w : World) : (binOp .eql 33 a.v b.v).run Tryz.prog w = .ok (.bool (decide (a = b))) w := by
  have u3 := Tryz.underlying3
  have a3 := Tryz.isAgg3
  have z3 := Tryz.sizeOf3
  have hS : Tryz.prog.underlying 33 = some (.struct (Tryz.prog.fieldsOf 33)) := by kernel_rfl
  have hp : Tryz.prog.stoodInHeld 33 = false := by kernel_rfl
  rw [Sta.v_def, Sta.v_def]
  rw [run_eql_struct, show (10000 : Nat) = 9999 + 1 from rfl, run_equalIn_agg w 9999 33 _ _ hS hp]
  simp only [Program.fieldsOf, Tryz.underlying33]
  go_simp
  obtain ⟨x0, x1, x2, x3, x4, x5, x6, x7, x8⟩ := a
  obtain ⟨y0, y1, y2, y3, y4, y5, y6, y7, y8⟩ := b
  by_cases h0 : x0 = y0
  rotate_left
  · simp [h0]
  subst h0
  by_cases h1 : x1 = y1
  rotate_left
  · simp [h1]
  subst h1
  by_cases h2 : x2 = y2
  rotate_left
  · simp [h2]
  subst h2
  by_cases h3 : x3 = y3
  rotate_left
  · simp [h3]
  subst h3
  by_cases h4 : x4 = y4
  rotate_left
  · simp [h4]
  subst h4
  by_cases h5 : x5 = y5
  rotate_left
  · simp [h5]
  subst h5
  by_cases h6 : x6 = y6
  rotate_left
  · simp [h6]
  subst h6
  by_cases h7 : x7 = y7
  rotate_left
  · simp [h7]
  subst h7
  by_cases h8 : x8 = y8 <;> simp [h8]
/-- an answer: error, has, value, items, numbers -/
structure An where
  err : Int
  has : Bool
  val : ByteArray
  its : List Itm
  st : Sta
  deriving DecidableEq
def An.cells (a : An) (A : Option Addr) (c : Nat) : List Value := [.int .i64 a.err, .bool a.has, .string a.val, .slice A a.its.length c, .int .i64 a.st.a0, .int .i64 a.st.a1, .int .i64 a.st.a2, .int .i64 a.st.a3, .int .i64 a.st.a4, .int .i64 a.st.a5, .int .i64 a.st.a6, .int .i64 a.st.a7, .int .i64 a.st.a8]
def An.v (a : An) (A : Option Addr) (c : Nat) : Value := .agg #[.int .i64 a.err, .bool a.has, .string a.val, .slice A a.its.length c, .int .i64 a.st.a0, .int .i64 a.st.a1, .int .i64 a.st.a2, .int .i64 a.st.a3, .int .i64 a.st.a4, .int .i64 a.st.a5, .int .i64 a.st.a6, .int .i64 a.st.a7, .int .i64 a.st.a8]
theorem An.v_def (a : An) (A : Option Addr) (c : Nat) : a.v A c = .agg #[.int .i64 a.err, .bool a.has, .string a.val, .slice A a.its.length c, .int .i64 a.st.a0, .int .i64 a.st.a1, .int .i64 a.st.a2, .int .i64 a.st.a3, .int .i64 a.st.a4, .int .i64 a.st.a5, .int .i64 a.st.a6, .int .i64 a.st.a7, .int .i64 a.st.a8] := rfl
theorem sta_size : (Tryz.prog.info? 33).map (·.size) = some 9 := by kernel_rfl
theorem an_st_range {w : World} {b : Nat} {a : An} {A : Option Addr} {c : Nat} {T : TypeId} {fz : Nat × Nat} (h : w.heap[b]? = some (.cells (a.cells A c).toArray T fz)) : w.rangeAt b 4 a.st.cells := fun j v hv => by
  rw [Lib.cell_of_heap h]
  simp only [List.getElem?_toArray]
  rw [← hv]
  show (a.cells A c)[4 + j]? = _
  rw [show a.cells A c = [.int .i64 a.err, .bool a.has, .string a.val, .slice A a.its.length c] ++ a.st.cells from rfl, List.getElem?_append_right (by simp)]
  simp
abbrev AnBox (s : Nat) (a : An) (A : Option Addr) (c : Nat) (w : World) : Prop := w.heap[s]? = some (.cells (a.cells A c).toArray 35 (0, 0))
set_option maxHeartbeats 2000000 in
set_option maxRecDepth 100000 in
theorem orderSame_any (a b : An) (A B : Option Addr) (ca cb : Nat) (w : World) (ha : Elems w A 2 (a.its.map Itm.cells)) (hb : Elems w B 2 (b.its.map Itm.cells)) (n1 : a.its.length ≤ 80000) (n2 : b.its.length ≤ 80000) :
    Calls Tryz.prog 35 #[a.v A ca, b.v B cb] w fun e w' => e = .returned (.bool (decide (a = b))) ∧ Below w.heap.size w w' := by
  have hs := fun W (hW : Below w.heap.size w W) => itmsEqual_any A B ca cb a.its b.its W (ha.below hW) (hb.below hW) n1 n2
  have hst := fun W => eql_sta a.st b.st W
  have hiff : a = b ↔ (a.err = b.err ∧ a.has = b.has ∧ a.val = b.val ∧ a.its = b.its ∧ a.st = b.st) := by
    obtain ⟨_, _, _, _, _⟩ := a
    obtain ⟨_, _, _, _, _⟩ := b
    simp
  have hxa := fun W => show AnBox w.heap.size a A ca W ↔ W.heap[w.heap.size]? = some (.cells (a.cells A ca).toArray 35 (0, 0)) from Iff.rfl
  rw [An.v_def, An.v_def]
  obtain ⟨R, hR⟩ : ∃ R, decide (a = b) = R := ⟨_, rfl⟩
  rw [hR]
  have HR := Lib.hid hR
  have HIFF := Lib.hid hiff
  have HS := Lib.hid hs
  have HZ := Lib.hid sta_size
  have hgu : Tryz.prog.eqGuardType Tryz.prog.depth 33 = false := by kernel_rfl
  clear hs hR hiff ha hb hxa
  by_cases h1 : a.err = b.err
  · by_cases h2 : a.has = b.has
    · by_cases h3 : a.val = b.val
      · cases h4 : decide (a.its = b.its) with
        | true =>
          have HS2 := Lib.hid (show ∀ W, Below w.heap.size w W → Calls Tryz.prog 63 #[.slice A a.its.length ca, .slice B b.its.length cb] W fun e w' => e = .returned (.bool true) ∧ Below W.heap.size W w' from fun W hW => by have := HS.out W hW; rw [h4] at this; exact this)
          have HST := Lib.hid hst
          have hRs : R = decide (a.st = b.st) := by
            rw [← HR.out]
            exact decide_eq_decide.2 (HIFF.out.trans ⟨fun h => h.2.2.2.2, fun h => ⟨h1, h2, h3, of_decide_eq_true h4, h⟩⟩)
          have e1 : (a.err == b.err) = true := by simp [h1]
          have e2 : (a.has == b.has) = true := by simp [h2]
          have e3 : (a.val.toList == b.val.toList) = true := by rw [eqB]; exact decide_eq_true h3
          have HRS := Lib.hid hRs
          clear hst hRs h1 h2 h3 h4 HS
          go_enter Tryz.func35, Tryz.ntmps35
          go_wp2_with (first
            | (go_at_call 63; (with_reducible refine (HS2.out _ (below_alloc (below_alloc (Below.refl _ w)))).mono ?_); rintro e w1 ⟨rfl, hb1⟩; have hba : AnBox w.heap.size a A ca w1 := ( box_below (((Fr.refl (fun _ => False) _).alloc _).row id (heap_alloc_new w _)) hb1); have hbb : AnBox (w.heap.size + 1) b B cb w1 := box_below (heap_new_at (by simp)) hb1; obtain ⟨za0, za1, za2, za3, za4, za5, za6, za7, za8⟩ : w1.cell? ⟨w.heap.size, 4, none⟩ = some (.int .i64 a.st.a0) ∧ w1.cell? ⟨w.heap.size, 5, none⟩ = some (.int .i64 a.st.a1) ∧ w1.cell? ⟨w.heap.size, 6, none⟩ = some (.int .i64 a.st.a2) ∧ w1.cell? ⟨w.heap.size, 7, none⟩ = some (.int .i64 a.st.a3) ∧ w1.cell? ⟨w.heap.size, 8, none⟩ = some (.int .i64 a.st.a4) ∧ w1.cell? ⟨w.heap.size, 9, none⟩ = some (.int .i64 a.st.a5) ∧ w1.cell? ⟨w.heap.size, 10, none⟩ = some (.int .i64 a.st.a6) ∧ w1.cell? ⟨w.heap.size, 11, none⟩ = some (.int .i64 a.st.a7) ∧ w1.cell? ⟨w.heap.size, 12, none⟩ = some (.int .i64 a.st.a8) := (by have hh := hba; refine ⟨?_, ?_, ?_, ?_, ?_, ?_, ?_, ?_, ?_⟩ <;> (rw [Lib.cell_of_heap hh]; rfl)); obtain ⟨zb0, zb1, zb2, zb3, zb4, zb5, zb6, zb7, zb8⟩ : w1.cell? ⟨w.heap.size + 1, 4, none⟩ = some (.int .i64 b.st.a0) ∧ w1.cell? ⟨w.heap.size + 1, 5, none⟩ = some (.int .i64 b.st.a1) ∧ w1.cell? ⟨w.heap.size + 1, 6, none⟩ = some (.int .i64 b.st.a2) ∧ w1.cell? ⟨w.heap.size + 1, 7, none⟩ = some (.int .i64 b.st.a3) ∧ w1.cell? ⟨w.heap.size + 1, 8, none⟩ = some (.int .i64 b.st.a4) ∧ w1.cell? ⟨w.heap.size + 1, 9, none⟩ = some (.int .i64 b.st.a5) ∧ w1.cell? ⟨w.heap.size + 1, 10, none⟩ = some (.int .i64 b.st.a6) ∧ w1.cell? ⟨w.heap.size + 1, 11, none⟩ = some (.int .i64 b.st.a7) ∧ w1.cell? ⟨w.heap.size + 1, 12, none⟩ = some (.int .i64 b.st.a8) := (by have hh := hbb; refine ⟨?_, ?_, ?_, ?_, ?_, ?_, ?_, ?_, ?_⟩ <;> (rw [Lib.cell_of_heap hh]; rfl)); have hla := lt_of_row hba; have hlb := lt_of_row hbb;  have HB1 := Lib.hid (below_next (below_alloc (below_alloc (Below.refl _ w))) hb1); have hst := HST.out; rw [← HRS.out] at hst; simp only [Sta.v_def] at hst; clear hb1 hba hbb))
          go_ret
          exact ⟨rfl, HB1.out⟩
        | false =>
          have HS2 := Lib.hid (show ∀ W, Below w.heap.size w W → Calls Tryz.prog 63 #[.slice A a.its.length ca, .slice B b.its.length cb] W fun e w' => e = .returned (.bool false) ∧ Below W.heap.size W w' from fun W hW => by have := HS.out W hW; rw [h4] at this; exact this)
          have hRf : R = false := by rw [← HR.out]; exact decide_eq_false (fun h => of_decide_eq_false h4 (HIFF.out.1 h).2.2.2.1)
          have e1 : (a.err == b.err) = true := by simp [h1]
          have e2 : (a.has == b.has) = true := by simp [h2]
          have e3 : (a.val.toList == b.val.toList) = true := by rw [eqB]; exact decide_eq_true h3
          subst hRf
          clear hst h1 h2 h3 h4 HS
          go_enter Tryz.func35, Tryz.ntmps35
          go_wp2_with (go_at_call 63; (with_reducible refine (HS2.out _ (below_alloc (below_alloc (Below.refl _ w)))).mono ?_); rintro e w1 ⟨rfl, hb1⟩; have HB1 := Lib.hid (below_next (below_alloc (below_alloc (Below.refl _ w))) hb1); clear hb1)
          go_ret
          exact ⟨rfl, HB1.out⟩
      · have hRf : R = false := by rw [← HR.out]; exact decide_eq_false (fun h => h3 (HIFF.out.1 h).2.2.1)
        have e1 : (a.err == b.err) = true := by simp [h1]
        have e2 : (a.has == b.has) = true := by simp [h2]
        have e3 : (a.val.toList == b.val.toList) = false := by rw [eqB]; exact decide_eq_false h3
        subst hRf
        clear hst h1 h2 h3
        go_enter Tryz.func35, Tryz.ntmps35
        go_wp2
        go_ret
        exact ⟨rfl, (by repeat (first | assumption | exact Below.refl _ _ | (refine below_step (w := ?_) ?_ ?_ ?_; rotate_left 2; assumption) | refine Below.drew ?_ | refine below_drewN ?_ _ | refine Below.alloc ?_ ?_ _ | refine Below.setCell ?_ ?_ _ | (focus (simp; done)) | (focus (simp; omega)) | omega))⟩
    · have hRf : R = false := by rw [← HR.out]; exact decide_eq_false (fun h => h2 (HIFF.out.1 h).2.1)
      have e1 : (a.err == b.err) = true := by simp [h1]
      have e2 : (a.has == b.has) = false := by simp [h2]
      subst hRf
      clear hst h1 h2
      go_enter Tryz.func35, Tryz.ntmps35
      go_wp2
      go_ret
      exact ⟨rfl, (by repeat (first | assumption | exact Below.refl _ _ | (refine below_step (w := ?_) ?_ ?_ ?_; rotate_left 2; assumption) | refine Below.drew ?_ | refine below_drewN ?_ _ | refine Below.alloc ?_ ?_ _ | refine Below.setCell ?_ ?_ _ | (focus (simp; done)) | (focus (simp; omega)) | omega))⟩
  · have hRf : R = false := by rw [← HR.out]; exact decide_eq_false (fun h => h1 (HIFF.out.1 h).1)
    have e1 : (a.err == b.err) = false := by simp [h1]
    subst hRf
    clear hst h1
    go_enter Tryz.func35, Tryz.ntmps35
    go_wp2
    go_ret
    exact ⟨rfl, (by repeat (first | assumption | exact Below.refl _ _ | (refine below_step (w := ?_) ?_ ?_ ?_; rotate_left 2; assumption) | refine Below.drew ?_ | refine below_drewN ?_ _ | refine Below.alloc ?_ ?_ _ | refine Below.setCell ?_ ?_ _ | (focus (simp; done)) | (focus (simp; omega)) | omega))⟩
end Go.Proofs.YtdfgdnaejnngoaaGreat
namespace Go.Proofs.YtdfgdnaejnngoaaGreat
open Go.RowKit
/-! model.Lost. -/
theorem elems_ne {w : World} {A : Option Addr} {q : Nat} {l : List Itm} {cs : List Value} {T : TypeId} (h : Elems w A 2 (l.map Itm.cells)) (hl : l ≠ []) (hq : w.heap[q]? = some (.cells cs.toArray T (0, 0)))
    (hns : ∀ i a b, cs[i]? = some (.string a) → cs[i + 1]? = some (.string b) → False) : ∀ ad, A = some ad → ad.block ≠ q := by
  rintro ad rfl e
  obtain ⟨x, l', rfl⟩ := List.exists_cons_of_ne_nil hl
  obtain ⟨b, o, e2, hlt, hc⟩ := h 0 x.cells rfl
  cases e2
  dsimp only at e
  subst e
  have c0 := hc 0 _ rfl
  have c1 := hc 1 _ rfl
  rw [Lib.cell_of_heap hq] at c0 c1
  refine hns (o + 0 * 2) x.key x.val ?_ ?_
  · simpa using c0
  · simpa using c1
theorem plan_nopair (N : Int) (sv : Option Addr) (n c : Nat) : ∀ i a b, ((planA N ++ #[Value.slice sv n c]).toList)[i]? = some (.string a) → ((planA N ++ #[Value.slice sv n c]).toList)[i + 1]? = some (.string b) → False := by
  intro i a b h1 h2
  rw [planA_def] at h1 h2
  rcases i with _ | _ | _ | _ | _ | _ | _ | _ | i <;> simp at h1 h2
theorem model_only {W : World} {bm b cap n c : Nat} {g0 : Option Addr} {N : Int} {L : List Itm} {A : Option Addr} (hrow : W.heap[bm]? = some (.cells (planA N ++ #[.slice g0 n c]) 102 (0, 0))) (hla : LeafAt W b A cap L) :
    ModelAt ((W.setCell ⟨bm, 7, none⟩ (.slice (some ⟨W.heap.size, 0, none⟩) 1 1)).alloc (.cells #[.pointer (some ⟨b, 0, none⟩)] 98)) bm W.heap.size N [L] := by
  have hf : Fr (fun k => k = bm) W ((W.setCell ⟨bm, 7, none⟩ (.slice (some ⟨W.heap.size, 0, none⟩) 1 1)).alloc (.cells #[.pointer (some ⟨b, 0, none⟩)] 98)) := ((Fr.refl (fun k => k = bm) W).setCell (p := ⟨bm, 7, none⟩) (fun _ => rfl) _).alloc _
  have hbm := lt_of_row hrow
  have hr := setCell_row hrow 7 (.slice (some ⟨W.heap.size, 0, none⟩) 1 1)
  have hr2 : ((W.setCell ⟨bm, 7, none⟩ (.slice (some ⟨W.heap.size, 0, none⟩) 1 1)).alloc (.cells #[.pointer (some ⟨b, 0, none⟩)] 98)).heap[bm]? = some (.cells (planA N ++ #[.slice (some ⟨W.heap.size, 0, none⟩) 1 1]) 102 (0, 0)) := by
    have := box_below hr (below_alloc (o := .cells #[.pointer (some ⟨b, 0, none⟩)] 98) (Below.refl _ _))
    rw [planA_def] at this ⊢
    simpa using this
  have hg : ((W.setCell ⟨bm, 7, none⟩ (.slice (some ⟨W.heap.size, 0, none⟩) 1 1)).alloc (.cells #[.pointer (some ⟨b, 0, none⟩)] 98)).heap[W.heap.size]? = some (.cells #[.pointer (some ⟨b, 0, none⟩)] 98 (0, 0)) := heap_new_at (by simp)
  refine ⟨⟨0, 1, 1, [b], hr2, ⟨rfl, ⟨[.pointer (some ⟨b, 0, none⟩)], hg, Nat.le_refl _, fun j p hp => ?_⟩, Nat.le_refl _, by unfold maxLen; omega⟩, rfl, fun j p l hp hl => ?_⟩, by simp⟩
  · rcases j with _ | j
    · simp at hp; subst hp; rfl
    · simp at hp
  · rcases j with _ | j
    · simp at hp hl
      subst hp hl
      have hne : L ≠ [] → ∀ ad, A = some ad → ad.block ≠ bm := fun h => elems_ne hla.els h (cs := (planA N ++ #[Value.slice g0 n c]).toList) (by rw [Array.toArray_toList]; exact hrow) (plan_nopair N g0 n c)
      refine ⟨A, cap, hla.fr hf (kinds_ne hla.cell hrow (by decide)) (fun h ad e => hne h ad e), fun h ad e => ⟨hne h ad e, ?_⟩⟩
      have := hla.alt h e
      omega
    · simp at hp
def lostB (ls : List (List Itm)) (zs : List Itm) : Bool := decide (errL zs = 0) && decide (isoL zs ∈ ls)
def LostRes (bm g : Nat) (N : Int) (ls : List (List Itm)) (zs : List Itm) (w : World) (e : Ending) (w' : World) : Prop := ∃ g', e = .returned (.bool (lostB ls zs)) ∧ ModelAt w' bm g' N (if lostB ls zs = true then [isoL zs] else ls) ∧ (g' = g ∨ w.heap.size ≤ g') ∧ Fr (fun k => k = bm) w w'
set_option maxHeartbeats 2000000 in
set_option maxRecDepth 100000 in
theorem lost_any (bm g : Nat) (N : Int) (ls : List (List Itm)) (A : Option Addr) (cap : Nat) (zs : List Itm) (w : World) (h : ModelAt w bm g N ls) (hel : Elems w A 2 (zs.map Itm.cells)) (hzl : zs.length ≤ 70000) (hn : ls.length ≤ 90000) (hb : ∀ l ∈ ls, l.length ≤ 80000) :
    Calls Tryz.prog 14 #[.pointer (some ⟨bm, 0, none⟩), .slice A zs.length cap] w (LostRes bm g N ls zs w) := by
  have hof := leafOf_any A cap zs w hel (by omega)
  by_cases he : errL zs = 0
  · obtain ⟨R, hR⟩ : ∃ R, lostB ls zs = R := ⟨_, rfl⟩
    have hR2 : R = decide (isoL zs ∈ ls) := by rw [← hR]; unfold lostB; rw [decide_eq_true he, Bool.true_and]
    have hil : (isoL zs).length ≤ 70000 := by
      have := iso_len_le zs [] trivial
      simp only [List.length_nil] at this
      show (isoA [] zs).length ≤ _
      omega
    obtain ⟨off, n, cap0, ps, hrow, hra, hps, hlv⟩ := h.row
    have hlr := hra.len
    have hle := hra.le
    have c7 : w.cell? ⟨bm, 7, none⟩ = some (.slice (some ⟨g, off, none⟩) n cap0) := by rw [Lib.cell_of_heap hrow]; rfl
    have hbl := lt_of_row hrow
    have hls := fun W p1 c1 A1 l1 p2 c2 A2 (h1 : LeafAt W p1 A1 c1 l1) (h2 : LeafAt W p2 A2 c2 (isoL zs)) (n1 : l1.length ≤ 80000) => leafSame_any p1 c1 p2 c2 A1 A2 l1 (isoL zs) W h1 h2 n1 (by omega)
    have hfin1 : ∀ W W2 b1 A1 c1, R = true → Below w.heap.size w W → LeafAt W b1 A1 c1 (isoL zs) → W2 = (W.setCell ⟨bm, 7, none⟩ (.slice (some ⟨W.heap.size, 0, none⟩) 1 1)).alloc (.cells #[.pointer (some ⟨b1, 0, none⟩)] 98) → LostRes bm g N ls zs w (.returned (.bool R)) W2 := by
      intro W W2 b1 A1 c1 h1 h2 h3 h4
      subst h4
      have hrw := box_below hrow h2
      refine ⟨W.heap.size, by rw [hR], ?_, .inr h2.size, (Fr.of_below h2).trans (((Fr.refl (fun k => k = bm) W).setCell (p := ⟨bm, 7, none⟩) (fun _ => rfl) _).alloc _) (fun i _ e => e)⟩
      rw [hR, h1, if_pos rfl]
      exact model_only hrw h3
    have hfin0 : ∀ W, R = false → Below w.heap.size w W → LostRes bm g N ls zs w (.returned (.bool R)) W := by
      intro W h1 h2
      refine ⟨g, by rw [hR], ?_, .inl rfl, Fr.of_below h2⟩
      rw [hR, h1, if_neg (by decide)]
      exact h.below h2
    have hnn : n ≤ 90000 := by omega
    unfold OfRes at hof
    generalize isoL zs = L at *
    have HOF := Lib.hid hof
    have HROW := Lib.hid hrow
    have HRA := Lib.hid hra
    have HLV := Lib.hid hlv
    have HLS := Lib.hid hls
    have HF1 := Lib.hid hfin1
    have HF0 := Lib.hid hfin0
    have HR2 := Lib.hid hR2
    have HPS := Lib.hid hps
    have HLR := Lib.hid hlr
    have HBB := Lib.hid hb
    have HE := Lib.hid he
    clear hof h hel hrow hra hlv hls hfin1 hfin0 hR hR2 hb he hil hps hlr
    go_enter Tryz.func14, Tryz.ntmps14
    go_wp2_with (go_at_call 52; (with_reducible refine HOF.out.mono ?_); rintro e w1 ⟨hb1, h1⟩; rcases h1 with ⟨hne, _⟩ | ⟨_, b1, A1, c1, rfl, hla1, hle1⟩; exact absurd HE.out hne; have hc7 := keep_cell hb1 hbl c7; have hbl1 := keep_lt hb1 hbl; have HL1 := Lib.hid hla1; have HB1 := Lib.hid hb1; clear hb1 hla1)
    go_loopw [25, 8] (fun i _ wr => ∃ k : Nat, i = .int .i64 k ∧ k ≤ n ∧ (∀ (j : Nat) (l : List Itm), j < k → ls[j]? = some l → l ≠ L) ∧ Below w1.heap.size w1 wr) (fun i _ _ => n + 1 - (intOf i).toNat)
    case atStart => exact ⟨0, rfl, Nat.zero_le _, fun j l hj => by omega, Below.refl _ _⟩
    case round =>
      obtain ⟨k, rfl, hk, hno, hbel⟩ := hrel
      have hbw := below_next HB1.out hbel
      by_cases hkl : k < n
      · have hkI : (k : Int) < (n : Int) := by omega
        obtain ⟨p, hp⟩ := get_lt (l := ps) (i := k) (by have := HLR.out; omega)
        obtain ⟨l, hl⟩ := get_lt (l := ls) (i := k) (by have := HLR.out; have := HPS.out; omega)
        obtain ⟨A2, c2, hla2, _⟩ := HLV.out k p l hp hl
        have hpc : wr.cell? ⟨g, off + k, none⟩ = some (.pointer (some ⟨p, 0, none⟩)) := ((HRA.out.fr (Fr.of_below (S := fun _ => False) hbw) id).cell hp)
        have hgl : g < wr.heap.size := (HRA.out.fr (Fr.of_below (S := fun _ => False) hbw) id).lt
        have hsame := HLS.out wr p c2 A2 l b1 c1 A1 (hla2.below hbw) (HL1.out.below hbel) (HBB.out l (List.mem_of_getElem? hl))
        have hmem := List.mem_of_getElem? hl
        have HNO := Lib.hid hno
        have HBW := Lib.hid hbw
        have HBE := Lib.hid hbel
        have HLE := Lib.hid hl
        have HME := Lib.hid hmem
        clear hno hbw hbel hl hla2 hp hmem
        by_cases e : l = L
        · rw [decide_eq_true e] at hsame
          have HSM := Lib.hid hsame
          have hRt : R = true := by rw [HR2.out]; exact decide_eq_true (by rw [← e]; exact HME.out)
          have HRT := Lib.hid hRt
          subst hRt
          clear hsame e
          go_wp2_with (go_at_call 53; (with_reducible refine HSM.out.mono ?_); rintro e w4 ⟨rfl, hb4⟩; have hbw4 := below_next HBW.out hb4; have z7 := keep_cell hbw4 hbl c7; have y7 := Lib.frozen_of_heap (box_below HROW.out hbw4) 7; have hbl4 := keep_lt hbw4 hbl; have HL4 := Lib.hid (HL1.out.below (below_next HBE.out hb4)); have HB4 := Lib.hid hbw4; clear hbw4 hb4)
          go_ret
          exact HF1.out w4 _ b1 A1 c1 (by first | trivial | rfl) HB4.out HL4.out rfl
        · rw [decide_eq_false e] at hsame
          have HSM := Lib.hid hsame
          have HNE := Lib.hid (show ∀ (j : Nat) (l : List Itm), j < k + 1 → ls[j]? = some l → l ≠ L from fun j l' hj hl' => by
            by_cases ej : j = k
            · subst ej
              have := HLE.out
              rw [hl'] at this
              cases this
              exact e
            · exact HNO.out j l' (by omega) hl')
          clear hsame e
          go_wp2_with (go_at_call 53; (with_reducible refine HSM.out.mono ?_); rintro e w4 ⟨rfl, hb4⟩; have HB4 := Lib.hid (below_next HBE.out hb4); clear hb4)
          refine ⟨⟨k + 1, by go_num, by omega, HNE.out, HB4.out⟩, ?_⟩
          simp [intOf]
          omega
      · obtain rfl : k = n := by omega
        have hRf : R = false := by
          rw [HR2.out]
          refine decide_eq_false (fun hm => ?_)
          obtain ⟨j, hj⟩ := List.getElem?_of_mem hm
          have hjl := (List.getElem?_eq_some_iff.1 hj).1
          exact hno j L (by have := HLR.out; have := HPS.out; omega) hj rfl
        have HFF := Lib.hid (HF0.out _ hRf hbw)
        subst hRf
        clear hno hbw hbel
        go_wp2
        go_ret
        exact HFF.out
  · have hR : lostB ls zs = false := by unfold lostB; rw [decide_eq_false he]; rfl
    have hfin : ∀ W, Below w.heap.size w W → LostRes bm g N ls zs w (.returned (.bool false)) W := fun W hW => ⟨g, by rw [hR], by rw [hR, if_neg (by decide)]; exact h.below hW, .inl rfl, Fr.of_below hW⟩
    have HOF := Lib.hid hof
    have HF := Lib.hid hfin
    have HE := Lib.hid he
    clear hof h hel hR hfin hb
    go_enter Tryz.func14, Tryz.ntmps14
    go_wp2_with (go_at_call 52; (with_reducible refine HOF.out.mono ?_); rintro e w1 ⟨hb1, h1⟩; rcases h1 with ⟨hne, rfl⟩ | ⟨h0, _⟩; rotate_left; exact absurd h0 HE.out; have hne2 : (errL zs != 0) = true := (by simp [hne]); have HB1 := Lib.hid hb1; clear hb1 he hne)
    go_ret
    exact HF.out _ HB1.out
end Go.Proofs.YtdfgdnaejnngoaaGreat
namespace Go.Proofs.YtdfgdnaejnngoaaGreat
open Go.RowKit
/-! grangerlaw26.begun; a deed of the model, for the laws. -/
theorem results_cell3 {P : Program} {fn : Func} {tmps : Array Value} {a c : Tmp} {t : TypeId} {ad : Addr} {v x : Value} {w : World} (hf : fn.results = #[.tmp c, .cell a t]) (hp : tmps.getD a undef = .pointer (some ad)) (hl : (loadVar t ad).run P w = .ok v w) (hx : tmps.getD c undef = x) : (results fn tmps).run P w = .ok (.tuple #[x, v]) w := by
  unfold results
  rw [hf]
  have hp2 : tmps[a]?.getD undef = .pointer (some ad) := by simpa using hp
  have hx2 : tmps[c]?.getD undef = x := by simpa using hx
  simp [hp2, hl, hx2, asAddr]
theorem plan_size : (Tryz.prog.info? 26).map (·.size) = some 7 := by kernel_rfl
theorem plan_all (a b c d e f g : Int) : ([.int .i64 a, .int .i64 b, .int .i64 c, .int .i64 d, .int .i64 e, .int .i64 f, .int .i64 g] : List Value).all (·.oneCell') = true := rfl
abbrev ZBox (s : Nat) (w : World) : Prop := w.heap[s]? = some (.cells #[.int .i64 0, .int .i64 0, .int .i64 0, .int .i64 0, .int .i64 0, .int .i64 0, .int .i64 0] 26 (0, 0))
set_option maxHeartbeats 1000000 in
set_option maxRecDepth 100000 in
theorem begun_ok (N : Int) (w : World) (h1 : 64 ≤ N) (h2 : N ≤ 512) : Calls Tryz.prog 11 #[.int .i64 N] w fun e w' => ∃ bm g, e = .returned (.tuple #[.pointer (some ⟨bm, 0, none⟩), .agg (planA N)]) ∧ ModelAt w' bm g N [[]] ∧ w.heap.size ≤ bm ∧ w.heap.size ≤ g ∧ Below w.heap.size w w' := by
  have hc := fun W => capaOf_ok N W (by omega) (by omega)
  have hnw := fun W => new_ok N W h1 h2
  rw [planA_def] at hc hnw ⊢
  have HC := Lib.hid hc
  have HNW := Lib.hid hnw
  have HMS := Lib.hid plan_size
  clear hc hnw
  go_enter Tryz.func11, Tryz.ntmps11
  go_wp2_with (go_at_call 21; (with_reducible refine (HC.out _).mono ?_); rintro e w1 ⟨rfl, hb1⟩; have HBS := Lib.hid (show ZBox w.heap.size w1 from box_cells hb1); have HB1 := Lib.hid (below_next (below_alloc (Below.refl _ w)) hb1); clear hb1)
  have hs0 : w.heap.size < w1.heap.size := lt_of_row HBS.out
  have hbs : ZBox w.heap.size (w1.alloc (.cells #[.int .i64 N, .int .i64 (pLog N), .int .i64 (2 + pLog N), .int .i64 (pData N), .int .i64 (pHalf N), .int .i64 (pLeaves N), .int .i64 (pCap N)] 26)) := ((Fr.refl (fun _ => False) w1).alloc _).row id HBS.out
  have hbx : (w1.alloc (.cells #[.int .i64 N, .int .i64 (pLog N), .int .i64 (2 + pLog N), .int .i64 (pData N), .int .i64 (pHalf N), .int .i64 (pLeaves N), .int .i64 (pCap N)] 26)).heap[w1.heap.size]? = some (.cells #[.int .i64 N, .int .i64 (pLog N), .int .i64 (2 + pLog N), .int .i64 (pData N), .int .i64 (pHalf N), .int .i64 (pLeaves N), .int .i64 (pCap N)] 26 (0, 0)) := heap_alloc_new w1 _
  have hb0 := below_alloc (o := .cells #[.int .i64 N, .int .i64 (pLog N), .int .i64 (2 + pLog N), .int .i64 (pData N), .int .i64 (pHalf N), .int .i64 (pLeaves N), .int .i64 (pCap N)] 26) HB1.out
  generalize w1.alloc (.cells #[.int .i64 N, .int .i64 (pLog N), .int .i64 (2 + pLog N), .int .i64 (pData N), .int .i64 (pHalf N), .int .i64 (pLeaves N), .int .i64 (pCap N)] 26) = W0 at *
  obtain ⟨z0, z1, z2, z3, z4, z5, z6⟩ : W0.cell? ⟨w1.heap.size, 0, none⟩ = some (.int .i64 N) ∧ W0.cell? ⟨w1.heap.size, 1, none⟩ = some (.int .i64 (pLog N)) ∧ W0.cell? ⟨w1.heap.size, 2, none⟩ = some (.int .i64 (2 + pLog N)) ∧ W0.cell? ⟨w1.heap.size, 3, none⟩ = some (.int .i64 (pData N)) ∧ W0.cell? ⟨w1.heap.size, 4, none⟩ = some (.int .i64 (pHalf N)) ∧ W0.cell? ⟨w1.heap.size, 5, none⟩ = some (.int .i64 (pLeaves N)) ∧ W0.cell? ⟨w1.heap.size, 6, none⟩ = some (.int .i64 (pCap N)) := by refine ⟨?_, ?_, ?_, ?_, ?_, ?_, ?_⟩ <;> (rw [Lib.cell_of_heap hbx]; rfl)
  have hxl := lt_of_row hbx
  have HBS0 := Lib.hid hbs
  have HB0 := Lib.hid hb0
  clear hbx hbs hb0
  refine rg_start (n := 5) (fun w' => w'.cell? ⟨w1.heap.size, 0, none⟩ = some (.int .i64 N) ∧ w'.cell? ⟨w1.heap.size, 1, none⟩ = some (.int .i64 (pLog N)) ∧ w'.cell? ⟨w1.heap.size, 2, none⟩ = some (.int .i64 (2 + pLog N)) ∧ w'.cell? ⟨w1.heap.size, 3, none⟩ = some (.int .i64 (pData N)) ∧ w'.cell? ⟨w1.heap.size, 4, none⟩ = some (.int .i64 (pHalf N)) ∧ w'.cell? ⟨w1.heap.size, 5, none⟩ = some (.int .i64 (pLeaves N)) ∧ w'.cell? ⟨w1.heap.size, 6, none⟩ = some (.int .i64 (pCap N)) ∧ w1.heap.size < w'.heap.size) #[false, false, false, false, false] (by kernel_rfl) rfl rfl ⟨z0, z1, z2, z3, z4, z5, z6, hxl⟩ (fun hHeld => ?_)
  refine rg_take (i := 0) (N := (some 11)) (v := ?_) (a' := ?_) #[true, false, false, false, false] rfl rfl (by kernel_rfl) (fun _ _ _ h => h) (by rfl) ?_ hHeld ?_ ?_
  rotate_left 2
  · rintro w' ⟨s0, s1, s2, s3, s4, s5, s6, s7⟩
    go_simp
    try with_reducible rfl
  · simp only [Act.put, List.setIfInBounds_toArray, List.set_cons_zero, List.set_cons_succ]
    rfl
  refine rg_take (i := 2) (N := (some 13)) (v := ?_) (a' := ?_) #[true, false, true, false, false] rfl rfl (by kernel_rfl) (fun _ _ _ h => h) (by rfl) ?_ hHeld ?_ ?_
  rotate_left 2
  · rintro w' ⟨s0, s1, s2, s3, s4, s5, s6, s7⟩
    go_simp
    try with_reducible rfl
  · simp only [Act.put, List.setIfInBounds_toArray, List.set_cons_zero, List.set_cons_succ]
    rfl
  refine rg_one (i := 1) #[true, true, true, false, false] rfl (by kernel_rfl) (by rfl) (fun K hK => ?_)
  obtain ⟨s0, s1, s2, s3, s4, s5, s6, s7⟩ := hHeld
  repeat go_step
  ((with_reducible refine (HNW.out _).mono ?_); rintro e w2 ⟨bm, g, rfl, hm2, hbm2, hg2, hb2⟩; have hbs2 : ZBox w.heap.size w2 := box_below (w := W0.drew) HBS0.out hb2; have hb2w := below_next HB0.out.drew hb2; have hs2 := HB0.out.size)
  try dsimp only
  refine hK.out _ _ ?_ (fun hHeld => ?_)
  · exact ⟨keep_cell hb2 s7 s0, keep_cell hb2 s7 s1, keep_cell hb2 s7 s2, keep_cell hb2 s7 s3, keep_cell hb2 s7 s4, keep_cell hb2 s7 s5, keep_cell hb2 s7 s6, keep_lt hb2 s7⟩
  clear hK K
  clear s0 s1 s2 s3 s4 s5 s6 s7
  refine rg_take (i := 3) (N := (some 2)) (v := ?_) (a' := ?_) #[true, true, true, true, false] rfl rfl (by kernel_rfl) (fun _ _ _ h => h) (by rfl) ?_ hHeld ?_ ?_
  rotate_left 2
  · rintro w' ⟨s0, s1, s2, s3, s4, s5, s6, s7⟩
    go_simp
    try with_reducible rfl
  · simp only [Act.put, List.setIfInBounds_toArray, List.set_cons_zero, List.set_cons_succ]
    rfl
  refine rg_one (i := 4) #[true, true, true, true, true] rfl (by kernel_rfl) (by rfl) (fun K hK => ?_)
  obtain ⟨s0, s1, s2, s3, s4, s5, s6, s7⟩ := hHeld
  (refine oper_store_row 26 (Operand.tmp 3) (Operand.tmp 13) rfl w.heap.size _ [.int .i64 N, .int .i64 (pLog N), .int .i64 (2 + pLog N), .int .i64 (pData N), .int .i64 (pHalf N), .int .i64 (pLeaves N), .int .i64 (pCap N)] _ rfl rfl hbs2 rfl HMS.out (plan_all _ _ _ _ _ _ _) ?_; intro w3 hr3 hf3; simp only [Act.put])
  repeat go_step
  refine hK.out _ _ ?_ (fun hHeld => ?_)
  · exact ⟨hf3.cell s7 (by omega) s0, hf3.cell s7 (by omega) s1, hf3.cell s7 (by omega) s2, hf3.cell s7 (by omega) s3, hf3.cell s7 (by omega) s4, hf3.cell s7 (by omega) s5, hf3.cell s7 (by omega) s6, Nat.lt_of_lt_of_le s7 hf3.size⟩
  clear hK K
  clear s0 s1 s2 s3 s4 s5 s6 s7
  refine rg_done (by kernel_rfl) ?_
  have hm3 := model_other (cs := [.int .i64 0, .int .i64 0, .int .i64 0, .int .i64 0, .int .i64 0, .int .i64 0, .int .i64 0]) hm2 hbs2 (by decide) (by decide) (by decide) (fun i a b h1 h2 => by rcases i with _ | _ | _ | _ | _ | _ | _ | i <;> simp at h1) hf3
  have HM3 := Lib.hid hm3
  have HR3 := Lib.hid hr3
  have HB3 := Lib.hid (hb2w.trans (hf3.to_below hb2w.size (fun i hi e => by omega)))
  have HG2 := Lib.hid hg2
  have HBM2 := Lib.hid hbm2
  have HS2 := Lib.hid hs2
  clear hm2 hbs2 hb2 hb2w hr3 hf3 hm3 hHeld hg2 hbm2 hs2
  go_wp2
  refine bodyPost_ret (v := .tuple #[.pointer (some ⟨bm, 0, none⟩), .agg #[.int .i64 N, .int .i64 (pLog N), .int .i64 (2 + pLog N), .int .i64 (pData N), .int .i64 (pHalf N), .int .i64 (pLeaves N), .int .i64 (pCap N)]]) (results_cell3 (a := 3) (c := 2) (t := 26) (ad := ⟨w.heap.size, 0, none⟩) Tryz.results11 rfl (load_row _ HR3.out _ Tryz.underlying26 rfl HMS.out) rfl) rfl ⟨bm, g, rfl, HM3.out, Nat.le_trans HS2.out HBM2.out, Nat.le_trans HS2.out HG2.out, HB3.out⟩
theorem model_keeps {w w' : World} {bm g q : Nat} {N : Int} {ls : List (List Itm)} {cs : Array Value} {T : TypeId} (h : ModelAt w bm g N ls) (hq : w.heap[q]? = some (.cells cs T (0, 0))) (h1 : 102 ≠ T) (h2 : 98 ≠ T) (hf : Fr (fun k => k = bm ∨ k = g) w w') : w'.heap[q]? = some (.cells cs T (0, 0)) := by
  obtain ⟨off, n, cap, ps, hrow, hra, _⟩ := h.row
  obtain ⟨cur, hgr, _⟩ := hra.blk
  refine hf.row ?_ hq
  rintro (e | e)
  · exact kinds_ne hrow hq h1 e.symm
  · exact kinds_ne hgr hq h2 e.symm
/-- a deed: its error, whether it has something, the rows -/
theorem do_step (B bm g : Nat) (N : Int) (ls : List (List Itm)) (l : List Itm) (o : Ord) (w : World) (hB : B ≤ w.heap.size) (hbm : B ≤ bm) (hg : B ≤ g) (h : ModelAt w bm g N ls) (hl : ls[ls.length - 1]? = some l) (hn : ls.length ≤ 90000) (hln : l.length ≤ 60000) (h0 : 0 ≤ o.n) (h1 : o.n < 18446744073709551616) :
    Calls Tryz.prog 12 #[.pointer (some ⟨bm, 0, none⟩), o.v] w fun e w' => ∃ (val : ByteArray) (A : Option Addr) (k c : Nat) (x y : Int) (g' : Nat), e = .returned (.agg #[.int .i64 (errO (pCap N) l o), .bool (ansO (pCap N) l o).2.1, .string val, .slice A k c, .int .i64 x, .int .i64 y, .int .i64 0, .int .i64 0, .int .i64 0, .int .i64 0, .int .i64 0, .int .i64 0, .int .i64 0]) ∧ ModelAt w' bm g' N (rowsO (pCap N) ls l o) ∧ B ≤ g' ∧ Below B w w' ∧ Fr (fun k => k = bm ∨ k = g) w w' := by
  refine (mdlDo_any bm g N ls l o w h hl hn hln h0 h1).mono ?_
  rintro e w' ⟨A, k, c, rfl, _, g', hm, hg', hf⟩
  exact ⟨_, A, k, c, _, _, g', by rw [← ansO_err]; rfl, hm, by omega, hf.to_below hB (fun i hi e => by omega), hf⟩
end Go.Proofs.YtdfgdnaejnngoaaGreat
namespace Go.Proofs.YtdfgdnaejnngoaaGreat
open Go.RowKit
/-! grangerlaw26.awake. -/
theorem ro1 : rowsO 4084 ([[]] : List (List Itm)) ([] : List Itm) ⟨1, ⟨#[97]⟩, ⟨#[]⟩, 0, ⟨#[]⟩, ⟨#[]⟩⟩ = [[], [(⟨⟨#[97]⟩, ⟨#[]⟩⟩ : Itm)]] := by kernel_rfl
theorem ro2 : rowsO 4084 ([[], [(⟨⟨#[97]⟩, ⟨#[]⟩⟩ : Itm)]] : List (List Itm)) [(⟨⟨#[97]⟩, ⟨#[]⟩⟩ : Itm)] ⟨6, ⟨#[]⟩, ⟨#[]⟩, 0, ⟨#[]⟩, ⟨#[]⟩⟩ = [[(⟨⟨#[97]⟩, ⟨#[]⟩⟩ : Itm)]] := by kernel_rfl
theorem ro3 : rowsO 4084 ([[(⟨⟨#[97]⟩, ⟨#[]⟩⟩ : Itm)]] : List (List Itm)) [(⟨⟨#[97]⟩, ⟨#[]⟩⟩ : Itm)] ⟨1, ⟨#[98]⟩, ⟨#[]⟩, 0, ⟨#[]⟩, ⟨#[]⟩⟩ = [[(⟨⟨#[97]⟩, ⟨#[]⟩⟩ : Itm)], [(⟨⟨#[97]⟩, ⟨#[]⟩⟩ : Itm), (⟨⟨#[98]⟩, ⟨#[]⟩⟩ : Itm)]] := by
  have h1 : rowsO 4084 ([[(⟨⟨#[97]⟩, ⟨#[]⟩⟩ : Itm)]] : List (List Itm)) [(⟨⟨#[97]⟩, ⟨#[]⟩⟩ : Itm)] ⟨1, ⟨#[98]⟩, ⟨#[]⟩, 0, ⟨#[]⟩, ⟨#[]⟩⟩ = if (decide (errO 4084 [(⟨⟨#[97]⟩, ⟨#[]⟩⟩ : Itm)] ⟨1, ⟨#[98]⟩, ⟨#[]⟩, 0, ⟨#[]⟩, ⟨#[]⟩⟩ = 0) && true) = true then [[(⟨⟨#[97]⟩, ⟨#[]⟩⟩ : Itm)]] ++ [stepI [(⟨⟨#[97]⟩, ⟨#[]⟩⟩ : Itm)] ⟨1, ⟨#[98]⟩, ⟨#[]⟩, 0, ⟨#[]⟩, ⟨#[]⟩⟩] else [[(⟨⟨#[97]⟩, ⟨#[]⟩⟩ : Itm)]] := by kernel_rfl
  rw [h1, er2, st2]
  rfl
theorem ro4 : rowsO 4084 ([[(⟨⟨#[97]⟩, ⟨#[]⟩⟩ : Itm)], [(⟨⟨#[97]⟩, ⟨#[]⟩⟩ : Itm), (⟨⟨#[98]⟩, ⟨#[]⟩⟩ : Itm)]] : List (List Itm)) [(⟨⟨#[97]⟩, ⟨#[]⟩⟩ : Itm), (⟨⟨#[98]⟩, ⟨#[]⟩⟩ : Itm)] ⟨4, ⟨#[98]⟩, ⟨#[]⟩, 0, ⟨#[]⟩, ⟨#[]⟩⟩ = [[(⟨⟨#[97]⟩, ⟨#[]⟩⟩ : Itm)], [(⟨⟨#[97]⟩, ⟨#[]⟩⟩ : Itm), (⟨⟨#[98]⟩, ⟨#[]⟩⟩ : Itm)]] := by kernel_rfl
theorem erS : errO 4084 [(⟨⟨#[97]⟩, ⟨#[]⟩⟩ : Itm)] ⟨6, ⟨#[]⟩, ⟨#[]⟩, 0, ⟨#[]⟩, ⟨#[]⟩⟩ = 0 := by kernel_rfl
theorem erG : errO 4084 [(⟨⟨#[97]⟩, ⟨#[]⟩⟩ : Itm), (⟨⟨#[98]⟩, ⟨#[]⟩⟩ : Itm)] ⟨4, ⟨#[98]⟩, ⟨#[]⟩, 0, ⟨#[]⟩, ⟨#[]⟩⟩ = 0 := by kernel_rfl
theorem ha1 : (ansO 4084 ([] : List Itm) ⟨1, ⟨#[97]⟩, ⟨#[]⟩, 0, ⟨#[]⟩, ⟨#[]⟩⟩).2.1 = false := by kernel_rfl
theorem ha2 : (ansO 4084 [(⟨⟨#[97]⟩, ⟨#[]⟩⟩ : Itm)] ⟨6, ⟨#[]⟩, ⟨#[]⟩, 0, ⟨#[]⟩, ⟨#[]⟩⟩).2.1 = false := by kernel_rfl
theorem ha3 : (ansO 4084 [(⟨⟨#[97]⟩, ⟨#[]⟩⟩ : Itm)] ⟨1, ⟨#[98]⟩, ⟨#[]⟩, 0, ⟨#[]⟩, ⟨#[]⟩⟩).2.1 = false := by kernel_rfl
theorem ha4 : (ansO 4084 [(⟨⟨#[97]⟩, ⟨#[]⟩⟩ : Itm), (⟨⟨#[98]⟩, ⟨#[]⟩⟩ : Itm)] ⟨4, ⟨#[98]⟩, ⟨#[]⟩, 0, ⟨#[]⟩, ⟨#[]⟩⟩).2.1 = true := by kernel_rfl
theorem lo1 : lostB ([[(⟨⟨#[97]⟩, ⟨#[]⟩⟩ : Itm)], [(⟨⟨#[97]⟩, ⟨#[]⟩⟩ : Itm), (⟨⟨#[98]⟩, ⟨#[]⟩⟩ : Itm)]] : List (List Itm)) [(⟨⟨#[98]⟩, ⟨#[]⟩⟩ : Itm)] = false := by kernel_rfl
theorem lo2 : lostB ([[(⟨⟨#[97]⟩, ⟨#[]⟩⟩ : Itm)], [(⟨⟨#[97]⟩, ⟨#[]⟩⟩ : Itm), (⟨⟨#[98]⟩, ⟨#[]⟩⟩ : Itm)]] : List (List Itm)) [(⟨⟨#[97]⟩, ⟨#[]⟩⟩ : Itm)] = true := by kernel_rfl
theorem is1 : isoL [(⟨⟨#[97]⟩, ⟨#[]⟩⟩ : Itm)] = [(⟨⟨#[97]⟩, ⟨#[]⟩⟩ : Itm)] := by kernel_rfl
theorem sw3 : sumW [(⟨⟨#[97]⟩, ⟨#[]⟩⟩ : Itm), (⟨⟨#[98]⟩, ⟨#[]⟩⟩ : Itm)] = 6 := by kernel_rfl
set_option maxHeartbeats 4000000 in
set_option maxRecDepth 100000 in
theorem awake26_any (w : World) : Calls Tryz.prog 10 #[] w fun e w' => e = .returned (.bool true) ∧ Below w.heap.size w w' := by
  have hbg := fun W => begun_ok 64 W (by decide) (by decide)
  have p64 : planA 64 = #[.int .i64 64, .int .i64 8, .int .i64 10, .int .i64 54, .int .i64 26, .int .i64 19, .int .i64 4084] := by kernel_rfl
  rw [p64] at hbg
  have hnb := fun W => new_bad ⟨0, 0, 0, 0, 0, 0, 0⟩ W (by kernel_rfl)
  rw [Pl.v_def] at hnb
  dsimp only at hnb
  have hd1 : ∀ (bm g : Nat) (W : World), w.heap.size ≤ W.heap.size → w.heap.size ≤ bm → w.heap.size ≤ g → ModelAt W bm g 64 ([[]] : List (List Itm)) → Calls Tryz.prog 12 #[.pointer (some ⟨bm, 0, none⟩), .agg #[.int .i64 1, .string ⟨#[97]⟩, .string ⟨#[]⟩, .int .u64 0, .string ⟨#[]⟩, .string ⟨#[]⟩]] W fun e w' => ∃ (val : ByteArray) (A : Option Addr) (k c : Nat) (x y : Int) (g' : Nat), e = .returned (.agg #[.int .i64 0, .bool false, .string val, .slice A k c, .int .i64 x, .int .i64 y, .int .i64 0, .int .i64 0, .int .i64 0, .int .i64 0, .int .i64 0, .int .i64 0, .int .i64 0]) ∧ ModelAt w' bm g' 64 ([[], [(⟨⟨#[97]⟩, ⟨#[]⟩⟩ : Itm)]] : List (List Itm)) ∧ w.heap.size ≤ g' ∧ Below w.heap.size W w' ∧ Fr (fun k => k = bm ∨ k = g) W w' := fun bm g W hW hb hg hm => by
    have := do_step w.heap.size bm g 64 ([[]] : List (List Itm)) ([] : List Itm) ⟨1, ⟨#[97]⟩, ⟨#[]⟩, 0, ⟨#[]⟩, ⟨#[]⟩⟩ W hW hb hg hm rfl (by decide) (by decide) (by decide) (by decide)
    rw [cap64, er1, ro1, ha1] at this
    exact this
  have hd2 : ∀ (bm g : Nat) (W : World), w.heap.size ≤ W.heap.size → w.heap.size ≤ bm → w.heap.size ≤ g → ModelAt W bm g 64 ([[], [(⟨⟨#[97]⟩, ⟨#[]⟩⟩ : Itm)]] : List (List Itm)) → Calls Tryz.prog 12 #[.pointer (some ⟨bm, 0, none⟩), .agg #[.int .i64 6, .string ⟨#[]⟩, .string ⟨#[]⟩, .int .u64 0, .string ⟨#[]⟩, .string ⟨#[]⟩]] W fun e w' => ∃ (val : ByteArray) (A : Option Addr) (k c : Nat) (x y : Int) (g' : Nat), e = .returned (.agg #[.int .i64 0, .bool false, .string val, .slice A k c, .int .i64 x, .int .i64 y, .int .i64 0, .int .i64 0, .int .i64 0, .int .i64 0, .int .i64 0, .int .i64 0, .int .i64 0]) ∧ ModelAt w' bm g' 64 ([[(⟨⟨#[97]⟩, ⟨#[]⟩⟩ : Itm)]] : List (List Itm)) ∧ w.heap.size ≤ g' ∧ Below w.heap.size W w' ∧ Fr (fun k => k = bm ∨ k = g) W w' := fun bm g W hW hb hg hm => by
    have := do_step w.heap.size bm g 64 ([[], [(⟨⟨#[97]⟩, ⟨#[]⟩⟩ : Itm)]] : List (List Itm)) [(⟨⟨#[97]⟩, ⟨#[]⟩⟩ : Itm)] ⟨6, ⟨#[]⟩, ⟨#[]⟩, 0, ⟨#[]⟩, ⟨#[]⟩⟩ W hW hb hg hm rfl (by decide) (by decide) (by decide) (by decide)
    rw [cap64, erS, ro2, ha2] at this
    exact this
  have hd3 : ∀ (bm g : Nat) (W : World), w.heap.size ≤ W.heap.size → w.heap.size ≤ bm → w.heap.size ≤ g → ModelAt W bm g 64 ([[(⟨⟨#[97]⟩, ⟨#[]⟩⟩ : Itm)]] : List (List Itm)) → Calls Tryz.prog 12 #[.pointer (some ⟨bm, 0, none⟩), .agg #[.int .i64 1, .string ⟨#[98]⟩, .string ⟨#[]⟩, .int .u64 0, .string ⟨#[]⟩, .string ⟨#[]⟩]] W fun e w' => ∃ (val : ByteArray) (A : Option Addr) (k c : Nat) (x y : Int) (g' : Nat), e = .returned (.agg #[.int .i64 0, .bool false, .string val, .slice A k c, .int .i64 x, .int .i64 y, .int .i64 0, .int .i64 0, .int .i64 0, .int .i64 0, .int .i64 0, .int .i64 0, .int .i64 0]) ∧ ModelAt w' bm g' 64 ([[(⟨⟨#[97]⟩, ⟨#[]⟩⟩ : Itm)], [(⟨⟨#[97]⟩, ⟨#[]⟩⟩ : Itm), (⟨⟨#[98]⟩, ⟨#[]⟩⟩ : Itm)]] : List (List Itm)) ∧ w.heap.size ≤ g' ∧ Below w.heap.size W w' ∧ Fr (fun k => k = bm ∨ k = g) W w' := fun bm g W hW hb hg hm => by
    have := do_step w.heap.size bm g 64 ([[(⟨⟨#[97]⟩, ⟨#[]⟩⟩ : Itm)]] : List (List Itm)) [(⟨⟨#[97]⟩, ⟨#[]⟩⟩ : Itm)] ⟨1, ⟨#[98]⟩, ⟨#[]⟩, 0, ⟨#[]⟩, ⟨#[]⟩⟩ W hW hb hg hm rfl (by decide) (by decide) (by decide) (by decide)
    rw [cap64, er2, ro3, ha3] at this
    exact this
  have hd4 : ∀ (bm g : Nat) (W : World), w.heap.size ≤ W.heap.size → w.heap.size ≤ bm → w.heap.size ≤ g → ModelAt W bm g 64 ([[(⟨⟨#[97]⟩, ⟨#[]⟩⟩ : Itm)], [(⟨⟨#[97]⟩, ⟨#[]⟩⟩ : Itm), (⟨⟨#[98]⟩, ⟨#[]⟩⟩ : Itm)]] : List (List Itm)) → Calls Tryz.prog 12 #[.pointer (some ⟨bm, 0, none⟩), .agg #[.int .i64 4, .string ⟨#[98]⟩, .string ⟨#[]⟩, .int .u64 0, .string ⟨#[]⟩, .string ⟨#[]⟩]] W fun e w' => ∃ (val : ByteArray) (A : Option Addr) (k c : Nat) (x y : Int) (g' : Nat), e = .returned (.agg #[.int .i64 0, .bool true, .string val, .slice A k c, .int .i64 x, .int .i64 y, .int .i64 0, .int .i64 0, .int .i64 0, .int .i64 0, .int .i64 0, .int .i64 0, .int .i64 0]) ∧ ModelAt w' bm g' 64 ([[(⟨⟨#[97]⟩, ⟨#[]⟩⟩ : Itm)], [(⟨⟨#[97]⟩, ⟨#[]⟩⟩ : Itm), (⟨⟨#[98]⟩, ⟨#[]⟩⟩ : Itm)]] : List (List Itm)) ∧ w.heap.size ≤ g' ∧ Below w.heap.size W w' ∧ Fr (fun k => k = bm ∨ k = g) W w' := fun bm g W hW hb hg hm => by
    have := do_step w.heap.size bm g 64 ([[(⟨⟨#[97]⟩, ⟨#[]⟩⟩ : Itm)], [(⟨⟨#[97]⟩, ⟨#[]⟩⟩ : Itm), (⟨⟨#[98]⟩, ⟨#[]⟩⟩ : Itm)]] : List (List Itm)) [(⟨⟨#[97]⟩, ⟨#[]⟩⟩ : Itm), (⟨⟨#[98]⟩, ⟨#[]⟩⟩ : Itm)] ⟨4, ⟨#[98]⟩, ⟨#[]⟩, 0, ⟨#[]⟩, ⟨#[]⟩⟩ W hW hb hg hm rfl (by decide) (by decide) (by decide) (by decide)
    rw [cap64, erG, ro4, ha4] at this
    exact this
  have hl2 : ∀ bm g W, ModelAt W bm g 64 ([[(⟨⟨#[97]⟩, ⟨#[]⟩⟩ : Itm)], [(⟨⟨#[97]⟩, ⟨#[]⟩⟩ : Itm), (⟨⟨#[98]⟩, ⟨#[]⟩⟩ : Itm)]] : List (List Itm)) → Calls Tryz.prog 13 #[.pointer (some ⟨bm, 0, none⟩)] W fun e w' => e = .returned (.int .i64 1) ∧ Below W.heap.size W w' := fun bm g W hm => late_any bm g 64 _ W hm (by decide)
  have hl1 : ∀ bm g W, ModelAt W bm g 64 ([[(⟨⟨#[97]⟩, ⟨#[]⟩⟩ : Itm)]] : List (List Itm)) → Calls Tryz.prog 13 #[.pointer (some ⟨bm, 0, none⟩)] W fun e w' => e = .returned (.int .i64 0) ∧ Below W.heap.size W w' := fun bm g W hm => late_any bm g 64 _ W hm (by decide)
  have hwt : ∀ bm g W, ModelAt W bm g 64 ([[(⟨⟨#[97]⟩, ⟨#[]⟩⟩ : Itm)], [(⟨⟨#[97]⟩, ⟨#[]⟩⟩ : Itm), (⟨⟨#[98]⟩, ⟨#[]⟩⟩ : Itm)]] : List (List Itm)) → Calls Tryz.prog 17 #[.pointer (some ⟨bm, 0, none⟩)] W fun e w' => e = .returned (.int .i64 6) ∧ Below W.heap.size W w' := fun bm g W hm => by
    have := mweight_any bm g 64 _ [(⟨⟨#[97]⟩, ⟨#[]⟩⟩ : Itm), (⟨⟨#[98]⟩, ⟨#[]⟩⟩ : Itm)] W hm rfl (by decide)
    rw [sw3] at this
    exact this
  have hit : ∀ bm g W, ModelAt W bm g 64 ([[(⟨⟨#[97]⟩, ⟨#[]⟩⟩ : Itm)]] : List (List Itm)) → Calls Tryz.prog 15 #[.pointer (some ⟨bm, 0, none⟩)] W fun e w' => ∃ A c, e = .returned (.slice A 1 c) ∧ Below W.heap.size W w' := fun bm g W hm => by
    refine (mitems_any bm g 64 _ [(⟨⟨#[97]⟩, ⟨#[]⟩⟩ : Itm)] W hm rfl (by decide) (by decide)).mono ?_
    rintro e w' ⟨A, c, rfl, _, hb⟩
    exact ⟨A, c, rfl, hb⟩
  have hlb : ∀ (bm g : Nat) (W : World) (s : Nat), ModelAt W bm g 64 ([[(⟨⟨#[97]⟩, ⟨#[]⟩⟩ : Itm)], [(⟨⟨#[97]⟩, ⟨#[]⟩⟩ : Itm), (⟨⟨#[98]⟩, ⟨#[]⟩⟩ : Itm)]] : List (List Itm)) → W.heap[s]? = some (.cells #[.string ⟨#[98]⟩, .string ⟨#[]⟩] 41 (0, 0)) → Calls Tryz.prog 14 #[.pointer (some ⟨bm, 0, none⟩), .slice (some ⟨s, 0, none⟩) 1 1] W fun e w' => ∃ g', e = .returned (.bool false) ∧ ModelAt w' bm g' 64 ([[(⟨⟨#[97]⟩, ⟨#[]⟩⟩ : Itm)], [(⟨⟨#[97]⟩, ⟨#[]⟩⟩ : Itm), (⟨⟨#[98]⟩, ⟨#[]⟩⟩ : Itm)]] : List (List Itm)) ∧ (g' = g ∨ W.heap.size ≤ g') ∧ Fr (fun k => k = bm) W w' := fun bm g W s hm hs => by
    have := lost_any bm g 64 _ (some ⟨s, 0, none⟩) 1 [(⟨⟨#[98]⟩, ⟨#[]⟩⟩ : Itm)] W hm (Elems.of_block hs (fun r hr => by obtain ⟨v, _, rfl⟩ := List.mem_map.1 hr; rfl) rfl) (by decide) (by decide) (by decide)
    unfold LostRes at this
    rw [lo1, if_neg (by decide)] at this
    exact this
  have hla : ∀ (bm g : Nat) (W : World) (s : Nat), ModelAt W bm g 64 ([[(⟨⟨#[97]⟩, ⟨#[]⟩⟩ : Itm)], [(⟨⟨#[97]⟩, ⟨#[]⟩⟩ : Itm), (⟨⟨#[98]⟩, ⟨#[]⟩⟩ : Itm)]] : List (List Itm)) → W.heap[s]? = some (.cells #[.string ⟨#[97]⟩, .string ⟨#[]⟩] 41 (0, 0)) → Calls Tryz.prog 14 #[.pointer (some ⟨bm, 0, none⟩), .slice (some ⟨s, 0, none⟩) 1 1] W fun e w' => ∃ g', e = .returned (.bool true) ∧ ModelAt w' bm g' 64 ([[(⟨⟨#[97]⟩, ⟨#[]⟩⟩ : Itm)]] : List (List Itm)) ∧ (g' = g ∨ W.heap.size ≤ g') ∧ Fr (fun k => k = bm) W w' := fun bm g W s hm hs => by
    have := lost_any bm g 64 _ (some ⟨s, 0, none⟩) 1 [(⟨⟨#[97]⟩, ⟨#[]⟩⟩ : Itm)] W hm (Elems.of_block hs (fun r hr => by obtain ⟨v, _, rfl⟩ := List.mem_map.1 hr; rfl) rfl) (by decide) (by decide) (by decide)
    unfold LostRes at this
    rw [lo2, if_pos rfl, is1] at this
    exact this
  have HBG := Lib.hid hbg
  have HNB := Lib.hid hnb
  have HD1 := Lib.hid hd1
  have HD2 := Lib.hid hd2
  have HD3 := Lib.hid hd3
  have HD4 := Lib.hid hd4
  have HL2 := Lib.hid hl2
  have HL1 := Lib.hid hl1
  have HWT := Lib.hid hwt
  have HIT := Lib.hid hit
  have HLB := Lib.hid hlb
  have HLA := Lib.hid hla
  clear hbg hnb hd1 hd2 hd3 hd4 hl2 hl1 hwt hit hlb hla p64
  go_enter Tryz.func10, Tryz.ntmps10
  go_wp2_with (first
    | (go_at_call 15; (with_reducible refine (HIT.out bm g10 _ HM11.out).mono ?_); rintro e w12 ⟨A12, c12, rfl, hb12⟩; have HB12 := Lib.hid (below_next HB11.out hb12); clear hb12)
    | (go_at_call 13; (with_reducible refine (HL1.out bm g10 _ HM10.out).mono ?_); rintro e w11 ⟨rfl, hb11⟩; have HM11 := Lib.hid (HM10.out.below hb11); have HB11 := Lib.hid (below_next HB10.out hb11); clear hb11)
    | (go_at_call 14; (with_reducible refine (HLA.out bm g9 _ _ (HM9.out.below (below_alloc (Below.refl _ _))) (heap_alloc_new w9 _)).mono ?_); rintro e w10 ⟨g10, rfl, hm10, hg10, hf10⟩; have HM10 := Lib.hid hm10; have HB10 := Lib.hid ((below_alloc HB9.out).trans (hf10.to_below (below_alloc HB9.out).size (fun i hi e => by have := HBM.out; omega))); clear hm10 hg10 hf10)
    | (go_at_call 14; (with_reducible refine (HLB.out bm g6 _ _ (HM8.out.below (below_alloc (Below.refl _ _))) (heap_alloc_new w8 _)).mono ?_); rintro e w9 ⟨g9, rfl, hm9, hg9, hf9⟩; have HM9 := Lib.hid hm9; have HB9 := Lib.hid ((below_alloc HB8.out).trans (hf9.to_below (below_alloc HB8.out).size (fun i hi e => by have := HBM.out; omega))); clear hm9 hg9 hf9)
    | (go_at_call 17; (with_reducible refine (HWT.out bm g6 _ HM7.out).mono ?_); rintro e w8 ⟨rfl, hb8⟩; have HM8 := Lib.hid (HM7.out.below hb8); have HB8 := Lib.hid (below_next HB7.out hb8); clear hb8)
    | (go_at_call 13; (with_reducible refine (HL2.out bm g6 _ (HM6.out.below (below_alloc (Below.refl _ _)))).mono ?_); rintro e w7 ⟨rfl, hb7⟩; have HM7 := Lib.hid ((HM6.out.below (below_alloc (Below.refl _ _))).below hb7); have HB7 := Lib.hid (below_next (below_alloc HB6.out) hb7); clear hb7)
    | (go_at_call 12; (with_reducible refine (HD4.out bm g5 _ (below_alloc HB5.out).size HBM.out HG5.out (HM5.out.below (below_alloc (Below.refl _ _)))).mono ?_); rintro e w6 ⟨val6, A6, k6, c6, x6, y6, g6, rfl, hm6, hg6, hb6, hf6⟩; have hx6 : w6.heap[w3.heap.size]? = some (.cells #[.int .i64 0, .bool false, .string val3, .slice A3 k3 c3, .int .i64 x3, .int .i64 y3, .int .i64 0, .int .i64 0, .int .i64 0, .int .i64 0, .int .i64 0, .int .i64 0, .int .i64 0] 35 (0, 0)) := model_keeps (HM5.out.below (below_alloc (Below.refl _ _))) (((Fr.refl (fun _ => False) w5).alloc _).row id HX5.out) (by decide) (by decide) hf6; have hy6 : w6.heap[w5.heap.size]? = some (.cells #[.int .i64 0, .bool false, .string val5, .slice A5 k5 c5, .int .i64 x5, .int .i64 y5, .int .i64 0, .int .i64 0, .int .i64 0, .int .i64 0, .int .i64 0, .int .i64 0, .int .i64 0] 35 (0, 0)) := model_keeps (HM5.out.below (below_alloc (Below.refl _ _))) (heap_alloc_new w5 _) (by decide) (by decide) hf6; have u0 : w6.cell? ⟨w3.heap.size, 0, none⟩ = some (.int .i64 0) := (by rw [Lib.cell_of_heap hx6]; rfl); have u1 : w6.cell? ⟨w5.heap.size, 0, none⟩ = some (.int .i64 0) := (by rw [Lib.cell_of_heap hy6]; rfl); have hlx := lt_of_row hx6; have hly := lt_of_row hy6; have HM6 := Lib.hid hm6; have HG6 := Lib.hid hg6; have HB6 := Lib.hid ((below_alloc HB5.out).trans hb6); clear hx6 hy6 hm6 hg6 hb6 hf6)
    | (go_at_call 12; (with_reducible refine (HD3.out bm g4 _ HB4.out.size HBM.out HG4.out HM4.out).mono ?_); rintro e w5 ⟨val5, A5, k5, c5, x5, y5, g5, rfl, hm5, hg5, hb5, hf5⟩; have hx5 : w5.heap[w3.heap.size]? = some (.cells #[.int .i64 0, .bool false, .string val3, .slice A3 k3 c3, .int .i64 x3, .int .i64 y3, .int .i64 0, .int .i64 0, .int .i64 0, .int .i64 0, .int .i64 0, .int .i64 0, .int .i64 0] 35 (0, 0)) := model_keeps HM4.out HX4.out (by decide) (by decide) hf5; have HX5 := Lib.hid hx5; have HM5 := Lib.hid hm5; have HG5 := Lib.hid hg5; have HB5 := Lib.hid (HB4.out.trans hb5); clear hx5 hm5 hg5 hb5 hf5)
    | (go_at_call 12; (with_reducible refine (HD2.out bm g3 _ (below_alloc HB3.out).size HBM.out HG3.out (HM3.out.below (below_alloc (Below.refl _ _)))).mono ?_); rintro e w4 ⟨val4, A4, k4, c4, x4, y4, g4, rfl, hm4, hg4, hb4, hf4⟩; have hx4 : w4.heap[w3.heap.size]? = some (.cells #[.int .i64 0, .bool false, .string val3, .slice A3 k3 c3, .int .i64 x3, .int .i64 y3, .int .i64 0, .int .i64 0, .int .i64 0, .int .i64 0, .int .i64 0, .int .i64 0, .int .i64 0] 35 (0, 0)) := model_keeps (HM3.out.below (below_alloc (Below.refl _ _))) (heap_alloc_new w3 _) (by decide) (by decide) hf4; have HX4 := Lib.hid hx4; have HM4 := Lib.hid hm4; have HG4 := Lib.hid hg4; have HB4 := Lib.hid ((below_alloc HB3.out).trans hb4); clear hx4 hm4 hg4 hb4 hf4)
    | (go_at_call 12; (with_reducible refine (HD1.out bm g1 _ HB2.out.size HBM.out HG1.out HM2.out).mono ?_); rintro e w3 ⟨val3, A3, k3, c3, x3, y3, g3, rfl, hm3, hg3, hb3, hf3⟩; have HM3 := Lib.hid hm3; have HG3 := Lib.hid hg3; have HB3 := Lib.hid (HB2.out.trans hb3); clear hm3 hg3 hb3 hf3)
    | (go_at_call 42; (with_reducible refine (HNB.out _).mono ?_); rintro e w2 ⟨rfl, hb2⟩; have HM2 := Lib.hid ((HM1.out.below (below_alloc (Below.refl _ _))).below hb2); have HB2 := Lib.hid (below_next (below_alloc HB1.out) hb2); clear hb2)
    | (go_at_call 11; (with_reducible refine (HBG.out _).mono ?_); rintro e w1 ⟨bm, g1, rfl, hm1, hbm, hg1, hb1⟩; have HM1 := Lib.hid hm1; have HBM := Lib.hid hbm; have HG1 := Lib.hid hg1; have HB1 := Lib.hid hb1; clear hm1 hbm hg1 hb1))
  go_ret
  exact ⟨rfl, HB12.out⟩
end Go.Proofs.YtdfgdnaejnngoaaGreat
