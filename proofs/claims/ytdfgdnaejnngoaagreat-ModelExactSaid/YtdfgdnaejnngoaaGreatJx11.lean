import Derived.Test.YtdfgdnaejnngoaaGreatJx10
import Derived.Test.YtdfgdnaejnngoaaGreatJx9
import Derived.Test.YtdfgdnaejnngoaaGreatJx7
set_option linter.unusedVariables false
set_option linter.unusedSimpArgs false
namespace Go.Proofs.YtdfgdnaejnngoaaGreat
open Go.RowKit
/-! grangerref33.Alive. -/
theorem take_dropR {α : Type} {l : List α} {j i : Nat} {x : α} (h : l[j]? = some x) (hi : i ≤ j) : (l.take (j + 1)).drop i = (l.take j).drop i ++ [x] := by
  have hj := (List.getElem?_eq_some_iff.1 h).1
  rw [take_snocR h, List.drop_append_of_le_length (by rw [List.length_take]; omega)]
theorem ord_rowA {w : World} {b off : Nat} {os : List Ord} (hel : Elems w (some ⟨b, off, none⟩) 6 (os.map Ord.cells)) {k : Nat} {o : Ord} (ho : os[k]? = some o) : b < w.heap.size ∧ w.cell? ⟨b, off + k * 6, none⟩ = some (.int .i64 o.kind) ∧ w.cell? ⟨b, off + k * 6 + 1, none⟩ = some (.string o.key) ∧ w.cell? ⟨b, off + k * 6 + 2, none⟩ = some (.string o.val) ∧ w.cell? ⟨b, off + k * 6 + 3, none⟩ = some (.int .u64 o.n) ∧ w.cell? ⟨b, off + k * 6 + 4, none⟩ = some (.string o.lo) ∧ w.cell? ⟨b, off + k * 6 + 5, none⟩ = some (.string o.hi) := by
  obtain ⟨b', off', e, h⟩ := ord_row hel ho
  cases e
  exact h
theorem alive_next {os : List Ord} {k : Nat} {o : Ord} {L : List Nat} (ho : os[k]? = some o) (hal : aliveL 0 os = L ++ aliveL k (os.drop k)) : (aliveB o (os.drop (k + 1)) = true → aliveL 0 os = (L ++ [k]) ++ aliveL (k + 1) (os.drop (k + 1))) ∧ (aliveB o (os.drop (k + 1)) = false → aliveL 0 os = L ++ aliveL (k + 1) (os.drop (k + 1))) := by
  have hdr : os.drop k = o :: os.drop (k + 1) := by
    obtain ⟨hk', rfl⟩ := List.getElem?_eq_some_iff.1 ho
    exact List.drop_eq_getElem_cons hk'
  rw [hdr, aliveL] at hal
  refine ⟨fun h => ?_, fun h => ?_⟩
  · rw [hal, if_pos h]; simp
  · rw [hal, if_neg (by rw [h]; decide)]
set_option maxHeartbeats 4000000 in
set_option maxRecDepth 100000 in
theorem refAlive_any (A : Option Addr) (cap : Nat) (os : List Ord) (w : World) (hel : Elems w A 6 (os.map Ord.cells)) (hl : os.length ≤ 1000) :
    Calls Tryz.prog 24 #[.slice A os.length cap] w fun e w' => ∃ A' c', e = .returned (.slice A' (aliveL 0 os).length c') ∧ OwnsN w' w.heap.size (.slice A' (aliveL 0 os).length c') (aliveL 0 os) ∧ Below w.heap.size w w' := by
  have HEL := Lib.hid hel
  clear hel
  go_enter Tryz.func24, Tryz.ntmps24
  go_wp2
  have HO0 := Lib.hid (show OwnsN (w.alloc (.cells #[] 3)) w.heap.size (.slice (some ⟨w.heap.size, 0, none⟩) 0 0) [] from OwnsG.empty (heap_alloc_new w _) (Nat.le_refl _))
  go_loopw [4, 3, 5, 6] (fun i v _ _ wr => ∃ (k c2 : Nat) (A2 : Option Addr) (L : List Nat), i = .int .i64 k ∧ k ≤ os.length ∧ v = .slice A2 L.length c2 ∧ OwnsN wr w.heap.size (.slice A2 L.length c2) L ∧ L.length ≤ k ∧ aliveL 0 os = L ++ aliveL k (os.drop k) ∧ Below w.heap.size w wr) (fun i _ _ _ _ => os.length + 1 - (intOf i).toNat)
  case atStart => exact ⟨0, 0, _, [], rfl, Nat.zero_le _, rfl, HO0.out, Nat.le_refl _, rfl, below_alloc (Below.refl _ w)⟩
  case round =>
    obtain ⟨k, c2, A2, L, rfl, hk, rfl, how, hLk, hal, hbel⟩ := hrel
    by_cases hkl : k < os.length
    · have hkI : (k : Int) < (os.length : Int) := by omega
      have hw1 : wrap64 ((k : Int) + 1) = ((k + 1 : Nat) : Int) := by unfold wrap64; omega
      obtain ⟨o, ho⟩ := get_lt hkl
      obtain ⟨b, off, rfl, hblt, d0, d1, d2, d3, d4, d5⟩ := ord_row (HEL.out.below hbel) ho
      obtain ⟨hat, haf⟩ := alive_next ho hal
      have HAT := Lib.hid hat
      have HAF := Lib.hid haf
      have HOW := Lib.hid how
      have HBEL := Lib.hid hbel
      obtain ⟨kind, key, val, n, lo, hi⟩ := o
      have HAB := Lib.hid (show aliveB ⟨kind, key, val, n, lo, hi⟩ (os.drop (k + 1)) = ((decide (kind = 1) || decide (kind = 3)) && !((os.take os.length).drop (k + 1)).any (resetB key)) by rw [List.take_length]; rfl)
      dsimp only at d0 d1 d2 d3 d4 d5
      clear hat haf how hbel hal ho
      obtain ⟨bb, hbb⟩ : ∃ bb, (decide (kind = 1) || decide (kind = 3)) = bb := ⟨_, rfl⟩
      have hkc : (kind = 1 ∧ Hid (bb = true)) ∨ (kind = 3 ∧ Hid (bb = true)) ∨ ((kind == 1) = false ∧ (kind == 3) = false ∧ Hid (bb = false)) := by
        by_cases h1 : kind = 1
        · exact .inl ⟨h1, Lib.hid (by rw [← hbb]; simp [h1])⟩
        · by_cases h3 : kind = 3
          · exact .inr (.inl ⟨h3, Lib.hid (by rw [← hbb]; simp [h3])⟩)
          · exact .inr (.inr ⟨by simp [h1], by simp [h3], Lib.hid (by rw [← hbb]; simp [h1, h3])⟩)
      rw [hbb] at HAB
      clear hbb
      rcases hkc with ⟨rfl, HBB⟩ | ⟨rfl, HBB⟩ | ⟨e1, e3, HBB⟩
      all_goals
        go_wp2
        go_loopw [6, 5] (fun j v w2 => ∃ (m : Nat) (q : Bool), j = .int .i64 m ∧ k + 1 ≤ m ∧ m ≤ os.length ∧ v = .bool q ∧ Hid (q = (bb && !((os.take m).drop (k + 1)).any (resetB key))) ∧ Below wr.heap.size wr w2) (fun j _ _ => os.length + 1 - (intOf j).toNat)
        case atStart => exact ⟨k + 1, _, by go_num, Nat.le_refl _, by omega, rfl, Lib.hid (by rw [HBB.out, List.drop_eq_nil_of_le (by rw [List.length_take]; omega)]; rfl), Below.refl _ _⟩
        case round =>
          rename World => wr2
          obtain ⟨m, q, rfl, hm1, hm, rfl, HQ, hb2⟩ := hrel
          by_cases hml : m < os.length
          · have hmI : (m : Int) < (os.length : Int) := by omega
            obtain ⟨x, hx⟩ := get_lt hml
            obtain ⟨_, x0, x1, _, _, _, _⟩ := ord_rowA (HEL.out.below (below_next HBEL.out hb2)) hx
            have o1 := keep_cell hb2 hblt d1
            have hbl2 := keep_lt hb2 hblt
            have hst : ((os.take (m + 1)).drop (k + 1)).any (resetB key) = (((os.take m).drop (k + 1)).any (resetB key) || resetB key x) := by rw [take_dropR hx hm1, List.any_append]; simp
            have hqq : (x.key.toList == key.toList) = decide (x.key = key) := eqB
            have HST := Lib.hid hst
            have HB2 := Lib.hid hb2
            obtain ⟨xkd, xk, xv, xn, xl, xh⟩ := x
            dsimp only at x0 x1 hqq
            clear hst hb2 hx
            by_cases e : xk = key
            · subst e
              rw [decide_eq_true rfl] at hqq
              by_cases h1 : xkd = 1
              · subst h1
                go_wp2
                go_quiet (fail)
                go_wp2
                refine ⟨⟨m + 1, false, by go_num, by omega, by omega, rfl, Lib.hid (by rw [HST.out]; simp [resetB]), below_drewN HB2.out _⟩, ?_⟩
                simp [intOf]
                omega
              · by_cases h2 : xkd = 2
                · subst h2
                  go_wp2
                  go_quiet (fail)
                  go_wp2
                  refine ⟨⟨m + 1, false, by go_num, by omega, by omega, rfl, Lib.hid (by rw [HST.out]; simp [resetB]), below_drewN HB2.out _⟩, ?_⟩
                  simp [intOf]
                  omega
                · have f1 : (xkd == 1) = false := by simp [h1]
                  have f2 : (xkd == 2) = false := by simp [h2]
                  have HN := Lib.hid (show resetB xk ⟨xkd, xk, xv, xn, xl, xh⟩ = false by simp [resetB, h1, h2])
                  clear h1 h2
                  go_wp2
                  go_quiet (fail)
                  go_wp2
                  refine ⟨⟨m + 1, q, by go_num, by omega, by omega, rfl, Lib.hid (by rw [HST.out, HN.out, Bool.or_false]; exact HQ.out), below_drewN HB2.out _⟩, ?_⟩
                  simp [intOf]
                  omega
            · rw [decide_eq_false e] at hqq
              have HN := Lib.hid (show resetB key ⟨xkd, xk, xv, xn, xl, xh⟩ = false by simp [resetB, e])
              clear e
              go_wp2
              go_quiet (fail)
              go_wp2
              refine ⟨⟨m + 1, q, by go_num, by omega, by omega, rfl, Lib.hid (by rw [HST.out, HN.out, Bool.or_false]; exact HQ.out), below_drewN HB2.out _⟩, ?_⟩
              simp [intOf]
              omega
          · obtain rfl : m = os.length := by omega
            have hqv := HQ.out.trans HAB.out.symm
            have HB2 := Lib.hid hb2
            have hw2l : L.length + 1 ≤ 1001 := by omega
            cases hq : q with
            | true =>
              have HAL := Lib.hid (HAT.out (by rw [← hqv]; exact hq))
              clear hqv hb2
              subst hq
              go_wp2_with (at_builtin; go_loud (refine nat_append rfl (some 67) rfl _ _ rfl w.heap.size (.slice A2 L.length c2) L [k] 1 ⟨wr2.heap.size, 0, none⟩ 1 rfl rfl (by simp [Act.eval]) ((HOW.out.below HB2.out).alloc _) (nat_news (heap_alloc_new wr2 _)) (by simp; omega) (by have := HBEL.out.size; have := HB2.out.size; simp; omega) (L.length + 1) (by simp) ?_; intro A3 c3 w3 ho3 hf3; have HO3 := Lib.hid ho3; have HF3 := Lib.hid hf3; clear ho3 hf3))
              have hb3 := fun o : Obj => below_alloc (o := o) (below_next HBEL.out HB2.out)
              refine ⟨⟨k + 1, c3, A3, L ++ [k], by go_num, by omega, by simp, by rw [List.length_append]; exact HO3.out, by simp; omega, HAL.out, (hb3 _).trans (HF3.out.to_below (hb3 _).size (fun i hi e => nat_ge (HOW.out.below HB2.out) hi e))⟩, ?_⟩
              simp [intOf]
              omega
            | false =>
              have HAL := Lib.hid (HAF.out (by rw [← hqv]; exact hq))
              clear hqv hb2
              subst hq
              go_wp2
              refine ⟨⟨k + 1, c2, A2, L, by go_num, by omega, rfl, HOW.out.below HB2.out, by omega, HAL.out, below_next HBEL.out HB2.out⟩, ?_⟩
              simp [intOf]
              omega
    · obtain rfl : k = os.length := by omega
      rw [List.drop_length] at hal
      simp only [aliveL, List.append_nil] at hal
      have HOW := Lib.hid how
      have HB2 := Lib.hid hbel
      have HAL := Lib.hid hal
      clear how hbel hal
      go_wp2
      go_ret
      rw [HAL.out]
      exact ⟨A2, c2, rfl, HOW.out, HB2.out⟩
end Go.Proofs.YtdfgdnaejnngoaaGreat
namespace Go.Proofs.YtdfgdnaejnngoaaGreat
open Go.RowKit
theorem elems_other {w w' : World} {A : Option Addr} {q : Nat} {l : List Itm} {cs : List Value} {T : TypeId} (h : Elems w A 2 (l.map Itm.cells)) (hq : w.heap[q]? = some (.cells cs.toArray T (0, 0)))
    (hns : ∀ i a b, cs[i]? = some (.string a) → cs[i + 1]? = some (.string b) → False) (hf : Fr (fun k => k = q) w w') : Elems w' A 2 (l.map Itm.cells) := by
  intro i r hr
  obtain ⟨b, o, e2, hlt, hc⟩ := h i r hr
  rw [List.getElem?_map, Option.map_eq_some_iff] at hr
  obtain ⟨x, hx, rfl⟩ := hr
  have hb : ¬ b = q := by
    rintro rfl
    have c0 := hc 0 _ rfl
    have c1 := hc 1 _ rfl
    rw [Lib.cell_of_heap hq] at c0 c1
    refine hns (o + i * 2) x.key x.val ?_ ?_
    · simpa using c0
    · simpa using c1
  exact ⟨b, o, e2, Nat.lt_of_lt_of_le hlt hf.size, fun j u hu => hf.cell hlt hb (hc j u hu)⟩
theorem fr_drewN (S : Nat → Prop) (w : World) (n : Nat) : Fr S w (w.drewN n) := Fr.of_below (below_drewN (Below.refl _ w) n)
theorem got_row {w4 w5 : World} {s : Nat} {has : Bool} {val : ByteArray} (h : w4.heap[s]? = some (.cells (refC 0 has val (.slice none 0 0) 0 0).toArray 76 (0, 0))) (hw : w5.heap[s]? = w4.heap[s]?) (v : ByteArray) :
    ((w5.setCell ⟨s, 2, none⟩ (.string v)).setCell ⟨s, 1, none⟩ (.bool true)).heap[s]? = some (.cells (refC 0 true v (.slice none 0 0) 0 0).toArray 76 (0, 0)) :=
  setCell_row (setCell_row (hw.trans h) 2 (.string v)) 1 (.bool true)
theorem got_fr (w5 : World) (s : Nat) (v : ByteArray) : Fr (fun q => q = s) w5 ((w5.setCell ⟨s, 2, none⟩ (.string v)).setCell ⟨s, 1, none⟩ (.bool true)) :=
  ((Fr.refl (fun q => q = s) w5).setCell (p := ⟨s, 2, none⟩) (fun _ => rfl) _).setCell (p := ⟨s, 1, none⟩) (fun _ => rfl) _
set_option maxHeartbeats 4000000 in
set_option maxRecDepth 100000 in
theorem refDo_get (bu : Nat) (c : Int) (ls : List (List Itm)) (l : List Itm) (key val : ByteArray) (n : Int) (lo hi : ByteArray) (w : World) (h : RefAt w bu c ls) (hl : ls[ls.length - 1]? = some l) (hn : ls.length ≤ 90000) (hln : l.length ≤ 60000) (hri : Rises l) (ho : isOrd ⟨4, key, val, n, lo, hi⟩ = true) :
    Calls Tryz.prog 36 #[.pointer (some ⟨bu, 0, none⟩), (Ord.mk 4 key val n lo hi).v] w (RefDo bu c (if isKey key = true then 0 else 1, (getL l key).isSome, strO (getL l key), [], 0, 0) ls w) := by
  have hia := fun W => refIs_any ⟨4, key, val, n, lo, hi⟩ W
  rw [ho] at hia
  have hnow := fun W (hW : Below w.heap.size w W) => refNow_any bu c ls l W (h.below hW) hl hn
  have hk := fun W => ref07Is_any key W
  rw [Ord.v_def] at hia ⊢
  dsimp only at hia ⊢
  have hbul := h.lt
  have HI := Lib.hid hia
  have HN := Lib.hid hnow
  have HK := Lib.hid hk
  have HRF := Lib.hid h
  have HRI := Lib.hid hri
  have HMS := Lib.hid refans_size
  obtain ⟨E, hE⟩ : ∃ E : Int, (if isKey key = true then 0 else 1) = E := ⟨_, rfl⟩
  rw [hE]
  have HEE := Lib.hid hE
  clear hia ho h hl hnow hk hri hE
  go_enter Tryz.func36, Tryz.ntmps36
  go_wp2_with (first
    | (go_at_call 64; (with_reducible refine (HI.out _).mono ?_); rintro e w1 ⟨rfl, hb1⟩; have hbo : QBox w.heap.size ⟨4, key, val, n, lo, hi⟩ w1 := box_below (((Fr.refl (fun _ => False) _).alloc _).row id (((Fr.refl (fun _ => False) _).alloc _).row id (heap_alloc_new w _))) hb1; have hba : RBox (w.heap.size + 1) w1 := box_below (((Fr.refl (fun _ => False) _).alloc _).row id (heap_new_at (by simp))) hb1; have hbc : RBox (w.heap.size + 2) w1 := box_below (heap_new_at (by simp)) hb1; have d0 : w1.cell? ⟨w.heap.size, 0, none⟩ = some (.int .i64 4) := (by rw [Lib.cell_of_heap hbo]; rfl); have d1 : w1.cell? ⟨w.heap.size, 1, none⟩ = some (.string key) := (by rw [Lib.cell_of_heap hbo]; rfl); have d2 : w1.cell? ⟨w.heap.size, 2, none⟩ = some (.string val) := (by rw [Lib.cell_of_heap hbo]; rfl); have d3 : w1.cell? ⟨w.heap.size, 3, none⟩ = some (.int .u64 n) := (by rw [Lib.cell_of_heap hbo]; rfl); have d4 : w1.cell? ⟨w.heap.size, 4, none⟩ = some (.string lo) := (by rw [Lib.cell_of_heap hbo]; rfl); have d5 : w1.cell? ⟨w.heap.size, 5, none⟩ = some (.string hi) := (by rw [Lib.cell_of_heap hbo]; rfl); have hxl := lt_of_row hbo; have HBO := Lib.hid hbo; have HBA := Lib.hid hba; have HBC := Lib.hid hbc; have HB1 := Lib.hid (below_next (below_alloc (below_alloc (below_alloc (Below.refl _ w)))) hb1); skip; clear hb1 hbo hba hbc)
    | (go_at_call 40; (with_reducible refine (HN.out _ HB1.out).mono ?_); rintro e w2 ⟨A2, c2, rfl, hel2, hb2⟩; have HBO2 := Lib.hid (show QBox w.heap.size ⟨4, key, val, n, lo, hi⟩ w2 from box_below HBO.out hb2); have HBA2 := Lib.hid (show RBox (w.heap.size + 1) w2 from box_below HBA.out hb2); have HBC2 := Lib.hid (show RBox (w.heap.size + 2) w2 from box_below HBC.out hb2); have HB2 := Lib.hid (below_next HB1.out hb2); have HE2 := Lib.hid hel2; clear hel2 hb2))
  go_loopw [7] (fun i wr => ∃ k : Nat, i = .int .i64 k ∧ k ≤ l.length ∧ wr.heap[w.heap.size + 2]? = some (.cells (refC 0 (getL (l.take k) key).isSome (strO (getL (l.take k) key)) (.slice none 0 0) 0 0).toArray 76 (0, 0)) ∧ Fr (fun q => q = w.heap.size + 2) w2 wr) (fun i _ => l.length + 1 - (intOf i).toNat)
  case atStart => exact ⟨0, rfl, Nat.zero_le _, HBC2.out, Fr.refl _ _⟩
  case round =>
    obtain ⟨k, rfl, hk, hbx, hfr⟩ := hrel
    have hw2 := HB2.out.size
    have hbo : QBox w.heap.size ⟨4, key, val, n, lo, hi⟩ wr := hfr.row (by omega) HBO2.out
    have q1 : wr.cell? ⟨w.heap.size, 1, none⟩ = some (.string key) := by rw [Lib.cell_of_heap hbo]; rfl
    have hxl := lt_of_row hbo
    by_cases hkl : k < l.length
    · have hkI : (k : Int) < (l.length : Int) := by omega
      obtain ⟨y, hy⟩ := get_lt hkl
      obtain ⟨b, off, rfl, hlt, d0, d1⟩ := itm_rowR (elems_other HE2.out HBC2.out (ref_nopair _ _ _ _ _ _ _ _) hfr) hy
      have hgt := get_take HRI.out hy key
      have hq : (y.key.toList == key.toList) = decide (y.key = key) := eqB
      have HGT := Lib.hid hgt
      have HFR := Lib.hid hfr
      have HBX := Lib.hid hbx
      have f1 := Lib.frozen_of_heap hbx 1
      have f2 := Lib.frozen_of_heap hbx 2
      have z1 : wr.cell? ⟨w.heap.size + 2, 1, none⟩ = some (.bool (getL (l.take k) key).isSome) := by rw [Lib.cell_of_heap hbx]; rfl
      have z2 : wr.cell? ⟨w.heap.size + 2, 2, none⟩ = some (.string (strO (getL (l.take k) key))) := by rw [Lib.cell_of_heap hbx]; rfl
      clear hgt hbx hy hfr hbo
      obtain ⟨yk, yv⟩ := y
      dsimp only at d0 d1 hq HGT
      by_cases e : yk = key
      · subst e
        rw [decide_eq_true rfl] at hq
        rw [if_pos rfl] at HGT
        go_wp2
        go_quiet (fail)
        go_wp2
        refine ⟨⟨k + 1, by go_num, by omega, by rw [HGT.out]; exact got_row HBX.out (by rfl) _, (HFR.out.trans (fr_drewN _ _ _) (fun i _ e => e)).trans (got_fr _ (w.heap.size + 2) _) (fun i _ e => e)⟩, ?_⟩
        simp [intOf]
        omega
      · rw [decide_eq_false e] at hq
        rw [if_neg e] at HGT
        go_wp2
        go_quiet (fail)
        go_wp2
        refine ⟨⟨k + 1, by go_num, by omega, by rw [HGT.out]; exact HBX.out, HFR.out.trans (fr_drewN _ _ _) (fun i _ e => e)⟩, ?_⟩
        simp [intOf]
        omega
    · obtain rfl : k = l.length := by omega
      rw [List.take_length] at hbx
      have hba : RBox (w.heap.size + 1) wr := hfr.row (by omega) HBA2.out
      have hk2 := HK.out
      generalize getL l key = g at *
      have HFR := Lib.hid hfr
      have HBX := Lib.hid hbx
      have HBAR := Lib.hid hba
      clear hbx hfr hbo hba
      cases hik : isKey key with
      | true =>
        rw [hik] at hk2
        have HK2 := Lib.hid hk2
        obtain rfl : E = 0 := by rw [← HEE.out, hik]; rfl
        clear hk2 HK hik HEE
        go_wp2_with (first
          | (go_at_call 66; (with_reducible refine (HK2.out _).mono ?_); rintro e w5 ⟨rfl, hb5⟩; have HRC := Lib.hid (show w5.heap[w.heap.size + 2]? = some (.cells (refC 0 g.isSome (strO g) (.slice none 0 0) 0 0).toArray 76 (0, 0)) from box_below HBX.out hb5); have HBA5 := Lib.hid (show RBox (w.heap.size + 1) w5 from box_below HBAR.out hb5); have HFC := Lib.hid (HFR.out.trans (Fr.of_below (S := fun q => q = w.heap.size + 2) hb5) (fun i _ e => e)); clear hb5)
          | (refine wpList_load_mid rfl 76 (Operand.tmp 5) rfl (w.heap.size + 2) 0 rfl (refC 0 g.isSome (strO g) (.slice none 0 0) 0 0) _ (row_range HRC.out) Tryz.underlying76 rfl HMS.out ?_)
          | (refine wpList_store_row rfl 76 (Operand.tmp 4) (Operand.tmp 108) rfl (w.heap.size + 1) _ (refC 0 g.isSome (strO g) (.slice none 0 0) 0 0) _ rfl rfl HBA5.out rfl HMS.out (refans_all _ _ _ _ _ _ _ _) ?_; intro w9 hr9 hf9; have HR9 := Lib.hid hr9; have HF9 := Lib.hid hf9; clear hr9 hf9))
        refine bodyPost_ret (v := refV 0 g.isSome (strO g) (.slice none 0 0) 0 0) (results_cell (a := 4) (t := 76) (ad := ⟨w.heap.size + 1, 0, none⟩) Tryz.results36 rfl (load_row _ HR9.out _ Tryz.underlying76 rfl HMS.out)) rfl ?_
        exact refdo_done hbul HB2.out (HRF.out.below HB2.out) (Fr.refl _ _) (Nat.le_succ _) HBC2.out HFC.out HBA5.out HF9.out rfl (elems_nil _ _)
      | false =>
        rw [hik] at hk2
        have HK2 := Lib.hid hk2
        obtain rfl : E = 1 := by rw [← HEE.out, hik]; rfl
        clear hk2 HK hik HEE
        go_wp2_with (first
          | (go_at_call 66; (with_reducible refine (HK2.out _).mono ?_); rintro e w5 ⟨rfl, hb5⟩; have hrc5 : w5.heap[w.heap.size + 2]? = some (.cells (refC 0 g.isSome (strO g) (.slice none 0 0) 0 0).toArray 76 (0, 0)) := box_below HBX.out hb5; have z0 : w5.cell? ⟨w.heap.size + 2, 0, none⟩ = some (.int .i64 0) := (by rw [Lib.cell_of_heap hrc5]; rfl); have y0 := Lib.frozen_of_heap hrc5 0; have HRC := Lib.hid (setCell_row hrc5 0 (.int .i64 1)); have hba5 : RBox (w.heap.size + 1) w5 := box_below HBAR.out hb5; have hfc : Fr (fun q => q = w.heap.size + 2) w5 (w5.setCell ⟨w.heap.size + 2, 0, none⟩ (.int .i64 1)) := (Fr.refl (fun q => q = w.heap.size + 2) w5).setCell (p := ⟨w.heap.size + 2, 0, none⟩) (fun _ => rfl) _; have HBA5 := Lib.hid (hfc.row (by omega) hba5); have HFC := Lib.hid ((HFR.out.trans (Fr.of_below (S := fun q => q = w.heap.size + 2) hb5) (fun i _ e => e)).trans hfc (fun i _ e => e)); clear hb5 hrc5 hba5 hfc)
          | (refine wpList_load_mid rfl 76 (Operand.tmp 5) rfl (w.heap.size + 2) 0 rfl (refC 1 g.isSome (strO g) (.slice none 0 0) 0 0) _ (row_range HRC.out) Tryz.underlying76 rfl HMS.out ?_)
          | (refine wpList_store_row rfl 76 (Operand.tmp 4) (Operand.tmp 108) rfl (w.heap.size + 1) _ (refC 1 g.isSome (strO g) (.slice none 0 0) 0 0) _ rfl rfl HBA5.out rfl HMS.out (refans_all _ _ _ _ _ _ _ _) ?_; intro w9 hr9 hf9; have HR9 := Lib.hid hr9; have HF9 := Lib.hid hf9; clear hr9 hf9))
        refine bodyPost_ret (v := refV 1 g.isSome (strO g) (.slice none 0 0) 0 0) (results_cell (a := 4) (t := 76) (ad := ⟨w.heap.size + 1, 0, none⟩) Tryz.results36 rfl (load_row _ HR9.out _ Tryz.underlying76 rfl HMS.out)) rfl ?_
        exact refdo_done hbul HB2.out (HRF.out.below HB2.out) (Fr.refl _ _) (Nat.le_succ _) HBC2.out HFC.out HBA5.out HF9.out rfl (elems_nil _ _)
end Go.Proofs.YtdfgdnaejnngoaaGreat
namespace Go.Proofs.YtdfgdnaejnngoaaGreat
open Go.RowKit
/-! slices.Equal over items; leaf.Same; model.Lost; begun. -/
set_option maxHeartbeats 1000000 in
set_option maxRecDepth 100000 in
theorem itmsEqual_any (A B : Option Addr) (ca cb : Nat) (la lb : List Itm) (w : World) (ha : Elems w A 2 (la.map Itm.cells)) (hb : Elems w B 2 (lb.map Itm.cells)) (hl : la.length ≤ 80000) (hl2 : lb.length ≤ 80000) :
    Calls Tryz.prog 63 #[.slice A la.length ca, .slice B lb.length cb] w fun e w' => e = .returned (.bool (decide (la = lb))) ∧ Below w.heap.size w w' := by
  by_cases hn : la.length = lb.length
  · have HA := Lib.hid ha
    have HB := Lib.hid hb
    have hq := fun a b W => neq_itm a b W
    simp only [Itm.v_def] at hq
    have HQ := Lib.hid hq
    have hgu : Tryz.prog.eqGuardType Tryz.prog.depth 41 = false := by kernel_rfl
    obtain ⟨R, hR⟩ : ∃ R, decide (la = lb) = R := ⟨_, rfl⟩
    rw [hR]
    have HR := Lib.hid hR
    have HN := Lib.hid hn
    rw [← hn]
    clear hq ha hb hR hl2 hn
    go_enter Tryz.func63, Tryz.ntmps63
    go_wp2
    go_loopw [13, 5] (fun i _ wr => ∃ k : Nat, i = .int .i64 k ∧ k ≤ la.length ∧ la.take k = lb.take k ∧ Below w.heap.size w wr) (fun i _ _ => la.length + 1 - (intOf i).toNat)
    case atStart => exact ⟨0, rfl, Nat.zero_le _, rfl, (by repeat (first | assumption | exact Below.refl _ _ | (refine below_step (w := ?_) ?_ ?_ ?_; rotate_left 2; assumption) | refine Below.drew ?_ | refine below_drewN ?_ _ | refine Below.alloc ?_ ?_ _ | refine Below.setCell ?_ ?_ _ | (focus (simp; done)) | (focus (simp; omega)) | omega))⟩
    case round =>
      obtain ⟨k, rfl, hk, htk, hbel⟩ := hrel
      by_cases hkl : k < la.length
      · have hkI : (k : Int) < (la.length : Int) := by omega
        obtain ⟨y, hy⟩ := get_lt hkl
        obtain ⟨z, hz⟩ := get_lt (l := lb) (i := k) (by have := HN.out; omega)
        obtain ⟨b1, o1, rfl, hlt1, d0, d1⟩ := itm_rowR (HA.out.below hbel) hy
        obtain ⟨b2, o2, rfl, hlt2, e0, e1⟩ := itm_rowR (HB.out.below hbel) hz
        have hqq := fun W => HQ.out y z W
        have htk2 : la.take (k + 1) = lb.take (k + 1) ↔ y = z := by
          rw [take_snocR hy, take_snocR hz, htk]
          simp
        have hne : y ≠ z → la ≠ lb := fun h e => by
          subst e
          rw [hy] at hz
          cases hz
          exact h rfl
        have HTK := Lib.hid htk2
        have HNE := Lib.hid hne
        have HBL := Lib.hid hbel
        clear htk htk2 hne hbel hy hz
        obtain ⟨yk, yv⟩ := y
        obtain ⟨zk, zv⟩ := z
        dsimp only at d0 d1 e0 e1 hqq
        by_cases hyz : (⟨yk, yv⟩ : Itm) = ⟨zk, zv⟩
        · have hyz' := hyz
          simp only [Itm.mk.injEq] at hyz'
          obtain ⟨rfl, rfl⟩ := hyz'
          simp only [decide_true, Bool.not_true] at hqq
          have HT2 := Lib.hid (HTK.out.2 rfl)
          clear hyz HTK HNE
          go_wp2
          go_quiet (fail)
          go_wp2
          refine ⟨⟨k + 1, by go_num, by omega, HT2.out, below_drewN HBL.out _⟩, ?_⟩
          simp [intOf]
          omega
        · rw [decide_eq_false hyz] at hqq
          simp only [Bool.not_false] at hqq
          have hRf : R = false := by rw [← HR.out]; exact decide_eq_false (HNE.out hyz)
          subst hRf
          clear hyz HTK HNE
          go_wp2
          go_quiet (fail)
          go_wp2
          go_ret
          exact ⟨rfl, below_drewN HBL.out _⟩
      · obtain rfl : k = la.length := by omega
        have hRt : R = true := by
          rw [← HR.out]
          rw [List.take_length, HN.out, List.take_length] at htk
          exact decide_eq_true htk
        subst hRt
        have HBL := Lib.hid hbel
        clear htk hbel
        go_wp2
        go_ret
        exact ⟨rfl, HBL.out⟩
  · have hne : la ≠ lb := fun e => hn (by rw [e])
    have hni : ((la.length : Int) != (lb.length : Int)) = true := by simp; omega
    rw [decide_eq_false hne]
    clear ha hb hne hn
    go_enter Tryz.func63, Tryz.ntmps63
    go_wp2
    go_ret
    exact ⟨rfl, (by repeat (first | assumption | exact Below.refl _ _ | (refine below_step (w := ?_) ?_ ?_ ?_; rotate_left 2; assumption) | refine Below.drew ?_ | refine below_drewN ?_ _ | refine Below.alloc ?_ ?_ _ | refine Below.setCell ?_ ?_ _ | (focus (simp; done)) | (focus (simp; omega)) | omega))⟩
set_option maxRecDepth 100000 in
theorem leafSame_any (p1 c1 p2 c2 : Nat) (A1 A2 : Option Addr) (l1 l2 : List Itm) (w : World) (h1 : LeafAt w p1 A1 c1 l1) (h2 : LeafAt w p2 A2 c2 l2) (n1 : l1.length ≤ 80000) (n2 : l2.length ≤ 80000) :
    Calls Tryz.prog 53 #[.pointer (some ⟨p1, 0, none⟩), .pointer (some ⟨p2, 0, none⟩)] w fun e w' => e = .returned (.bool (decide (l1 = l2))) ∧ Below w.heap.size w w' := by
  have d1 := h1.c0
  have d2 := h2.c0
  have hs := fun W (hW : Below w.heap.size w W) => itmsEqual_any A1 A2 c1 c2 l1 l2 W (h1.els.below hW) (h2.els.below hW) n1 n2
  generalize decide (l1 = l2) = R at *
  have HS := Lib.hid hs
  have hp1 := h1.lt
  have hp2 := h2.lt
  clear h1 h2 hs
  go_enter Tryz.func53, Tryz.ntmps53
  go_wp2
  refine rg_start (n := 10) (fun w' => w'.cell? ⟨p1, 0, none⟩ = some (.slice A1 l1.length c1) ∧ w'.cell? ⟨p2, 0, none⟩ = some (.slice A2 l2.length c2) ∧ Below w.heap.size w w') #[false, false, false, false, false, false, false, false, false, false] (by kernel_rfl) rfl rfl ⟨d1, d2, (Below.refl _ w).drew⟩ (fun hHeld => ?_)
  refine rg_take (i := 0) (N := (some 17)) (v := ?_) (a' := ?_) #[true, false, false, false, false, false, false, false, false, false] rfl rfl (by kernel_rfl) (fun _ _ _ h => h) (by rfl) ?_ hHeld ?_ ?_
  rotate_left 2
  · rintro w' ⟨s0, s1, s2⟩
    go_simp
    try with_reducible rfl
  · simp only [Act.put, List.setIfInBounds_toArray, List.set_cons_zero, List.set_cons_succ]
    rfl
  refine rg_take (i := 1) (N := (some 18)) (v := ?_) (a' := ?_) #[true, true, false, false, false, false, false, false, false, false] rfl rfl (by kernel_rfl) (fun _ _ _ h => h) (by rfl) ?_ hHeld ?_ ?_
  rotate_left 2
  · rintro w' ⟨s0, s1, s2⟩
    go_simp
    try with_reducible rfl
  · simp only [Act.put, List.setIfInBounds_toArray, List.set_cons_zero, List.set_cons_succ]
    rfl
  refine rg_take (i := 2) (N := (some 19)) (v := ?_) (a' := ?_) #[true, true, true, false, false, false, false, false, false, false] rfl rfl (by kernel_rfl) (fun _ _ _ h => h) (by rfl) ?_ hHeld ?_ ?_
  rotate_left 2
  · rintro w' ⟨s0, s1, s2⟩
    go_simp
    try with_reducible rfl
  · simp only [Act.put, List.setIfInBounds_toArray, List.set_cons_zero, List.set_cons_succ]
    rfl
  refine rg_take (i := 3) (N := (some 20)) (v := ?_) (a' := ?_) #[true, true, true, true, false, false, false, false, false, false] rfl rfl (by kernel_rfl) (fun _ _ _ h => h) (by rfl) ?_ hHeld ?_ ?_
  rotate_left 2
  · rintro w' ⟨s0, s1, s2⟩
    go_simp
    try with_reducible rfl
  · simp only [Act.put, List.setIfInBounds_toArray, List.set_cons_zero, List.set_cons_succ]
    rfl
  refine rg_take (i := 4) (N := (some 21)) (v := ?_) (a' := ?_) #[true, true, true, true, true, false, false, false, false, false] rfl rfl (by kernel_rfl) (fun _ _ _ h => h) (by rfl) ?_ hHeld ?_ ?_
  rotate_left 2
  · rintro w' ⟨s0, s1, s2⟩
    go_simp
    try with_reducible rfl
  · simp only [Act.put, List.setIfInBounds_toArray, List.set_cons_zero, List.set_cons_succ]
    rfl
  refine rg_take (i := 5) (N := (some 22)) (v := ?_) (a' := ?_) #[true, true, true, true, true, true, false, false, false, false] rfl rfl (by kernel_rfl) (fun _ _ _ h => h) (by rfl) ?_ hHeld ?_ ?_
  rotate_left 2
  · rintro w' ⟨s0, s1, s2⟩
    go_simp
    try with_reducible rfl
  · simp only [Act.put, List.setIfInBounds_toArray, List.set_cons_zero, List.set_cons_succ]
    rfl
  refine rg_take (i := 6) (N := (some 23)) (v := ?_) (a' := ?_) #[true, true, true, true, true, true, true, false, false, false] rfl rfl (by kernel_rfl) (fun _ _ _ h => h) (by rfl) ?_ hHeld ?_ ?_
  rotate_left 2
  · rintro w' ⟨s0, s1, s2⟩
    go_simp
    try with_reducible rfl
  · simp only [Act.put, List.setIfInBounds_toArray, List.set_cons_zero, List.set_cons_succ]
    rfl
  refine rg_take (i := 7) (N := (some 24)) (v := ?_) (a' := ?_) #[true, true, true, true, true, true, true, true, false, false] rfl rfl (by kernel_rfl) (fun _ _ _ h => h) (by rfl) ?_ hHeld ?_ ?_
  rotate_left 2
  · rintro w' ⟨s0, s1, s2⟩
    go_simp
    try with_reducible rfl
  · simp only [Act.put, List.setIfInBounds_toArray, List.set_cons_zero, List.set_cons_succ]
    rfl
  refine rg_one (i := 8) #[true, true, true, true, true, true, true, true, true, false] rfl (by kernel_rfl) (by rfl) (fun K hK => ?_)
  obtain ⟨s0, s1, s2⟩ := hHeld
  repeat go_step
  ((with_reducible refine (HS.out _ s2).mono ?_); rintro e w1 ⟨rfl, hb1⟩)
  try dsimp only
  refine hK.out _ _ ?_ (fun hHeld => ?_)
  · exact ⟨keep_cell hb1 (keep_lt s2 hp1) s0, keep_cell hb1 (keep_lt s2 hp2) s1, below_next s2 hb1⟩
  clear hK K
  clear s0 s1 s2
  refine rg_take (i := 9) (N := (some 4)) (v := ?_) (a' := ?_) #[true, true, true, true, true, true, true, true, true, true] rfl rfl (by kernel_rfl) (fun _ _ _ h => h) (by rfl) ?_ hHeld ?_ ?_
  rotate_left 2
  · rintro w' ⟨s0, s1, s2⟩
    go_simp
    try with_reducible rfl
  · simp only [Act.put, List.setIfInBounds_toArray, List.set_cons_zero, List.set_cons_succ]
    rfl
  refine rg_done (by kernel_rfl) ?_
  go_wp2
  go_ret
  exact ⟨rfl, hHeld.2.2⟩
end Go.Proofs.YtdfgdnaejnngoaaGreat
namespace Go.Proofs.YtdfgdnaejnngoaaGreat
open Go.RowKit
/-! order.Same; what of nil is answered. -/
structure Sta where
  a0 : Int
  a1 : Int
  a2 : Int
  a3 : Int
  a4 : Int
  a5 : Int
  a6 : Int
  a7 : Int
  a8 : Int
  deriving DecidableEq
def Sta.cells (s : Sta) : List Value := [.int .i64 s.a0, .int .i64 s.a1, .int .i64 s.a2, .int .i64 s.a3, .int .i64 s.a4, .int .i64 s.a5, .int .i64 s.a6, .int .i64 s.a7, .int .i64 s.a8]
def Sta.v (p : Sta) : Value := .agg #[.int .i64 p.a0, .int .i64 p.a1, .int .i64 p.a2, .int .i64 p.a3, .int .i64 p.a4, .int .i64 p.a5, .int .i64 p.a6, .int .i64 p.a7, .int .i64 p.a8]
theorem Sta.v_def (p : Sta) : p.v = .agg #[.int .i64 p.a0, .int .i64 p.a1, .int .i64 p.a2, .int .i64 p.a3, .int .i64 p.a4, .int .i64 p.a5, .int .i64 p.a6, .int .i64 p.a7, .int .i64 p.a8] := rfl
theorem eql_sta (a b : Sta) (w : World) : (binOp .eql 33 a.v b.v).run Tryz.prog w = .ok (.bool (decide (a = b))) w := by
  have u3 := Tryz.underlying3
  have a3 := Tryz.isAgg3
  have z3 := Tryz.sizeOf3
  have hS : Tryz.prog.underlying 33 = some (.struct (Tryz.prog.fieldsOf 33)) := by kernel_rfl
  have hp : Tryz.prog.stoodInHeld 33 = false := by kernel_rfl
  rw [Sta.v_def, Sta.v_def]
  rw [run_eql_struct, show (10000 : Nat) = 9999 + 1 from rfl, run_equalIn_agg w 9999 33 _ _ hS hp]
  simp only [Program.fieldsOf, Tryz.underlying33]
  go_simp
  obtain ⟨x0, x1, x2, x3, x4, x5, x6, x7, x8⟩ := a
  obtain ⟨y0, y1, y2, y3, y4, y5, y6, y7, y8⟩ := b
  by_cases h0 : x0 = y0
  rotate_left
  · simp [h0]
  subst h0
  by_cases h1 : x1 = y1
  rotate_left
  · simp [h1]
  subst h1
  by_cases h2 : x2 = y2
  rotate_left
  · simp [h2]
  subst h2
  by_cases h3 : x3 = y3
  rotate_left
  · simp [h3]
  subst h3
  by_cases h4 : x4 = y4
  rotate_left
  · simp [h4]
  subst h4
  by_cases h5 : x5 = y5
  rotate_left
  · simp [h5]
  subst h5
  by_cases h6 : x6 = y6
  rotate_left
  · simp [h6]
  subst h6
  by_cases h7 : x7 = y7
  rotate_left
  · simp [h7]
  subst h7
  by_cases h8 : x8 = y8 <;> simp [h8]
/-- an answer: error, has, value, items, numbers -/
structure An where
  err : Int
  has : Bool
  val : ByteArray
  its : List Itm
  st : Sta
  deriving DecidableEq
def An.cells (a : An) (A : Option Addr) (c : Nat) : List Value := [.int .i64 a.err, .bool a.has, .string a.val, .slice A a.its.length c, .int .i64 a.st.a0, .int .i64 a.st.a1, .int .i64 a.st.a2, .int .i64 a.st.a3, .int .i64 a.st.a4, .int .i64 a.st.a5, .int .i64 a.st.a6, .int .i64 a.st.a7, .int .i64 a.st.a8]
def An.v (a : An) (A : Option Addr) (c : Nat) : Value := .agg #[.int .i64 a.err, .bool a.has, .string a.val, .slice A a.its.length c, .int .i64 a.st.a0, .int .i64 a.st.a1, .int .i64 a.st.a2, .int .i64 a.st.a3, .int .i64 a.st.a4, .int .i64 a.st.a5, .int .i64 a.st.a6, .int .i64 a.st.a7, .int .i64 a.st.a8]
theorem An.v_def (a : An) (A : Option Addr) (c : Nat) : a.v A c = .agg #[.int .i64 a.err, .bool a.has, .string a.val, .slice A a.its.length c, .int .i64 a.st.a0, .int .i64 a.st.a1, .int .i64 a.st.a2, .int .i64 a.st.a3, .int .i64 a.st.a4, .int .i64 a.st.a5, .int .i64 a.st.a6, .int .i64 a.st.a7, .int .i64 a.st.a8] := rfl
theorem sta_size : (Tryz.prog.info? 33).map (·.size) = some 9 := by kernel_rfl
theorem an_st_range {w : World} {b : Nat} {a : An} {A : Option Addr} {c : Nat} {T : TypeId} {fz : Nat × Nat} (h : w.heap[b]? = some (.cells (a.cells A c).toArray T fz)) : w.rangeAt b 4 a.st.cells := fun j v hv => by
  rw [Lib.cell_of_heap h]
  simp only [List.getElem?_toArray]
  rw [← hv]
  show (a.cells A c)[4 + j]? = _
  rw [show a.cells A c = [.int .i64 a.err, .bool a.has, .string a.val, .slice A a.its.length c] ++ a.st.cells from rfl, List.getElem?_append_right (by simp)]
  simp
abbrev AnBox (s : Nat) (a : An) (A : Option Addr) (c : Nat) (w : World) : Prop := w.heap[s]? = some (.cells (a.cells A c).toArray 35 (0, 0))
set_option maxHeartbeats 2000000 in
set_option maxRecDepth 100000 in
theorem orderSame_any (a b : An) (A B : Option Addr) (ca cb : Nat) (w : World) (ha : Elems w A 2 (a.its.map Itm.cells)) (hb : Elems w B 2 (b.its.map Itm.cells)) (n1 : a.its.length ≤ 80000) (n2 : b.its.length ≤ 80000) :
    Calls Tryz.prog 35 #[a.v A ca, b.v B cb] w fun e w' => e = .returned (.bool (decide (a = b))) ∧ Below w.heap.size w w' := by
  have hs := fun W (hW : Below w.heap.size w W) => itmsEqual_any A B ca cb a.its b.its W (ha.below hW) (hb.below hW) n1 n2
  have hst := fun W => eql_sta a.st b.st W
  have hiff : a = b ↔ (a.err = b.err ∧ a.has = b.has ∧ a.val = b.val ∧ a.its = b.its ∧ a.st = b.st) := by
    obtain ⟨_, _, _, _, _⟩ := a
    obtain ⟨_, _, _, _, _⟩ := b
    simp
  have hxa := fun W => show AnBox w.heap.size a A ca W ↔ W.heap[w.heap.size]? = some (.cells (a.cells A ca).toArray 35 (0, 0)) from Iff.rfl
  rw [An.v_def, An.v_def]
  obtain ⟨R, hR⟩ : ∃ R, decide (a = b) = R := ⟨_, rfl⟩
  rw [hR]
  have HR := Lib.hid hR
  have HIFF := Lib.hid hiff
  have HS := Lib.hid hs
  have HZ := Lib.hid sta_size
  have hgu : Tryz.prog.eqGuardType Tryz.prog.depth 33 = false := by kernel_rfl
  clear hs hR hiff ha hb hxa
  by_cases h1 : a.err = b.err
  · by_cases h2 : a.has = b.has
    · by_cases h3 : a.val = b.val
      · cases h4 : decide (a.its = b.its) with
        | true =>
          have HS2 := Lib.hid (show ∀ W, Below w.heap.size w W → Calls Tryz.prog 63 #[.slice A a.its.length ca, .slice B b.its.length cb] W fun e w' => e = .returned (.bool true) ∧ Below W.heap.size W w' from fun W hW => by have := HS.out W hW; rw [h4] at this; exact this)
          have HST := Lib.hid hst
          have hRs : R = decide (a.st = b.st) := by
            rw [← HR.out]
            exact decide_eq_decide.2 (HIFF.out.trans ⟨fun h => h.2.2.2.2, fun h => ⟨h1, h2, h3, of_decide_eq_true h4, h⟩⟩)
          have e1 : (a.err == b.err) = true := by simp [h1]
          have e2 : (a.has == b.has) = true := by simp [h2]
          have e3 : (a.val.toList == b.val.toList) = true := by rw [eqB]; exact decide_eq_true h3
          have HRS := Lib.hid hRs
          clear hst hRs h1 h2 h3 h4 HS
          go_enter Tryz.func35, Tryz.ntmps35
          go_wp2_with (first
            | (go_at_call 63; (with_reducible refine (HS2.out _ (below_alloc (below_alloc (Below.refl _ w)))).mono ?_); rintro e w1 ⟨rfl, hb1⟩; have hba : AnBox w.heap.size a A ca w1 := ( box_below (((Fr.refl (fun _ => False) _).alloc _).row id (heap_alloc_new w _)) hb1); have hbb : AnBox (w.heap.size + 1) b B cb w1 := box_below (heap_new_at (by simp)) hb1; obtain ⟨za0, za1, za2, za3, za4, za5, za6, za7, za8⟩ : w1.cell? ⟨w.heap.size, 4, none⟩ = some (.int .i64 a.st.a0) ∧ w1.cell? ⟨w.heap.size, 5, none⟩ = some (.int .i64 a.st.a1) ∧ w1.cell? ⟨w.heap.size, 6, none⟩ = some (.int .i64 a.st.a2) ∧ w1.cell? ⟨w.heap.size, 7, none⟩ = some (.int .i64 a.st.a3) ∧ w1.cell? ⟨w.heap.size, 8, none⟩ = some (.int .i64 a.st.a4) ∧ w1.cell? ⟨w.heap.size, 9, none⟩ = some (.int .i64 a.st.a5) ∧ w1.cell? ⟨w.heap.size, 10, none⟩ = some (.int .i64 a.st.a6) ∧ w1.cell? ⟨w.heap.size, 11, none⟩ = some (.int .i64 a.st.a7) ∧ w1.cell? ⟨w.heap.size, 12, none⟩ = some (.int .i64 a.st.a8) := (by have hh := hba; refine ⟨?_, ?_, ?_, ?_, ?_, ?_, ?_, ?_, ?_⟩ <;> (rw [Lib.cell_of_heap hh]; rfl)); obtain ⟨zb0, zb1, zb2, zb3, zb4, zb5, zb6, zb7, zb8⟩ : w1.cell? ⟨w.heap.size + 1, 4, none⟩ = some (.int .i64 b.st.a0) ∧ w1.cell? ⟨w.heap.size + 1, 5, none⟩ = some (.int .i64 b.st.a1) ∧ w1.cell? ⟨w.heap.size + 1, 6, none⟩ = some (.int .i64 b.st.a2) ∧ w1.cell? ⟨w.heap.size + 1, 7, none⟩ = some (.int .i64 b.st.a3) ∧ w1.cell? ⟨w.heap.size + 1, 8, none⟩ = some (.int .i64 b.st.a4) ∧ w1.cell? ⟨w.heap.size + 1, 9, none⟩ = some (.int .i64 b.st.a5) ∧ w1.cell? ⟨w.heap.size + 1, 10, none⟩ = some (.int .i64 b.st.a6) ∧ w1.cell? ⟨w.heap.size + 1, 11, none⟩ = some (.int .i64 b.st.a7) ∧ w1.cell? ⟨w.heap.size + 1, 12, none⟩ = some (.int .i64 b.st.a8) := (by have hh := hbb; refine ⟨?_, ?_, ?_, ?_, ?_, ?_, ?_, ?_, ?_⟩ <;> (rw [Lib.cell_of_heap hh]; rfl)); have hla := lt_of_row hba; have hlb := lt_of_row hbb;  have HB1 := Lib.hid (below_next (below_alloc (below_alloc (Below.refl _ w))) hb1); have hst := HST.out; rw [← HRS.out] at hst; simp only [Sta.v_def] at hst; clear hb1 hba hbb))
          go_ret
          exact ⟨rfl, HB1.out⟩
        | false =>
          have HS2 := Lib.hid (show ∀ W, Below w.heap.size w W → Calls Tryz.prog 63 #[.slice A a.its.length ca, .slice B b.its.length cb] W fun e w' => e = .returned (.bool false) ∧ Below W.heap.size W w' from fun W hW => by have := HS.out W hW; rw [h4] at this; exact this)
          have hRf : R = false := by rw [← HR.out]; exact decide_eq_false (fun h => of_decide_eq_false h4 (HIFF.out.1 h).2.2.2.1)
          have e1 : (a.err == b.err) = true := by simp [h1]
          have e2 : (a.has == b.has) = true := by simp [h2]
          have e3 : (a.val.toList == b.val.toList) = true := by rw [eqB]; exact decide_eq_true h3
          subst hRf
          clear hst h1 h2 h3 h4 HS
          go_enter Tryz.func35, Tryz.ntmps35
          go_wp2_with (go_at_call 63; (with_reducible refine (HS2.out _ (below_alloc (below_alloc (Below.refl _ w)))).mono ?_); rintro e w1 ⟨rfl, hb1⟩; have HB1 := Lib.hid (below_next (below_alloc (below_alloc (Below.refl _ w))) hb1); clear hb1)
          go_ret
          exact ⟨rfl, HB1.out⟩
      · have hRf : R = false := by rw [← HR.out]; exact decide_eq_false (fun h => h3 (HIFF.out.1 h).2.2.1)
        have e1 : (a.err == b.err) = true := by simp [h1]
        have e2 : (a.has == b.has) = true := by simp [h2]
        have e3 : (a.val.toList == b.val.toList) = false := by rw [eqB]; exact decide_eq_false h3
        subst hRf
        clear hst h1 h2 h3
        go_enter Tryz.func35, Tryz.ntmps35
        go_wp2
        go_ret
        exact ⟨rfl, (by repeat (first | assumption | exact Below.refl _ _ | (refine below_step (w := ?_) ?_ ?_ ?_; rotate_left 2; assumption) | refine Below.drew ?_ | refine below_drewN ?_ _ | refine Below.alloc ?_ ?_ _ | refine Below.setCell ?_ ?_ _ | (focus (simp; done)) | (focus (simp; omega)) | omega))⟩
    · have hRf : R = false := by rw [← HR.out]; exact decide_eq_false (fun h => h2 (HIFF.out.1 h).2.1)
      have e1 : (a.err == b.err) = true := by simp [h1]
      have e2 : (a.has == b.has) = false := by simp [h2]
      subst hRf
      clear hst h1 h2
      go_enter Tryz.func35, Tryz.ntmps35
      go_wp2
      go_ret
      exact ⟨rfl, (by repeat (first | assumption | exact Below.refl _ _ | (refine below_step (w := ?_) ?_ ?_ ?_; rotate_left 2; assumption) | refine Below.drew ?_ | refine below_drewN ?_ _ | refine Below.alloc ?_ ?_ _ | refine Below.setCell ?_ ?_ _ | (focus (simp; done)) | (focus (simp; omega)) | omega))⟩
  · have hRf : R = false := by rw [← HR.out]; exact decide_eq_false (fun h => h1 (HIFF.out.1 h).1)
    have e1 : (a.err == b.err) = false := by simp [h1]
    subst hRf
    clear hst h1
    go_enter Tryz.func35, Tryz.ntmps35
    go_wp2
    go_ret
    exact ⟨rfl, (by repeat (first | assumption | exact Below.refl _ _ | (refine below_step (w := ?_) ?_ ?_ ?_; rotate_left 2; assumption) | refine Below.drew ?_ | refine below_drewN ?_ _ | refine Below.alloc ?_ ?_ _ | refine Below.setCell ?_ ?_ _ | (focus (simp; done)) | (focus (simp; omega)) | omega))⟩
end Go.Proofs.YtdfgdnaejnngoaaGreat
namespace Go.Proofs.YtdfgdnaejnngoaaGreat
open Go.RowKit
set_option maxHeartbeats 4000000 in
set_option maxRecDepth 100000 in
theorem refDo_scanbad (bu : Nat) (c : Int) (ls : List (List Itm)) (l : List Itm) (key val : ByteArray) (n : Int) (lo hi : ByteArray) (w : World) (h : RefAt w bu c ls) (hl : ls[ls.length - 1]? = some l) (hn : ls.length ≤ 90000) (hln : l.length ≤ 60000) (hr : isRng lo hi = false) (ho : isOrd ⟨5, key, val, n, lo, hi⟩ = true) :
    Calls Tryz.prog 36 #[.pointer (some ⟨bu, 0, none⟩), (Ord.mk 5 key val n lo hi).v] w (RefDo bu c (1, false, ⟨#[]⟩, [], 0, 0) ls w) := by
  have hia := fun W => refIs_any ⟨5, key, val, n, lo, hi⟩ W
  rw [ho] at hia
  have hm := fun W => refMay_any lo hi W
  rw [hr] at hm
  rw [Ord.v_def] at hia ⊢
  dsimp only at hia ⊢
  have hbul := h.lt
  have HI := Lib.hid hia
  have HM := Lib.hid hm
  have HRF := Lib.hid h
  have HMS := Lib.hid refans_size
  clear hia ho h hl hm hr
  go_enter Tryz.func36, Tryz.ntmps36
  go_wp2_with (first
    | (go_at_call 64; (with_reducible refine (HI.out _).mono ?_); rintro e w1 ⟨rfl, hb1⟩; have hbo : QBox w.heap.size ⟨5, key, val, n, lo, hi⟩ w1 := box_below (((Fr.refl (fun _ => False) _).alloc _).row id (((Fr.refl (fun _ => False) _).alloc _).row id (heap_alloc_new w _))) hb1; have hba : RBox (w.heap.size + 1) w1 := box_below (((Fr.refl (fun _ => False) _).alloc _).row id (heap_new_at (by simp))) hb1; have hbc : RBox (w.heap.size + 2) w1 := box_below (heap_new_at (by simp)) hb1; have d0 : w1.cell? ⟨w.heap.size, 0, none⟩ = some (.int .i64 5) := (by rw [Lib.cell_of_heap hbo]; rfl); have d1 : w1.cell? ⟨w.heap.size, 1, none⟩ = some (.string key) := (by rw [Lib.cell_of_heap hbo]; rfl); have d2 : w1.cell? ⟨w.heap.size, 2, none⟩ = some (.string val) := (by rw [Lib.cell_of_heap hbo]; rfl); have d3 : w1.cell? ⟨w.heap.size, 3, none⟩ = some (.int .u64 n) := (by rw [Lib.cell_of_heap hbo]; rfl); have d4 : w1.cell? ⟨w.heap.size, 4, none⟩ = some (.string lo) := (by rw [Lib.cell_of_heap hbo]; rfl); have d5 : w1.cell? ⟨w.heap.size, 5, none⟩ = some (.string hi) := (by rw [Lib.cell_of_heap hbo]; rfl); have hxl := lt_of_row hbo; have HBO := Lib.hid hbo; have HBA := Lib.hid hba; have HBC := Lib.hid hbc; have HB1 := Lib.hid (below_next (below_alloc (below_alloc (below_alloc (Below.refl _ w)))) hb1); skip; clear hb1 hbo hba hbc)
    | (go_at_call 67; (with_reducible refine (HM.out _).mono ?_); rintro e w2 ⟨rfl, hb2⟩; have hb12 := below_next (below_alloc (o := .cells #[.string lo, .string hi] 119) (Below.refl _ w1)) hb2; have hbc2 : RBox (w.heap.size + 2) w2 := box_below HBC.out hb12; have hba2 : RBox (w.heap.size + 1) w2 := box_below HBA.out hb12; have z0 : w2.cell? ⟨w.heap.size + 2, 0, none⟩ = some (.int .i64 0) := (by rw [Lib.cell_of_heap hbc2]; rfl); have y0 := Lib.frozen_of_heap hbc2 0; have HRC := Lib.hid (setCell_row hbc2 0 (.int .i64 1)); have hfc : Fr (fun q => q = w.heap.size + 2) w2 (w2.setCell ⟨w.heap.size + 2, 0, none⟩ (.int .i64 1)) := (Fr.refl (fun q => q = w.heap.size + 2) w2).setCell (p := ⟨w.heap.size + 2, 0, none⟩) (fun _ => rfl) _; have HFC := Lib.hid hfc; have HBA2 := Lib.hid (hfc.row (by omega) hba2); have HBC2 := Lib.hid hbc2; have HB2 := Lib.hid (below_next HB1.out hb12); clear hfc hbc2 hba2 hb2 hb12)
    | (refine wpList_load_mid rfl 76 (Operand.tmp 5) rfl (w.heap.size + 2) 0 rfl (refC 1 false ⟨#[]⟩ (.slice none 0 0) 0 0) _ (row_range HRC.out) Tryz.underlying76 rfl HMS.out ?_)
    | (refine wpList_store_row rfl 76 (Operand.tmp 4) (Operand.tmp 108) rfl (w.heap.size + 1) _ (refC 1 false ⟨#[]⟩ (.slice none 0 0) 0 0) _ rfl rfl HBA2.out rfl HMS.out (refans_all _ _ _ _ _ _ _ _) ?_; intro w9 hr9 hf9; have HR9 := Lib.hid hr9; have HF9 := Lib.hid hf9; clear hr9 hf9))
  refine bodyPost_ret (v := refV 1 false ⟨#[]⟩ (.slice none 0 0) 0 0) (results_cell (a := 4) (t := 76) (ad := ⟨w.heap.size + 1, 0, none⟩) Tryz.results36 rfl (load_row _ HR9.out _ Tryz.underlying76 rfl HMS.out)) rfl ?_
  exact refdo_done hbul HB2.out (HRF.out.below HB2.out) (Fr.refl _ _) (Nat.le_succ _) HBC2.out HFC.out HBA2.out HF9.out rfl (elems_nil _ _)
set_option maxHeartbeats 4000000 in
set_option maxRecDepth 100000 in
theorem refDo_scan (bu : Nat) (c : Int) (ls : List (List Itm)) (l : List Itm) (key val : ByteArray) (n : Int) (lo hi : ByteArray) (w : World) (h : RefAt w bu c ls) (hl : ls[ls.length - 1]? = some l) (hn : ls.length ≤ 90000) (hln : l.length ≤ 60000) (hr : isRng lo hi = true) (ho : isOrd ⟨5, key, val, n, lo, hi⟩ = true) :
    Calls Tryz.prog 36 #[.pointer (some ⟨bu, 0, none⟩), (Ord.mk 5 key val n lo hi).v] w (RefDo bu c (0, false, ⟨#[]⟩, withinL lo hi l, 0, 0) ls w) := by
  have hia := fun W => refIs_any ⟨5, key, val, n, lo, hi⟩ W
  rw [ho] at hia
  have hm := fun W => refMay_any lo hi W
  rw [hr] at hm
  have hnow := fun W (hW : Below w.heap.size w W) => refNow_any bu c ls l W (h.below hW) hl hn
  have hwi := fun W A cp h1 => refWithin_any A cp lo hi l W h1 (by omega)
  rw [Ord.v_def] at hia ⊢
  dsimp only at hia ⊢
  generalize withinL lo hi l = M at *
  have hbul := h.lt
  have HI := Lib.hid hia
  have HM := Lib.hid hm
  have HN := Lib.hid hnow
  have HWI := Lib.hid hwi
  have HRF := Lib.hid h
  have HMS := Lib.hid refans_size
  clear hia ho h hl hm hr hnow hwi
  go_enter Tryz.func36, Tryz.ntmps36
  go_wp2_with (first
    | (go_at_call 64; (with_reducible refine (HI.out _).mono ?_); rintro e w1 ⟨rfl, hb1⟩; have hbo : QBox w.heap.size ⟨5, key, val, n, lo, hi⟩ w1 := box_below (((Fr.refl (fun _ => False) _).alloc _).row id (((Fr.refl (fun _ => False) _).alloc _).row id (heap_alloc_new w _))) hb1; have hba : RBox (w.heap.size + 1) w1 := box_below (((Fr.refl (fun _ => False) _).alloc _).row id (heap_new_at (by simp))) hb1; have hbc : RBox (w.heap.size + 2) w1 := box_below (heap_new_at (by simp)) hb1; have d0 : w1.cell? ⟨w.heap.size, 0, none⟩ = some (.int .i64 5) := (by rw [Lib.cell_of_heap hbo]; rfl); have d1 : w1.cell? ⟨w.heap.size, 1, none⟩ = some (.string key) := (by rw [Lib.cell_of_heap hbo]; rfl); have d2 : w1.cell? ⟨w.heap.size, 2, none⟩ = some (.string val) := (by rw [Lib.cell_of_heap hbo]; rfl); have d3 : w1.cell? ⟨w.heap.size, 3, none⟩ = some (.int .u64 n) := (by rw [Lib.cell_of_heap hbo]; rfl); have d4 : w1.cell? ⟨w.heap.size, 4, none⟩ = some (.string lo) := (by rw [Lib.cell_of_heap hbo]; rfl); have d5 : w1.cell? ⟨w.heap.size, 5, none⟩ = some (.string hi) := (by rw [Lib.cell_of_heap hbo]; rfl); have hxl := lt_of_row hbo; have HBO := Lib.hid hbo; have HBA := Lib.hid hba; have HBC := Lib.hid hbc; have HB1 := Lib.hid (below_next (below_alloc (below_alloc (below_alloc (Below.refl _ w)))) hb1); skip; clear hb1 hbo hba hbc)
    | (go_at_call 67; (with_reducible refine (HM.out _).mono ?_); rintro e w2 ⟨rfl, hb2⟩; have hb12 := below_next (below_alloc (o := .cells #[.string lo, .string hi] 119) (Below.refl _ w1)) hb2; have HBC2 := Lib.hid (show RBox (w.heap.size + 2) w2 from box_below HBC.out hb12); have HBA2 := Lib.hid (show RBox (w.heap.size + 1) w2 from box_below HBA.out hb12); have HBX2 := Lib.hid (box_cells hb2); have HB2 := Lib.hid (below_next HB1.out hb12); clear hb2 hb12))
  have hbx2 := HBX2.out
  have x0 : w2.cell? ⟨w1.heap.size, 0, none⟩ = some (.string lo) := by rw [Lib.cell_of_heap hbx2]; rfl
  have x1 : w2.cell? ⟨w1.heap.size, 1, none⟩ = some (.string hi) := by rw [Lib.cell_of_heap hbx2]; rfl
  have hxl2 := lt_of_row hbx2
  have hs2 := HB2.out.size
  have hs1 := HB1.out.size
  have hx3 : w.heap.size + 2 < w1.heap.size := lt_of_row HBC.out
  clear hbx2
  refine rg_start (n := 6) (fun w' => w'.cell? ⟨w1.heap.size, 0, none⟩ = some (.string lo) ∧ w'.cell? ⟨w1.heap.size, 1, none⟩ = some (.string hi) ∧ w1.heap.size < w'.heap.size) #[false, false, false, false, false, false] (by kernel_rfl) rfl rfl ⟨x0, x1, hxl2⟩ (fun hHeld => ?_)
  refine rg_take (i := 0) (N := (some 93)) (v := ?_) (a' := ?_) #[true, false, false, false, false, false] rfl rfl (by kernel_rfl) (fun _ _ _ h => h) (by rfl) ?_ hHeld ?_ ?_
  rotate_left 2
  · rintro w' ⟨s0, s1, s2⟩
    go_simp
    try with_reducible rfl
  · simp only [Act.put, List.setIfInBounds_toArray, List.set_cons_zero, List.set_cons_succ]
    rfl
  refine rg_take (i := 2) (N := (some 95)) (v := ?_) (a' := ?_) #[true, false, true, false, false, false] rfl rfl (by kernel_rfl) (fun _ _ _ h => h) (by rfl) ?_ hHeld ?_ ?_
  rotate_left 2
  · rintro w' ⟨s0, s1, s2⟩
    go_simp
    try with_reducible rfl
  · simp only [Act.put, List.setIfInBounds_toArray, List.set_cons_zero, List.set_cons_succ]
    rfl
  refine rg_one (i := 1) #[true, true, true, false, false, false] rfl (by kernel_rfl) (by rfl) (fun K hK => ?_)
  obtain ⟨s0, s1, s2⟩ := hHeld
  repeat go_step
  ((with_reducible refine (HN.out _ HB2.out.drew).mono ?_); rintro e w3 ⟨A3, c3, rfl, hel3, hb3⟩; have hbc3 : RBox (w.heap.size + 2) w3 := box_below (w := w2.drew) HBC2.out hb3; have hba3 : RBox (w.heap.size + 1) w3 := box_below (w := w2.drew) HBA2.out hb3; have hbw3 := below_next HB2.out.drew hb3)
  try dsimp only
  refine hK.out _ _ ?_ (fun hHeld => ?_)
  · exact ⟨keep_cell hb3 s2 s0, keep_cell hb3 s2 s1, keep_lt hb3 s2⟩
  clear hK K
  clear s0 s1 s2
  refine rg_one (i := 3) #[true, true, true, true, false, false] rfl (by kernel_rfl) (by rfl) (fun K hK => ?_)
  obtain ⟨s0, s1, s2⟩ := hHeld
  repeat go_step
  ((with_reducible refine (HWI.out _ _ _ hel3).mono ?_); rintro e w4 ⟨A4, c4, rfl, ho4, hb4⟩; have hbc4 : RBox (w.heap.size + 2) w4 := box_below hbc3 hb4; have hba4 : RBox (w.heap.size + 1) w4 := box_below hba3 hb4; have z3 : w4.cell? ⟨w.heap.size + 2, 3, none⟩ = some (.slice none 0 0) := (by rw [Lib.cell_of_heap hbc4]; rfl); have y3 := Lib.frozen_of_heap hbc4 3; have HRC := Lib.hid (setCell_row hbc4 3 (.slice A4 M.length c4)); have hfc : Fr (fun q => q = w.heap.size + 2) w4 (w4.setCell ⟨w.heap.size + 2, 3, none⟩ (.slice A4 M.length c4)) := (Fr.refl (fun q => q = w.heap.size + 2) w4).setCell (p := ⟨w.heap.size + 2, 3, none⟩) (fun _ => rfl) _; have HFC := Lib.hid hfc; have HBA4 := Lib.hid (hfc.row (by omega) hba4); have HBC4 := Lib.hid hbc4; have HO4 := Lib.hid ho4; have HBW4 := Lib.hid (below_next hbw3 hb4); have HS3 := Lib.hid hbw3.size; have HSX := Lib.hid s2)
  try dsimp only
  refine hK.out _ _ ?_ (fun hHeld => ?_)
  · exact ⟨keep_cell hb4 s2 s0, keep_cell hb4 s2 s1, keep_lt hb4 s2⟩
  clear hK K
  clear s0 s1 s2
  refine rg_take (i := 4) (N := (some 97)) (v := ?_) (a' := ?_) #[true, true, true, true, true, false] rfl rfl (by kernel_rfl) (fun _ _ _ h => h) (by rfl) ?_ hHeld ?_ ?_
  rotate_left 2
  · rintro w' ⟨s0, s1, s2⟩
    go_simp
    try with_reducible rfl
  · simp only [Act.put, List.setIfInBounds_toArray, List.set_cons_zero, List.set_cons_succ]
    rfl
  refine rg_one (i := 5) #[true, true, true, true, true, true] rfl (by kernel_rfl) (by rfl) (fun K hK => ?_)
  obtain ⟨s0, s1, s2⟩ := hHeld
  repeat go_step
  refine hK.out _ _ ?_ (fun hHeld => ?_)
  · exact ⟨hfc.cell s2 (by omega) s0, hfc.cell s2 (by omega) s1, Nat.lt_of_lt_of_le s2 hfc.size⟩
  clear hK K
  clear s0 s1 s2
  refine rg_done (by kernel_rfl) ?_
  clear hHeld hfc hbc3 hba3 hbc4 hba4 hbw3 hb3 hb4 ho4 hel3
  go_wp2_with (first
    | (refine wpList_load_mid rfl 76 (Operand.tmp 5) rfl (w.heap.size + 2) 0 rfl (refC 0 false ⟨#[]⟩ (.slice A4 M.length c4) 0 0) _ (row_range HRC.out) Tryz.underlying76 rfl HMS.out ?_)
    | (refine wpList_store_row rfl 76 (Operand.tmp 4) (Operand.tmp 108) rfl (w.heap.size + 1) _ (refC 0 false ⟨#[]⟩ (.slice A4 M.length c4) 0 0) _ rfl rfl HBA4.out rfl HMS.out (refans_all _ _ _ _ _ _ _ _) ?_; intro w9 hr9 hf9; have HR9 := Lib.hid hr9; have HF9 := Lib.hid hf9; clear hr9 hf9))
  refine bodyPost_ret (v := refV 0 false ⟨#[]⟩ (.slice A4 M.length c4) 0 0) (results_cell (a := 4) (t := 76) (ad := ⟨w.heap.size + 1, 0, none⟩) Tryz.results36 rfl (load_row _ HR9.out _ Tryz.underlying76 rfl HMS.out)) rfl ?_
  have hge := HSX.out
  refine refdo_done hbul HBW4.out (HRF.out.below HBW4.out) (Fr.refl _ _) (Nat.le_succ _) HBC4.out HFC.out HBA4.out HF9.out rfl ?_
  exact ownM_row ((HO4.out.fr HFC.out (fun k hk e => by omega)).fr HF9.out (fun k hk e => by omega))
end Go.Proofs.YtdfgdnaejnngoaaGreat
namespace Go.Proofs.YtdfgdnaejnngoaaGreat
open Go.RowKit
theorem ref_only {w : World} {bu : Nat} {c : Int} {l : List Itm} {A : Option Addr} {cp : Nat} {sv : Value} (hrow : w.heap[bu]? = some (.cells #[.int .i64 c, sv] 83 (0, 0))) (hel : RowAt w A l) :
    RefAt ((w.setCell ⟨bu, 1, none⟩ (.slice (some ⟨w.heap.size, 0, none⟩) 1 1)).alloc (.cells #[.slice A l.length cp] 29)) bu c [l] := by
  have hf : Fr (fun k => k = bu) w (w.setCell ⟨bu, 1, none⟩ (.slice (some ⟨w.heap.size, 0, none⟩) 1 1)) := (Fr.refl (fun k => k = bu) w).setCell (p := ⟨bu, 1, none⟩) (fun _ => rfl) _
  have hr := setCell_row hrow 1 (.slice (some ⟨w.heap.size, 0, none⟩) 1 1)
  have hel2 := hel.fr hf (fun q hq _ => by subst hq; exact ⟨_, _, hrow, by decide⟩)
  have hsz : (w.setCell ⟨bu, 1, none⟩ (.slice (some ⟨w.heap.size, 0, none⟩) 1 1)).heap.size = w.heap.size := by simp
  generalize w.setCell ⟨bu, 1, none⟩ (.slice (some ⟨w.heap.size, 0, none⟩) 1 1) = W at *
  have hb : Below W.heap.size W (W.alloc (.cells #[.slice A l.length cp] 29)) := below_alloc (Below.refl _ W)
  have hg : (W.alloc (.cells #[.slice A l.length cp] 29)).heap[w.heap.size]? = some (.cells #[.slice A l.length cp] 29 (0, 0)) := by rw [← hsz]; exact heap_alloc_new W _
  refine ⟨⟨w.heap.size, 0, 1, [.slice A l.length cp], by simpa using box_below hr hb, rfl, Nat.le_refl _, ⟨_, hg⟩, fun j v hv => ?_, fun j v l' hv hl' => ?_⟩, by simp⟩
  · rcases j with _ | j
    · simp at hv
      subst hv
      rw [Lib.cell_of_heap hg]
      rfl
    · simp at hv
  · rcases j with _ | j
    · simp at hv hl'
      subst hv hl'
      exact ⟨_, _, rfl, hel2.below hb⟩
    · simp at hv
set_option maxHeartbeats 4000000 in
set_option maxRecDepth 100000 in
theorem refDo_safe (bu : Nat) (c : Int) (ls : List (List Itm)) (l : List Itm) (kind : Int) (key val : ByteArray) (n : Int) (lo hi : ByteArray) (w : World) (h : RefAt w bu c ls) (hl : ls[ls.length - 1]? = some l) (hn : ls.length ≤ 90000) (hln : l.length ≤ 60000) (ho : isOrd ⟨kind, key, val, n, lo, hi⟩ = true) (e1 : (kind == 1) = false) (e2 : (kind == 2) = false) (e3 : (kind == 3) = false) (e4 : (kind == 4) = false) (e5 : (kind == 5) = false) (e8 : (kind == 8) = false) :
    Calls Tryz.prog 36 #[.pointer (some ⟨bu, 0, none⟩), (Ord.mk kind key val n lo hi).v] w (RefDo bu c (0, false, ⟨#[]⟩, [], 0, 0) [l] w) := by
  have hia := fun W => refIs_any ⟨kind, key, val, n, lo, hi⟩ W
  rw [ho] at hia
  have hnow := fun W (hW : Below w.heap.size w W) => refNow_row bu c ls l W (h.below hW) hl hn
  rw [Ord.v_def] at hia ⊢
  dsimp only at hia ⊢
  have hbul := h.lt
  have HI := Lib.hid hia
  have HN := Lib.hid hnow
  have HRF := Lib.hid h
  have HMS := Lib.hid refans_size
  clear hia ho h hl hnow
  go_enter Tryz.func36, Tryz.ntmps36
  go_wp2_with (first
    | (go_at_call 64; (with_reducible refine (HI.out _).mono ?_); rintro e w1 ⟨rfl, hb1⟩; have hbo : QBox w.heap.size ⟨kind, key, val, n, lo, hi⟩ w1 := box_below (((Fr.refl (fun _ => False) _).alloc _).row id (((Fr.refl (fun _ => False) _).alloc _).row id (heap_alloc_new w _))) hb1; have hba : RBox (w.heap.size + 1) w1 := box_below (((Fr.refl (fun _ => False) _).alloc _).row id (heap_new_at (by simp))) hb1; have hbc : RBox (w.heap.size + 2) w1 := box_below (heap_new_at (by simp)) hb1; have d0 : w1.cell? ⟨w.heap.size, 0, none⟩ = some (.int .i64 kind) := (by rw [Lib.cell_of_heap hbo]; rfl); have d1 : w1.cell? ⟨w.heap.size, 1, none⟩ = some (.string key) := (by rw [Lib.cell_of_heap hbo]; rfl); have d2 : w1.cell? ⟨w.heap.size, 2, none⟩ = some (.string val) := (by rw [Lib.cell_of_heap hbo]; rfl); have d3 : w1.cell? ⟨w.heap.size, 3, none⟩ = some (.int .u64 n) := (by rw [Lib.cell_of_heap hbo]; rfl); have d4 : w1.cell? ⟨w.heap.size, 4, none⟩ = some (.string lo) := (by rw [Lib.cell_of_heap hbo]; rfl); have d5 : w1.cell? ⟨w.heap.size, 5, none⟩ = some (.string hi) := (by rw [Lib.cell_of_heap hbo]; rfl); have hxl := lt_of_row hbo; have HBO := Lib.hid hbo; have HBA := Lib.hid hba; have HBC := Lib.hid hbc; have HB1 := Lib.hid (below_next (below_alloc (below_alloc (below_alloc (Below.refl _ w)))) hb1); skip; clear hb1 hbo hba hbc)
    | (go_at_call 40; (with_reducible refine (HN.out _ HB1.out).mono ?_); rintro e w2 ⟨A2, c2, rfl, hel2, hb2⟩; have hbc2 : RBox (w.heap.size + 2) w2 := box_below HBC.out hb2; have hba2 : RBox (w.heap.size + 1) w2 := box_below HBA.out hb2; have hbw2 := below_next HB1.out hb2; obtain ⟨gr, off, cap, vs, r1, _⟩ := (HRF.out.below hbw2).row; have hbul2 := lt_of_row r1; have u1 : w2.cell? ⟨bu, 1, none⟩ = some (.slice (some ⟨gr, off, none⟩) vs.length cap) := (by rw [Lib.cell_of_heap r1]; rfl); have y1 := Lib.frozen_of_heap r1 1; have hrf := ref_only (cp := c2) r1 hel2; have hfa : Fr (fun q => q = bu) w2 ((w2.setCell ⟨bu, 1, none⟩ (.slice (some ⟨w2.heap.size, 0, none⟩) 1 1)).alloc (.cells #[.slice A2 l.length c2] 29)) := ((Fr.refl (fun q => q = bu) w2).setCell (p := ⟨bu, 1, none⟩) (fun _ => rfl) _).alloc _; have HRC := Lib.hid (hfa.row (by omega) hbc2); have HBA2 := Lib.hid (hfa.row (by omega) hba2); have HFA := Lib.hid hfa; have HRF2 := Lib.hid hrf; have HB2 := Lib.hid hbw2; have HBA3 := Lib.hid hba2; clear hbc2 hba2 hbw2 r1 hrf hfa hel2 hb2)
    | (refine wpList_load_mid rfl 76 (Operand.tmp 5) rfl (w.heap.size + 2) 0 rfl (refC 0 false ⟨#[]⟩ (.slice none 0 0) 0 0) _ (row_range HRC.out) Tryz.underlying76 rfl HMS.out ?_)
    | (refine wpList_store_row rfl 76 (Operand.tmp 4) (Operand.tmp 108) rfl (w.heap.size + 1) _ (refC 0 false ⟨#[]⟩ (.slice none 0 0) 0 0) _ rfl rfl HBA2.out rfl HMS.out (refans_all _ _ _ _ _ _ _ _) ?_; intro w9 hr9 hf9; have HR9 := Lib.hid hr9; have HF9 := Lib.hid hf9; clear hr9 hf9))
  refine bodyPost_ret (v := refV 0 false ⟨#[]⟩ (.slice none 0 0) 0 0) (results_cell (a := 4) (t := 76) (ad := ⟨w.heap.size + 1, 0, none⟩) Tryz.results36 rfl (load_row _ HR9.out _ Tryz.underlying76 rfl HMS.out)) rfl ?_
  exact refdo_done hbul HB2.out HRF2.out HFA.out (Nat.le_succ _) HRC.out (Fr.refl _ _) HBA2.out HF9.out rfl (elems_nil _ _)
theorem refDo_any (bu : Nat) (c : Int) (ls : List (List Itm)) (l : List Itm) (o : Ord) (w : World) (h : RefAt w bu c ls) (hl : ls[ls.length - 1]? = some l) (hn : ls.length ≤ 90000) (hln : l.length ≤ 60000) (hri : Rises l) (hok : ∀ y ∈ l, y.ok) (h0 : 0 ≤ o.n) (h1 : o.n < 18446744073709551616) :
    Calls Tryz.prog 36 #[.pointer (some ⟨bu, 0, none⟩), o.v] w (RefDo bu c (ansO c l o) (rowsO c ls l o) w) := by
  unfold ansO rowsO
  obtain ⟨kind, key, val, n, lo, hi⟩ := o
  by_cases ho : isOrd ⟨kind, key, val, n, lo, hi⟩ = true
  · rw [if_pos ho, if_pos ho]
    dsimp only at h0 h1 ⊢
    by_cases n1 : kind = 1
    · subst n1; exact refDo_put bu c ls l key val n lo hi w h hl hn hln hri hok ho
    by_cases n2 : kind = 2
    · subst n2; exact refDo_del bu c ls l key val n lo hi w h hl hn hln hri hok ho
    by_cases n3 : kind = 3
    · subst n3; exact refDo_add bu c ls l key val n lo hi w h hl hn hln hri hok h0 h1 ho
    have hm : msgO ⟨kind, key, val, n, lo, hi⟩ = none := by unfold msgO; rw [if_neg n1, if_neg n2, if_neg n3]
    rw [hm]
    dsimp only
    by_cases n4 : kind = 4
    · subst n4
      rw [if_pos rfl, if_pos (Or.inl rfl)]
      have hg := refDo_get bu c ls l key val n lo hi w h hl hn hln hri ho
      cases hk : isKey key with
      | true => rw [hk] at hg; exact hg
      | false =>
        have hgn : getL l key = none := getL_none (fun y hy e => by have := (hok y hy).1; rw [e, hk] at this; cases this)
        rw [hk, hgn] at hg
        exact hg
    by_cases n5 : kind = 5
    · subst n5
      rw [if_neg n4, if_pos rfl, if_pos (Or.inr (Or.inl rfl))]
      cases hk : isRng lo hi with
      | true => rw [if_pos rfl]; exact refDo_scan bu c ls l key val n lo hi w h hl hn hln hk ho
      | false => rw [if_neg (by decide)]; exact refDo_scanbad bu c ls l key val n lo hi w h hl hn hln hk ho
    by_cases n8 : kind = 8
    · subst n8
      rw [if_neg n4, if_neg n5, if_pos rfl, if_pos (Or.inr (Or.inr rfl))]
      exact refDo_stat bu c ls l key val n lo hi w h hl hn hln hok ho
    rw [if_neg n4, if_neg n5, if_neg n8, if_neg (by rintro (e | e | e); exact n4 e; exact n5 e; exact n8 e)]
    exact refDo_safe bu c ls l kind key val n lo hi w h hl hn hln ho (by simp [n1]) (by simp [n2]) (by simp [n3]) (by simp [n4]) (by simp [n5]) (by simp [n8])
  · rw [if_neg ho, if_neg ho]
    exact refDo_bad bu c ls kind key val n lo hi w h (by simpa using ho)
end Go.Proofs.YtdfgdnaejnngoaaGreat
namespace Go.Proofs.YtdfgdnaejnngoaaGreat
open Go.RowKit
/-! grangerlaw26.form, alike. -/
theorem rord_size : (Tryz.prog.info? 78).map (·.size) = some 6 := by kernel_rfl
theorem rord_all (o : Ord) : o.cells.all (·.oneCell') = true := rfl
set_option maxRecDepth 100000 in
theorem form_any (o : Ord) (w : World) : Calls Tryz.prog 37 #[o.v] w fun e w' => e = .returned o.v ∧ Below w.heap.size w w' := by
  rw [Ord.v_def]
  obtain ⟨kind, key, val, n, lo, hi⟩ := o
  dsimp only
  have HMS := Lib.hid rord_size
  go_enter Tryz.func37, Tryz.ntmps37
  go_wp2_with (refine wpList_store_row rfl 78 (Operand.tmp 2) (Operand.tmp 15) rfl (w.heap.size + 1) _ (Ord.mk kind key val n lo hi).cells _ rfl rfl (heap_new_at (by simp)) rfl HMS.out (rord_all _) ?_; intro w2 hr2 hf2; have HR2 := Lib.hid hr2; have HF2 := Lib.hid hf2; clear hr2 hf2)
  have hb := below_alloc (o := .cells #[.int .i64 0, .string ⟨#[]⟩, .string ⟨#[]⟩, .int .u64 0, .string ⟨#[]⟩, .string ⟨#[]⟩] 78) (below_alloc (o := .cells #[.int .i64 kind, .string key, .string val, .int .u64 n, .string lo, .string hi] 39) (Below.refl _ w))
  refine bodyPost_ret (v := (Ord.mk kind key val n lo hi).v) (results_cell (a := 2) (t := 78) (ad := ⟨w.heap.size + 1, 0, none⟩) Tryz.results37 rfl (load_row _ HR2.out _ Tryz.underlying78 rfl HMS.out)) rfl ⟨rfl, hb.trans (HF2.out.to_below hb.size (fun i hi e => by omega))⟩
/-- what a deed answers, as an answer -/
def ansAn (r : Int × Bool × ByteArray × List Itm × Int × Int) : An := ⟨r.1, r.2.1, r.2.2.1, r.2.2.2.1, ⟨r.2.2.2.2.1, r.2.2.2.2.2, 0, 0, 0, 0, 0, 0, 0⟩⟩
set_option maxHeartbeats 2000000 in
set_option maxRecDepth 100000 in
theorem alike_any (a b : An) (n wt : Int) (A B : Option Addr) (ca cb : Nat) (w : World) (hst : b.st = ⟨n, wt, 0, 0, 0, 0, 0, 0, 0⟩) (ha : Elems w A 2 (a.its.map Itm.cells)) (hb : Elems w B 2 (b.its.map Itm.cells)) (n1 : a.its.length ≤ 80000) (n2 : b.its.length ≤ 80000) :
    Calls Tryz.prog 38 #[a.v A ca, refV b.err b.has b.val (.slice B b.its.length cb) n wt] w fun e w' => e = .returned (.bool (decide (a = b))) ∧ Below w.heap.size w w' := by
  have hs := fun W (hW : Below w.heap.size w W) => refSame_any A B ca cb a.its b.its W (ha.below hW) (hb.below hW) n1 n2
  have heq := fun W => eql_sta a.st b.st W
  have hiff : a = b ↔ (a.err = b.err ∧ a.has = b.has ∧ a.val = b.val ∧ a.its = b.its ∧ a.st = b.st) := by
    obtain ⟨_, _, _, _, _⟩ := a
    obtain ⟨_, _, _, _, _⟩ := b
    simp
  rw [An.v_def]
  show Calls Tryz.prog 38 #[_, .agg #[.int .i64 b.err, .bool b.has, .string b.val, .slice B b.its.length cb, .int .i64 n, .int .i64 wt, .int .i64 0, .int .i64 0, .int .i64 0]] w _
  obtain ⟨R, hR⟩ : ∃ R, decide (a = b) = R := ⟨_, rfl⟩
  rw [hR]
  have HR := Lib.hid hR
  have HIFF := Lib.hid hiff
  have HS := Lib.hid hs
  have HST0 := Lib.hid hst
  have hgu : Tryz.prog.eqGuardType Tryz.prog.depth 33 = false := by kernel_rfl
  clear hs hR hiff ha hb hst
  by_cases h1 : a.err = b.err
  · by_cases h2 : a.has = b.has
    · by_cases h3 : a.val = b.val
      · cases h4 : decide (a.its = b.its) with
        | true =>
          have HS2 := Lib.hid (show ∀ W, Below w.heap.size w W → Calls Tryz.prog 28 #[.slice A a.its.length ca, .slice B b.its.length cb] W fun e w' => e = .returned (.bool true) ∧ Below W.heap.size W w' from fun W hW => by have := HS.out W hW; rw [h4] at this; exact this)
          have hRs : R = decide (a.st = b.st) := by
            rw [← HR.out]
            exact decide_eq_decide.2 (HIFF.out.trans ⟨fun h => h.2.2.2.2, fun h => ⟨h1, h2, h3, of_decide_eq_true h4, h⟩⟩)
          rw [← hRs, HST0.out] at heq
          simp only [Sta.v_def] at heq
          have HST := Lib.hid heq
          have e1 : (a.err == b.err) = true := by simp [h1]
          have e2 : (a.has == b.has) = true := by simp [h2]
          have e3 : (a.val.toList == b.val.toList) = true := by rw [eqB]; exact decide_eq_true h3
          clear heq hRs h1 h2 h3 h4 HS
          go_enter Tryz.func38, Tryz.ntmps38
          go_wp2_with (go_at_call 28; (with_reducible refine (HS2.out _ (below_alloc (below_alloc (Below.refl _ w)))).mono ?_); rintro e w1 ⟨rfl, hb1⟩; have hba : AnBox w.heap.size a A ca w1 := (box_below (((Fr.refl (fun _ => False) _).alloc _).row id (heap_alloc_new w _)) hb1); have hbb : w1.heap[w.heap.size + 1]? = some (.cells #[.int .i64 b.err, .bool b.has, .string b.val, .slice B b.its.length cb, .int .i64 n, .int .i64 wt, .int .i64 0, .int .i64 0, .int .i64 0] 76 (0, 0)) := box_below (heap_new_at (by simp)) hb1; obtain ⟨za0, za1, za2, za3, za4, za5, za6, za7, za8⟩ : w1.cell? ⟨w.heap.size, 4, none⟩ = some (.int .i64 a.st.a0) ∧ w1.cell? ⟨w.heap.size, 5, none⟩ = some (.int .i64 a.st.a1) ∧ w1.cell? ⟨w.heap.size, 6, none⟩ = some (.int .i64 a.st.a2) ∧ w1.cell? ⟨w.heap.size, 7, none⟩ = some (.int .i64 a.st.a3) ∧ w1.cell? ⟨w.heap.size, 8, none⟩ = some (.int .i64 a.st.a4) ∧ w1.cell? ⟨w.heap.size, 9, none⟩ = some (.int .i64 a.st.a5) ∧ w1.cell? ⟨w.heap.size, 10, none⟩ = some (.int .i64 a.st.a6) ∧ w1.cell? ⟨w.heap.size, 11, none⟩ = some (.int .i64 a.st.a7) ∧ w1.cell? ⟨w.heap.size, 12, none⟩ = some (.int .i64 a.st.a8) := (by have hh := hba; refine ⟨?_, ?_, ?_, ?_, ?_, ?_, ?_, ?_, ?_⟩ <;> (rw [Lib.cell_of_heap hh]; rfl)); obtain ⟨zn, zw⟩ : w1.cell? ⟨w.heap.size + 1, 4, none⟩ = some (.int .i64 n) ∧ w1.cell? ⟨w.heap.size + 1, 5, none⟩ = some (.int .i64 wt) := (by refine ⟨?_, ?_⟩ <;> (rw [Lib.cell_of_heap hbb]; rfl)); have hla := lt_of_row hba; have hlb := lt_of_row hbb; have HB1 := Lib.hid (below_next (below_alloc (below_alloc (Below.refl _ w))) hb1); have heq := HST.out; clear hb1 hba hbb)
          go_ret
          exact ⟨rfl, HB1.out⟩
        | false =>
          have HS2 := Lib.hid (show ∀ W, Below w.heap.size w W → Calls Tryz.prog 28 #[.slice A a.its.length ca, .slice B b.its.length cb] W fun e w' => e = .returned (.bool false) ∧ Below W.heap.size W w' from fun W hW => by have := HS.out W hW; rw [h4] at this; exact this)
          have hRf : R = false := by rw [← HR.out]; exact decide_eq_false (fun h => of_decide_eq_false h4 (HIFF.out.1 h).2.2.2.1)
          have e1 : (a.err == b.err) = true := by simp [h1]
          have e2 : (a.has == b.has) = true := by simp [h2]
          have e3 : (a.val.toList == b.val.toList) = true := by rw [eqB]; exact decide_eq_true h3
          subst hRf
          clear heq h1 h2 h3 h4 HS
          go_enter Tryz.func38, Tryz.ntmps38
          go_wp2_with (go_at_call 28; (with_reducible refine (HS2.out _ (below_alloc (below_alloc (Below.refl _ w)))).mono ?_); rintro e w1 ⟨rfl, hb1⟩; have HB1 := Lib.hid (below_next (below_alloc (below_alloc (Below.refl _ w))) hb1); clear hb1)
          go_ret
          exact ⟨rfl, HB1.out⟩
      · have hRf : R = false := by rw [← HR.out]; exact decide_eq_false (fun h => h3 (HIFF.out.1 h).2.2.1)
        have e1 : (a.err == b.err) = true := by simp [h1]
        have e2 : (a.has == b.has) = true := by simp [h2]
        have e3 : (a.val.toList == b.val.toList) = false := by rw [eqB]; exact decide_eq_false h3
        subst hRf
        clear heq h1 h2 h3
        go_enter Tryz.func38, Tryz.ntmps38
        go_wp2
        go_ret
        exact ⟨rfl, (by repeat (first | assumption | exact Below.refl _ _ | (refine below_step (w := ?_) ?_ ?_ ?_; rotate_left 2; assumption) | refine Below.drew ?_ | refine below_drewN ?_ _ | refine Below.alloc ?_ ?_ _ | refine Below.setCell ?_ ?_ _ | (focus (simp; done)) | (focus (simp; omega)) | omega))⟩
    · have hRf : R = false := by rw [← HR.out]; exact decide_eq_false (fun h => h2 (HIFF.out.1 h).2.1)
      have e1 : (a.err == b.err) = true := by simp [h1]
      have e2 : (a.has == b.has) = false := by simp [h2]
      subst hRf
      clear heq h1 h2
      go_enter Tryz.func38, Tryz.ntmps38
      go_wp2
      go_ret
      exact ⟨rfl, (by repeat (first | assumption | exact Below.refl _ _ | (refine below_step (w := ?_) ?_ ?_ ?_; rotate_left 2; assumption) | refine Below.drew ?_ | refine below_drewN ?_ _ | refine Below.alloc ?_ ?_ _ | refine Below.setCell ?_ ?_ _ | (focus (simp; done)) | (focus (simp; omega)) | omega))⟩
  · have hRf : R = false := by rw [← HR.out]; exact decide_eq_false (fun h => h1 (HIFF.out.1 h).1)
    have e1 : (a.err == b.err) = false := by simp [h1]
    subst hRf
    clear heq h1
    go_enter Tryz.func38, Tryz.ntmps38
    go_wp2
    go_ret
    exact ⟨rfl, (by repeat (first | assumption | exact Below.refl _ _ | (refine below_step (w := ?_) ?_ ?_ ?_; rotate_left 2; assumption) | refine Below.drew ?_ | refine below_drewN ?_ _ | refine Below.alloc ?_ ?_ _ | refine Below.setCell ?_ ?_ _ | (focus (simp; done)) | (focus (simp; omega)) | omega))⟩
end Go.Proofs.YtdfgdnaejnngoaaGreat
namespace Go.Proofs.YtdfgdnaejnngoaaGreat
open Go.RowKit
/-! model.Lost. -/
theorem elems_ne {w : World} {A : Option Addr} {q : Nat} {l : List Itm} {cs : List Value} {T : TypeId} (h : Elems w A 2 (l.map Itm.cells)) (hl : l ≠ []) (hq : w.heap[q]? = some (.cells cs.toArray T (0, 0)))
    (hns : ∀ i a b, cs[i]? = some (.string a) → cs[i + 1]? = some (.string b) → False) : ∀ ad, A = some ad → ad.block ≠ q := by
  rintro ad rfl e
  obtain ⟨x, l', rfl⟩ := List.exists_cons_of_ne_nil hl
  obtain ⟨b, o, e2, hlt, hc⟩ := h 0 x.cells rfl
  cases e2
  dsimp only at e
  subst e
  have c0 := hc 0 _ rfl
  have c1 := hc 1 _ rfl
  rw [Lib.cell_of_heap hq] at c0 c1
  refine hns (o + 0 * 2) x.key x.val ?_ ?_
  · simpa using c0
  · simpa using c1
theorem plan_nopair (N : Int) (sv : Option Addr) (n c : Nat) : ∀ i a b, ((planA N ++ #[Value.slice sv n c]).toList)[i]? = some (.string a) → ((planA N ++ #[Value.slice sv n c]).toList)[i + 1]? = some (.string b) → False := by
  intro i a b h1 h2
  rw [planA_def] at h1 h2
  rcases i with _ | _ | _ | _ | _ | _ | _ | _ | i <;> simp at h1 h2
theorem model_only {W : World} {bm b cap n c : Nat} {g0 : Option Addr} {N : Int} {L : List Itm} {A : Option Addr} (hrow : W.heap[bm]? = some (.cells (planA N ++ #[.slice g0 n c]) 102 (0, 0))) (hla : LeafAt W b A cap L) :
    ModelAt ((W.setCell ⟨bm, 7, none⟩ (.slice (some ⟨W.heap.size, 0, none⟩) 1 1)).alloc (.cells #[.pointer (some ⟨b, 0, none⟩)] 98)) bm W.heap.size N [L] := by
  have hf : Fr (fun k => k = bm) W ((W.setCell ⟨bm, 7, none⟩ (.slice (some ⟨W.heap.size, 0, none⟩) 1 1)).alloc (.cells #[.pointer (some ⟨b, 0, none⟩)] 98)) := ((Fr.refl (fun k => k = bm) W).setCell (p := ⟨bm, 7, none⟩) (fun _ => rfl) _).alloc _
  have hbm := lt_of_row hrow
  have hr := setCell_row hrow 7 (.slice (some ⟨W.heap.size, 0, none⟩) 1 1)
  have hr2 : ((W.setCell ⟨bm, 7, none⟩ (.slice (some ⟨W.heap.size, 0, none⟩) 1 1)).alloc (.cells #[.pointer (some ⟨b, 0, none⟩)] 98)).heap[bm]? = some (.cells (planA N ++ #[.slice (some ⟨W.heap.size, 0, none⟩) 1 1]) 102 (0, 0)) := by
    have := box_below hr (below_alloc (o := .cells #[.pointer (some ⟨b, 0, none⟩)] 98) (Below.refl _ _))
    rw [planA_def] at this ⊢
    simpa using this
  have hg : ((W.setCell ⟨bm, 7, none⟩ (.slice (some ⟨W.heap.size, 0, none⟩) 1 1)).alloc (.cells #[.pointer (some ⟨b, 0, none⟩)] 98)).heap[W.heap.size]? = some (.cells #[.pointer (some ⟨b, 0, none⟩)] 98 (0, 0)) := heap_new_at (by simp)
  refine ⟨⟨0, 1, 1, [b], hr2, ⟨rfl, ⟨[.pointer (some ⟨b, 0, none⟩)], hg, Nat.le_refl _, fun j p hp => ?_⟩, Nat.le_refl _, by unfold maxLen; omega⟩, rfl, fun j p l hp hl => ?_⟩, by simp⟩
  · rcases j with _ | j
    · simp at hp; subst hp; rfl
    · simp at hp
  · rcases j with _ | j
    · simp at hp hl
      subst hp hl
      have hne : L ≠ [] → ∀ ad, A = some ad → ad.block ≠ bm := fun h => elems_ne hla.els h (cs := (planA N ++ #[Value.slice g0 n c]).toList) (by rw [Array.toArray_toList]; exact hrow) (plan_nopair N g0 n c)
      refine ⟨A, cap, hla.fr hf (kinds_ne hla.cell hrow (by decide)) (fun h ad e => hne h ad e), fun h ad e => ⟨hne h ad e, ?_⟩⟩
      have := hla.alt h e
      omega
    · simp at hp
def lostB (ls : List (List Itm)) (zs : List Itm) : Bool := decide (errL zs = 0) && decide (isoL zs ∈ ls)
def LostRes (bm g : Nat) (N : Int) (ls : List (List Itm)) (zs : List Itm) (w : World) (e : Ending) (w' : World) : Prop := ∃ g', e = .returned (.bool (lostB ls zs)) ∧ ModelAt w' bm g' N (if lostB ls zs = true then [isoL zs] else ls) ∧ (g' = g ∨ w.heap.size ≤ g') ∧ Fr (fun k => k = bm) w w'
set_option maxHeartbeats 2000000 in
set_option maxRecDepth 100000 in
theorem lost_any (bm g : Nat) (N : Int) (ls : List (List Itm)) (A : Option Addr) (cap : Nat) (zs : List Itm) (w : World) (h : ModelAt w bm g N ls) (hel : Elems w A 2 (zs.map Itm.cells)) (hzl : zs.length ≤ 70000) (hn : ls.length ≤ 90000) (hb : ∀ l ∈ ls, l.length ≤ 80000) :
    Calls Tryz.prog 14 #[.pointer (some ⟨bm, 0, none⟩), .slice A zs.length cap] w (LostRes bm g N ls zs w) := by
  have hof := leafOf_any A cap zs w hel (by omega)
  by_cases he : errL zs = 0
  · obtain ⟨R, hR⟩ : ∃ R, lostB ls zs = R := ⟨_, rfl⟩
    have hR2 : R = decide (isoL zs ∈ ls) := by rw [← hR]; unfold lostB; rw [decide_eq_true he, Bool.true_and]
    have hil : (isoL zs).length ≤ 70000 := by
      have := iso_len_le zs [] trivial
      simp only [List.length_nil] at this
      show (isoA [] zs).length ≤ _
      omega
    obtain ⟨off, n, cap0, ps, hrow, hra, hps, hlv⟩ := h.row
    have hlr := hra.len
    have hle := hra.le
    have c7 : w.cell? ⟨bm, 7, none⟩ = some (.slice (some ⟨g, off, none⟩) n cap0) := by rw [Lib.cell_of_heap hrow]; rfl
    have hbl := lt_of_row hrow
    have hls := fun W p1 c1 A1 l1 p2 c2 A2 (h1 : LeafAt W p1 A1 c1 l1) (h2 : LeafAt W p2 A2 c2 (isoL zs)) (n1 : l1.length ≤ 80000) => leafSame_any p1 c1 p2 c2 A1 A2 l1 (isoL zs) W h1 h2 n1 (by omega)
    have hfin1 : ∀ W W2 b1 A1 c1, R = true → Below w.heap.size w W → LeafAt W b1 A1 c1 (isoL zs) → W2 = (W.setCell ⟨bm, 7, none⟩ (.slice (some ⟨W.heap.size, 0, none⟩) 1 1)).alloc (.cells #[.pointer (some ⟨b1, 0, none⟩)] 98) → LostRes bm g N ls zs w (.returned (.bool R)) W2 := by
      intro W W2 b1 A1 c1 h1 h2 h3 h4
      subst h4
      have hrw := box_below hrow h2
      refine ⟨W.heap.size, by rw [hR], ?_, .inr h2.size, (Fr.of_below h2).trans (((Fr.refl (fun k => k = bm) W).setCell (p := ⟨bm, 7, none⟩) (fun _ => rfl) _).alloc _) (fun i _ e => e)⟩
      rw [hR, h1, if_pos rfl]
      exact model_only hrw h3
    have hfin0 : ∀ W, R = false → Below w.heap.size w W → LostRes bm g N ls zs w (.returned (.bool R)) W := by
      intro W h1 h2
      refine ⟨g, by rw [hR], ?_, .inl rfl, Fr.of_below h2⟩
      rw [hR, h1, if_neg (by decide)]
      exact h.below h2
    have hnn : n ≤ 90000 := by omega
    unfold OfRes at hof
    generalize isoL zs = L at *
    have HOF := Lib.hid hof
    have HROW := Lib.hid hrow
    have HRA := Lib.hid hra
    have HLV := Lib.hid hlv
    have HLS := Lib.hid hls
    have HF1 := Lib.hid hfin1
    have HF0 := Lib.hid hfin0
    have HR2 := Lib.hid hR2
    have HPS := Lib.hid hps
    have HLR := Lib.hid hlr
    have HBB := Lib.hid hb
    have HE := Lib.hid he
    clear hof h hel hrow hra hlv hls hfin1 hfin0 hR hR2 hb he hil hps hlr
    go_enter Tryz.func14, Tryz.ntmps14
    go_wp2_with (go_at_call 52; (with_reducible refine HOF.out.mono ?_); rintro e w1 ⟨hb1, h1⟩; rcases h1 with ⟨hne, _⟩ | ⟨_, b1, A1, c1, rfl, hla1, hle1⟩; exact absurd HE.out hne; have hc7 := keep_cell hb1 hbl c7; have hbl1 := keep_lt hb1 hbl; have HL1 := Lib.hid hla1; have HB1 := Lib.hid hb1; clear hb1 hla1)
    go_loopw [25, 8] (fun i _ wr => ∃ k : Nat, i = .int .i64 k ∧ k ≤ n ∧ (∀ (j : Nat) (l : List Itm), j < k → ls[j]? = some l → l ≠ L) ∧ Below w1.heap.size w1 wr) (fun i _ _ => n + 1 - (intOf i).toNat)
    case atStart => exact ⟨0, rfl, Nat.zero_le _, fun j l hj => by omega, Below.refl _ _⟩
    case round =>
      obtain ⟨k, rfl, hk, hno, hbel⟩ := hrel
      have hbw := below_next HB1.out hbel
      by_cases hkl : k < n
      · have hkI : (k : Int) < (n : Int) := by omega
        obtain ⟨p, hp⟩ := get_lt (l := ps) (i := k) (by have := HLR.out; omega)
        obtain ⟨l, hl⟩ := get_lt (l := ls) (i := k) (by have := HLR.out; have := HPS.out; omega)
        obtain ⟨A2, c2, hla2, _⟩ := HLV.out k p l hp hl
        have hpc : wr.cell? ⟨g, off + k, none⟩ = some (.pointer (some ⟨p, 0, none⟩)) := ((HRA.out.fr (Fr.of_below (S := fun _ => False) hbw) id).cell hp)
        have hgl : g < wr.heap.size := (HRA.out.fr (Fr.of_below (S := fun _ => False) hbw) id).lt
        have hsame := HLS.out wr p c2 A2 l b1 c1 A1 (hla2.below hbw) (HL1.out.below hbel) (HBB.out l (List.mem_of_getElem? hl))
        have hmem := List.mem_of_getElem? hl
        have HNO := Lib.hid hno
        have HBW := Lib.hid hbw
        have HBE := Lib.hid hbel
        have HLE := Lib.hid hl
        have HME := Lib.hid hmem
        clear hno hbw hbel hl hla2 hp hmem
        by_cases e : l = L
        · rw [decide_eq_true e] at hsame
          have HSM := Lib.hid hsame
          have hRt : R = true := by rw [HR2.out]; exact decide_eq_true (by rw [← e]; exact HME.out)
          have HRT := Lib.hid hRt
          subst hRt
          clear hsame e
          go_wp2_with (go_at_call 53; (with_reducible refine HSM.out.mono ?_); rintro e w4 ⟨rfl, hb4⟩; have hbw4 := below_next HBW.out hb4; have z7 := keep_cell hbw4 hbl c7; have y7 := Lib.frozen_of_heap (box_below HROW.out hbw4) 7; have hbl4 := keep_lt hbw4 hbl; have HL4 := Lib.hid (HL1.out.below (below_next HBE.out hb4)); have HB4 := Lib.hid hbw4; clear hbw4 hb4)
          go_ret
          exact HF1.out w4 _ b1 A1 c1 (by first | trivial | rfl) HB4.out HL4.out rfl
        · rw [decide_eq_false e] at hsame
          have HSM := Lib.hid hsame
          have HNE := Lib.hid (show ∀ (j : Nat) (l : List Itm), j < k + 1 → ls[j]? = some l → l ≠ L from fun j l' hj hl' => by
            by_cases ej : j = k
            · subst ej
              have := HLE.out
              rw [hl'] at this
              cases this
              exact e
            · exact HNO.out j l' (by omega) hl')
          clear hsame e
          go_wp2_with (go_at_call 53; (with_reducible refine HSM.out.mono ?_); rintro e w4 ⟨rfl, hb4⟩; have HB4 := Lib.hid (below_next HBE.out hb4); clear hb4)
          refine ⟨⟨k + 1, by go_num, by omega, HNE.out, HB4.out⟩, ?_⟩
          simp [intOf]
          omega
      · obtain rfl : k = n := by omega
        have hRf : R = false := by
          rw [HR2.out]
          refine decide_eq_false (fun hm => ?_)
          obtain ⟨j, hj⟩ := List.getElem?_of_mem hm
          have hjl := (List.getElem?_eq_some_iff.1 hj).1
          exact hno j L (by have := HLR.out; have := HPS.out; omega) hj rfl
        have HFF := Lib.hid (HF0.out _ hRf hbw)
        subst hRf
        clear hno hbw hbel
        go_wp2
        go_ret
        exact HFF.out
  · have hR : lostB ls zs = false := by unfold lostB; rw [decide_eq_false he]; rfl
    have hfin : ∀ W, Below w.heap.size w W → LostRes bm g N ls zs w (.returned (.bool false)) W := fun W hW => ⟨g, by rw [hR], by rw [hR, if_neg (by decide)]; exact h.below hW, .inl rfl, Fr.of_below hW⟩
    have HOF := Lib.hid hof
    have HF := Lib.hid hfin
    have HE := Lib.hid he
    clear hof h hel hR hfin hb
    go_enter Tryz.func14, Tryz.ntmps14
    go_wp2_with (go_at_call 52; (with_reducible refine HOF.out.mono ?_); rintro e w1 ⟨hb1, h1⟩; rcases h1 with ⟨hne, rfl⟩ | ⟨h0, _⟩; rotate_left; exact absurd h0 HE.out; have hne2 : (errL zs != 0) = true := (by simp [hne]); have HB1 := Lib.hid hb1; clear hb1 he hne)
    go_ret
    exact HF.out _ HB1.out
end Go.Proofs.YtdfgdnaejnngoaaGreat
namespace Go.Proofs.YtdfgdnaejnngoaaGreat
open Go.RowKit
/-! grangerref26.Lost. -/
def RefLost (bu : Nat) (c : Int) (ls : List (List Itm)) (zs : List Itm) (w : World) (e : Ending) (w' : World) : Prop := e = .returned (.bool (lostB ls zs)) ∧ RefAt w' bu c (if lostB ls zs = true then [isoL zs] else ls) ∧ Fr (fun k => k = bu) w w'
set_option maxHeartbeats 2000000 in
set_option maxRecDepth 100000 in
theorem refLost_any (bu : Nat) (c : Int) (ls : List (List Itm)) (A : Option Addr) (cap : Nat) (zs : List Itm) (w : World) (h : RefAt w bu c ls) (hel : Elems w A 2 (zs.map Itm.cells)) (hzl : zs.length ≤ 70000) (hn : ls.length ≤ 90000) (hb : ∀ l ∈ ls, l.length ≤ 80000) :
    Calls Tryz.prog 39 #[.pointer (some ⟨bu, 0, none⟩), .slice A zs.length cap] w (RefLost bu c ls zs w) := by
  have hof := refOf_any A cap zs w hel (by omega)
  obtain ⟨gr, off, cap0, vs, hrow, hvl, hcap0, ⟨cs, hgr⟩, hcell, hvs⟩ := h.row
  have hbl := lt_of_row hrow
  have hgl := lt_of_row hgr
  have hpos := h.pos
  have hkeep : ∀ W, Below w.heap.size w W → W.cell? ⟨bu, 1, none⟩ = some (.slice (some ⟨gr, off, none⟩) vs.length cap0) ∧ bu < W.heap.size := fun W hW => ⟨by rw [Lib.cell_of_heap (box_below hrow hW)]; rfl, keep_lt hW hbl⟩
  by_cases he : errL zs = 0
  · obtain ⟨R, hR⟩ : ∃ R, lostB ls zs = R := ⟨_, rfl⟩
    have hR2 : R = decide (isoL zs ∈ ls) := by rw [← hR]; unfold lostB; rw [decide_eq_true he, Bool.true_and]
    have hil : (isoL zs).length = zs.length := by
      refine iso_len ?_
      unfold errL at he
      split at he
      · cases he
      · split at he
        · assumption
        · cases he
    have hls := fun W p1 c1 l1 c2 A2 (h1 : Elems W p1 2 (l1.map Itm.cells)) (h2 : Elems W A2 2 ((isoL zs).map Itm.cells)) (n1 : l1.length ≤ 80000) => refSame_any p1 A2 c1 c2 l1 (isoL zs) W h1 h2 n1 (by omega)
    have hfin1 : ∀ W A1 c1, R = true → Below w.heap.size w W → RowAt W A1 (isoL zs) → RefLost bu c ls zs w (.returned (.bool R)) ((W.setCell ⟨bu, 1, none⟩ (.slice (some ⟨W.heap.size, 0, none⟩) 1 1)).alloc (.cells #[.slice A1 zs.length c1] 29)) := by
      intro W A1 c1 h1 h2 h3
      rw [← hil]
      have hrw := box_below hrow h2
      refine ⟨by rw [hR], ?_, (Fr.of_below h2).trans (((Fr.refl (fun k => k = bu) W).setCell (p := ⟨bu, 1, none⟩) (fun _ => rfl) _).alloc _) (fun i _ e => e)⟩
      rw [hR, h1, if_pos rfl]
      exact ref_only hrw h3
    have hfin0 : ∀ W, R = false → Below w.heap.size w W → RefLost bu c ls zs w (.returned (.bool R)) W := by
      intro W h1 h2
      refine ⟨by rw [hR], ?_, Fr.of_below h2⟩
      rw [hR, h1, if_neg (by decide)]
      exact h.below h2
    have hnn : vs.length ≤ 90000 := by omega
    unfold RefOf at hof
    simp only [hil] at hls
    generalize isoL zs = L at *
    have HOF := Lib.hid hof
    have HCELL := Lib.hid hcell
    have HVS := Lib.hid hvs
    have HLS := Lib.hid hls
    have HF1 := Lib.hid hfin1
    have HF0 := Lib.hid hfin0
    have HR2 := Lib.hid hR2
    have HVL := Lib.hid hvl
    have HBB := Lib.hid hb
    have HE := Lib.hid he
    have HK := Lib.hid hkeep
    have HROW := Lib.hid hrow
    have HIL := Lib.hid hil
    clear hof h hel hcell hvs hls hfin1 hfin0 hR hR2 hb he hvl hkeep hrow hgr hil
    go_enter Tryz.func39, Tryz.ntmps39
    go_wp2_with (go_at_call 69; (with_reducible refine HOF.out.mono ?_); rintro e w1 ⟨hb1, h1⟩; rcases h1 with ⟨hne, _⟩ | ⟨_, A1, c1, rfl, ho1⟩; exact absurd HE.out hne; have HL1 := Lib.hid (ownM_row ho1); have HB1 := Lib.hid hb1; clear hb1 ho1)
    go_loopw [7] (fun i wr => ∃ k : Nat, i = .int .i64 k ∧ k ≤ vs.length ∧ (∀ (j : Nat) (l : List Itm), j < k → ls[j]? = some l → l ≠ L) ∧ Below w1.heap.size w1 wr) (fun i _ => vs.length + 1 - (intOf i).toNat)
    case atStart => exact ⟨0, rfl, Nat.zero_le _, fun j l hj => by omega, Below.refl _ _⟩
    case round =>
      obtain ⟨k, rfl, hk, hno, hbel⟩ := hrel
      have hbw := below_next HB1.out hbel
      obtain ⟨z1, zl⟩ := HK.out _ hbw
      by_cases hkl : k < vs.length
      · have hkI : (k : Int) < (vs.length : Int) := by omega
        obtain ⟨v, hv⟩ := get_lt hkl
        obtain ⟨l, hl⟩ := get_lt (l := ls) (i := k) (by have := HVL.out; omega)
        obtain ⟨A2, c2, rfl, hel2⟩ := HVS.out k v l hv hl
        have hpc : wr.cell? ⟨gr, off + k, none⟩ = some (.slice A2 l.length c2) := keep_cell hbw hgl (HCELL.out k _ hv)
        have hgl2 := keep_lt hbw hgl
        have hsame := HLS.out wr A2 c2 l c1 A1 (hel2.1.below hbw) (HL1.out.below hbel).1 (HBB.out l (List.mem_of_getElem? hl))
        have HNO := Lib.hid hno
        have HBW := Lib.hid hbw
        have HBE := Lib.hid hbel
        have HLE := Lib.hid hl
        have HME := Lib.hid (List.mem_of_getElem? hl)
        clear hno hbw hbel hl hel2 hv
        by_cases e : l = L
        · rw [decide_eq_true e] at hsame
          have HSM := Lib.hid hsame
          have hRt : R = true := by rw [HR2.out]; exact decide_eq_true (by rw [← e]; exact HME.out)
          have HRT := Lib.hid hRt
          subst hRt
          clear hsame e
          go_wp2_with (go_at_call 28; (with_reducible refine HSM.out.mono ?_); rintro e w4 ⟨rfl, hb4⟩; have hbw4 := below_next HBW.out hb4; obtain ⟨y1, yl⟩ := HK.out _ hbw4; have f1 := Lib.frozen_of_heap (box_below HROW.out hbw4) 1; have HL4 := Lib.hid (HL1.out.below (below_next HBE.out hb4)); have HB4 := Lib.hid hbw4; clear hbw4 hb4)
          go_ret
          exact HF1.out w4 A1 c1 (by first | trivial | rfl) HB4.out HL4.out
        · rw [decide_eq_false e] at hsame
          have HSM := Lib.hid hsame
          have HNE := Lib.hid (show ∀ (j : Nat) (l : List Itm), j < k + 1 → ls[j]? = some l → l ≠ L from fun j l' hj hl' => by
            by_cases ej : j = k
            · subst ej
              have := HLE.out
              rw [hl'] at this
              cases this
              exact e
            · exact HNO.out j l' (by omega) hl')
          clear hsame e
          go_wp2_with (go_at_call 28; (with_reducible refine HSM.out.mono ?_); rintro e w4 ⟨rfl, hb4⟩; have HB4 := Lib.hid (below_next HBE.out hb4); clear hb4)
          refine ⟨⟨k + 1, by go_num, by omega, HNE.out, HB4.out⟩, ?_⟩
          simp [intOf]
          omega
      · obtain rfl : k = vs.length := by omega
        have hRf : R = false := by
          rw [HR2.out]
          refine decide_eq_false (fun hm => ?_)
          obtain ⟨j, hj⟩ := List.getElem?_of_mem hm
          have hjl := (List.getElem?_eq_some_iff.1 hj).1
          exact hno j L (by have := HVL.out; omega) hj rfl
        have HFF := Lib.hid (HF0.out _ hRf hbw)
        subst hRf
        clear hno hbw hbel
        go_wp2
        go_ret
        exact HFF.out
  · have hR : lostB ls zs = false := by unfold lostB; rw [decide_eq_false he]; rfl
    have hfin : ∀ W, Below w.heap.size w W → RefLost bu c ls zs w (.returned (.bool false)) W := fun W hW => ⟨by rw [hR], by rw [hR, if_neg (by decide)]; exact h.below hW, Fr.of_below hW⟩
    have hvp : (0 : Int) < (vs.length : Int) := by omega
    have HOF := Lib.hid hof
    have HF := Lib.hid hfin
    have HE := Lib.hid he
    have HK := Lib.hid hkeep
    clear hof h hel hR hfin hb hkeep hrow hgr hcell hvs
    go_enter Tryz.func39, Tryz.ntmps39
    go_wp2_with (go_at_call 69; (with_reducible refine HOF.out.mono ?_); rintro e w1 ⟨hb1, h1⟩; rcases h1 with ⟨hne, rfl⟩ | ⟨h0, _⟩; rotate_left; exact absurd h0 HE.out; have hne2 : (errL zs == 0) = false := (by simp [hne]); obtain ⟨z1, zl⟩ := HK.out _ hb1; have HB1 := Lib.hid hb1; clear hb1 he hne)
    go_loopw [7] (fun i wr => i = .int .i64 0 ∧ wr = w1) (fun _ _ => 0)
    case atStart => exact ⟨rfl, rfl⟩
    case round =>
      obtain ⟨rfl, rfl⟩ := hrel
      go_wp2
      go_ret
      exact HF.out _ HB1.out
/-- the document's model, over what the model writes -/
theorem ref_model {w w' : World} {bu bm g : Nat} {c N : Int} {ls ls2 : List (List Itm)} (h : RefAt w bu c ls) (hm : ModelAt w bm g N ls2) (hf : Fr (fun k => k = bm ∨ k = g) w w') : RefAt w' bu c ls := by
  obtain ⟨off, n, cap, ps, hrow, hra, _⟩ := hm.row
  obtain ⟨cur, hgr, _⟩ := hra.blk
  obtain ⟨gr, off2, cap2, vs, r1, r2, r3, ⟨cr, r4⟩, r5, r6⟩ := h.row
  have n1 : ¬ (bu = bm ∨ bu = g) := fun e => e.elim (fun e => kinds_ne r1 hrow (by decide) e) (fun e => kinds_ne r1 hgr (by decide) e)
  have n2 : ¬ (gr = bm ∨ gr = g) := fun e => e.elim (fun e => kinds_ne r4 hrow (by decide) e) (fun e => kinds_ne r4 hgr (by decide) e)
  refine ⟨⟨gr, off2, cap2, vs, hf.row n1 r1, r2, r3, ⟨cr, hf.row n2 r4⟩, fun j v hv => hf.cell (lt_of_row r4) n2 (r5 j v hv), fun j v l hv hl => ?_⟩, h.pos⟩
  obtain ⟨A, cp, rfl, he⟩ := r6 j v l hv hl
  refine ⟨A, cp, rfl, he.fr hf (fun q hq _ => ?_)⟩
  rcases hq with rfl | rfl
  · exact ⟨_, _, hrow, by decide⟩
  · exact ⟨_, _, hgr, by decide⟩
/-- the model, over what the document's model writes -/
theorem model_ref {w w' : World} {bu bm g : Nat} {c N : Int} {ls ls2 : List (List Itm)} (h : RefAt w bu c ls) (hm : ModelAt w bm g N ls2) (hf : Fr (fun k => k = bu) w w') : ModelAt w' bm g N ls2 := by
  obtain ⟨gr, off, cap, vs, r1, _⟩ := h.row
  refine model_other (cs := [.int .i64 c, .slice (some ⟨gr, off, none⟩) vs.length cap]) hm r1 (by decide) (by decide) (by decide) (fun i a b h1 h2 => ?_) hf
  rcases i with _ | _ | i
  · simp at h1
  · simp at h1
  · simp at h1
end Go.Proofs.YtdfgdnaejnngoaaGreat
