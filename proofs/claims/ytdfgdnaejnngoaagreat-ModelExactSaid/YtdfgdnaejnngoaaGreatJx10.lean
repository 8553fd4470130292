import Derived.Test.YtdfgdnaejnngoaaGreatJx9
set_option linter.unusedVariables false
set_option linter.unusedSimpArgs false
namespace Go.Proofs.YtdfgdnaejnngoaaGreat
open Go.RowKit
/-! grangerref26.update. -/
def rowV (v : Value) : List Value := [v]
theorem rowVlen (v : Value) : (rowV v).length = 1 := rfl
theorem V_info : (Tryz.prog.info? 29).map (fun i => (i.zero, i.size, i.bytes)) = some (some (.slice none 0 0), 1, 24) := by kernel_rfl
abbrev OwnsV := OwnsG rowV 1 29
theorem rowV_flat : ∀ m : List Value, (m.map rowV).flatten = m
  | [] => rfl
  | x :: m => by
    show x :: (m.map rowV).flatten = x :: m
    rw [rowV_flat m]
theorem val_append {ops : Array Oper} {rest : List Oper} {o : Oper} {a : Act} {w : World} {Q : Exit → Act → World → Prop} (hgd : o.guard = none) (N : Option Tmp) (hN : o.dst = N) (s x : Operand) (ho : o.op = .call { callee := .builtin .append, args := #[s, x], argTypes := #[81, 81] })
    (B : Nat) (v : Value) (l m : List Value) (n : Nat) (ad : Addr) (c : Nat) (hn : m.length = n) (hs : a.eval s = v) (hx : a.eval x = .slice (some ad) n c) (hown : OwnsV w B v l) (hone : ∀ u ∈ m, u.oneCell' = true) (hel : ∀ j u, m[j]? = some u → w.cell? (ad.add j) = some u) (hl : l.length + m.length ≤ 100000) (hB : B ≤ w.heap.size) (n2 : Nat) (hn2 : (l ++ m).length = n2)
    (h : ∀ A' c' w', OwnsV w' B (.slice A' n2 c') (l ++ m) → Fr (fun k => v.ownBlock = some k) w w' → wpList Tryz.prog ops Q rest (a.put N (.slice A' n2 c')) w') : wpList Tryz.prog ops Q (o :: rest) a w := by
  subst hn hN hn2
  obtain ⟨i0, hi0, hz0, hz1, hz2⟩ := info_parts V_info
  have hfl := rowV_flat m
  refine wpList_append_own w hgd s x 81 ho B 29 i0 _ 1 24 Tryz.underlying81 hi0 hz0 hz1 hz2 rfl (by decide) v l.length _ hs hown ad m.length c ((m.map rowV).flatten) hx (flatten_length rowVlen m) (by rw [hfl]; exact hel) (by rw [hfl]; exact hone) ?_ ?_ hB ?_
  · unfold maxLen; omega
  · omega
  · intro v' w' h1 h2 _
    have ho : OwnsV w' B v' (l ++ m) := by
      unfold OwnsV OwnsG
      rw [List.map_append, List.flatten_append, List.length_append]
      exact h1
    obtain ⟨A', c', rfl⟩ := ho.slice
    exact h A' c' w' ho ((Fr.refl _ w).grown h2 (fun i hi e => e))
theorem val_ge {w : World} {B q : Nat} {v : Value} {l : List Value} (h : OwnsV w B v l) (hq : q < B) (e : v.ownBlock = some q) : False := by
  rcases h.2 with ⟨he, _⟩ | ⟨g, cap', cur, he, hb, _⟩
  · rw [he] at e; cases e
  · rw [he] at e
    simp only [Value.ownBlock, Option.some.injEq] at e
    omega
def RefUpd (bu : Nat) (c err : Int) (ls' : List (List Itm)) (w : World) (e : Ending) (w' : World) : Prop := e = .returned (.int .i64 err) ∧ RefAt w' bu c ls' ∧ Fr (fun k => k = bu) w w'
theorem refupd_keep {w w' : World} {bu : Nat} {c err : Int} {ls : List (List Itm)} (h : RefAt w bu c ls) (hb : Below w.heap.size w w') : RefUpd bu c err ls w (.returned (.int .i64 err)) w' := ⟨rfl, h.below hb, Fr.of_below hb⟩
/-- items lie in no model of the document's -/
theorem elems_bu {w w' : World} {bu : Nat} {A : Option Addr} {l : List Itm} {c : Int} {sv : Option Addr} {sn sc : Nat} (h : RowAt w A l) (hrow : w.heap[bu]? = some (.cells #[.int .i64 c, .slice sv sn sc] 83 (0, 0))) (hf : Fr (fun k => k = bu) w w') : RowAt w' A l :=
  h.fr hf (fun q hq _ => by subst hq; exact ⟨_, _, hrow, by decide⟩)
theorem ref_add {w wr w6 w9 : World} {bu : Nat} {c : Int} {ls : List (List Itm)} {l' : List Itm} {vs : List Value} {A5 A9 : Option Addr} {c5 c9 : Nat} {sv : Option Addr} {sn sc : Nat} (hbu : bu < w.heap.size) (hbw : Below w.heap.size w wr) (hb6 : Below wr.heap.size wr w6) (hb9 : Below w6.heap.size w6 w9) (hrow : w9.heap[bu]? = some (.cells #[.int .i64 c, .slice sv sn sc] 83 (0, 0)))
    (hvl : vs.length = ls.length) (hvs : ∀ (j : Nat) (v : Value) (l : List Itm), vs[j]? = some v → ls[j]? = some l → ∃ A cp, v = .slice A l.length cp ∧ RowAt wr A l) (hel : RowAt w6 A5 l') (ho9 : OwnsV w9 w6.heap.size (.slice A9 (vs.length + 1) c9) (vs ++ [.slice A5 l'.length c5])) :
    RefUpd bu c 0 (ls ++ [l']) w (.returned (.int .i64 0)) (w9.setCell ⟨bu, 1, none⟩ (.slice A9 (vs.length + 1) c9)) := by
  have hf : Fr (fun k => k = bu) w9 (w9.setCell ⟨bu, 1, none⟩ (.slice A9 (vs.length + 1) c9)) := (Fr.refl (fun k => k = bu) w9).setCell (p := ⟨bu, 1, none⟩) (fun _ => rfl) _
  have hs1 := hbw.size
  have hs2 := hb6.size
  have hb69 := below_next hb6 hb9
  obtain ⟨v0, hv0⟩ := get_lt (l := vs ++ [.slice A5 l'.length c5]) (i := 0) (by simp)
  obtain ⟨g9, rfl, hBg, hgl, hcap, _⟩ := ho9.row rowVlen hv0
  have hcs9 : ∃ cs, (w9.setCell ⟨bu, 1, none⟩ (.slice (some ⟨g9, 0, none⟩) (vs.length + 1) c9)).heap[g9]? = some (.cells cs 29 (0, 0)) := by
    rcases ho9.2 with ⟨he, _⟩ | ⟨g', cap', cur, he, hb, hgg, _⟩
    · simp at he
    · simp only [Value.slice.injEq, Option.some.injEq, Addr.mk.injEq] at he
      obtain ⟨⟨rfl, _⟩, _⟩ := he
      exact ⟨cur, hf.row (by omega) hgg⟩
  refine ⟨rfl, ⟨⟨g9, 0, c9, vs ++ [.slice A5 l'.length c5], ?_, by simp [hvl], by simpa using hcap, hcs9, fun j v hv => ?_, fun j v l hv hl => ?_⟩, by simp⟩, (Fr.of_below (below_next hbw hb69)).trans hf (fun i _ e => e)⟩
  · have := setCell_row hrow 1 (.slice (some ⟨g9, 0, none⟩) (vs.length + 1) c9)
    simpa using this
  · obtain ⟨g', hg', _, _, _, hcells⟩ := ho9.row rowVlen hv
    cases hg'
    have := hcells 0 v rfl
    rw [Nat.zero_add]
    exact hf.cell hgl (by omega) (by simpa using this)
  · by_cases hj : j < vs.length
    · rw [List.getElem?_append_left hj] at hv
      rw [List.getElem?_append_left (by omega)] at hl
      obtain ⟨A, cp, rfl, he⟩ := hvs j v l hv hl
      exact ⟨A, cp, rfl, elems_bu (he.below hb69) hrow hf⟩
    · have hjl := (List.getElem?_eq_some_iff.1 hv).1
      simp at hjl
      obtain rfl : j = vs.length := by omega
      rw [List.getElem?_append_right (by omega), Nat.sub_self] at hv
      rw [List.getElem?_append_right (by omega), hvl, Nat.sub_self] at hl
      simp at hv hl
      subst hv hl
      exact ⟨A5, c5, rfl, elems_bu (hel.below hb9) hrow hf⟩
set_option maxHeartbeats 2000000 in
set_option maxRecDepth 100000 in
theorem refUpdate_any (bu : Nat) (c : Int) (ls : List (List Itm)) (l : List Itm) (x : Mg) (w : World) (h : RefAt w bu c ls) (hl : ls[ls.length - 1]? = some l) (hn : ls.length ≤ 90000) (hln : l.length ≤ 60000) (hri : Rises l) (hok : ∀ y ∈ l, y.ok) :
    Calls Tryz.prog 65 #[.pointer (some ⟨bu, 0, none⟩), x.v] w (RefUpd bu c (errU c l x) (rowsU c ls l x) w) := by
  have his := fun W => ref08Is_any x W
  cases hm : isMsg x with
  | false =>
    have he : errU c l x = 1 := by unfold errU; rw [hm]; rfl
    have ha : addsU c l x = false := by unfold addsU; rw [he]; rfl
    have hr : rowsU c ls l x = ls := by unfold rowsU; rw [ha]; rfl
    rw [he, hr]
    rw [hm] at his
    have HI := Lib.hid his
    have HR := Lib.hid h
    clear his h hl hri hok hm he ha hr
    rw [Mg.v_def] at HI ⊢
    obtain ⟨kind, key, val⟩ := x
    dsimp only at HI ⊢
    go_enter Tryz.func65, Tryz.ntmps65
    go_wp2_with (go_at_call 60; (with_reducible refine (HI.out _).mono ?_); rintro e w1 ⟨rfl, hb1⟩; have HB1 := Lib.hid (below_next (below_alloc (Below.refl _ w)) hb1); clear hb1)
    go_ret
    exact refupd_keep HR.out HB1.out
  | true =>
    rw [hm] at his
    obtain ⟨kind, key, val⟩ := x
    obtain ⟨E, hE⟩ : ∃ E, errU c l ⟨kind, key, val⟩ = E := ⟨_, rfl⟩
    obtain ⟨R, hR⟩ : ∃ R, rowsU c ls l ⟨kind, key, val⟩ = R := ⟨_, rfl⟩
    have hek : E = if kind = 2 ∧ getL l key = none then 0 else if kind = 3 ∧ (getL l key).any (fun v => decide (v.size ≠ 8)) = true then 10 else if sumW (doL l ⟨kind, key, val⟩) ≤ c then 0 else 9 := by rw [← hE]; unfold errU; rw [hm]; rfl
    have hend : ∀ err W, E = err → (err ≠ 0 ∨ kind = 2 ∧ getL l key = none) → Below w.heap.size w W → RefUpd bu c E R w (.returned (.int .i64 err)) W := fun err W h1 h2 h3 => by
      have ha : addsU c l ⟨kind, key, val⟩ = false := by
        unfold addsU
        rw [hE, h1]
        rcases h2 with h2 | ⟨h2, h4⟩
        · rw [decide_eq_false h2]; rfl
        · dsimp only
          rw [h2, h4]; simp
      have hr : R = ls := by rw [← hR]; unfold rowsU; rw [ha]; rfl
      rw [h1, hr]
      exact refupd_keep h h3
    have hadd : E = 0 → ¬ (kind = 2 ∧ getL l key = none) → R = ls ++ [doL l ⟨kind, key, val⟩] := fun h0 h1 => by
      rw [← hR]
      unfold rowsU
      rw [if_pos]
      unfold addsU
      rw [hE, h0]
      dsimp only
      by_cases h2 : kind = 2
      · have h3 : getL l key ≠ none := fun e => h1 ⟨h2, e⟩
        simp [h3]
      · simp [h2]
    have hnow := fun W (hW : Below w.heap.size w W) => refNow_any bu c ls l W (h.below hW) hl hn
    have hwi : ∀ (W : World) A cp vb, Elems W A 2 (l.map Itm.cells) → W.heap[vb]? = some (.cells #[.int .i64 kind, .string key, .string val] 90 (0, 0)) → Calls Tryz.prog 61 #[.slice A l.length cp, .slice (some ⟨vb, 0, none⟩) 1 1] W (RefWith l ⟨kind, key, val⟩ W) := fun W A cp vb h1 h2 =>
      refWith_any A cp vb 0 1 l ⟨kind, key, val⟩ W h1 hri hok (by omega) hm (lt_of_row h2) (by rw [Lib.cell_of_heap h2]; rfl) (by rw [Lib.cell_of_heap h2]; rfl) (by rw [Lib.cell_of_heap h2]; rfl)
    have hdo : ∀ y ∈ doL l ⟨kind, key, val⟩, y.ok := oks_do hok hm
    have hdl : (doL l ⟨kind, key, val⟩).length ≤ 60001 := by
      have : (doL l ⟨kind, key, val⟩).length ≤ l.length + 1 := put_len hri _ _
      omega
    have hwt := fun W A cp h1 => refWeight_any A cp (doL l ⟨kind, key, val⟩) W h1 hdo (by omega)
    have HI := Lib.hid his
    have HRF := Lib.hid h
    have HBUL := Lib.hid h.lt
    have HN := Lib.hid hnow
    have HWI := Lib.hid hwi
    have HWT := Lib.hid hwt
    have HEK := Lib.hid hek
    have HEND := Lib.hid hend
    have HADD := Lib.hid hadd
    have HRI := Lib.hid hri
    rw [hE, hR]
    clear his hnow hwi hwt hek hend hadd hE hR hm hok hdo hl
    rw [Mg.v_def] at HI ⊢
    dsimp only at HI ⊢
    go_enter Tryz.func65, Tryz.ntmps65
    go_wp2_with (first
      | (go_at_call 60; (with_reducible refine (HI.out _).mono ?_); rintro e w1 ⟨rfl, hb1⟩; have HX1 := Lib.hid (box_cells hb1); have HB1 := Lib.hid (below_next (below_alloc (Below.refl _ w)) hb1); clear hb1)
      | (go_at_call 40; (with_reducible refine (HN.out _ HB1.out).mono ?_); rintro e w2 ⟨A2, c2, rfl, hel2, hb2⟩; have HE2 := Lib.hid hel2; have HX2 := Lib.hid (box_below HX1.out hb2); have HB2 := Lib.hid (below_next HB1.out hb2); clear hel2 hb2))
    go_loopw [7, 6] (fun i h wr => ∃ k : Nat, i = .int .i64 k ∧ k ≤ l.length ∧ h = .bool (getL (l.take k) key).isSome ∧ (kind = 3 → ∀ v, getL (l.take k) key = some v → v.size = 8) ∧ Below w2.heap.size w2 wr) (fun i _ _ => l.length + 1 - (intOf i).toNat)
    case atStart => exact ⟨0, rfl, Nat.zero_le _, rfl, (fun _ v hv => by rw [List.take_zero, getL_nil] at hv; cases hv), Below.refl _ _⟩
    case round =>
      obtain ⟨k, rfl, hk, rfl, h8s, hbel⟩ := hrel
      have hbx := box_below HX2.out hbel
      obtain ⟨q0, q1, q2⟩ : wr.cell? ⟨w.heap.size, 0, none⟩ = some (.int .i64 kind) ∧ wr.cell? ⟨w.heap.size, 1, none⟩ = some (.string key) ∧ wr.cell? ⟨w.heap.size, 2, none⟩ = some (.string val) := by refine ⟨?_, ?_, ?_⟩ <;> (rw [Lib.cell_of_heap hbx]; rfl)
      have hxl := lt_of_row hbx
      have HX := Lib.hid hbx
      have HBEL := Lib.hid hbel
      have HBW := Lib.hid (below_next HB2.out hbel)
      by_cases hkl : k < l.length
      · have hkI : (k : Int) < (l.length : Int) := by omega
        obtain ⟨y, hy⟩ := get_lt hkl
        obtain ⟨b, off, rfl, hlt, d0, d1⟩ := itm_rowR (HE2.out.below hbel) hy
        have hgt := get_take HRI.out hy key
        have hq : (y.key.toList == key.toList) = decide (y.key = key) := eqB
        have hmem := getL_of_mem HRI.out (List.mem_of_getElem? hy)
        have HGT := Lib.hid hgt
        have H8 := Lib.hid h8s
        have HMEM := Lib.hid hmem
        clear hgt hbel hbx hy h8s hmem
        obtain ⟨yk, yv⟩ := y
        dsimp only at d0 d1 hq HGT HMEM
        by_cases e : yk = key
        · subst e
          rw [decide_eq_true rfl] at hq
          rw [if_pos rfl] at HGT
          by_cases h3 : kind = 3
          · subst h3
            by_cases h8 : yv.size = 8
            · have f8 : ((yv.size : Int) != 8) = false := by simp; omega
              go_wp2
              go_quiet (fail)
              go_wp2
              refine ⟨⟨k + 1, by go_num, by omega, by rw [HGT.out]; rfl, (fun _ v hv => by rw [HGT.out] at hv; cases hv; exact h8), below_drewN HBEL.out _⟩, ?_⟩
              simp [intOf]
              omega
            · have f8 : ((yv.size : Int) != 8) = true := by simp; omega
              have he : E = 10 := by
                rw [HEK.out, if_neg (fun h => by cases h.1), if_pos ⟨rfl, by rw [HMEM.out]; simp [h8]⟩]
              have HE10 := Lib.hid he
              clear he
              go_wp2
              go_quiet (fail)
              go_wp2
              go_ret
              exact HEND.out 10 _ HE10.out (.inl (by decide)) (below_drewN HBW.out _)
          · have f3 : (kind == 3) = false := by simp [h3]
            go_wp2
            go_quiet (fail)
            go_wp2
            refine ⟨⟨k + 1, by go_num, by omega, by rw [HGT.out]; rfl, (fun h => absurd h h3), below_drewN HBEL.out _⟩, ?_⟩
            simp [intOf]
            omega
        · rw [decide_eq_false e] at hq
          rw [if_neg e] at HGT
          go_wp2
          go_quiet (fail)
          go_wp2
          refine ⟨⟨k + 1, by go_num, by omega, by rw [HGT.out], (fun h v hv => by rw [HGT.out] at hv; exact H8.out h v hv), below_drewN HBEL.out _⟩, ?_⟩
          simp [intOf]
          omega
      · obtain rfl : k = l.length := by omega
        rw [List.take_length] at h8s
        rw [List.take_length]
        by_cases hdel : kind = 2 ∧ getL l key = none
        · obtain ⟨rfl, hg⟩ := hdel
          have he : E = 0 := by rw [HEK.out, if_pos ⟨rfl, hg⟩]
          have HE0 := Lib.hid he
          rw [hg]
          clear h8s hbel hbx he
          go_wp2
          go_ret
          exact HEND.out 0 _ HE0.out (.inr ⟨by first | trivial | rfl, hg⟩) HBW.out
        · have h10 : ¬ (kind = 3 ∧ (getL l key).any (fun v => decide (v.size ≠ 8)) = true) := by
            rintro ⟨h3, ha⟩
            cases hg : getL l key with
            | none => rw [hg] at ha; cases ha
            | some v => rw [hg] at ha; have := h8s h3 v hg; simp [this] at ha
          have he2 : E = if sumW (doL l ⟨kind, key, val⟩) ≤ c then 0 else 9 := by rw [HEK.out, if_neg hdel, if_neg h10]
          have HE3 := Lib.hid he2
          have HND := Lib.hid hdel
          obtain ⟨cr, hcr⟩ : ∃ cr, wr.heap[bu]? = some cr := ⟨_, (HRF.out.below HBW.out).row.choose_spec.choose_spec.choose_spec.choose_spec.1⟩
          have hcase : (kind = 2 ∧ (getL l key).isSome = true) ∨ (kind == 2) = false := by
            by_cases h2 : kind = 2
            · left
              cases hg : getL l key with
              | none => exact absurd ⟨h2, hg⟩ hdel
              | some v => exact ⟨h2, rfl⟩
            · right; simp [h2]
          obtain ⟨gr, off, cap, vs, r1, r2, r3, r4, r5, r6⟩ := (HRF.out.below HBW.out).row
          have u0 : wr.cell? ⟨bu, 0, none⟩ = some (.int .i64 c) := by rw [Lib.cell_of_heap r1]; rfl
          have hbul := lt_of_row r1
          have HR1 := Lib.hid r1
          have HR5 := Lib.hid r5
          have HR6 := Lib.hid r6
          have hvl : vs.length ≤ 90000 := by omega
          have hone : ∀ u ∈ vs, u.oneCell' = true := fun u hu => by
            obtain ⟨j, hj⟩ := List.getElem?_of_mem hu
            obtain ⟨lj, hlj⟩ := get_lt (l := ls) (i := j) (by have := (List.getElem?_eq_some_iff.1 hj).1; omega)
            obtain ⟨A, cp, rfl, _⟩ := r6 j u lj hj hlj
            rfl
          have HONE := Lib.hid hone
          have HR4L := Lib.hid (lt_of_row r4.choose_spec)
          clear hone
          have HR2 := Lib.hid r2
          have HR4 := Lib.hid r4
          clear h8s hbel hbx hdel h10 he2 cr hcr r1 r2 r3 r4 r5 r6
          rcases hcase with ⟨h2, hg⟩ | h2
          · subst h2
            rw [hg]
            go_wp2_with (go_at_call 61; (with_reducible refine (HWI.out _ _ _ _ ((HE2.out.below HBEL.out).below (below_alloc (Below.refl _ wr))) (heap_alloc_new wr _)).mono ?_); rintro e w5 ⟨hb5, A5, c5, rfl, ho5⟩; have HO5 := Lib.hid ho5; have HB5 := Lib.hid (below_next (below_alloc (Below.refl _ wr)) hb5); clear hb5 ho5)
            have B5 := HB5.out
            have v0 := keep_cell HB5.out hbul u0
            have hbul5 := keep_lt HB5.out hbul
            have hel5 := HO5.out.drew.elems Itm.clen
            have hrt5 := ownM_row HO5.out.drew
            refine rg_start (n := 7) (fun w' => w'.cell? ⟨bu, 0, none⟩ = some (.int .i64 c) ∧ bu < w'.heap.size ∧ Below wr.heap.size wr w') #[false, false, false, false, false, false, false] (by kernel_rfl) rfl rfl ⟨v0, hbul5, B5.drew⟩ (fun hHeld => ?_)
            refine rg_take (i := 0) (N := (some 55)) (v := ?_) (a' := ?_) #[true, false, false, false, false, false, false] rfl rfl (by kernel_rfl) (fun _ _ _ h => h) (by rfl) ?_ hHeld ?_ ?_
            rotate_left 2
            · rintro w' ⟨s0, s1, s2⟩
              go_simp
              try with_reducible rfl
            · simp only [Act.put, List.setIfInBounds_toArray, List.set_cons_zero, List.set_cons_succ]
              rfl
            refine rg_take (i := 2) (N := (some 57)) (v := ?_) (a' := ?_) #[true, false, true, false, false, false, false] rfl rfl (by kernel_rfl) (fun _ _ _ h => h) (by rfl) ?_ hHeld ?_ ?_
            rotate_left 2
            · rintro w' ⟨s0, s1, s2⟩
              go_simp
              try with_reducible rfl
            · simp only [Act.put, List.setIfInBounds_toArray, List.set_cons_zero, List.set_cons_succ]
              rfl
            refine rg_take (i := 3) (N := (some 58)) (v := ?_) (a' := ?_) #[true, false, true, true, false, false, false] rfl rfl (by kernel_rfl) (fun _ _ _ h => h) (by rfl) ?_ hHeld ?_ ?_
            rotate_left 2
            · rintro w' ⟨s0, s1, s2⟩
              go_simp
              try with_reducible rfl
            · simp only [Act.put, List.setIfInBounds_toArray, List.set_cons_zero, List.set_cons_succ]
              rfl
            refine rg_take (i := 4) (N := (some 59)) (v := ?_) (a' := ?_) #[true, false, true, true, true, false, false] rfl rfl (by kernel_rfl) (fun _ _ _ h => h) (by rfl) ?_ hHeld ?_ ?_
            rotate_left 2
            · rintro w' ⟨s0, s1, s2⟩
              go_simp
              try with_reducible rfl
            · simp only [Act.put, List.setIfInBounds_toArray, List.set_cons_zero, List.set_cons_succ]
              rfl
            refine rg_take (i := 5) (N := (some 60)) (v := ?_) (a' := ?_) #[true, false, true, true, true, true, false] rfl rfl (by kernel_rfl) (fun _ _ _ h => h) (by rfl) ?_ hHeld ?_ ?_
            rotate_left 2
            · rintro w' ⟨s0, s1, s2⟩
              go_simp
              try with_reducible rfl
            · simp only [Act.put, List.setIfInBounds_toArray, List.set_cons_zero, List.set_cons_succ]
              rfl
            refine rg_one (i := 1) #[true, true, true, true, true, true, false] rfl (by kernel_rfl) (by rfl) (fun K hK => ?_)
            obtain ⟨s0, s1, s2⟩ := hHeld
            repeat go_step
            ((with_reducible refine (HWT.out _ _ _ hel5).mono ?_); rintro e w6 ⟨rfl, hb6⟩; have HE6 := Lib.hid (hrt5.below hb6))
            try dsimp only
            refine hK.out _ _ ?_ (fun hHeld => ?_)
            · (repeat (first | (with_reducible assumption) | (with_reducible apply And.intro) | (with_reducible refine keep_cell (w := ?_) ?_ ?_ ?_; rotate_left; with_reducible assumption) | (with_reducible refine keep_cell_alloc ?_ ?_) | (with_reducible refine keep_lt (w := ?_) ?_ ?_; rotate_left; with_reducible assumption) | (with_reducible refine keep_lt_alloc ?_) | (with_reducible refine below_next (w := ?_) ?_ ?_; rotate_left 2; with_reducible assumption) | (with_reducible refine below_alloc ?_) | (with_reducible refine Below.drew ?_) | (with_reducible refine keep_lt_drew ?_) | (with_reducible refine keep_cell_drew ?_)))
            clear hK K
            clear s0 s1 s2
            refine rg_take (i := 6) (N := (some 61)) (v := ?_) (a' := ?_) #[true, true, true, true, true, true, true] rfl rfl (by kernel_rfl) (fun _ _ _ h => h) (by rfl) ?_ hHeld ?_ ?_
            rotate_left 2
            · rintro w' ⟨s0, s1, s2⟩
              go_simp
              try with_reducible rfl
            · simp only [Act.put, List.setIfInBounds_toArray, List.set_cons_zero, List.set_cons_succ]
              rfl
            refine rg_done (by kernel_rfl) ?_
            obtain ⟨s0, s1, s2⟩ := hHeld
            have hrow6 := box_below HR1.out s2
            have u1 : w6.cell? ⟨bu, 1, none⟩ = some (.slice (some ⟨gr, off, none⟩) vs.length cap) := by rw [Lib.cell_of_heap hrow6]; rfl
            have HB6 := Lib.hid s2
            have HRW6 := Lib.hid hrow6
            clear hrow6 s2
            by_cases hcw : sumW (doL l ⟨2, key, val⟩) ≤ c
            · have he : E = 0 := by rw [HE3.out, if_pos hcw]
              have hR := HADD.out he HND.out
              have hcI : ¬ c < sumW (doL l ⟨2, key, val⟩) := by omega
              have HRR := Lib.hid hR
              have HEE := Lib.hid he
              clear he hR hcw
              go_wp2_with (first
                | (at_builtin; (refine val_append rfl (some 68) rfl _ _ rfl w6.heap.size (.slice (some ⟨w6.heap.size, 0, none⟩) 0 0) [] vs vs.length ⟨gr, off, none⟩ cap rfl rfl rfl (OwnsG.empty (heap_alloc_new w6 _) (Nat.le_refl _)) HONE.out (fun j u hu => by rw [Addr.add_mid]; exact keep_cell (below_alloc HB6.out) HR4L.out (HR5.out j u hu)) (by simp; omega) (by simp) vs.length (by simp) ?_; intro A7 c7 w7 ho7 hf7; have ho7' : OwnsV w7 w6.heap.size (.slice A7 vs.length c7) vs := ho7; have HO7 := Lib.hid ho7'; have HB7 := Lib.hid ((below_alloc (o := .cells #[] 29) (Below.refl _ w6)).trans (hf7.to_below (B := w6.heap.size) (by simp) (fun q hq e => by simp only [Value.ownBlock, Option.some.injEq] at e; omega))); clear ho7 ho7' hf7))
                | (at_builtin; (refine val_append rfl (some 71) rfl _ _ rfl w6.heap.size (.slice A7 vs.length c7) vs [.slice A5 (doL l ⟨2, key, val⟩).length c5] 1 ⟨w7.heap.size, 0, none⟩ 1 rfl rfl rfl (HO7.out.alloc _) (by intro u hu; simp at hu; subst hu; rfl) (fun j u hu => by rw [Addr.add_mid, Lib.cell_of_heap (heap_alloc_new w7 _)]; simpa using hu) (by simp; omega) (by have := HB7.out.size; simp; omega) (vs.length + 1) (by simp) ?_; intro A9 c9 w9 ho9 hf9; have HB9 := Lib.hid ((below_alloc HB7.out).trans (hf9.to_below (B := w6.heap.size) (by have := HB7.out.size; simp; omega) (fun q hq e => val_ge HO7.out hq e))); have hrow9 := box_below HRW6.out HB9.out; have z1 : w9.cell? ⟨bu, 1, none⟩ = some (.slice (some ⟨gr, off, none⟩) vs.length cap) := (by rw [Lib.cell_of_heap hrow9]; rfl); have y1 := Lib.frozen_of_heap hrow9 1; have HO9 := Lib.hid ho9; have HRW9 := Lib.hid hrow9; clear ho9 hf9 hrow9)))
              go_ret
              rw [HEE.out, HRR.out]
              exact ref_add HBUL.out HBW.out HB6.out HB9.out HRW9.out HR2.out HR6.out HE6.out HO9.out
            · have he : E = 9 := by rw [HE3.out, if_neg hcw]
              have hcI : c < sumW (doL l ⟨2, key, val⟩) := by omega
              have HE9 := Lib.hid he
              clear he hcw
              go_wp2
              go_ret
              exact HEND.out 9 _ HE9.out (.inl (by decide)) (below_next HBW.out HB6.out)
          · skip
            go_wp2_with (go_at_call 61; (with_reducible refine (HWI.out _ _ _ _ ((HE2.out.below HBEL.out).below (below_alloc (Below.refl _ wr))) (heap_alloc_new wr _)).mono ?_); rintro e w5 ⟨hb5, A5, c5, rfl, ho5⟩; have HO5 := Lib.hid ho5; have HB5 := Lib.hid (below_next (below_alloc (Below.refl _ wr)) hb5); clear hb5 ho5)
            have B5 := HB5.out
            have v0 := keep_cell HB5.out hbul u0
            have hbul5 := keep_lt HB5.out hbul
            have hel5 := HO5.out.drew.elems Itm.clen
            have hrt5 := ownM_row HO5.out.drew
            refine rg_start (n := 7) (fun w' => w'.cell? ⟨bu, 0, none⟩ = some (.int .i64 c) ∧ bu < w'.heap.size ∧ Below wr.heap.size wr w') #[false, false, false, false, false, false, false] (by kernel_rfl) rfl rfl ⟨v0, hbul5, B5.drew⟩ (fun hHeld => ?_)
            refine rg_take (i := 0) (N := (some 55)) (v := ?_) (a' := ?_) #[true, false, false, false, false, false, false] rfl rfl (by kernel_rfl) (fun _ _ _ h => h) (by rfl) ?_ hHeld ?_ ?_
            rotate_left 2
            · rintro w' ⟨s0, s1, s2⟩
              go_simp
              try with_reducible rfl
            · simp only [Act.put, List.setIfInBounds_toArray, List.set_cons_zero, List.set_cons_succ]
              rfl
            refine rg_take (i := 2) (N := (some 57)) (v := ?_) (a' := ?_) #[true, false, true, false, false, false, false] rfl rfl (by kernel_rfl) (fun _ _ _ h => h) (by rfl) ?_ hHeld ?_ ?_
            rotate_left 2
            · rintro w' ⟨s0, s1, s2⟩
              go_simp
              try with_reducible rfl
            · simp only [Act.put, List.setIfInBounds_toArray, List.set_cons_zero, List.set_cons_succ]
              rfl
            refine rg_take (i := 3) (N := (some 58)) (v := ?_) (a' := ?_) #[true, false, true, true, false, false, false] rfl rfl (by kernel_rfl) (fun _ _ _ h => h) (by rfl) ?_ hHeld ?_ ?_
            rotate_left 2
            · rintro w' ⟨s0, s1, s2⟩
              go_simp
              try with_reducible rfl
            · simp only [Act.put, List.setIfInBounds_toArray, List.set_cons_zero, List.set_cons_succ]
              rfl
            refine rg_take (i := 4) (N := (some 59)) (v := ?_) (a' := ?_) #[true, false, true, true, true, false, false] rfl rfl (by kernel_rfl) (fun _ _ _ h => h) (by rfl) ?_ hHeld ?_ ?_
            rotate_left 2
            · rintro w' ⟨s0, s1, s2⟩
              go_simp
              try with_reducible rfl
            · simp only [Act.put, List.setIfInBounds_toArray, List.set_cons_zero, List.set_cons_succ]
              rfl
            refine rg_take (i := 5) (N := (some 60)) (v := ?_) (a' := ?_) #[true, false, true, true, true, true, false] rfl rfl (by kernel_rfl) (fun _ _ _ h => h) (by rfl) ?_ hHeld ?_ ?_
            rotate_left 2
            · rintro w' ⟨s0, s1, s2⟩
              go_simp
              try with_reducible rfl
            · simp only [Act.put, List.setIfInBounds_toArray, List.set_cons_zero, List.set_cons_succ]
              rfl
            refine rg_one (i := 1) #[true, true, true, true, true, true, false] rfl (by kernel_rfl) (by rfl) (fun K hK => ?_)
            obtain ⟨s0, s1, s2⟩ := hHeld
            repeat go_step
            ((with_reducible refine (HWT.out _ _ _ hel5).mono ?_); rintro e w6 ⟨rfl, hb6⟩; have HE6 := Lib.hid (hrt5.below hb6))
            try dsimp only
            refine hK.out _ _ ?_ (fun hHeld => ?_)
            · (repeat (first | (with_reducible assumption) | (with_reducible apply And.intro) | (with_reducible refine keep_cell (w := ?_) ?_ ?_ ?_; rotate_left; with_reducible assumption) | (with_reducible refine keep_cell_alloc ?_ ?_) | (with_reducible refine keep_lt (w := ?_) ?_ ?_; rotate_left; with_reducible assumption) | (with_reducible refine keep_lt_alloc ?_) | (with_reducible refine below_next (w := ?_) ?_ ?_; rotate_left 2; with_reducible assumption) | (with_reducible refine below_alloc ?_) | (with_reducible refine Below.drew ?_) | (with_reducible refine keep_lt_drew ?_) | (with_reducible refine keep_cell_drew ?_)))
            clear hK K
            clear s0 s1 s2
            refine rg_take (i := 6) (N := (some 61)) (v := ?_) (a' := ?_) #[true, true, true, true, true, true, true] rfl rfl (by kernel_rfl) (fun _ _ _ h => h) (by rfl) ?_ hHeld ?_ ?_
            rotate_left 2
            · rintro w' ⟨s0, s1, s2⟩
              go_simp
              try with_reducible rfl
            · simp only [Act.put, List.setIfInBounds_toArray, List.set_cons_zero, List.set_cons_succ]
              rfl
            refine rg_done (by kernel_rfl) ?_
            obtain ⟨s0, s1, s2⟩ := hHeld
            have hrow6 := box_below HR1.out s2
            have u1 : w6.cell? ⟨bu, 1, none⟩ = some (.slice (some ⟨gr, off, none⟩) vs.length cap) := by rw [Lib.cell_of_heap hrow6]; rfl
            have HB6 := Lib.hid s2
            have HRW6 := Lib.hid hrow6
            clear hrow6 s2
            by_cases hcw : sumW (doL l ⟨kind, key, val⟩) ≤ c
            · have he : E = 0 := by rw [HE3.out, if_pos hcw]
              have hR := HADD.out he HND.out
              have hcI : ¬ c < sumW (doL l ⟨kind, key, val⟩) := by omega
              have HRR := Lib.hid hR
              have HEE := Lib.hid he
              clear he hR hcw
              go_wp2_with (first
                | (at_builtin; (refine val_append rfl (some 68) rfl _ _ rfl w6.heap.size (.slice (some ⟨w6.heap.size, 0, none⟩) 0 0) [] vs vs.length ⟨gr, off, none⟩ cap rfl rfl rfl (OwnsG.empty (heap_alloc_new w6 _) (Nat.le_refl _)) HONE.out (fun j u hu => by rw [Addr.add_mid]; exact keep_cell (below_alloc HB6.out) HR4L.out (HR5.out j u hu)) (by simp; omega) (by simp) vs.length (by simp) ?_; intro A7 c7 w7 ho7 hf7; have ho7' : OwnsV w7 w6.heap.size (.slice A7 vs.length c7) vs := ho7; have HO7 := Lib.hid ho7'; have HB7 := Lib.hid ((below_alloc (o := .cells #[] 29) (Below.refl _ w6)).trans (hf7.to_below (B := w6.heap.size) (by simp) (fun q hq e => by simp only [Value.ownBlock, Option.some.injEq] at e; omega))); clear ho7 ho7' hf7))
                | (at_builtin; (refine val_append rfl (some 71) rfl _ _ rfl w6.heap.size (.slice A7 vs.length c7) vs [.slice A5 (doL l ⟨kind, key, val⟩).length c5] 1 ⟨w7.heap.size, 0, none⟩ 1 rfl rfl rfl (HO7.out.alloc _) (by intro u hu; simp at hu; subst hu; rfl) (fun j u hu => by rw [Addr.add_mid, Lib.cell_of_heap (heap_alloc_new w7 _)]; simpa using hu) (by simp; omega) (by have := HB7.out.size; simp; omega) (vs.length + 1) (by simp) ?_; intro A9 c9 w9 ho9 hf9; have HB9 := Lib.hid ((below_alloc HB7.out).trans (hf9.to_below (B := w6.heap.size) (by have := HB7.out.size; simp; omega) (fun q hq e => val_ge HO7.out hq e))); have hrow9 := box_below HRW6.out HB9.out; have z1 : w9.cell? ⟨bu, 1, none⟩ = some (.slice (some ⟨gr, off, none⟩) vs.length cap) := (by rw [Lib.cell_of_heap hrow9]; rfl); have y1 := Lib.frozen_of_heap hrow9 1; have HO9 := Lib.hid ho9; have HRW9 := Lib.hid hrow9; clear ho9 hf9 hrow9)))
              go_ret
              rw [HEE.out, HRR.out]
              exact ref_add HBUL.out HBW.out HB6.out HB9.out HRW9.out HR2.out HR6.out HE6.out HO9.out
            · have he : E = 9 := by rw [HE3.out, if_neg hcw]
              have hcI : c < sumW (doL l ⟨kind, key, val⟩) := by omega
              have HE9 := Lib.hid he
              clear he hcw
              go_wp2
              go_ret
              exact HEND.out 9 _ HE9.out (.inl (by decide)) (below_next HBW.out HB6.out)
end Go.Proofs.YtdfgdnaejnngoaaGreat
namespace Go.Proofs.YtdfgdnaejnngoaaGreat
open Go.RowKit
/-! The document's ranges; grangerref09.Within. -/
set_option maxRecDepth 100000 in
theorem refMay_any (lo hi : ByteArray) (w : World) : Calls Tryz.prog 67 #[.agg #[.string lo, .string hi]] w fun e w' => e = .returned (.bool (isRng lo hi)) ∧ Below w.heap.size w w' := by
  have hr : isRng lo hi = (decide ((lo.size : Int) ≤ 8) && (decide ((hi.size : Int) ≤ 8) && !(!hi.toList.isEmpty && Op.bytesLess hi.toList lo.toList))) := rfl
  rw [hr, isEmpty_size]
  clear hr
  generalize hb : Op.bytesLess hi.toList lo.toList = b
  by_cases h1 : (lo.size : Int) ≤ 8
  · have h1' : (lo.size : Int) < 9 := by omega
    by_cases h2 : (hi.size : Int) ≤ 8
    · have h2' : (hi.size : Int) < 9 := by omega
      rw [decide_eq_true h1, decide_eq_true h2]
      by_cases h3 : (hi.size : Int) = 0
      · have e3 : ((hi.size : Int) == 0) = true := by simp [h3]
        rw [decide_eq_true h3]
        clear h1 h2 h3
        go_enter Tryz.func67, Tryz.ntmps67
        go_wp2
        go_ret
        exact ⟨rfl, (by repeat (first | assumption | exact Below.refl _ _ | (refine below_step (w := ?_) ?_ ?_ ?_; rotate_left 2; assumption) | refine Below.drew ?_ | refine below_drewN ?_ _ | refine Below.alloc ?_ ?_ _ | refine Below.setCell ?_ ?_ _ | (focus (simp; done)) | (focus (simp; omega)) | omega))⟩
      · have e3 : ((hi.size : Int) == 0) = false := by rw [beq_eq_false_iff_ne]; exact h3
        rw [decide_eq_false h3]
        clear h1 h2 h3
        go_enter Tryz.func67, Tryz.ntmps67
        go_wp2
        go_ret
        exact ⟨by simp, (by repeat (first | assumption | exact Below.refl _ _ | (refine below_step (w := ?_) ?_ ?_ ?_; rotate_left 2; assumption) | refine Below.drew ?_ | refine below_drewN ?_ _ | refine Below.alloc ?_ ?_ _ | refine Below.setCell ?_ ?_ _ | (focus (simp; done)) | (focus (simp; omega)) | omega))⟩
    · have h2' : ¬ (hi.size : Int) < 9 := by omega
      rw [decide_eq_true h1, decide_eq_false h2]
      clear h1 h2
      go_enter Tryz.func67, Tryz.ntmps67
      go_wp2
      go_ret
      exact ⟨rfl, (by repeat (first | assumption | exact Below.refl _ _ | (refine below_step (w := ?_) ?_ ?_ ?_; rotate_left 2; assumption) | refine Below.drew ?_ | refine below_drewN ?_ _ | refine Below.alloc ?_ ?_ _ | refine Below.setCell ?_ ?_ _ | (focus (simp; done)) | (focus (simp; omega)) | omega))⟩
  · have h1' : ¬ (lo.size : Int) < 9 := by omega
    rw [decide_eq_false h1]
    clear h1
    go_enter Tryz.func67, Tryz.ntmps67
    go_wp2
    go_ret
    exact ⟨rfl, (by repeat (first | assumption | exact Below.refl _ _ | (refine below_step (w := ?_) ?_ ?_ ?_; rotate_left 2; assumption) | refine Below.drew ?_ | refine below_drewN ?_ _ | refine Below.alloc ?_ ?_ _ | refine Below.setCell ?_ ?_ _ | (focus (simp; done)) | (focus (simp; omega)) | omega))⟩
set_option maxRecDepth 100000 in
theorem refHas_any (lo hi k : ByteArray) (w : World) : Calls Tryz.prog 94 #[.agg #[.string lo, .string hi], .string k] w fun e w' => e = .returned (.bool (hasR lo hi k)) ∧ Below w.heap.size w w' := by
  have hi1 := fun W => ref07Is_any k W
  have h1 : klt k lo = Op.bytesLess k.toList lo.toList := rfl
  have h2 : klt k hi = Op.bytesLess k.toList hi.toList := rfl
  unfold hasR
  rw [h1, h2, isEmpty_size]
  clear h1 h2
  generalize isKey k = b1 at *
  generalize hb2 : Op.bytesLess k.toList lo.toList = b2 at *
  generalize hb3 : Op.bytesLess k.toList hi.toList = b3 at *
  have HI := Lib.hid hi1
  clear hi1
  cases b1 with
  | false =>
    go_enter Tryz.func94, Tryz.ntmps94
    go_wp2_with (go_at_call 66; (with_reducible refine (HI.out _).mono ?_); rintro e w1 ⟨rfl, hb1⟩)
    go_ret
    exact ⟨rfl, (by repeat (first | assumption | exact Below.refl _ _ | (refine below_step (w := ?_) ?_ ?_ ?_; rotate_left 2; assumption) | refine Below.drew ?_ | refine below_drewN ?_ _ | refine Below.alloc ?_ ?_ _ | refine Below.setCell ?_ ?_ _ | (focus (simp; done)) | (focus (simp; omega)) | omega))⟩
  | true =>
    cases b2 with
    | true =>
      go_enter Tryz.func94, Tryz.ntmps94
      go_wp2_with (go_at_call 66; (with_reducible refine (HI.out _).mono ?_); rintro e w1 ⟨rfl, hb1⟩; have hbx := box_cells hb1; have d0 : w1.cell? ⟨w.heap.size, 0, none⟩ = some (.string lo) := (by rw [Lib.cell_of_heap hbx]; rfl); have d1 : w1.cell? ⟨w.heap.size, 1, none⟩ = some (.string hi) := (by rw [Lib.cell_of_heap hbx]; rfl); clear hbx)
      go_ret
      exact ⟨rfl, (by repeat (first | assumption | exact Below.refl _ _ | (refine below_step (w := ?_) ?_ ?_ ?_; rotate_left 2; assumption) | refine Below.drew ?_ | refine below_drewN ?_ _ | refine Below.alloc ?_ ?_ _ | refine Below.setCell ?_ ?_ _ | (focus (simp; done)) | (focus (simp; omega)) | omega))⟩
    | false =>
      by_cases h3 : (hi.size : Int) = 0
      · have e3 : ((hi.size : Int) == 0) = true := by simp [h3]
        rw [decide_eq_true h3]
        clear h3
        go_enter Tryz.func94, Tryz.ntmps94
        go_wp2_with (go_at_call 66; (with_reducible refine (HI.out _).mono ?_); rintro e w1 ⟨rfl, hb1⟩; have hbx := box_cells hb1; have d0 : w1.cell? ⟨w.heap.size, 0, none⟩ = some (.string lo) := (by rw [Lib.cell_of_heap hbx]; rfl); have d1 : w1.cell? ⟨w.heap.size, 1, none⟩ = some (.string hi) := (by rw [Lib.cell_of_heap hbx]; rfl); clear hbx)
        go_ret
        exact ⟨rfl, (by repeat (first | assumption | exact Below.refl _ _ | (refine below_step (w := ?_) ?_ ?_ ?_; rotate_left 2; assumption) | refine Below.drew ?_ | refine below_drewN ?_ _ | refine Below.alloc ?_ ?_ _ | refine Below.setCell ?_ ?_ _ | (focus (simp; done)) | (focus (simp; omega)) | omega))⟩
      · have e3 : ((hi.size : Int) == 0) = false := by rw [beq_eq_false_iff_ne]; exact h3
        rw [decide_eq_false h3]
        clear h3
        go_enter Tryz.func94, Tryz.ntmps94
        go_wp2_with (go_at_call 66; (with_reducible refine (HI.out _).mono ?_); rintro e w1 ⟨rfl, hb1⟩; have hbx := box_cells hb1; have d0 : w1.cell? ⟨w.heap.size, 0, none⟩ = some (.string lo) := (by rw [Lib.cell_of_heap hbx]; rfl); have d1 : w1.cell? ⟨w.heap.size, 1, none⟩ = some (.string hi) := (by rw [Lib.cell_of_heap hbx]; rfl); clear hbx)
        go_ret
        exact ⟨rfl, (by repeat (first | assumption | exact Below.refl _ _ | (refine below_step (w := ?_) ?_ ?_ ?_; rotate_left 2; assumption) | refine Below.drew ?_ | refine below_drewN ?_ _ | refine Below.alloc ?_ ?_ _ | refine Below.setCell ?_ ?_ _ | (focus (simp; done)) | (focus (simp; omega)) | omega))⟩
set_option maxHeartbeats 1000000 in
set_option maxRecDepth 100000 in
theorem refWithin_any (A : Option Addr) (cap : Nat) (lo hi : ByteArray) (l : List Itm) (w : World) (hel : Elems w A 2 (l.map Itm.cells)) (hl : l.length ≤ 70000) : Calls Tryz.prog 68 #[.slice A l.length cap, .agg #[.string lo, .string hi]] w
    fun e w' => ∃ A' c', e = .returned (.slice A' (withinL lo hi l).length c') ∧ OwnsM w' w.heap.size (.slice A' (withinL lo hi l).length c') (withinL lo hi l) ∧ Below w.heap.size w w' := by
  have hha := fun k W => refHas_any lo hi k W
  have HEL := Lib.hid hel
  have HH := Lib.hid hha
  clear hel hha
  go_enter Tryz.func68, Tryz.ntmps68
  go_wp2
  have hb0 : Below w.heap.size w ((w.alloc (.cells #[.string lo, .string hi] 119)).alloc (.cells #[] 41)) := below_alloc (below_alloc (Below.refl _ w))
  have hx0 : ((w.alloc (.cells #[.string lo, .string hi] 119)).alloc (.cells #[] 41)).heap[w.heap.size]? = some (.cells #[.string lo, .string hi] 119 (0, 0)) := ((Fr.refl (fun _ => False) _).alloc _).row id (heap_alloc_new w _)
  have ho0 : OwnsM ((w.alloc (.cells #[.string lo, .string hi] 119)).alloc (.cells #[] 41)) (w.heap.size + 1) (.slice (some ⟨w.heap.size + 1, 0, none⟩) 0 0) [] := OwnsG.empty (heap_new_at (by simp)) (Nat.le_refl _)
  have HB0 := Lib.hid hb0
  have HX0 := Lib.hid hx0
  have HO0 := Lib.hid ho0
  clear hb0 hx0 ho0
  go_loopw [6, 5] (fun i v wr => ∃ (k c2 : Nat) (A2 : Option Addr), i = .int .i64 k ∧ k ≤ l.length ∧ v = .slice A2 (withinL lo hi (l.take k)).length c2 ∧ OwnsM wr (w.heap.size + 1) (.slice A2 (withinL lo hi (l.take k)).length c2) (withinL lo hi (l.take k)) ∧ Below w.heap.size w wr ∧ wr.heap[w.heap.size]? = some (.cells #[.string lo, .string hi] 119 (0, 0))) (fun i _ _ => l.length + 1 - (intOf i).toNat)
  case atStart => exact ⟨0, 0, _, rfl, Nat.zero_le _, rfl, HO0.out, HB0.out, HX0.out⟩
  case round =>
    obtain ⟨k, c2, A2, rfl, hk, rfl, how, hbel, hbox⟩ := hrel
    by_cases hkl : k < l.length
    · have hkI : (k : Int) < (l.length : Int) := by omega
      obtain ⟨y, hy⟩ := get_lt hkl
      obtain ⟨g, off, rfl, hglt, d0, d1⟩ := itm_rowR (HEL.out.below hbel) hy
      have x0 : wr.cell? ⟨w.heap.size, 0, none⟩ = some (.string lo) := by rw [Lib.cell_of_heap hbox]; rfl
      have x1 : wr.cell? ⟨w.heap.size, 1, none⟩ = some (.string hi) := by rw [Lib.cell_of_heap hbox]; rfl
      have hxl := lt_of_row hbox
      have hwt := within_take (lo := lo) (hi := hi) hy
      have hwl := within_len lo hi (l.take k)
      have htl : (l.take k).length ≤ 70000 := by rw [List.length_take]; omega
      have hha := fun W => HH.out y.key W
      have HOW := Lib.hid how
      have HBEL := Lib.hid hbel
      have HBX := Lib.hid hbox
      obtain ⟨hq, hhq⟩ : ∃ hq, hasR lo hi y.key = hq := ⟨_, rfl⟩
      rw [hhq] at hha hwt
      have HHA := Lib.hid hha
      have B0 : Below wr.heap.size wr wr.drew := (Below.refl _ wr).drew
      clear hha how hbel hbox hy hhq
      obtain ⟨yk, yv⟩ := y
      dsimp only at d0 d1 HHA
      generalize withinL lo hi (l.take k) = D at *
      have HWT := Lib.hid hwt
      clear hwt
      have g0 : wr.drew.cell? ⟨g, off + k * 2, none⟩ = some (.string yk) := d0
      have g1 : wr.drew.cell? ⟨g, off + k * 2 + 1, none⟩ = some (.string yv) := d1
      go_wp2
      refine rg_start (n := 7) (fun w' => w'.cell? ⟨w.heap.size, 0, none⟩ = some (.string lo) ∧ w'.cell? ⟨w.heap.size, 1, none⟩ = some (.string hi) ∧ w.heap.size < w'.heap.size ∧ w'.cell? ⟨g, off + k * 2, none⟩ = some (.string yk) ∧ w'.cell? ⟨g, off + k * 2 + 1, none⟩ = some (.string yv) ∧ g < w'.heap.size ∧ Below wr.heap.size wr w') #[false, false, false, false, false, false, false] (by kernel_rfl) rfl rfl ⟨x0, x1, hxl, g0, g1, hglt, B0⟩ (fun hHeld => ?_)
      refine rg_take (i := 0) (N := (some 14)) (v := ?_) (a' := ?_) #[true, false, false, false, false, false, false] rfl rfl (by kernel_rfl) (fun _ _ _ h => h) (by rfl) ?_ hHeld ?_ ?_
      rotate_left 2
      · rintro w' ⟨s0, s1, s2, s3, s4, s5, s6⟩
        go_simp
        try with_reducible rfl
      · simp only [Act.put, List.setIfInBounds_toArray, List.set_cons_zero, List.set_cons_succ]
        rfl
      refine rg_take (i := 1) (N := (some 15)) (v := ?_) (a' := ?_) #[true, true, false, false, false, false, false] rfl rfl (by kernel_rfl) (fun _ _ _ h => h) (by rfl) ?_ hHeld ?_ ?_
      rotate_left 2
      · rintro w' ⟨s0, s1, s2, s3, s4, s5, s6⟩
        go_simp
        try with_reducible rfl
      · simp only [Act.put, List.setIfInBounds_toArray, List.set_cons_zero, List.set_cons_succ]
        rfl
      refine rg_take (i := 2) (N := (some 16)) (v := ?_) (a' := ?_) #[true, true, true, false, false, false, false] rfl rfl (by kernel_rfl) (fun _ _ _ h => h) (by rfl) ?_ hHeld ?_ ?_
      rotate_left 2
      · rintro w' ⟨s0, s1, s2, s3, s4, s5, s6⟩
        go_simp
        try with_reducible rfl
      · simp only [Act.put, List.setIfInBounds_toArray, List.set_cons_zero, List.set_cons_succ]
        rfl
      refine rg_take (i := 3) (N := (some 17)) (v := ?_) (a' := ?_) #[true, true, true, true, false, false, false] rfl rfl (by kernel_rfl) (fun _ _ _ h => h) (by rfl) ?_ hHeld ?_ ?_
      rotate_left 2
      · rintro w' ⟨s0, s1, s2, s3, s4, s5, s6⟩
        go_simp
        try with_reducible rfl
      · simp only [Act.put, List.setIfInBounds_toArray, List.set_cons_zero, List.set_cons_succ]
        rfl
      refine rg_take (i := 4) (N := (some 18)) (v := ?_) (a' := ?_) #[true, true, true, true, true, false, false] rfl rfl (by kernel_rfl) (fun _ _ _ h => h) (by rfl) ?_ hHeld ?_ ?_
      rotate_left 2
      · rintro w' ⟨s0, s1, s2, s3, s4, s5, s6⟩
        go_simp
        try with_reducible rfl
      · simp only [Act.put, List.setIfInBounds_toArray, List.set_cons_zero, List.set_cons_succ]
        rfl
      refine rg_take (i := 5) (N := (some 19)) (v := ?_) (a' := ?_) #[true, true, true, true, true, true, false] rfl rfl (by kernel_rfl) (fun _ _ _ h => h) (by rfl) ?_ hHeld ?_ ?_
      rotate_left 2
      · rintro w' ⟨s0, s1, s2, s3, s4, s5, s6⟩
        go_simp
        try with_reducible rfl
      · simp only [Act.put, List.setIfInBounds_toArray, List.set_cons_zero, List.set_cons_succ]
        rfl
      refine rg_one (i := 6) #[true, true, true, true, true, true, true] rfl (by kernel_rfl) (by rfl) (fun K hK => ?_)
      obtain ⟨s0, s1, s2, s3, s4, s5, s6⟩ := hHeld
      repeat go_step
      ((with_reducible refine (HHA.out _).mono ?_); rintro e w1 ⟨rfl, hb1⟩)
      try dsimp only
      refine hK.out _ _ ?_ (fun hHeld => ?_)
      · (repeat (first | (with_reducible assumption) | (with_reducible apply And.intro) | (with_reducible refine keep_cell (w := ?_) ?_ ?_ ?_; rotate_left; with_reducible assumption) | (with_reducible refine keep_cell_alloc ?_ ?_) | (with_reducible refine keep_lt (w := ?_) ?_ ?_; rotate_left; with_reducible assumption) | (with_reducible refine keep_lt_alloc ?_) | (with_reducible refine below_next (w := ?_) ?_ ?_; rotate_left 2; with_reducible assumption) | (with_reducible refine below_alloc ?_) | (with_reducible refine Below.drew ?_) | (with_reducible refine keep_lt_drew ?_) | (with_reducible refine keep_cell_drew ?_)))
      clear hK K
      clear s0 s1 s2 s3 s4 s5 s6
      refine rg_done (by kernel_rfl) ?_
      obtain ⟨s0, s1, s2, s3, s4, s5, s6⟩ := hHeld
      have HB1 := Lib.hid s6
      clear s6
      cases hq with
      | false =>
        rw [if_neg (by decide)] at HWT
        go_wp2
        refine ⟨⟨k + 1, c2, A2, by go_num, by omega, by rw [HWT.out], by rw [HWT.out]; exact HOW.out.below HB1.out, below_next HBEL.out HB1.out, box_below HBX.out HB1.out⟩, ?_⟩
        simp [intOf]
        omega
      | true =>
        rw [if_pos rfl] at HWT
        go_wp2_with (at_builtin; (refine itm_append rfl (some 27) rfl _ _ rfl (w.heap.size + 1) (.slice A2 D.length c2) D [⟨yk, yv⟩] 1 ⟨w1.heap.size, 0, none⟩ 1 rfl rfl rfl (OwnsG.alloc (f := Itm.cells) (k := 2) (e := 41) (HOW.out.below HB1.out) _) (by simpa using ItmAt.cells (x := ⟨yk, yv⟩) (T := 41) (heap_alloc_new w1 _)) (by simp; omega) (by have := HB1.out.size; simp; omega) (D.length + 1) (by simp) ?_; intro A3 c3 w3 ho3 hf3; have HO3 := Lib.hid ho3; have HF3 := Lib.hid hf3; clear ho3 hf3))
        have hb1w : Below w.heap.size w (w1.alloc (.cells #[.string yk, .string yv] 41)) := below_alloc (below_next HBEL.out HB1.out)
        refine ⟨⟨k + 1, c3, A3, by go_num, by omega, by rw [HWT.out, List.length_append]; rfl, by rw [HWT.out, List.length_append]; exact HO3.out, hb1w.trans (HF3.out.to_below hb1w.size (fun q hq e => own_geR HOW.out (by omega) e)), HF3.out.row (fun e => own_geR HOW.out (Nat.lt_succ_self _) e) (box_below HBX.out (below_alloc HB1.out))⟩, ?_⟩
        simp [intOf]
        omega
    · obtain rfl : k = l.length := by omega
      rw [List.take_length] at how
      rw [List.take_length]
      have HOW := Lib.hid how
      have HB := Lib.hid hbel
      clear how hbel
      go_wp2
      go_ret
      exact ⟨A2, c2, rfl, HOW.out.base (Nat.le_succ _), HB.out⟩
end Go.Proofs.YtdfgdnaejnngoaaGreat
namespace Go.Proofs.YtdfgdnaejnngoaaGreat
open Go.RowKit
/-! grangerref26.Do. -/
def refC (err : Int) (has : Bool) (val : ByteArray) (its : Value) (n wt : Int) : List Value := [.int .i64 err, .bool has, .string val, its, .int .i64 n, .int .i64 wt, .int .i64 0, .int .i64 0, .int .i64 0]
def refV (err : Int) (has : Bool) (val : ByteArray) (its : Value) (n wt : Int) : Value := .agg (refC err has val its n wt).toArray
theorem refans_size : (Tryz.prog.info? 76).map (·.size) = some 9 := by kernel_rfl
theorem refans_all (err : Int) (has : Bool) (val : ByteArray) (A : Option Addr) (n c : Nat) (m wt : Int) : (refC err has val (.slice A n c) m wt).all (·.oneCell') = true := rfl
def RefDo (bu : Nat) (c : Int) (a : Int × Bool × ByteArray × List Itm × Int × Int) (ls' : List (List Itm)) (w : World) (e : Ending) (w' : World) : Prop :=
  ∃ A k cp, e = .returned (refV a.1 a.2.1 a.2.2.1 (.slice A k cp) a.2.2.2.2.1 a.2.2.2.2.2) ∧ k = a.2.2.2.1.length ∧ RowAt w' A a.2.2.2.1 ∧ RefAt w' bu c ls' ∧ Fr (fun k => k = bu) w w'
theorem elems_nil (w : World) (A : Option Addr) : RowAt w A [] := RowAt.nil w A
abbrev zeroR : List Value := refC 0 false ⟨#[]⟩ (.slice none 0 0) 0 0
abbrev RBox (s : Nat) (w : World) : Prop := w.heap[s]? = some (.cells zeroR.toArray 76 (0, 0))
abbrev QBox (s : Nat) (o : Ord) (w : World) : Prop := w.heap[s]? = some (.cells o.cells.toArray 78 (0, 0))
set_option maxHeartbeats 1000000 in
set_option maxRecDepth 100000 in
theorem refDo_bad (bu : Nat) (c : Int) (ls : List (List Itm)) (kind : Int) (key val : ByteArray) (n : Int) (lo hi : ByteArray) (w : World) (h : RefAt w bu c ls) (ho : isOrd ⟨kind, key, val, n, lo, hi⟩ = false) :
    Calls Tryz.prog 36 #[.pointer (some ⟨bu, 0, none⟩), (Ord.mk kind key val n lo hi).v] w (RefDo bu c (1, false, ⟨#[]⟩, [], 0, 0) ls w) := by
  have hia := fun W => refIs_any ⟨kind, key, val, n, lo, hi⟩ W
  rw [ho] at hia
  rw [Ord.v_def] at hia ⊢
  have HI := Lib.hid hia
  have HRF := Lib.hid h
  have HMS := Lib.hid refans_size
  clear hia ho h
  go_enter Tryz.func36, Tryz.ntmps36
  go_wp2_with (first
    | (go_at_call 64; (with_reducible refine (HI.out _).mono ?_); rintro e w1 ⟨rfl, hb1⟩; have hbo : QBox w.heap.size ⟨kind, key, val, n, lo, hi⟩ w1 := box_below (((Fr.refl (fun _ => False) _).alloc _).row id (((Fr.refl (fun _ => False) _).alloc _).row id (heap_alloc_new w _))) hb1; have hba : RBox (w.heap.size + 1) w1 := box_below (((Fr.refl (fun _ => False) _).alloc _).row id (heap_new_at (by simp))) hb1; have hbc : RBox (w.heap.size + 2) w1 := box_below (heap_new_at (by simp)) hb1; have d0 : w1.cell? ⟨w.heap.size, 0, none⟩ = some (.int .i64 kind) := (by rw [Lib.cell_of_heap hbo]; rfl); have d1 : w1.cell? ⟨w.heap.size, 1, none⟩ = some (.string key) := (by rw [Lib.cell_of_heap hbo]; rfl); have d2 : w1.cell? ⟨w.heap.size, 2, none⟩ = some (.string val) := (by rw [Lib.cell_of_heap hbo]; rfl); have d3 : w1.cell? ⟨w.heap.size, 3, none⟩ = some (.int .u64 n) := (by rw [Lib.cell_of_heap hbo]; rfl); have d4 : w1.cell? ⟨w.heap.size, 4, none⟩ = some (.string lo) := (by rw [Lib.cell_of_heap hbo]; rfl); have d5 : w1.cell? ⟨w.heap.size, 5, none⟩ = some (.string hi) := (by rw [Lib.cell_of_heap hbo]; rfl); have hxl := lt_of_row hbo; have HBO := Lib.hid hbo; have HBA := Lib.hid hba; have HBC := Lib.hid hbc; have HB1 := Lib.hid (below_next (below_alloc (below_alloc (below_alloc (Below.refl _ w)))) hb1); have z0 : w1.cell? ⟨w.heap.size + 2, 0, none⟩ = some (.int .i64 0) := (by rw [Lib.cell_of_heap hbc]; rfl); have y0 := Lib.frozen_of_heap hbc 0; have HRC := Lib.hid (setCell_row hbc 0 (.int .i64 1)); have hfc : Fr (fun q => q = w.heap.size + 2) w1 (w1.setCell ⟨w.heap.size + 2, 0, none⟩ (.int .i64 1)) := (Fr.refl (fun q => q = w.heap.size + 2) w1).setCell (p := ⟨w.heap.size + 2, 0, none⟩) (fun _ => rfl) _; have HFC := Lib.hid hfc; have HBA2 := Lib.hid (hfc.row (by omega) hba); clear hfc; clear hb1 hbo hba hbc)
    | (refine wpList_load_mid rfl 76 (Operand.tmp 5) rfl (w.heap.size + 2) 0 rfl (refC 1 false ⟨#[]⟩ (.slice none 0 0) 0 0) _ (row_range HRC.out) Tryz.underlying76 rfl HMS.out ?_)
    | (refine wpList_store_row rfl 76 (Operand.tmp 4) (Operand.tmp 14) rfl (w.heap.size + 1) _ (refC 1 false ⟨#[]⟩ (.slice none 0 0) 0 0) _ rfl rfl HBA2.out rfl HMS.out (refans_all _ _ _ _ _ _ _ _) ?_; intro w9 hr9 hf9; have HR9 := Lib.hid hr9; have HF9 := Lib.hid hf9; clear hr9 hf9))
  refine bodyPost_ret (v := refV 1 false ⟨#[]⟩ (.slice none 0 0) 0 0) (results_cell (a := 4) (t := 76) (ad := ⟨w.heap.size + 1, 0, none⟩) Tryz.results36 rfl (load_row _ HR9.out _ Tryz.underlying76 rfl HMS.out)) rfl ?_
  have hb9 : Below w.heap.size w w9 := (HB1.out.trans (HFC.out.to_below HB1.out.size (fun i hi e => by omega))).trans (HF9.out.to_below (Nat.le_trans HB1.out.size HFC.out.size) (fun i hi e => by omega))
  exact ⟨none, 0, 0, rfl, rfl, elems_nil _ _, HRF.out.below hb9, Fr.of_below hb9⟩
theorem ref_nopair (err : Int) (has : Bool) (val : ByteArray) (A : Option Addr) (n c : Nat) (m wt : Int) : ∀ i a b, (refC err has val (.slice A n c) m wt)[i]? = some (.string a) → (refC err has val (.slice A n c) m wt)[i + 1]? = some (.string b) → False := by
  intro i a b h1 h2
  rcases i with _ | _ | _ | _ | _ | _ | _ | _ | _ | i <;> simp [refC] at h1 h2
/-- an answer, written behind the deed -/
theorem refdo_done {w w1 w2 w3 w9 : World} {bu s : Nat} {c : Int} {ls' : List (List Itm)} {a : Int × Bool × ByteArray × List Itm × Int × Int} {A : Option Addr} {k cp : Nat} (hbl : bu < w.heap.size) (hb1 : Below w.heap.size w w1) (hr2 : RefAt w2 bu c ls') (hf2 : Fr (fun k => k = bu) w1 w2)
    (hs : w.heap.size ≤ s) (hc : w2.heap[s + 1]? = some (.cells zeroR.toArray 76 (0, 0))) (hfc : Fr (fun k => k = s + 1) w2 w3) (ha : w3.heap[s]? = some (.cells zeroR.toArray 76 (0, 0))) (hf9 : Fr (fun k => k = s) w3 w9)
    (hk : k = a.2.2.2.1.length) (hel : RowAt w9 A a.2.2.2.1) :
    RefDo bu c a ls' w (.returned (refV a.1 a.2.1 a.2.2.1 (.slice A k cp) a.2.2.2.2.1 a.2.2.2.2.2)) w9 := by
  have hsz := hb1.size
  have hr3 := ref_other hr2 hc (by decide) (by decide) (by decide) hfc
  have hr9 := ref_other hr3 ha (by decide) (by decide) (by decide) hf9
  refine ⟨A, k, cp, rfl, hk, hel, hr9, ?_⟩
  refine (((Fr.of_below hb1).trans hf2 (fun i _ e => e)).trans hfc (fun i hi e => by omega)).trans hf9 (fun i hi e => by omega)
set_option maxHeartbeats 1000000 in
set_option maxRecDepth 100000 in
theorem refDo_put (bu : Nat) (c : Int) (ls : List (List Itm)) (l : List Itm) (key val : ByteArray) (n : Int) (lo hi : ByteArray) (w : World) (h : RefAt w bu c ls) (hl : ls[ls.length - 1]? = some l) (hn : ls.length ≤ 90000) (hln : l.length ≤ 60000) (hri : Rises l) (hok : ∀ y ∈ l, y.ok) (ho : isOrd ⟨1, key, val, n, lo, hi⟩ = true) :
    Calls Tryz.prog 36 #[.pointer (some ⟨bu, 0, none⟩), (Ord.mk 1 key val n lo hi).v] w (RefDo bu c (errU c l ⟨1, key, val⟩, false, ⟨#[]⟩, [], 0, 0) (rowsU c ls l ⟨1, key, val⟩) w) := by
  have hia := fun W => refIs_any ⟨1, key, val, n, lo, hi⟩ W
  rw [ho] at hia
  have hup := fun W (hW : Below w.heap.size w W) => refUpdate_any bu c ls l ⟨1, key, val⟩ W (h.below hW) hl hn hln hri hok
  rw [Ord.v_def] at hia ⊢
  rw [Mg.v_def] at hup
  generalize errU c l ⟨1, key, val⟩ = E at *
  generalize rowsU c ls l ⟨1, key, val⟩ = R at *
  dsimp only at hup hia ⊢
  have hbul := h.lt
  have HI := Lib.hid hia
  have HU := Lib.hid hup
  have HMS := Lib.hid refans_size
  clear hia hup ho h hl hri hok
  go_enter Tryz.func36, Tryz.ntmps36
  go_wp2_with (first
    | (go_at_call 64; (with_reducible refine (HI.out _).mono ?_); rintro e w1 ⟨rfl, hb1⟩; have hbo : QBox w.heap.size ⟨1, key, val, n, lo, hi⟩ w1 := box_below (((Fr.refl (fun _ => False) _).alloc _).row id (((Fr.refl (fun _ => False) _).alloc _).row id (heap_alloc_new w _))) hb1; have hba : RBox (w.heap.size + 1) w1 := box_below (((Fr.refl (fun _ => False) _).alloc _).row id (heap_new_at (by simp))) hb1; have hbc : RBox (w.heap.size + 2) w1 := box_below (heap_new_at (by simp)) hb1; have d0 : w1.cell? ⟨w.heap.size, 0, none⟩ = some (.int .i64 1) := (by rw [Lib.cell_of_heap hbo]; rfl); have d1 : w1.cell? ⟨w.heap.size, 1, none⟩ = some (.string key) := (by rw [Lib.cell_of_heap hbo]; rfl); have d2 : w1.cell? ⟨w.heap.size, 2, none⟩ = some (.string val) := (by rw [Lib.cell_of_heap hbo]; rfl); have d3 : w1.cell? ⟨w.heap.size, 3, none⟩ = some (.int .u64 n) := (by rw [Lib.cell_of_heap hbo]; rfl); have d4 : w1.cell? ⟨w.heap.size, 4, none⟩ = some (.string lo) := (by rw [Lib.cell_of_heap hbo]; rfl); have d5 : w1.cell? ⟨w.heap.size, 5, none⟩ = some (.string hi) := (by rw [Lib.cell_of_heap hbo]; rfl); have hxl := lt_of_row hbo; have HBO := Lib.hid hbo; have HBA := Lib.hid hba; have HBC := Lib.hid hbc; have HB1 := Lib.hid (below_next (below_alloc (below_alloc (below_alloc (Below.refl _ w)))) hb1); skip; clear hb1 hbo hba hbc)
    | (go_at_call 65; (with_reducible refine (HU.out _ HB1.out).mono ?_); rintro e w2 ⟨rfl, hr2, hf2⟩; have hs1 := HB1.out.size; have hbc2 : RBox (w.heap.size + 2) w2 := hf2.row (by omega) HBC.out; have hba2 : RBox (w.heap.size + 1) w2 := hf2.row (by omega) HBA.out; have z0 : w2.cell? ⟨w.heap.size + 2, 0, none⟩ = some (.int .i64 0) := (by rw [Lib.cell_of_heap hbc2]; rfl); have y0 := Lib.frozen_of_heap hbc2 0; have HRC := Lib.hid (setCell_row hbc2 0 (.int .i64 E)); have hfc : Fr (fun q => q = w.heap.size + 2) w2 (w2.setCell ⟨w.heap.size + 2, 0, none⟩ (.int .i64 E)) := (Fr.refl (fun q => q = w.heap.size + 2) w2).setCell (p := ⟨w.heap.size + 2, 0, none⟩) (fun _ => rfl) _; have HFC := Lib.hid hfc; have HBA2 := Lib.hid (hfc.row (by omega) hba2); have HBC2 := Lib.hid hbc2; have HR2 := Lib.hid hr2; have HF2 := Lib.hid hf2; clear hfc hbc2 hba2 hr2 hf2)
    | (refine wpList_load_mid rfl 76 (Operand.tmp 5) rfl (w.heap.size + 2) 0 rfl (refC E false ⟨#[]⟩ (.slice none 0 0) 0 0) _ (row_range HRC.out) Tryz.underlying76 rfl HMS.out ?_)
    | (refine wpList_store_row rfl 76 (Operand.tmp 4) (Operand.tmp 108) rfl (w.heap.size + 1) _ (refC E false ⟨#[]⟩ (.slice none 0 0) 0 0) _ rfl rfl HBA2.out rfl HMS.out (refans_all _ _ _ _ _ _ _ _) ?_; intro w9 hr9 hf9; have HR9 := Lib.hid hr9; have HF9 := Lib.hid hf9; clear hr9 hf9))
  refine bodyPost_ret (v := refV E false ⟨#[]⟩ (.slice none 0 0) 0 0) (results_cell (a := 4) (t := 76) (ad := ⟨w.heap.size + 1, 0, none⟩) Tryz.results36 rfl (load_row _ HR9.out _ Tryz.underlying76 rfl HMS.out)) rfl ?_
  exact refdo_done hbul HB1.out HR2.out HF2.out (Nat.le_succ _) HBC2.out HFC.out HBA2.out HF9.out rfl (elems_nil _ _)
set_option maxHeartbeats 1000000 in
set_option maxRecDepth 100000 in
theorem refDo_del (bu : Nat) (c : Int) (ls : List (List Itm)) (l : List Itm) (key val : ByteArray) (n : Int) (lo hi : ByteArray) (w : World) (h : RefAt w bu c ls) (hl : ls[ls.length - 1]? = some l) (hn : ls.length ≤ 90000) (hln : l.length ≤ 60000) (hri : Rises l) (hok : ∀ y ∈ l, y.ok) (ho : isOrd ⟨2, key, val, n, lo, hi⟩ = true) :
    Calls Tryz.prog 36 #[.pointer (some ⟨bu, 0, none⟩), (Ord.mk 2 key val n lo hi).v] w (RefDo bu c (errU c l ⟨2, key, ⟨#[]⟩⟩, false, ⟨#[]⟩, [], 0, 0) (rowsU c ls l ⟨2, key, ⟨#[]⟩⟩) w) := by
  have hia := fun W => refIs_any ⟨2, key, val, n, lo, hi⟩ W
  rw [ho] at hia
  have hup := fun W (hW : Below w.heap.size w W) => refUpdate_any bu c ls l ⟨2, key, ⟨#[]⟩⟩ W (h.below hW) hl hn hln hri hok
  rw [Ord.v_def] at hia ⊢
  rw [Mg.v_def] at hup
  generalize errU c l ⟨2, key, ⟨#[]⟩⟩ = E at *
  generalize rowsU c ls l ⟨2, key, ⟨#[]⟩⟩ = R at *
  dsimp only at hup hia ⊢
  have hbul := h.lt
  have HI := Lib.hid hia
  have HU := Lib.hid hup
  have HMS := Lib.hid refans_size
  clear hia hup ho h hl hri hok
  go_enter Tryz.func36, Tryz.ntmps36
  go_wp2_with (first
    | (go_at_call 64; (with_reducible refine (HI.out _).mono ?_); rintro e w1 ⟨rfl, hb1⟩; have hbo : QBox w.heap.size ⟨2, key, val, n, lo, hi⟩ w1 := box_below (((Fr.refl (fun _ => False) _).alloc _).row id (((Fr.refl (fun _ => False) _).alloc _).row id (heap_alloc_new w _))) hb1; have hba : RBox (w.heap.size + 1) w1 := box_below (((Fr.refl (fun _ => False) _).alloc _).row id (heap_new_at (by simp))) hb1; have hbc : RBox (w.heap.size + 2) w1 := box_below (heap_new_at (by simp)) hb1; have d0 : w1.cell? ⟨w.heap.size, 0, none⟩ = some (.int .i64 2) := (by rw [Lib.cell_of_heap hbo]; rfl); have d1 : w1.cell? ⟨w.heap.size, 1, none⟩ = some (.string key) := (by rw [Lib.cell_of_heap hbo]; rfl); have d2 : w1.cell? ⟨w.heap.size, 2, none⟩ = some (.string val) := (by rw [Lib.cell_of_heap hbo]; rfl); have d3 : w1.cell? ⟨w.heap.size, 3, none⟩ = some (.int .u64 n) := (by rw [Lib.cell_of_heap hbo]; rfl); have d4 : w1.cell? ⟨w.heap.size, 4, none⟩ = some (.string lo) := (by rw [Lib.cell_of_heap hbo]; rfl); have d5 : w1.cell? ⟨w.heap.size, 5, none⟩ = some (.string hi) := (by rw [Lib.cell_of_heap hbo]; rfl); have hxl := lt_of_row hbo; have HBO := Lib.hid hbo; have HBA := Lib.hid hba; have HBC := Lib.hid hbc; have HB1 := Lib.hid (below_next (below_alloc (below_alloc (below_alloc (Below.refl _ w)))) hb1); skip; clear hb1 hbo hba hbc)
    | (go_at_call 65; (with_reducible refine (HU.out _ HB1.out).mono ?_); rintro e w2 ⟨rfl, hr2, hf2⟩; have hs1 := HB1.out.size; have hbc2 : RBox (w.heap.size + 2) w2 := hf2.row (by omega) HBC.out; have hba2 : RBox (w.heap.size + 1) w2 := hf2.row (by omega) HBA.out; have z0 : w2.cell? ⟨w.heap.size + 2, 0, none⟩ = some (.int .i64 0) := (by rw [Lib.cell_of_heap hbc2]; rfl); have y0 := Lib.frozen_of_heap hbc2 0; have HRC := Lib.hid (setCell_row hbc2 0 (.int .i64 E)); have hfc : Fr (fun q => q = w.heap.size + 2) w2 (w2.setCell ⟨w.heap.size + 2, 0, none⟩ (.int .i64 E)) := (Fr.refl (fun q => q = w.heap.size + 2) w2).setCell (p := ⟨w.heap.size + 2, 0, none⟩) (fun _ => rfl) _; have HFC := Lib.hid hfc; have HBA2 := Lib.hid (hfc.row (by omega) hba2); have HBC2 := Lib.hid hbc2; have HR2 := Lib.hid hr2; have HF2 := Lib.hid hf2; clear hfc hbc2 hba2 hr2 hf2)
    | (refine wpList_load_mid rfl 76 (Operand.tmp 5) rfl (w.heap.size + 2) 0 rfl (refC E false ⟨#[]⟩ (.slice none 0 0) 0 0) _ (row_range HRC.out) Tryz.underlying76 rfl HMS.out ?_)
    | (refine wpList_store_row rfl 76 (Operand.tmp 4) (Operand.tmp 108) rfl (w.heap.size + 1) _ (refC E false ⟨#[]⟩ (.slice none 0 0) 0 0) _ rfl rfl HBA2.out rfl HMS.out (refans_all _ _ _ _ _ _ _ _) ?_; intro w9 hr9 hf9; have HR9 := Lib.hid hr9; have HF9 := Lib.hid hf9; clear hr9 hf9))
  refine bodyPost_ret (v := refV E false ⟨#[]⟩ (.slice none 0 0) 0 0) (results_cell (a := 4) (t := 76) (ad := ⟨w.heap.size + 1, 0, none⟩) Tryz.results36 rfl (load_row _ HR9.out _ Tryz.underlying76 rfl HMS.out)) rfl ?_
  exact refdo_done hbul HB1.out HR2.out HF2.out (Nat.le_succ _) HBC2.out HFC.out HBA2.out HF9.out rfl (elems_nil _ _)
set_option maxHeartbeats 2000000 in
set_option maxRecDepth 100000 in
theorem refDo_add (bu : Nat) (c : Int) (ls : List (List Itm)) (l : List Itm) (key val : ByteArray) (n : Int) (lo hi : ByteArray) (w : World) (h : RefAt w bu c ls) (hl : ls[ls.length - 1]? = some l) (hn : ls.length ≤ 90000) (hln : l.length ≤ 60000) (hri : Rises l) (hok : ∀ y ∈ l, y.ok) (n0 : 0 ≤ n) (n1 : n < 18446744073709551616) (ho : isOrd ⟨3, key, val, n, lo, hi⟩ = true) :
    Calls Tryz.prog 36 #[.pointer (some ⟨bu, 0, none⟩), (Ord.mk 3 key val n lo hi).v] w (RefDo bu c (errU c l ⟨3, key, valB n.toNat⟩, false, ⟨#[]⟩, [], 0, 0) (rowsU c ls l ⟨3, key, valB n.toNat⟩) w) := by
  have hia := fun W => refIs_any ⟨3, key, val, n, lo, hi⟩ W
  rw [ho] at hia
  have hv := fun W => refValue_any n.toNat W (by omega)
  rw [Int.toNat_of_nonneg n0, ← show valB n.toNat = ⟨(valBytes n.toNat).toArray⟩ from rfl] at hv
  generalize valB n.toNat = V at *
  have hup := fun W (hW : Below w.heap.size w W) => refUpdate_any bu c ls l ⟨3, key, V⟩ W (h.below hW) hl hn hln hri hok
  rw [Ord.v_def] at hia ⊢
  rw [Mg.v_def] at hup
  generalize errU c l ⟨3, key, V⟩ = E at *
  generalize rowsU c ls l ⟨3, key, V⟩ = R at *
  dsimp only at hup hia ⊢
  have hbul := h.lt
  have HI := Lib.hid hia
  have HV := Lib.hid hv
  have HU := Lib.hid hup
  have HMS := Lib.hid refans_size
  clear hia hup ho h hl hri hok hv n0 n1
  go_enter Tryz.func36, Tryz.ntmps36
  go_wp2_with (go_at_call 64; (with_reducible refine (HI.out _).mono ?_); rintro e w1 ⟨rfl, hb1⟩; have hbo : QBox w.heap.size ⟨3, key, val, n, lo, hi⟩ w1 := box_below (((Fr.refl (fun _ => False) _).alloc _).row id (((Fr.refl (fun _ => False) _).alloc _).row id (heap_alloc_new w _))) hb1; have hba : RBox (w.heap.size + 1) w1 := box_below (((Fr.refl (fun _ => False) _).alloc _).row id (heap_new_at (by simp))) hb1; have hbc : RBox (w.heap.size + 2) w1 := box_below (heap_new_at (by simp)) hb1; have d0 : w1.cell? ⟨w.heap.size, 0, none⟩ = some (.int .i64 3) := (by rw [Lib.cell_of_heap hbo]; rfl); have d1 : w1.cell? ⟨w.heap.size, 1, none⟩ = some (.string key) := (by rw [Lib.cell_of_heap hbo]; rfl); have d2 : w1.cell? ⟨w.heap.size, 2, none⟩ = some (.string val) := (by rw [Lib.cell_of_heap hbo]; rfl); have d3 : w1.cell? ⟨w.heap.size, 3, none⟩ = some (.int .u64 n) := (by rw [Lib.cell_of_heap hbo]; rfl); have d4 : w1.cell? ⟨w.heap.size, 4, none⟩ = some (.string lo) := (by rw [Lib.cell_of_heap hbo]; rfl); have d5 : w1.cell? ⟨w.heap.size, 5, none⟩ = some (.string hi) := (by rw [Lib.cell_of_heap hbo]; rfl); have hxl := lt_of_row hbo; have HBO := Lib.hid hbo; have HBA := Lib.hid hba; have HBC := Lib.hid hbc; have HB1 := Lib.hid (below_next (below_alloc (below_alloc (below_alloc (Below.refl _ w)))) hb1); skip; clear hb1 hbo hba hbc)
  have hs1 := HB1.out.size
  refine rg_start (n := 10) (fun w' => w'.cell? ⟨w.heap.size, 1, none⟩ = some (.string key) ∧ w'.cell? ⟨w.heap.size, 3, none⟩ = some (.int .u64 n) ∧ w.heap.size < w'.heap.size) #[false, false, false, false, false, false, false, false, false, false] (by kernel_rfl) rfl rfl ⟨d1, d3, hxl⟩ (fun hHeld => ?_)
  refine rg_take (i := 0) (N := (some 43)) (v := ?_) (a' := ?_) #[true, false, false, false, false, false, false, false, false, false] rfl rfl (by kernel_rfl) (fun _ _ _ h => h) (by rfl) ?_ hHeld ?_ ?_
  rotate_left 2
  · rintro w' ⟨s0, s1, s2⟩
    go_simp
    try with_reducible rfl
  · simp only [Act.put, List.setIfInBounds_toArray, List.set_cons_zero, List.set_cons_succ]
    rfl
  refine rg_take (i := 1) (N := (some 44)) (v := ?_) (a' := ?_) #[true, true, false, false, false, false, false, false, false, false] rfl rfl (by kernel_rfl) (fun _ _ _ h => h) (by rfl) ?_ hHeld ?_ ?_
  rotate_left 2
  · rintro w' ⟨s0, s1, s2⟩
    go_simp
    try with_reducible rfl
  · simp only [Act.put, List.setIfInBounds_toArray, List.set_cons_zero, List.set_cons_succ]
    rfl
  refine rg_take (i := 2) (N := (some 45)) (v := ?_) (a' := ?_) #[true, true, true, false, false, false, false, false, false, false] rfl rfl (by kernel_rfl) (fun _ _ _ h => h) (by rfl) ?_ hHeld ?_ ?_
  rotate_left 2
  · rintro w' ⟨s0, s1, s2⟩
    go_simp
    try with_reducible rfl
  · simp only [Act.put, List.setIfInBounds_toArray, List.set_cons_zero, List.set_cons_succ]
    rfl
  refine rg_take (i := 3) (N := (some 46)) (v := ?_) (a' := ?_) #[true, true, true, true, false, false, false, false, false, false] rfl rfl (by kernel_rfl) (fun _ _ _ h => h) (by rfl) ?_ hHeld ?_ ?_
  rotate_left 2
  · rintro w' ⟨s0, s1, s2⟩
    go_simp
    try with_reducible rfl
  · simp only [Act.put, List.setIfInBounds_toArray, List.set_cons_zero, List.set_cons_succ]
    rfl
  refine rg_take (i := 4) (N := (some 47)) (v := ?_) (a' := ?_) #[true, true, true, true, true, false, false, false, false, false] rfl rfl (by kernel_rfl) (fun _ _ _ h => h) (by rfl) ?_ hHeld ?_ ?_
  rotate_left 2
  · rintro w' ⟨s0, s1, s2⟩
    go_simp
    try with_reducible rfl
  · simp only [Act.put, List.setIfInBounds_toArray, List.set_cons_zero, List.set_cons_succ]
    rfl
  refine rg_one (i := 5) #[true, true, true, true, true, true, false, false, false, false] rfl (by kernel_rfl) (by rfl) (fun K hK => ?_)
  obtain ⟨s0, s1, s2⟩ := hHeld
  repeat go_step
  ((with_reducible refine (HV.out _).mono ?_); rintro e w2 ⟨rfl, hb2⟩; have hbc2 : RBox (w.heap.size + 2) w2 := box_below (w := w1.drew) HBC.out hb2; have hba2 : RBox (w.heap.size + 1) w2 := box_below (w := w1.drew) HBA.out hb2; have hbw2 := below_next HB1.out.drew hb2)
  try dsimp only
  refine hK.out _ _ ?_ (fun hHeld => ?_)
  · exact ⟨keep_cell hb2 s2 s0, keep_cell hb2 s2 s1, keep_lt hb2 s2⟩
  clear hK K
  clear s0 s1 s2
  refine rg_take (i := 6) (N := (some 49)) (v := ?_) (a' := ?_) #[true, true, true, true, true, true, true, false, false, false] rfl rfl (by kernel_rfl) (fun _ _ _ h => h) (by rfl) ?_ hHeld ?_ ?_
  rotate_left 2
  · rintro w' ⟨s0, s1, s2⟩
    go_simp
    try with_reducible rfl
  · simp only [Act.put, List.setIfInBounds_toArray, List.set_cons_zero, List.set_cons_succ]
    rfl
  refine rg_one (i := 7) #[true, true, true, true, true, true, true, true, false, false] rfl (by kernel_rfl) (by rfl) (fun K hK => ?_)
  obtain ⟨s0, s1, s2⟩ := hHeld
  repeat go_step
  ((with_reducible refine (HU.out _ hbw2).mono ?_); rintro e w3 ⟨rfl, hr3, hf3⟩; have hbc3 : RBox (w.heap.size + 2) w3 := hf3.row (by omega) hbc2; have hba3 : RBox (w.heap.size + 1) w3 := hf3.row (by omega) hba2; have z0 : w3.cell? ⟨w.heap.size + 2, 0, none⟩ = some (.int .i64 0) := (by rw [Lib.cell_of_heap hbc3]; rfl); have y0 := Lib.frozen_of_heap hbc3 0; have HRC := Lib.hid (setCell_row hbc3 0 (.int .i64 E)); have hfc : Fr (fun q => q = w.heap.size + 2) w3 (w3.setCell ⟨w.heap.size + 2, 0, none⟩ (.int .i64 E)) := (Fr.refl (fun q => q = w.heap.size + 2) w3).setCell (p := ⟨w.heap.size + 2, 0, none⟩) (fun _ => rfl) _; have HFC := Lib.hid hfc; have HBA2 := Lib.hid (hfc.row (by omega) hba3); have HBC2 := Lib.hid hbc3; have HR2 := Lib.hid hr3; have HF2 := Lib.hid hf3; have HBW2 := Lib.hid hbw2)
  try dsimp only
  refine hK.out _ _ ?_ (fun hHeld => ?_)
  · exact ⟨hf3.cell s2 (by omega) s0, hf3.cell s2 (by omega) s1, Nat.lt_of_lt_of_le s2 hf3.size⟩
  clear hK K
  clear s0 s1 s2
  refine rg_take (i := 8) (N := (some 51)) (v := ?_) (a' := ?_) #[true, true, true, true, true, true, true, true, true, false] rfl rfl (by kernel_rfl) (fun _ _ _ h => h) (by rfl) ?_ hHeld ?_ ?_
  rotate_left 2
  · rintro w' ⟨s0, s1, s2⟩
    go_simp
    try with_reducible rfl
  · simp only [Act.put, List.setIfInBounds_toArray, List.set_cons_zero, List.set_cons_succ]
    rfl
  refine rg_one (i := 9) #[true, true, true, true, true, true, true, true, true, true] rfl (by kernel_rfl) (by rfl) (fun K hK => ?_)
  obtain ⟨s0, s1, s2⟩ := hHeld
  repeat go_step
  refine hK.out _ _ ?_ (fun hHeld => ?_)
  · exact ⟨hfc.cell s2 (by omega) s0, hfc.cell s2 (by omega) s1, Nat.lt_of_lt_of_le s2 hfc.size⟩
  clear hK K
  clear s0 s1 s2
  refine rg_done (by kernel_rfl) ?_
  clear hHeld hfc hbc2 hba2 hbc3 hba3 hr3 hf3 hbw2 hb2
  go_wp2_with (first
    | (refine wpList_load_mid rfl 76 (Operand.tmp 5) rfl (w.heap.size + 2) 0 rfl (refC E false ⟨#[]⟩ (.slice none 0 0) 0 0) _ (row_range HRC.out) Tryz.underlying76 rfl HMS.out ?_)
    | (refine wpList_store_row rfl 76 (Operand.tmp 4) (Operand.tmp 108) rfl (w.heap.size + 1) _ (refC E false ⟨#[]⟩ (.slice none 0 0) 0 0) _ rfl rfl HBA2.out rfl HMS.out (refans_all _ _ _ _ _ _ _ _) ?_; intro w9 hr9 hf9; have HR9 := Lib.hid hr9; have HF9 := Lib.hid hf9; clear hr9 hf9))
  refine bodyPost_ret (v := refV E false ⟨#[]⟩ (.slice none 0 0) 0 0) (results_cell (a := 4) (t := 76) (ad := ⟨w.heap.size + 1, 0, none⟩) Tryz.results36 rfl (load_row _ HR9.out _ Tryz.underlying76 rfl HMS.out)) rfl ?_
  exact refdo_done hbul HBW2.out HR2.out HF2.out (Nat.le_succ _) HBC2.out HFC.out HBA2.out HF9.out rfl (elems_nil _ _)
end Go.Proofs.YtdfgdnaejnngoaaGreat
namespace Go.Proofs.YtdfgdnaejnngoaaGreat
open Go.RowKit
theorem row_there {w4 : World} {s : Nat} (h : RBox s w4) : w4.there s 4 5 := fun j hj => by
  refine ⟨?_, Lib.frozen_of_heap h _⟩
  rw [Lib.cell_of_heap h]
  rcases j with _ | _ | _ | _ | _ | j
  · rfl
  · rfl
  · rfl
  · rfl
  · rfl
  · omega
theorem arr5_all (a b : Int) : (#[Value.int .i64 a, Value.int .i64 b, .int .i64 0, .int .i64 0, .int .i64 0] : Array Value).all (·.oneCell') = true := by
  rw [Array.all_eq_true_iff_forall_mem]
  intro v hv
  simp at hv
  rcases hv with rfl | rfl | rfl <;> rfl
theorem arr5_size : (Tryz.prog.info? 74).map (·.size) = some 5 := by kernel_rfl
theorem stat_row {w4 : World} {s : Nat} (h : RBox s w4) (a b : Int) : (((((w4.setCell ⟨s, 4, none⟩ (.int .i64 a)).setCell ⟨s, 5, none⟩ (.int .i64 b)).setCell ⟨s, 6, none⟩ (.int .i64 0)).setCell ⟨s, 7, none⟩ (.int .i64 0)).setCell ⟨s, 8, none⟩ (.int .i64 0)).heap[s]? = some (.cells (refC 0 false ⟨#[]⟩ (.slice none 0 0) a b).toArray 76 (0, 0)) ∧ Fr (fun k => k = s) w4 (((((w4.setCell ⟨s, 4, none⟩ (.int .i64 a)).setCell ⟨s, 5, none⟩ (.int .i64 b)).setCell ⟨s, 6, none⟩ (.int .i64 0)).setCell ⟨s, 7, none⟩ (.int .i64 0)).setCell ⟨s, 8, none⟩ (.int .i64 0)) := by
  refine ⟨setCell_row (setCell_row (setCell_row (setCell_row (setCell_row h 4 (.int .i64 a)) 5 (.int .i64 b)) 6 (.int .i64 0)) 7 (.int .i64 0)) 8 (.int .i64 0), ?_⟩
  exact (((((Fr.refl (fun k => k = s) w4).setCell (p := ⟨s, 4, none⟩) (fun _ => rfl) _).setCell (p := ⟨s, 5, none⟩) (fun _ => rfl) _).setCell (p := ⟨s, 6, none⟩) (fun _ => rfl) _).setCell (p := ⟨s, 7, none⟩) (fun _ => rfl) _).setCell (p := ⟨s, 8, none⟩) (fun _ => rfl) _
theorem stat_store {ops : Array Oper} {rest : List Oper} {op : Oper} {a : Act} {w : World} {Q : Exit → Act → World → Prop} (hgd : op.guard = none) (x y : Operand) (ho : op.op = .store 74 x y) (s : Nat) (m n : Int) (hx : a.eval x = .pointer (some ⟨s, 4, none⟩)) (hy : a.eval y = .agg #[.int .i64 m, .int .i64 n, .int .i64 0, .int .i64 0, .int .i64 0]) (hrow : RBox s w)
    (h : ∀ w', w'.heap[s]? = some (.cells (refC 0 false ⟨#[]⟩ (.slice none 0 0) m n).toArray 76 (0, 0)) → Fr (fun k => k = s) w w' → wpList Tryz.prog ops Q rest (a.put op.dst undef) w') : wpList Tryz.prog ops Q (op :: rest) a w :=
  wpList_store_mid hgd _ x y ho s 4 _ hx hy (row_there hrow) arr5_size (arr5_all _ _) (h _ (stat_row hrow m n).1 (stat_row hrow m n).2)
set_option maxHeartbeats 2000000 in
set_option maxRecDepth 100000 in
theorem refDo_stat (bu : Nat) (c : Int) (ls : List (List Itm)) (l : List Itm) (key val : ByteArray) (n : Int) (lo hi : ByteArray) (w : World) (h : RefAt w bu c ls) (hl : ls[ls.length - 1]? = some l) (hn : ls.length ≤ 90000) (hln : l.length ≤ 60000) (hok : ∀ y ∈ l, y.ok) (ho : isOrd ⟨8, key, val, n, lo, hi⟩ = true) :
    Calls Tryz.prog 36 #[.pointer (some ⟨bu, 0, none⟩), (Ord.mk 8 key val n lo hi).v] w (RefDo bu c (0, false, ⟨#[]⟩, [], l.length, sumW l) ls w) := by
  have hia := fun W => refIs_any ⟨8, key, val, n, lo, hi⟩ W
  rw [ho] at hia
  have hnow := fun W (hW : Below w.heap.size w W) => refNow_any bu c ls l W (h.below hW) hl hn
  have hwt := fun W A cp h1 => refWeight_any A cp l W h1 hok (by omega)
  generalize sumW l = S at *
  rw [Ord.v_def] at hia ⊢
  dsimp only at hia ⊢
  have hbul := h.lt
  have HI := Lib.hid hia
  have HN := Lib.hid hnow
  have HWT := Lib.hid hwt
  have HRF := Lib.hid h
  have HMS := Lib.hid refans_size
  clear hia ho h hl hok hnow hwt
  go_enter Tryz.func36, Tryz.ntmps36
  go_wp2_with (first
    | (go_at_call 64; (with_reducible refine (HI.out _).mono ?_); rintro e w1 ⟨rfl, hb1⟩; have hbo : QBox w.heap.size ⟨8, key, val, n, lo, hi⟩ w1 := box_below (((Fr.refl (fun _ => False) _).alloc _).row id (((Fr.refl (fun _ => False) _).alloc _).row id (heap_alloc_new w _))) hb1; have hba : RBox (w.heap.size + 1) w1 := box_below (((Fr.refl (fun _ => False) _).alloc _).row id (heap_new_at (by simp))) hb1; have hbc : RBox (w.heap.size + 2) w1 := box_below (heap_new_at (by simp)) hb1; have d0 : w1.cell? ⟨w.heap.size, 0, none⟩ = some (.int .i64 8) := (by rw [Lib.cell_of_heap hbo]; rfl); have d1 : w1.cell? ⟨w.heap.size, 1, none⟩ = some (.string key) := (by rw [Lib.cell_of_heap hbo]; rfl); have d2 : w1.cell? ⟨w.heap.size, 2, none⟩ = some (.string val) := (by rw [Lib.cell_of_heap hbo]; rfl); have d3 : w1.cell? ⟨w.heap.size, 3, none⟩ = some (.int .u64 n) := (by rw [Lib.cell_of_heap hbo]; rfl); have d4 : w1.cell? ⟨w.heap.size, 4, none⟩ = some (.string lo) := (by rw [Lib.cell_of_heap hbo]; rfl); have d5 : w1.cell? ⟨w.heap.size, 5, none⟩ = some (.string hi) := (by rw [Lib.cell_of_heap hbo]; rfl); have hxl := lt_of_row hbo; have HBO := Lib.hid hbo; have HBA := Lib.hid hba; have HBC := Lib.hid hbc; have HB1 := Lib.hid (below_next (below_alloc (below_alloc (below_alloc (Below.refl _ w)))) hb1); skip; clear hb1 hbo hba hbc)
    | (go_at_call 41; (with_reducible refine (HWT.out _ _ _ HE3.out).mono ?_); rintro e w4 ⟨rfl, hb4⟩; have hb14 := below_next HB13.out hb4; have hbc4 : RBox (w.heap.size + 2) w4 := box_below HBC.out hb14; have hba4 : RBox (w.heap.size + 1) w4 := box_below HBA.out hb14; have HBA4 := Lib.hid hba4; have HBC4 := Lib.hid hbc4; have HB4 := Lib.hid (below_next HB1.out hb14); clear hb4 hb14 hbc4 hba4)
    | (refine stat_store rfl (Operand.tmp 107) (Operand.tmp 106) rfl (w.heap.size + 2) l.length S rfl rfl HBC4.out ?_; intro w5 hr5 hf5; have HRC := Lib.hid hr5; have HBA2 := Lib.hid (hf5.row (by omega) HBA4.out); have HFC := Lib.hid hf5; clear hr5 hf5)
    | (go_at_call 40; (with_reducible refine (HN.out _ (below_next HB1.out HB2.out)).mono ?_); rintro e w3 ⟨A3, c3, rfl, hel3, hb3⟩; have HE3 := Lib.hid hel3; have HB13 := Lib.hid (below_next HB2.out hb3); clear hel3 hb3)
    | (go_at_call 40; (with_reducible refine (HN.out _ HB1.out).mono ?_); rintro e w2 ⟨A2, c2, rfl, _, hb2⟩; have HB2 := Lib.hid hb2; clear hb2)
    | (refine wpList_load_mid rfl 76 (Operand.tmp 5) rfl (w.heap.size + 2) 0 rfl (refC 0 false ⟨#[]⟩ (.slice none 0 0) l.length S) _ (row_range HRC.out) Tryz.underlying76 rfl HMS.out ?_)
    | (refine wpList_store_row rfl 76 (Operand.tmp 4) (Operand.tmp 108) rfl (w.heap.size + 1) _ (refC 0 false ⟨#[]⟩ (.slice none 0 0) l.length S) _ rfl rfl HBA2.out rfl HMS.out (refans_all _ _ _ _ _ _ _ _) ?_; intro w9 hr9 hf9; have HR9 := Lib.hid hr9; have HF9 := Lib.hid hf9; clear hr9 hf9))
  refine bodyPost_ret (v := refV 0 false ⟨#[]⟩ (.slice none 0 0) l.length S) (results_cell (a := 4) (t := 76) (ad := ⟨w.heap.size + 1, 0, none⟩) Tryz.results36 rfl (load_row _ HR9.out _ Tryz.underlying76 rfl HMS.out)) rfl ?_
  exact refdo_done hbul HB4.out (HRF.out.below HB4.out) (Fr.refl _ _) (Nat.le_succ _) HBC4.out HFC.out HBA2.out HF9.out rfl (elems_nil _ _)
end Go.Proofs.YtdfgdnaejnngoaaGreat
namespace Go.Proofs.YtdfgdnaejnngoaaGreat
open Go.RowKit
def Ord.small (o : Ord) : Prop := o.key.size ≤ 512 ∧ o.val.size ≤ 512 ∧ o.lo.size ≤ 512 ∧ o.hi.size ≤ 512
def GreatRes (os : List Ord) (w : World) (e : Ending) (w' : World) : Prop := ∃ b : Bool, e = .returned (.bool b) ∧ (b = false → os.length ≤ 150 ∧ ∀ o ∈ os, o.small) ∧ Below w.heap.size w w'
set_option maxHeartbeats 1000000 in
set_option maxRecDepth 100000 in
theorem great_any (A : Option Addr) (cap : Nat) (os : List Ord) (w : World) (hel : Elems w A 6 (os.map Ord.cells)) :
    Calls Tryz.prog 20 #[.slice A os.length cap] w (GreatRes os w) := by
  have HEL := Lib.hid hel
  clear hel
  go_enter Tryz.func20, Tryz.ntmps20
  go_wp2
  go_loopw [3, 4] (fun i _ wr => ∃ k : Nat, i = .int .i64 k ∧ k ≤ os.length ∧ k ≤ 151 ∧ (∀ o ∈ os.take k, o.small) ∧ Below w.heap.size w wr) (fun i _ _ => 152 - (intOf i).toNat)
  case atStart => exact ⟨0, rfl, Nat.zero_le _, by omega, by simp, (by repeat (first | assumption | exact Below.refl _ _ | (refine below_step (w := ?_) ?_ ?_ ?_; rotate_left 2; assumption) | refine Below.drew ?_ | refine below_drewN ?_ _ | refine Below.alloc ?_ ?_ _ | refine Below.setCell ?_ ?_ _ | (focus (simp; done)) | (focus (simp; omega)) | omega))⟩
  case round =>
    obtain ⟨k, rfl, hk, hk2, hsm, hbel⟩ := hrel
    by_cases hkl : k < os.length
    · have hkI : (k : Int) < (os.length : Int) := by omega
      by_cases hk3 : k < 151
      · have hk3I : (k : Int) < 151 := by omega
        obtain ⟨o, ho⟩ := get_lt hkl
        obtain ⟨b, off, rfl, hblt, d0, d1, d2, d3, d4, d5⟩ := ord_row (HEL.out.below hbel) ho
        have hsn := take_snocR ho
        have HB := Lib.hid hbel
        have HSM := Lib.hid hsm
        have HSN := Lib.hid hsn
        clear hbel hsm hsn ho
        obtain ⟨kind, key, val, n, lo, hi⟩ := o
        dsimp only at d0 d1 d2 d3 d4 d5
        by_cases h1 : (512 : Int) < (key.size : Int)
        · go_wp2
          go_ret
          exact ⟨true, rfl, (fun h => by cases h), below_alloc HB.out⟩
        by_cases h2 : (512 : Int) < (val.size : Int)
        · go_wp2
          go_ret
          exact ⟨true, rfl, (fun h => by cases h), below_alloc HB.out⟩
        by_cases h3 : (512 : Int) < (lo.size : Int)
        · go_wp2
          go_ret
          exact ⟨true, rfl, (fun h => by cases h), below_alloc HB.out⟩
        by_cases h4 : (512 : Int) < (hi.size : Int)
        · go_wp2
          go_ret
          exact ⟨true, rfl, (fun h => by cases h), below_alloc HB.out⟩
        have hs : (Ord.mk kind key val n lo hi).small := ⟨by show key.size ≤ 512; omega, by show val.size ≤ 512; omega, by show lo.size ≤ 512; omega, by show hi.size ≤ 512; omega⟩
        have HS := Lib.hid hs
        clear hs
        go_wp2
        refine ⟨⟨k + 1, by go_num, by omega, by omega, fun o ho => ?_, below_alloc HB.out⟩, ?_⟩
        · rw [HSN.out] at ho
          rcases List.mem_append.1 ho with ho | ho
          · exact HSM.out o ho
          · simp at ho
            subst ho
            exact HS.out
        · simp [intOf]
          omega
      · obtain rfl : k = 151 := by omega
        have h150 : (150 : Int) < (os.length : Int) := by omega
        have e0 : ((151 : Nat) : Int) = 151 := rfl
        rw [e0]
        have HB := Lib.hid hbel
        clear hbel hsm e0
        go_wp2
        go_ret
        exact ⟨true, rfl, (fun h => by cases h), HB.out⟩
    · obtain rfl : k = os.length := by omega
      rw [List.take_length] at hsm
      have HB := Lib.hid hbel
      have HSM := Lib.hid hsm
      clear hbel hsm
      go_wp2
      go_ret
      exact ⟨_, rfl, (fun h => ⟨by have := of_decide_eq_false h; omega, HSM.out⟩), HB.out⟩
end Go.Proofs.YtdfgdnaejnngoaaGreat
namespace Go.Proofs.YtdfgdnaejnngoaaGreat
open Go.RowKit
/-! grangerlaw33.awake. -/
theorem klt_data (a b : ByteArray) : klt a b = Op.bytesLess a.data.toList b.data.toList := by
  unfold klt
  rw [ByteArray.toList_eq, ByteArray.toList_eq]
def kA : ByteArray := ⟨#[97]⟩
def kB : ByteArray := ⟨#[98]⟩
def os0 : List Ord := [⟨1, ⟨#[97]⟩, ⟨#[]⟩, 0, ⟨#[]⟩, ⟨#[]⟩⟩, ⟨1, ⟨#[98]⟩, ⟨#[]⟩, 0, ⟨#[]⟩, ⟨#[]⟩⟩, ⟨2, ⟨#[97]⟩, ⟨#[]⟩, 0, ⟨#[]⟩, ⟨#[]⟩⟩, ⟨3, ⟨#[97]⟩, ⟨#[]⟩, 0, ⟨#[]⟩, ⟨#[]⟩⟩, ⟨4, ⟨#[98]⟩, ⟨#[]⟩, 0, ⟨#[]⟩, ⟨#[]⟩⟩]
theorem os0_alive : aliveL 0 os0 = [1, 3] := by kernel_rfl
theorem os0_prune : (pruneL os0).length = 2 := by rw [← alive_len os0 0, os0_alive]; rfl
theorem ltAB : klt ⟨#[97]⟩ ⟨#[98]⟩ = true := by rw [klt_data]; rfl
theorem ltBA : klt ⟨#[98]⟩ ⟨#[97]⟩ = false := by rw [klt_data]; rfl
theorem st1 : stepI [] ⟨1, ⟨#[97]⟩, ⟨#[]⟩, 0, ⟨#[]⟩, ⟨#[]⟩⟩ = [⟨⟨#[97]⟩, ⟨#[]⟩⟩] := by kernel_rfl
theorem st2 : stepI [⟨⟨#[97]⟩, ⟨#[]⟩⟩] ⟨1, ⟨#[98]⟩, ⟨#[]⟩, 0, ⟨#[]⟩, ⟨#[]⟩⟩ = [⟨⟨#[97]⟩, ⟨#[]⟩⟩, ⟨⟨#[98]⟩, ⟨#[]⟩⟩] := by
  have : stepI [⟨⟨#[97]⟩, ⟨#[]⟩⟩] ⟨1, ⟨#[98]⟩, ⟨#[]⟩, 0, ⟨#[]⟩, ⟨#[]⟩⟩ = insR ⟨#[98]⟩ ⟨#[]⟩ [⟨⟨#[97]⟩, ⟨#[]⟩⟩] := by kernel_rfl
  rw [this, insR, if_pos ltAB]
  rfl
theorem st3 : stepI [⟨⟨#[97]⟩, ⟨#[]⟩⟩, ⟨⟨#[98]⟩, ⟨#[]⟩⟩] ⟨2, ⟨#[97]⟩, ⟨#[]⟩, 0, ⟨#[]⟩, ⟨#[]⟩⟩ = [⟨⟨#[98]⟩, ⟨#[]⟩⟩] := by kernel_rfl
theorem st4 : stepI [⟨⟨#[98]⟩, ⟨#[]⟩⟩] ⟨3, ⟨#[97]⟩, ⟨#[]⟩, 0, ⟨#[]⟩, ⟨#[]⟩⟩ = [⟨⟨#[97]⟩, valB 0⟩, ⟨⟨#[98]⟩, ⟨#[]⟩⟩] := by
  have : stepI [⟨⟨#[98]⟩, ⟨#[]⟩⟩] ⟨3, ⟨#[97]⟩, ⟨#[]⟩, 0, ⟨#[]⟩, ⟨#[]⟩⟩ = insR ⟨#[97]⟩ (valB 0) [⟨⟨#[98]⟩, ⟨#[]⟩⟩] := by kernel_rfl
  rw [this, insR, if_neg (by rw [ltBA]; decide)]
  rfl
theorem os0_items : itemsO os0 = [⟨⟨#[97]⟩, valB 0⟩, ⟨⟨#[98]⟩, ⟨#[]⟩⟩] := by
  unfold itemsO os0
  rw [List.foldl_cons, List.foldl_cons, List.foldl_cons, List.foldl_cons, List.foldl_cons, st1, st2, st3, st4]
  rfl
theorem cap64 : pCap 64 = 4084 := by kernel_rfl
theorem er1 : errO 4084 [] ⟨1, ⟨#[97]⟩, ⟨#[]⟩, 0, ⟨#[]⟩, ⟨#[]⟩⟩ = 0 := by kernel_rfl
theorem er2 : errO 4084 [⟨⟨#[97]⟩, ⟨#[]⟩⟩] ⟨1, ⟨#[98]⟩, ⟨#[]⟩, 0, ⟨#[]⟩, ⟨#[]⟩⟩ = 0 := by
  refine errO_mk (m := ⟨1, ⟨#[98]⟩, ⟨#[]⟩⟩) (by kernel_rfl) (by kernel_rfl) (by kernel_rfl) (fun h => by cases h) ?_
  have : doL [⟨⟨#[97]⟩, ⟨#[]⟩⟩] ⟨1, ⟨#[98]⟩, ⟨#[]⟩⟩ = stepI [⟨⟨#[97]⟩, ⟨#[]⟩⟩] ⟨1, ⟨#[98]⟩, ⟨#[]⟩, 0, ⟨#[]⟩, ⟨#[]⟩⟩ := by kernel_rfl
  rw [this, st2]
  decide
theorem er3 : errO 4084 [⟨⟨#[97]⟩, ⟨#[]⟩⟩, ⟨⟨#[98]⟩, ⟨#[]⟩⟩] ⟨2, ⟨#[97]⟩, ⟨#[]⟩, 0, ⟨#[]⟩, ⟨#[]⟩⟩ = 0 := by kernel_rfl
theorem er4 : errO 4084 [⟨⟨#[98]⟩, ⟨#[]⟩⟩] ⟨3, ⟨#[97]⟩, ⟨#[]⟩, 0, ⟨#[]⟩, ⟨#[]⟩⟩ = 0 := by
  refine errO_mk (m := ⟨3, ⟨#[97]⟩, valB 0⟩) (by kernel_rfl) (by kernel_rfl) (by kernel_rfl) (fun _ => by kernel_rfl) ?_
  have : doL [⟨⟨#[98]⟩, ⟨#[]⟩⟩] ⟨3, ⟨#[97]⟩, valB 0⟩ = stepI [⟨⟨#[98]⟩, ⟨#[]⟩⟩] ⟨3, ⟨#[97]⟩, ⟨#[]⟩, 0, ⟨#[]⟩, ⟨#[]⟩⟩ := by kernel_rfl
  rw [this, st4]
  decide
theorem er5 : errO 4084 [⟨⟨#[97]⟩, valB 0⟩, ⟨⟨#[98]⟩, ⟨#[]⟩⟩] ⟨4, ⟨#[98]⟩, ⟨#[]⟩, 0, ⟨#[]⟩, ⟨#[]⟩⟩ = 0 := by kernel_rfl
theorem os0_plain : plainL (pCap 64) [] os0 = true := by
  rw [cap64]
  unfold os0
  rw [plainL, plainL, plainL, plainL, plainL, plainL, er1, st1, er2, st2, er3, st3, er4, st4, er5]
  rfl
theorem os0_okN : okN os0 := by
  intro o ho
  simp [os0] at ho
  rcases ho with rfl | rfl | rfl | rfl | rfl <;> exact ⟨by decide, by decide⟩
theorem os0_okK : okK os0 := by
  intro o ho
  simp [os0] at ho
  rcases ho with rfl | rfl | rfl | rfl | rfl <;> (show ByteArray.size _ ≤ 512; decide)
set_option maxHeartbeats 2000000 in
set_option maxRecDepth 100000 in
theorem awake33_any (w : World) : Calls Tryz.prog 19 #[] w fun e w' => e = .returned (.bool true) ∧ Below w.heap.size w w' := by
  have hel : ∀ W : World, Below w.heap.size w w → W.heap[w.heap.size]? = some (.cells (os0.map Ord.cells).flatten.toArray 39 (0, 0)) → Elems W (some ⟨w.heap.size, 0, none⟩) 6 (os0.map Ord.cells) := fun W _ h => Elems.of_block h (fun r hr => by obtain ⟨v, _, rfl⟩ := List.mem_map.1 hr; rfl) rfl
  have hal : ∀ W, W.heap[w.heap.size]? = some (.cells (os0.map Ord.cells).flatten.toArray 39 (0, 0)) → Calls Tryz.prog 23 #[.slice (some ⟨w.heap.size, 0, none⟩) 5 5] W fun e w' => ∃ A' c', e = .returned (.slice A' 2 c') ∧ OwnsN w' W.heap.size (.slice A' 2 c') [1, 3] ∧ Below W.heap.size W w' := fun W h => by
    have := alive_any (some ⟨w.heap.size, 0, none⟩) 5 os0 W (hel W (Below.refl _ w) h) (by decide) os0_okK
    rw [os0_alive] at this
    exact this
  have hpr : ∀ W, W.heap[w.heap.size]? = some (.cells (os0.map Ord.cells).flatten.toArray 39 (0, 0)) → Calls Tryz.prog 25 #[.slice (some ⟨w.heap.size, 0, none⟩) 5 5] W fun e w' => ∃ A' c', e = .returned (.slice A' 2 c') ∧ Below W.heap.size W w' := fun W h => by
    refine (prune_any (some ⟨w.heap.size, 0, none⟩) 5 os0 W (hel W (Below.refl _ w) h) (by decide) os0_okK).mono ?_
    rintro e w' ⟨A', c', rfl, _, hb⟩
    exact ⟨A', c', by rw [os0_prune], hb⟩
  have hit : ∀ W, W.heap[w.heap.size]? = some (.cells (os0.map Ord.cells).flatten.toArray 39 (0, 0)) → Calls Tryz.prog 29 #[.slice (some ⟨w.heap.size, 0, none⟩) 5 5] W fun e w' => ∃ A' c', e = .returned (.slice A' 2 c') ∧ Below W.heap.size W w' := fun W h => by
    refine (pruneItems_any (some ⟨w.heap.size, 0, none⟩) 5 os0 W (hel W (Below.refl _ w) h) (by decide) os0_okN).mono ?_
    rintro e w' ⟨A', c', rfl, _, hb⟩
    exact ⟨A', c', by rw [os0_items]; rfl, hb⟩
  have hpl : ∀ W, W.heap[w.heap.size]? = some (.cells (os0.map Ord.cells).flatten.toArray 39 (0, 0)) → Calls Tryz.prog 26 #[.agg (planA 64), .slice (some ⟨w.heap.size, 0, none⟩) 5 5] W fun e w' => e = .returned (.bool true) ∧ Below W.heap.size W w' := fun W h => by
    have := isPlain_ok 64 (some ⟨w.heap.size, 0, none⟩) 5 os0 W (by decide) (by decide) (hel W (Below.refl _ w) h) (by decide) os0_okN
    rw [os0_plain] at this
    exact this
  have hpn := fun W => isPlain_none ⟨0, 0, 0, 0, 0, 0, 0⟩ (some ⟨w.heap.size, 0, none⟩) 5 5 W (by kernel_rfl)
  rw [Pl.v_def] at hpn
  dsimp only at hpn
  have hcap := fun W => capaOf_ok 64 W (by decide) (by decide)
  have p64 : planA 64 = #[.int .i64 64, .int .i64 8, .int .i64 10, .int .i64 54, .int .i64 26, .int .i64 19, .int .i64 4084] := by kernel_rfl
  rw [p64] at hcap hpl
  have HAL := Lib.hid hal
  have HPR := Lib.hid hpr
  have HIT := Lib.hid hit
  have HPL := Lib.hid hpl
  have HPN := Lib.hid hpn
  have HC := Lib.hid hcap
  clear hal hpr hit hpl hpn hcap hel p64
  go_enter Tryz.func19, Tryz.ntmps19
  go_wp2_with (first
    | (go_at_call 21; (with_reducible refine (HC.out _).mono ?_); rintro e w1 ⟨rfl, hb1⟩; have HX1 := Lib.hid (show w1.heap[w.heap.size]? = some (.cells (os0.map Ord.cells).flatten.toArray 39 (0, 0)) from box_cells hb1); have HB1 := Lib.hid (below_next (below_alloc (Below.refl _ w)) hb1); clear hb1)
    | (go_at_call 23; (with_reducible refine (HAL.out _ (((Fr.refl (fun _ => False) _).alloc _).row id HX1.out)).mono ?_); rintro e w2 ⟨A2, c2, rfl, ho2, hb2⟩; obtain ⟨g2, rfl, _, hgl2, hcap2, hc2⟩ := ho2.row natLen (j := 0) (p := 1) rfl; have q0 : w2.cell? ⟨g2, 0, none⟩ = some (.int .i64 1) := hc2 0 _ rfl; obtain ⟨g3, hg3, _, _, _, hc3⟩ := ho2.row natLen (j := 1) (p := 3) rfl; have q1 : w2.cell? ⟨g2, 1, none⟩ = some (.int .i64 3) := (by cases hg3; exact hc3 0 _ rfl); have hx2 : w2.heap[w.heap.size]? = some (.cells (os0.map Ord.cells).flatten.toArray 39 (0, 0)) := box_below (((Fr.refl (fun _ => False) _).alloc _).row id HX1.out) hb2; have hp2 : w2.heap[w1.heap.size]? = some (.cells #[.int .i64 64, .int .i64 8, .int .i64 10, .int .i64 54, .int .i64 26, .int .i64 19, .int .i64 4084] 26 (0, 0)) := box_below (heap_alloc_new w1 _) hb2; have HX2 := Lib.hid hx2; have HP2 := Lib.hid hp2; have HB2 := Lib.hid (below_next (below_alloc HB1.out) hb2); clear hx2 hp2 hb2 ho2 hc2 hg3 hc3)
    | (go_at_call 25; (with_reducible refine (HPR.out _ HX2.out).mono ?_); rintro e w3 ⟨A3, c3, rfl, hb3⟩; have hx3 : w3.heap[w.heap.size]? = some (.cells (os0.map Ord.cells).flatten.toArray 39 (0, 0)) := box_below HX2.out hb3; have hp3 : w3.heap[w1.heap.size]? = some (.cells #[.int .i64 64, .int .i64 8, .int .i64 10, .int .i64 54, .int .i64 26, .int .i64 19, .int .i64 4084] 26 (0, 0)) := box_below HP2.out hb3; have HX3 := Lib.hid hx3; have HP3 := Lib.hid hp3; have HB3 := Lib.hid (below_next HB2.out hb3); clear hx3 hp3 hb3)
    | (go_at_call 29; (with_reducible refine (HIT.out _ HX3.out).mono ?_); rintro e w4 ⟨A4, c4, rfl, hb4⟩; have hx4 : w4.heap[w.heap.size]? = some (.cells (os0.map Ord.cells).flatten.toArray 39 (0, 0)) := box_below HX3.out hb4; have hp4 : w4.heap[w1.heap.size]? = some (.cells #[.int .i64 64, .int .i64 8, .int .i64 10, .int .i64 54, .int .i64 26, .int .i64 19, .int .i64 4084] 26 (0, 0)) := box_below HP3.out hb4; have HX4 := Lib.hid hx4; have HP4 := Lib.hid hp4; have HB4 := Lib.hid (below_next HB3.out hb4); clear hx4 hp4 hb4; obtain ⟨z0, z1, z2, z3, z4, z5, z6⟩ : w4.cell? ⟨w1.heap.size, 0, none⟩ = some (.int .i64 64) ∧ w4.cell? ⟨w1.heap.size, 1, none⟩ = some (.int .i64 8) ∧ w4.cell? ⟨w1.heap.size, 2, none⟩ = some (.int .i64 10) ∧ w4.cell? ⟨w1.heap.size, 3, none⟩ = some (.int .i64 54) ∧ w4.cell? ⟨w1.heap.size, 4, none⟩ = some (.int .i64 26) ∧ w4.cell? ⟨w1.heap.size, 5, none⟩ = some (.int .i64 19) ∧ w4.cell? ⟨w1.heap.size, 6, none⟩ = some (.int .i64 4084) := (by have hh := HP4.out; refine ⟨?_, ?_, ?_, ?_, ?_, ?_, ?_⟩ <;> (rw [Lib.cell_of_heap hh]; rfl)))
    | (go_at_call 26; (with_reducible refine (HPN.out _).mono ?_); rintro e w6 ⟨rfl, hb6⟩; have HB6 := Lib.hid (below_next HB5.out hb6); clear hb6)
    | (go_at_call 26; (with_reducible refine (HPL.out _ HX4.out).mono ?_); rintro e w5 ⟨rfl, hb5⟩; have HB5 := Lib.hid (below_next HB4.out hb5); clear hb5))
  go_ret
  exact ⟨rfl, HB6.out⟩
end Go.Proofs.YtdfgdnaejnngoaaGreat
