import Derived.Test.YtdfgdnaejnngoaaGreatJa9
import Derived.Test.YtdfgdnaejnngoaaGreatRows
import Derived.Test.YtdfgdnaejnngoaaGreatJa1
import Derived.WalkKit
import Derived.ProofKit
import Derived.OpenShut
import Derived.ShutString
import Derived.ChangeOld
import Derived.Below
import Derived.Deep.Slices
import Derived.Deep.Fields
import Derived.ChangeSame
namespace Go.Proofs.YtdfgdnaejnngoaaGreat
open Go.RowKit
set_option maxHeartbeats 4000000 in
set_option maxRecDepth 100000 in
theorem least_any (at_ : Int) (A : Option Addr) (cap : Nat) (os : List Ord) (w : World) (hel : Elems w A 6 (os.map Ord.cells)) (hn : okN os) :
    Calls Tryz.prog 7 #[.slice A os.length cap, .int .i64 at_] w fun e w' => e = .returned (.bool true) ∧ Below w.heap.size w w' := by
  have haw := fun W => awake33_any W
  have hgr := fun W (hW : Below w.heap.size w W) => great_any A cap os W (hel.below hW)
  have HAW := Lib.hid haw
  have HGR := Lib.hid hgr
  have HEL := Lib.hid hel
  have HN := Lib.hid hn
  clear haw hgr hel hn
  go_enter Tryz.func7, Tryz.ntmps7
  go_wp2_with (first
    | (go_at_call 19; (with_reducible refine (HAW.out _).mono ?_); rintro e w1 ⟨rfl, hb1⟩; have HB1 := Lib.hid hb1; clear hb1)
    | (go_at_call 20; (with_reducible refine (HGR.out _ HB1.out).mono ?_); rintro e w2 ⟨b2, rfl, hsm, hb2⟩; have HB2 := Lib.hid (below_next HB1.out hb2); have HSM := Lib.hid hsm; clear hsm hb2))
  · go_ret
    exact ⟨rfl, HB2.out⟩
  · go_ret
    exact ⟨rfl, HB2.out⟩
  · have hbf : b2 = false := by simpa using (by assumption : ¬ b2 = true)
    have h60 : (os.length : Int) ≤ 60 := by assumption
    obtain ⟨_, hsmall⟩ := HSM.out hbf
    have hks : okK os := fun o ho => (hsmall o ho).1
    have hpr := fun W (hW : Below w.heap.size w W) => prune_any A cap os W (HEL.out.below hW) (by omega) hks
    have hpp := prune_twice os
    have hnP : okN (pruneL os) := okN_prune HN.out
    have hplen := (prune_sub os).length_le
    have hpl60 : (pruneL os).length ≤ 60 := by omega
    generalize pruneL os = P at *
    have HPR := Lib.hid hpr
    clear hpr hks hsmall hbf hplen
    by_cases hP0 : P = []
    · subst hP0
      have hit : ∀ W A4 c4, Calls Tryz.prog 29 #[.slice A4 0 c4] W fun e w' => ∃ A' cap', e = .returned (.slice A' 0 cap') ∧ Below W.heap.size W w' := fun W A4 c4 => by
        refine (pruneItems_any A4 c4 [] W (by intro i r hr; simp at hr) (by simp) (by intro o ho; simp at ho)).mono ?_
        rintro e w' ⟨A', c', rfl, _, hb⟩
        exact ⟨A', c', rfl, hb⟩
      have HIT := Lib.hid hit
      clear hit hpp hnP hpl60
      go_wp2_with (first
        | (go_at_call 25; (with_reducible refine (HPR.out _ HB2.out).mono ?_); rintro e w4 ⟨A4, c4, rfl, _, hb4⟩; have HB4 := Lib.hid (below_next HB2.out hb4); clear hb4)
        | (go_at_call 29; (with_reducible refine (HIT.out _ _ _).mono ?_); rintro e w5 ⟨A5, c5, rfl, hb5⟩; have HB5 := Lib.hid (below_next HB4.out hb5); clear hb5))
      go_ret
      exact ⟨rfl, HB5.out⟩
    · have hpos : 0 < P.length := List.length_pos_iff.2 hP0
      obtain ⟨i, hi, hK⟩ := at_mod at_ (P.length - 1) (by omega)
      rw [show (((P.length - 1 : Nat) : Int) + 1) = (P.length : Int) by omega] at hK
      have hu : IntKind.u64.wrap (P.length : Int) = (P.length : Int) := by simp [IntKind.wrap, IntKind.signed, IntKind.bits]; omega
      have hne0 : ((P.length : Int) == 0) = false := by simp; omega
      obtain ⟨o, ho⟩ := get_lt (l := P) (i := i) (by omega)
      have HO := Lib.hid ho
      have HPP := Lib.hid hpp
      have HNP := Lib.hid hnP
      clear ho hpp hnP hP0
      go_wp2_with (go_at_call 25; (with_reducible refine (HPR.out _ HB2.out).mono ?_); rintro e w4 ⟨A4, c4, rfl, ho4, hb4⟩; obtain ⟨g, rfl, hBg, hgl, hcap4, _⟩ := ho4.row ordLen HO.out; have HO4 := Lib.hid ho4; have HB4 := Lib.hid (below_next HB2.out hb4); clear ho4 hb4)
      have hi' : i < P.length := by omega
      have hiI : (i : Int) ≤ (c4 : Int) := by omega
      have hiL : (i : Int) + 1 ≤ (P.length : Int) := by omega
      have hLC : (P.length : Int) ≤ (c4 : Int) := by omega
      have ht1 : ((i : Int) + 1).toNat = i + 1 := by omega
      have h0i : (0 : Int) ≤ (i : Int) + 1 := by omega
      have htk : (P.take i).length = i := by rw [List.length_take]; omega
      have hdk : (P.drop (i + 1)).length = P.length - (i + 1) := by rw [List.length_drop]
      have hrest : P.take i ++ P.drop (i + 1) = P.eraseIdx i := (List.eraseIdx_eq_take_drop_succ P i).symm
      have hrl : (P.eraseIdx i).length = P.length - 1 := by rw [List.length_eraseIdx, if_pos hi']
      have hparts := fun W (hW : Below w4.heap.size w4 W) => ordrow_parts (kk := i) hcap4 ((HO4.out.elems ordLen).below hW)
      have hparts2 := fun W (hW : Below w4.heap.size w4 W) => ordrow_parts (kk := i + 1) hcap4 ((HO4.out.elems ordLen).below hW)
      obtain ⟨ad2, had2⟩ : ∃ ad2, (if c4 = i + 1 then (⟨g, 0, none⟩ : Addr) else (⟨g, 0, none⟩ : Addr).add ((i + 1) * 6)) = ad2 := ⟨_, rfl⟩
      rw [had2] at hparts2
      have had3 : (if c4 = i + 1 then some (⟨g, 0, none⟩ : Addr) else some ⟨g, (i + 1) * 6, none⟩) = some ad2 := by
        rw [← had2, Addr.add_mid, Nat.zero_add]
        split <;> rfl
      have hA1 : ([] : List Ord).length + (P.take i).length ≤ 100000 := by rw [htk]; simp; omega
      have hA2 : (P.take i).length + (P.drop (i + 1)).length ≤ 100000 := by rw [htk, hdk]; omega
      have hw1 : IntKind.i64.wrap ((i : Int) + 1) = (i : Int) + 1 := by rw [IntKind.wrap_i64]; omega
      have HT := Lib.hid (fun W hW => (hparts W hW).1)
      have HD := Lib.hid (fun W hW => (hparts2 W hW).2)
      have HTK := Lib.hid htk
      have HDK := Lib.hid hdk
      have HREST := Lib.hid hrest
      have HRL := Lib.hid hrl
      have B4 : Below w4.heap.size w4 w4.drew := (Below.refl _ w4).drew
      clear hparts hparts2 had2 htk hdk hrest hrl
      refine rg_start (n := 11) (fun w' => True) #[false, false, false, false, false, false, false, false, false, false, false] (by kernel_rfl) rfl rfl trivial (fun hHeld => ?_)
      refine rg_take (i := 1) (N := (some 42)) (v := ?_) (a' := ?_) #[false, true, false, false, false, false, false, false, false, false, false] rfl rfl (by kernel_rfl) (fun _ _ _ h => h) (by rfl) ?_ hHeld ?_ ?_
      rotate_left 2
      · rintro w' _s
        go_simp
        try with_reducible rfl
      · simp only [Act.put, List.setIfInBounds_toArray, List.set_cons_zero, List.set_cons_succ]
        rfl
      refine rg_take (i := 2) (N := (some 43)) (v := ?_) (a' := ?_) #[false, true, true, false, false, false, false, false, false, false, false] rfl rfl (by kernel_rfl) (fun _ _ _ h => h) (by rfl) ?_ hHeld ?_ ?_
      rotate_left 2
      · rintro w' _s
        go_simp
        try with_reducible rfl
      · simp only [Act.put, List.setIfInBounds_toArray, List.set_cons_zero, List.set_cons_succ]
        rfl
      refine rg_take (i := 3) (N := (some 44)) (v := ?_) (a' := ?_) #[false, true, true, true, false, false, false, false, false, false, false] rfl rfl (by kernel_rfl) (fun _ _ _ h => h) (by rfl) ?_ hHeld ?_ ?_
      rotate_left 2
      · rintro w' _s
        go_simp
        try with_reducible rfl
      · simp only [Act.put, List.setIfInBounds_toArray, List.set_cons_zero, List.set_cons_succ]
        rfl
      refine rg_take (i := 5) (N := (some 46)) (v := ?_) (a' := ?_) #[false, true, true, true, false, true, false, false, false, false, false] rfl rfl (by kernel_rfl) (fun _ _ _ h => h) (by rfl) ?_ hHeld ?_ ?_
      rotate_left 2
      · rintro w' _s
        go_simp
        try with_reducible rfl
      · simp only [Act.put, List.setIfInBounds_toArray, List.set_cons_zero, List.set_cons_succ]
        rfl
      refine rg_take (i := 6) (N := (some 47)) (v := ?_) (a' := ?_) #[false, true, true, true, false, true, true, false, false, false, false] rfl rfl (by kernel_rfl) (fun _ _ _ h => h) (by rfl) ?_ hHeld ?_ ?_
      rotate_left 2
      · rintro w' _s
        go_simp
        try with_reducible rfl
      · simp only [Act.put, List.setIfInBounds_toArray, List.set_cons_zero, List.set_cons_succ]
        rfl
      refine rg_take (i := 7) (N := (some 48)) (v := ?_) (a' := ?_) #[false, true, true, true, false, true, true, true, false, false, false] rfl rfl (by kernel_rfl) (fun _ _ _ h => h) (by rfl) ?_ hHeld ?_ ?_
      rotate_left 2
      · rintro w' _s
        go_simp
        try with_reducible rfl
      · simp only [Act.put, List.setIfInBounds_toArray, List.set_cons_zero, List.set_cons_succ]
        rfl
      refine rg_take (i := 8) (N := (some 49)) (v := ?_) (a' := ?_) #[false, true, true, true, false, true, true, true, true, false, false] rfl rfl (by kernel_rfl) (fun _ _ _ h => h) (by rfl) ?_ hHeld ?_ ?_
      rotate_left 2
      · rintro w' _s
        go_simp
        try with_reducible rfl
      · simp only [Act.put, List.setIfInBounds_toArray, List.set_cons_zero, List.set_cons_succ]
        rfl
      refine rg_one (i := 0) #[true, true, true, true, false, true, true, true, true, false, false] rfl (by kernel_rfl) (by rfl) (fun K hK => ?_)
      (refine oper_emptyO (some 41) rfl rfl ?_; intro g0 w5 ho5 hb5; have B5 := B4.trans (hb5.mono B4.size); simp only [Act.put, List.setIfInBounds_toArray, List.set_cons_zero, List.set_cons_succ])
      repeat go_step
      refine hK.out _ _ ?_ (fun hHeld => ?_)
      · trivial
      clear hK K
      refine rg_one (i := 4) #[true, true, true, true, true, true, true, true, true, false, false] rfl (by kernel_rfl) (by rfl) (fun K hK => ?_)
      (refine ordO_append (some 45) rfl (Operand.tmp 41) (Operand.tmp 44) rfl w4.heap.size (.slice (some ⟨g0, 0, none⟩) 0 0) [] (P.take i) i ⟨g, 0, none⟩ c4 HTK.out rfl rfl (ho5.base B4.size) (HT.out _ B5) hA1 B5.size i (by rw [List.nil_append, HTK.out]) ?_; intro A6 c6 w6 ho6 hf6; rw [List.nil_append] at ho6; have B6 := B5.trans (hf6.to_below B5.size (fun q hq e => ord_ge (ho5.base B4.size) hq e)); simp only [Act.put, List.setIfInBounds_toArray, List.set_cons_zero, List.set_cons_succ])
      repeat go_step
      refine hK.out _ _ ?_ (fun hHeld => ?_)
      · trivial
      clear hK K
      refine rg_one (i := 9) #[true, true, true, true, true, true, true, true, true, true, false] rfl (by kernel_rfl) (by rfl) (fun K hK => ?_)
      (refine ordO_append (some 50) rfl (Operand.tmp 45) (Operand.tmp 49) rfl w4.heap.size (.slice A6 i c6) (P.take i) (P.drop (i + 1)) (P.length - (i + 1)) ad2 (c4 - (i + 1)) HDK.out rfl rfl ho6 (HD.out _ B6) hA2 B6.size (P.length - 1) (by rw [HREST.out, HRL.out]) ?_; intro A7 c7 w7 ho7 hf7; rw [HREST.out] at ho7; have B7 := B6.trans (hf7.to_below B6.size (fun q hq e => ord_ge ho6 hq e)); simp only [Act.put, List.setIfInBounds_toArray, List.set_cons_zero, List.set_cons_succ])
      repeat go_step
      refine hK.out _ _ ?_ (fun hHeld => ?_)
      · trivial
      clear hK K
      refine rg_take (i := 10) (N := (some 7)) (v := ?_) (a' := ?_) #[true, true, true, true, true, true, true, true, true, true, true] rfl rfl (by kernel_rfl) (fun _ _ _ h => h) (by rfl) ?_ hHeld ?_ ?_
      rotate_left 2
      · rintro w' _s
        go_simp
        try with_reducible rfl
      · simp only [Act.put, List.setIfInBounds_toArray, List.set_cons_zero, List.set_cons_succ]
        rfl
      refine rg_done (by kernel_rfl) ?_
      rw [hK]
      have hw2 : wrap64 ((P.length : Int) - 1) = (P.length : Int) - 1 := by
        clear hw1
        unfold wrap64; omega
      clear hw1
      have hn7 : okN (P.eraseIdx i) := fun x hx => HNP.out x ((List.eraseIdx_sublist P i).subset hx)
      have hi1 := fun W (hW : Below w4.heap.size w4 W) => pruneItems_any (some ⟨g, 0, none⟩) c4 P W ((HO4.out.elems ordLen).below hW) (by omega) HNP.out
      have hi2 : ∀ W, Below w7.heap.size w7 W → Calls Tryz.prog 29 #[.slice A7 (P.length - 1) c7] W fun e w' => ∃ A' cap', e = .returned (.slice A' (itemsO (P.eraseIdx i)).length cap') ∧ OwnsM w' W.heap.size (.slice A' (itemsO (P.eraseIdx i)).length cap') (itemsO (P.eraseIdx i)) ∧ Below W.heap.size W w' := fun W hW => by
        have := pruneItems_any A7 c7 (P.eraseIdx i) W (by
          have := HRL.out
          have ho := ho7
          rw [← HRL.out] at ho
          exact (ho.elems ordLen).below hW) (by rw [HRL.out]; omega) hn7
        rw [HRL.out] at this
        exact this
      have hl1 : (itemsO P).length ≤ 1000 := by
        have := items_len P (l := []) trivial
        unfold itemsO
        simp at this
        omega
      have hl2 : (itemsO (P.eraseIdx i)).length ≤ 1000 := by
        have := items_len (P.eraseIdx i) (l := []) trivial
        rw [HRL.out] at this
        unfold itemsO
        simp at this
        omega
      have hs := fun W A' c' A2 c2 h1 h2 => refSame_any A' A2 c' c2 (itemsO P) (itemsO (P.eraseIdx i)) W h1 h2 (by omega) (by omega)
      have LN := Lib.hid (least_none HO.out)
      have LA := Lib.hid (least_add HPP.out HNP.out HO.out)
      have LP := Lib.hid (least_put HPP.out HNP.out HO.out)
      have hkd : o.kind = 1 ∨ o.kind = 3 := (alive_kind (alive_all HPP.out HO.out)).1
      have hki := fun W => keyIs_any o.key W
      have HB7 := Lib.hid B7
      have HI1 := Lib.hid hi1
      have HI2 := Lib.hid hi2
      have HVA := Lib.hid (fun v W => keyIsVal_any v W)
      have HL1 := Lib.hid hl1
      have HL2 := Lib.hid hl2
      clear hi1 hi2 B7 B6 B5 B4 ho7 ho6 ho5 hf6 hf7 hb5 hHeld hl1 hl2 hn7 had3
      obtain ⟨kind, key, val, n, lo, hi⟩ := o
      dsimp only at hkd hki
      generalize hI1 : itemsO P = I1 at *
      generalize hI2 : itemsO (P.eraseIdx i) = I2 at *
      have HII := Lib.hid (And.intro hI1 hI2)
      clear hI1 hI2
      cases hk : isKey key with
      | false =>
        have hD : decide (I1 = I2) = true := decide_eq_true (LN.out (.inl hk))
        rw [hk] at hki
        simp only [hD] at hs
        have HKI := Lib.hid hki
        have HS := Lib.hid hs
        clear hki hs hD hk hkd
        go_wp2_with (first
          | (go_at_call 29; (with_reducible refine (HI2.out _ HB78.out).mono ?_); rintro e w9 ⟨A9, c9, rfl, ho9, hb9⟩; have HO9 := Lib.hid (ho9.elems Itm.clen); have HE9 := Lib.hid (HE8.out.below hb9); have hb49 := below_next HB8.out hb9; obtain ⟨_, hg, _, _, _, hcells⟩ := (HO4.out.below hb49).row ordLen HO.out; cases hg; have d0 := hcells 0 _ rfl; have d1 := hcells 1 _ rfl; have d2 := hcells 2 _ rfl; have d3 := hcells 3 _ rfl; have d4 := hcells 4 _ rfl; have d5 := hcells 5 _ rfl; simp only [Nat.add_zero] at d0; have HB9 := Lib.hid hb49; clear ho9 hb9 hcells hb49)
          | (go_at_call 29; (with_reducible refine (HI1.out _ HB7.out).mono ?_); rintro e w8 ⟨A8, c8, rfl, ho8, hb8⟩; have HE8 := Lib.hid (ho8.elems Itm.clen); have HB78 := Lib.hid hb8; have HB8 := Lib.hid (below_next HB7.out hb8); clear ho8 hb8)
          | (go_at_call 31; (with_reducible refine (HKI.out _).mono ?_); rintro e w10 ⟨rfl, hb10⟩; have hbx := box_cells hb10; obtain ⟨q0, q1, q2, q3, q4, q5⟩ : w10.cell? ⟨w9.heap.size, 0, none⟩ = some (.int .i64 kind) ∧ w10.cell? ⟨w9.heap.size, 1, none⟩ = some (.string key) ∧ w10.cell? ⟨w9.heap.size, 2, none⟩ = some (.string val) ∧ w10.cell? ⟨w9.heap.size, 3, none⟩ = some (.int .u64 n) ∧ w10.cell? ⟨w9.heap.size, 4, none⟩ = some (.string lo) ∧ w10.cell? ⟨w9.heap.size, 5, none⟩ = some (.string hi) := (by refine ⟨?_, ?_, ?_, ?_, ?_, ?_⟩ <;> (rw [Lib.cell_of_heap hbx]; rfl)); have hxl := lt_of_row hbx; have HX10 := Lib.hid hbx; have HB10 := Lib.hid (below_next (below_alloc HB9.out) hb10); have HB910 := Lib.hid (below_next (below_alloc (Below.refl _ w9)) hb10); clear hb10 hbx)
          | (go_at_call 28; (with_reducible refine (HS.out _ _ _ _ _ (HE9.out.below HB910.out) (HO9.out.below HB910.out)).mono ?_); rintro e w12 ⟨rfl, hb12⟩; have HB12 := Lib.hid (below_next HB10.out hb12); clear hb12))
        go_ret
        exact ⟨rfl, (HB4.out.trans (HB12.out.mono HB4.out.size))⟩
      | true =>
        rw [hk] at hki
        have HKI := Lib.hid hki
        clear hki
        rcases hkd with rfl | rfl
        · cases hv : isVal val with
          | false =>
            have hvi := fun W => HVA.out val W
            rw [hv] at hvi
            have HVI := Lib.hid hvi
            have hD : decide (I1 = I2) = true := decide_eq_true (LN.out (.inr ⟨rfl, hv⟩))
            simp only [hD] at hs
            have HS := Lib.hid hs
            clear hvi hs hD hv hk
            go_wp2_with (first
              | (go_at_call 29; (with_reducible refine (HI2.out _ HB78.out).mono ?_); rintro e w9 ⟨A9, c9, rfl, ho9, hb9⟩; have HO9 := Lib.hid (ho9.elems Itm.clen); have HE9 := Lib.hid (HE8.out.below hb9); have hb49 := below_next HB8.out hb9; obtain ⟨_, hg, _, _, _, hcells⟩ := (HO4.out.below hb49).row ordLen HO.out; cases hg; have d0 := hcells 0 _ rfl; have d1 := hcells 1 _ rfl; have d2 := hcells 2 _ rfl; have d3 := hcells 3 _ rfl; have d4 := hcells 4 _ rfl; have d5 := hcells 5 _ rfl; simp only [Nat.add_zero] at d0; have HB9 := Lib.hid hb49; clear ho9 hb9 hcells hb49)
              | (go_at_call 29; (with_reducible refine (HI1.out _ HB7.out).mono ?_); rintro e w8 ⟨A8, c8, rfl, ho8, hb8⟩; have HE8 := Lib.hid (ho8.elems Itm.clen); have HB78 := Lib.hid hb8; have HB8 := Lib.hid (below_next HB7.out hb8); clear ho8 hb8)
              | (go_at_call 31; (with_reducible refine (HKI.out _).mono ?_); rintro e w10 ⟨rfl, hb10⟩; have hbx := box_cells hb10; obtain ⟨q0, q1, q2, q3, q4, q5⟩ : w10.cell? ⟨w9.heap.size, 0, none⟩ = some (.int .i64 1) ∧ w10.cell? ⟨w9.heap.size, 1, none⟩ = some (.string key) ∧ w10.cell? ⟨w9.heap.size, 2, none⟩ = some (.string val) ∧ w10.cell? ⟨w9.heap.size, 3, none⟩ = some (.int .u64 n) ∧ w10.cell? ⟨w9.heap.size, 4, none⟩ = some (.string lo) ∧ w10.cell? ⟨w9.heap.size, 5, none⟩ = some (.string hi) := (by refine ⟨?_, ?_, ?_, ?_, ?_, ?_⟩ <;> (rw [Lib.cell_of_heap hbx]; rfl)); have hxl := lt_of_row hbx; have HX10 := Lib.hid hbx; have HB10 := Lib.hid (below_next (below_alloc HB9.out) hb10); have HB910 := Lib.hid (below_next (below_alloc (Below.refl _ w9)) hb10); clear hb10 hbx)
              | (go_at_call 32; (with_reducible refine (HVI.out _).mono ?_); rintro e w11 ⟨rfl, hb11⟩; have hbx := box_below HX10.out hb11; obtain ⟨r0, r1, r2, r3, r4, r5⟩ : w11.cell? ⟨w9.heap.size, 0, none⟩ = some (.int .i64 1) ∧ w11.cell? ⟨w9.heap.size, 1, none⟩ = some (.string key) ∧ w11.cell? ⟨w9.heap.size, 2, none⟩ = some (.string val) ∧ w11.cell? ⟨w9.heap.size, 3, none⟩ = some (.int .u64 n) ∧ w11.cell? ⟨w9.heap.size, 4, none⟩ = some (.string lo) ∧ w11.cell? ⟨w9.heap.size, 5, none⟩ = some (.string hi) := (by refine ⟨?_, ?_, ?_, ?_, ?_, ?_⟩ <;> (rw [Lib.cell_of_heap hbx]; rfl)); have HX11 := Lib.hid hbx; have HB11 := Lib.hid (below_next HB10.out hb11); have HB911 := Lib.hid (below_next HB910.out hb11); clear hb11 hbx)
              | (go_at_call 28; (with_reducible refine (HS.out _ _ _ _ _ (HE9.out.below HB911.out) (HO9.out.below HB911.out)).mono ?_); rintro e w12 ⟨rfl, hb12⟩; have HB12 := Lib.hid (below_next HB11.out hb12); clear hb12))
            go_ret
            exact ⟨rfl, (HB4.out.trans (HB12.out.mono HB4.out.size))⟩
          | true =>
            have hvi := fun W => HVA.out val W
            rw [hv] at hvi
            have HVI := Lib.hid hvi
            clear hvi
            have HSS := Lib.hid hs
            clear hs
            go_wp2_with (first
              | (go_at_call 29; (with_reducible refine (HI2.out _ HB78.out).mono ?_); rintro e w9 ⟨A9, c9, rfl, ho9, hb9⟩; have HO9 := Lib.hid (ho9.elems Itm.clen); have HE9 := Lib.hid (HE8.out.below hb9); have hb49 := below_next HB8.out hb9; obtain ⟨_, hg, _, _, _, hcells⟩ := (HO4.out.below hb49).row ordLen HO.out; cases hg; have d0 := hcells 0 _ rfl; have d1 := hcells 1 _ rfl; have d2 := hcells 2 _ rfl; have d3 := hcells 3 _ rfl; have d4 := hcells 4 _ rfl; have d5 := hcells 5 _ rfl; simp only [Nat.add_zero] at d0; have HB9 := Lib.hid hb49; clear ho9 hb9 hcells hb49)
              | (go_at_call 29; (with_reducible refine (HI1.out _ HB7.out).mono ?_); rintro e w8 ⟨A8, c8, rfl, ho8, hb8⟩; have HE8 := Lib.hid (ho8.elems Itm.clen); have HB78 := Lib.hid hb8; have HB8 := Lib.hid (below_next HB7.out hb8); clear ho8 hb8)
              | (go_at_call 31; (with_reducible refine (HKI.out _).mono ?_); rintro e w10 ⟨rfl, hb10⟩; have hbx := box_cells hb10; obtain ⟨q0, q1, q2, q3, q4, q5⟩ : w10.cell? ⟨w9.heap.size, 0, none⟩ = some (.int .i64 1) ∧ w10.cell? ⟨w9.heap.size, 1, none⟩ = some (.string key) ∧ w10.cell? ⟨w9.heap.size, 2, none⟩ = some (.string val) ∧ w10.cell? ⟨w9.heap.size, 3, none⟩ = some (.int .u64 n) ∧ w10.cell? ⟨w9.heap.size, 4, none⟩ = some (.string lo) ∧ w10.cell? ⟨w9.heap.size, 5, none⟩ = some (.string hi) := (by refine ⟨?_, ?_, ?_, ?_, ?_, ?_⟩ <;> (rw [Lib.cell_of_heap hbx]; rfl)); have hxl := lt_of_row hbx; have HX10 := Lib.hid hbx; have HB10 := Lib.hid (below_next (below_alloc HB9.out) hb10); have HB910 := Lib.hid (below_next (below_alloc (Below.refl _ w9)) hb10); clear hb10 hbx)
              | (go_at_call 32; (with_reducible refine (HVI.out _).mono ?_); rintro e w11 ⟨rfl, hb11⟩; have hbx := box_below HX10.out hb11; obtain ⟨r0, r1, r2, r3, r4, r5⟩ : w11.cell? ⟨w9.heap.size, 0, none⟩ = some (.int .i64 1) ∧ w11.cell? ⟨w9.heap.size, 1, none⟩ = some (.string key) ∧ w11.cell? ⟨w9.heap.size, 2, none⟩ = some (.string val) ∧ w11.cell? ⟨w9.heap.size, 3, none⟩ = some (.int .u64 n) ∧ w11.cell? ⟨w9.heap.size, 4, none⟩ = some (.string lo) ∧ w11.cell? ⟨w9.heap.size, 5, none⟩ = some (.string hi) := (by refine ⟨?_, ?_, ?_, ?_, ?_, ?_⟩ <;> (rw [Lib.cell_of_heap hbx]; rfl)); have HX11 := Lib.hid hbx; have HB11 := Lib.hid (below_next HB10.out hb11); have HB911 := Lib.hid (below_next HB910.out hb11); clear hb11 hbx))
            have HKV := Lib.hid (And.intro hk hv)
            clear hk hv
            go_loopw [14, 11, 12, 13] (fun j c v h wr => ∃ (k : Nat) (put : ByteArray) (has : Bool), j = .int .i64 k ∧ k ≤ P.length ∧ c = .int .i64 (cntA key ((P.take k).eraseIdx i)) ∧ v = .string put ∧ h = .bool has ∧ PH key (P.take k) put has ∧ Below w11.heap.size w11 wr) (fun j _ _ _ _ => P.length + 1 - (intOf j).toNat)
            case atStart => exact ⟨0, ⟨#[]⟩, false, rfl, Nat.zero_le _, rfl, rfl, rfl, PH.nil _, Below.refl _ _⟩
            case round =>
              obtain ⟨k, put, has, rfl, hk2, rfl, rfl, rfl, hph, hbel⟩ := hrel
              by_cases hkl : k < P.length
              · have hkI : (k : Int) < (P.length : Int) := by omega
                obtain ⟨y, hy⟩ := get_lt hkl
                obtain ⟨_, hg, _, _, _, hcells⟩ := (HO4.out.below (below_next HB11.out hbel)).row ordLen hy
                cases hg
                have e0 := hcells 0 _ rfl
                have e1 := hcells 1 _ rfl
                have e2 := hcells 2 _ rfl
                have e3 := hcells 3 _ rfl
                have e4 := hcells 4 _ rfl
                have e5 := hcells 5 _ rfl
                simp only [Nat.add_zero] at e0
                have o1 : wr.cell? ⟨w9.heap.size, 1, none⟩ = some (.string key) := by rw [Lib.cell_of_heap (box_below HX11.out hbel)]; rfl
                have hxlr := World.block_lt_of_cell? _ _ o1
                have hcs := cnt_step (k := key) (i := i) hy
                have hts := take_snocR hy
                have hcl := cnt_le key ((P.take k).eraseIdx i)
                have hcl2 : ((P.take k).eraseIdx i).length ≤ 60 := by
                  have h1 := List.length_eraseIdx_le (P.take k) i
                  rw [List.length_take] at h1
                  omega
                generalize cntA key ((P.take k).eraseIdx i) = cn at *
                have hwA : wrap64 ((cn : Int) + 1) = (cn : Int) + 1 := by unfold wrap64; omega
                have HPH := Lib.hid hph
                have HBEL := Lib.hid hbel
                have HCS := Lib.hid hcs
                have HTS := Lib.hid hts
                have HY := Lib.hid hy
                clear hph hbel hcs hts hy hcells hcl hcl2
                obtain ⟨yk, yy, yv, yn, ylo, yhi⟩ := y
                dsimp only at e0 e1 e2 e3 e4 e5
                have heq : (yy.toList == key.toList) = decide (yy = key) := eqBR
                have hvi := fun W => HVA.out yv W
                have HVI2 := Lib.hid hvi
                clear hvi
                by_cases hki : k = i
                · subst hki
                  have hyo := HO.out
                  rw [HY.out] at hyo
                  simp only [Option.some.injEq, Ord.mk.injEq] at hyo
                  obtain ⟨rfl, rfl, rfl, rfl, rfl, rfl⟩ := hyo
                  rw [decide_eq_true rfl] at heq
                  go_wp2
                  go_quiet (fail)
                  go_wp2
                  go_quiet (fail)
                  go_wp2_with (go_at_call 32; (with_reducible refine (HVI2.out _).mono ?_); rintro e w13 ⟨rfl, hb13⟩)
                  refine ⟨⟨k + 1, yv, (isVal yv), by go_num, by omega, by rw [HCS.out]; simp, rfl, rfl, by rw [HTS.out]; exact PH.put _ (by unfold isP; simp), (by repeat (first | exact HBEL.out | refine below_drewN ?_ _ | refine below_next ?_ hb13))⟩, ?_⟩
                  simp [intOf]
                  omega
                · have hne : ((k : Int) != (i : Int)) = true := by simp; omega
                  by_cases hyk : yy = key
                  · subst hyk
                    rw [decide_eq_true rfl] at heq
                    by_cases h3 : yk = 3
                    · subst h3
                      go_wp2
                      go_quiet (fail)
                      go_wp2
                      go_quiet (fail)
                      go_wp2
                      refine ⟨⟨k + 1, put, has, by go_num, by omega, by rw [HCS.out]; simp [hki, isA]; exact hwA, rfl, rfl, by rw [HTS.out]; exact HPH.out.other _ (by unfold isP; simp), (by repeat (first | exact HBEL.out | refine below_drewN ?_ _ | refine below_next ?_ hb13))⟩, ?_⟩
                      simp [intOf]
                      omega
                    · have f3 : (yk == 3) = false := by simp [h3]
                      by_cases h1 : yk = 1
                      · subst h1
                        go_wp2
                        go_quiet (fail)
                        go_wp2
                        go_quiet (fail)
                        go_wp2_with (go_at_call 32; (with_reducible refine (HVI2.out _).mono ?_); rintro e w13 ⟨rfl, hb13⟩)
                        refine ⟨⟨k + 1, yv, (isVal yv), by go_num, by omega, by rw [HCS.out]; simp [isA], rfl, rfl, by rw [HTS.out]; exact PH.put _ (by unfold isP; simp), (by repeat (first | exact HBEL.out | refine below_drewN ?_ _ | refine below_next ?_ hb13))⟩, ?_⟩
                        simp [intOf]
                        omega
                      · have f1 : (yk == 1) = false := by simp [h1]
                        go_wp2
                        go_quiet (fail)
                        go_wp2
                        go_quiet (fail)
                        go_wp2
                        refine ⟨⟨k + 1, put, has, by go_num, by omega, by rw [HCS.out]; simp [isA, h3], rfl, rfl, by rw [HTS.out]; exact HPH.out.other _ (by unfold isP; simp [h1]), (by repeat (first | exact HBEL.out | refine below_drewN ?_ _ | refine below_next ?_ hb13))⟩, ?_⟩
                        simp [intOf]
                        omega
                  · rw [decide_eq_false hyk] at heq
                    go_wp2
                    go_quiet (fail)
                    go_wp2
                    go_quiet (fail)
                    go_wp2
                    refine ⟨⟨k + 1, put, has, by go_num, by omega, by rw [HCS.out]; simp [isA, hyk], rfl, rfl, by rw [HTS.out]; exact HPH.out.other _ (by unfold isP; simp [hyk]), (by repeat (first | exact HBEL.out | refine below_drewN ?_ _ | refine below_next ?_ hb13))⟩, ?_⟩
                    simp [intOf]
                    omega
              · obtain rfl : k = P.length := by omega
                rw [List.take_length] at hph
                rw [List.take_length]
                have hbase := PH.base HPP.out hph
                have hbx := box_below HX11.out hbel
                obtain ⟨s0, s1, s2, s3, s4, s5⟩ : wr.cell? ⟨w9.heap.size, 0, none⟩ = some (.int .i64 1) ∧ wr.cell? ⟨w9.heap.size, 1, none⟩ = some (.string key) ∧ wr.cell? ⟨w9.heap.size, 2, none⟩ = some (.string val) ∧ wr.cell? ⟨w9.heap.size, 3, none⟩ = some (.int .u64 n) ∧ wr.cell? ⟨w9.heap.size, 4, none⟩ = some (.string lo) ∧ wr.cell? ⟨w9.heap.size, 5, none⟩ = some (.string hi) := (by refine ⟨?_, ?_, ?_, ?_, ?_, ?_⟩ <;> (rw [Lib.cell_of_heap hbx]; rfl))
                have hxlr := World.block_lt_of_cell? _ _ s0
                have HBW := Lib.hid (below_next HB911.out hbel)
                have HBR := Lib.hid (below_next HB11.out hbel)
                have hput := PH.here HPP.out HO.out (by unfold isP; simp) hph
                dsimp only at hput
                subst hput
                obtain ⟨hl1, hl2⟩ := LP.out HKV.out.1 (by first | trivial | rfl) HKV.out.2
                generalize cntA key (P.eraseIdx i) = cn at *
                clear hph hbel hbx hbase
                by_cases hc : 0 < cn
                · have hcI : (0 : Int) < (cn : Int) := by omega
                  have hiff := hl1 hc
                  have hmk := make8
                  have hcv := fun W => zero8 (W.alloc (.cells #[.int .u8 0, .int .u8 0, .int .u8 0, .int .u8 0, .int .u8 0, .int .u8 0, .int .u8 0, .int .u8 0] 5)) W.heap.size 8 (heap_alloc_new W _)
                  have heq : (put.toList == (valB 0).toList) = decide (put = valB 0) := eqBR
                  generalize valB 0 = Z at *
                  have hD : decide (I1 = I2) = decide (put = Z) := by rw [Bool.eq_iff_iff, decide_eq_true_iff, decide_eq_true_iff]; exact hiff
                  have hs := fun W A' c' A2 c2 h1 h2 => HSS.out W A' c' A2 c2 h1 h2
                  simp only [hD] at hs
                  generalize decide (put = Z) = z at *
                  have HS := Lib.hid hs
                  clear hs hD hiff hl1 hl2 hc
                  go_wp2_with (go_at_call 28; (with_reducible refine (HS.out _ _ _ _ _ (HE9.out.below (below_alloc HBW.out)) (HO9.out.below (below_alloc HBW.out))).mono ?_); rintro e w14 ⟨rfl, hb14⟩)
                  go_ret
                  exact ⟨by simp, HB4.out.trans ((below_next (below_alloc HBR.out) hb14).mono HB4.out.size)⟩
                · obtain rfl : cn = 0 := by omega
                  have e0 : ((0 : Nat) : Int) = 0 := rfl
                  rw [e0]
                  clear e0
                  have hlen := hl2 rfl
                  have hl1k := HL1.out
                  have hwl : wrap64 ((I1.length : Int) - 1) = (I2.length : Int) := by unfold wrap64; omega
                  clear hl1 hl2 hc hlen hl1k
                  go_wp2
                  go_ret
                  exact ⟨by simp, HB4.out.trans (HBR.out.mono HB4.out.size)⟩
        · have HSS := Lib.hid hs
          clear hs
          go_wp2_with (first
            | (go_at_call 29; (with_reducible refine (HI2.out _ HB78.out).mono ?_); rintro e w9 ⟨A9, c9, rfl, ho9, hb9⟩; have HO9 := Lib.hid (ho9.elems Itm.clen); have HE9 := Lib.hid (HE8.out.below hb9); have hb49 := below_next HB8.out hb9; obtain ⟨_, hg, _, _, _, hcells⟩ := (HO4.out.below hb49).row ordLen HO.out; cases hg; have d0 := hcells 0 _ rfl; have d1 := hcells 1 _ rfl; have d2 := hcells 2 _ rfl; have d3 := hcells 3 _ rfl; have d4 := hcells 4 _ rfl; have d5 := hcells 5 _ rfl; simp only [Nat.add_zero] at d0; have HB9 := Lib.hid hb49; clear ho9 hb9 hcells hb49)
            | (go_at_call 29; (with_reducible refine (HI1.out _ HB7.out).mono ?_); rintro e w8 ⟨A8, c8, rfl, ho8, hb8⟩; have HE8 := Lib.hid (ho8.elems Itm.clen); have HB78 := Lib.hid hb8; have HB8 := Lib.hid (below_next HB7.out hb8); clear ho8 hb8)
            | (go_at_call 31; (with_reducible refine (HKI.out _).mono ?_); rintro e w10 ⟨rfl, hb10⟩; have hbx := box_cells hb10; obtain ⟨q0, q1, q2, q3, q4, q5⟩ : w10.cell? ⟨w9.heap.size, 0, none⟩ = some (.int .i64 3) ∧ w10.cell? ⟨w9.heap.size, 1, none⟩ = some (.string key) ∧ w10.cell? ⟨w9.heap.size, 2, none⟩ = some (.string val) ∧ w10.cell? ⟨w9.heap.size, 3, none⟩ = some (.int .u64 n) ∧ w10.cell? ⟨w9.heap.size, 4, none⟩ = some (.string lo) ∧ w10.cell? ⟨w9.heap.size, 5, none⟩ = some (.string hi) := (by refine ⟨?_, ?_, ?_, ?_, ?_, ?_⟩ <;> (rw [Lib.cell_of_heap hbx]; rfl)); have hxl := lt_of_row hbx; have HX10 := Lib.hid hbx; have HB10 := Lib.hid (below_next (below_alloc HB9.out) hb10); have HB910 := Lib.hid (below_next (below_alloc (Below.refl _ w9)) hb10); clear hb10 hbx))
          have HKV := Lib.hid (And.intro hk hk)
          clear hk
          go_loopw [14, 11, 12, 13] (fun j c v h wr => ∃ (k : Nat) (put : ByteArray) (has : Bool), j = .int .i64 k ∧ k ≤ P.length ∧ c = .int .i64 (cntA key ((P.take k).eraseIdx i)) ∧ v = .string put ∧ h = .bool has ∧ PH key (P.take k) put has ∧ Below w10.heap.size w10 wr) (fun j _ _ _ _ => P.length + 1 - (intOf j).toNat)
          case atStart => exact ⟨0, ⟨#[]⟩, false, rfl, Nat.zero_le _, rfl, rfl, rfl, PH.nil _, Below.refl _ _⟩
          case round =>
            obtain ⟨k, put, has, rfl, hk2, rfl, rfl, rfl, hph, hbel⟩ := hrel
            by_cases hkl : k < P.length
            · have hkI : (k : Int) < (P.length : Int) := by omega
              obtain ⟨y, hy⟩ := get_lt hkl
              obtain ⟨_, hg, _, _, _, hcells⟩ := (HO4.out.below (below_next HB10.out hbel)).row ordLen hy
              cases hg
              have e0 := hcells 0 _ rfl
              have e1 := hcells 1 _ rfl
              have e2 := hcells 2 _ rfl
              have e3 := hcells 3 _ rfl
              have e4 := hcells 4 _ rfl
              have e5 := hcells 5 _ rfl
              simp only [Nat.add_zero] at e0
              have o1 : wr.cell? ⟨w9.heap.size, 1, none⟩ = some (.string key) := by rw [Lib.cell_of_heap (box_below HX10.out hbel)]; rfl
              have hxlr := World.block_lt_of_cell? _ _ o1
              have hcs := cnt_step (k := key) (i := i) hy
              have hts := take_snocR hy
              have hcl := cnt_le key ((P.take k).eraseIdx i)
              have hcl2 : ((P.take k).eraseIdx i).length ≤ 60 := by
                have h1 := List.length_eraseIdx_le (P.take k) i
                rw [List.length_take] at h1
                omega
              generalize cntA key ((P.take k).eraseIdx i) = cn at *
              have hwA : wrap64 ((cn : Int) + 1) = (cn : Int) + 1 := by unfold wrap64; omega
              have HPH := Lib.hid hph
              have HBEL := Lib.hid hbel
              have HCS := Lib.hid hcs
              have HTS := Lib.hid hts
              have HY := Lib.hid hy
              clear hph hbel hcs hts hy hcells hcl hcl2
              obtain ⟨yk, yy, yv, yn, ylo, yhi⟩ := y
              dsimp only at e0 e1 e2 e3 e4 e5
              have heq : (yy.toList == key.toList) = decide (yy = key) := eqBR
              have hvi := fun W => HVA.out yv W
              have HVI2 := Lib.hid hvi
              clear hvi
              by_cases hki : k = i
              · subst hki
                have hyo := HO.out
                rw [HY.out] at hyo
                simp only [Option.some.injEq, Ord.mk.injEq] at hyo
                obtain ⟨rfl, rfl, rfl, rfl, rfl, rfl⟩ := hyo
                rw [decide_eq_true rfl] at heq
                go_wp2
                go_quiet (fail)
                go_wp2
                go_quiet (fail)
                go_wp2
                refine ⟨⟨k + 1, put, has, by go_num, by omega, by rw [HCS.out]; simp, rfl, rfl, by rw [HTS.out]; exact HPH.out.other _ (by unfold isP; simp), (by repeat (first | exact HBEL.out | refine below_drewN ?_ _ | refine below_next ?_ hb13))⟩, ?_⟩
                simp [intOf]
                omega
              · have hne : ((k : Int) != (i : Int)) = true := by simp; omega
                by_cases hyk : yy = key
                · subst hyk
                  rw [decide_eq_true rfl] at heq
                  by_cases h3 : yk = 3
                  · subst h3
                    go_wp2
                    go_quiet (fail)
                    go_wp2
                    go_quiet (fail)
                    go_wp2
                    refine ⟨⟨k + 1, put, has, by go_num, by omega, by rw [HCS.out]; simp [hki, isA]; exact hwA, rfl, rfl, by rw [HTS.out]; exact HPH.out.other _ (by unfold isP; simp), (by repeat (first | exact HBEL.out | refine below_drewN ?_ _ | refine below_next ?_ hb13))⟩, ?_⟩
                    simp [intOf]
                    omega
                  · have f3 : (yk == 3) = false := by simp [h3]
                    by_cases h1 : yk = 1
                    · subst h1
                      go_wp2
                      go_quiet (fail)
                      go_wp2
                      go_quiet (fail)
                      go_wp2_with (go_at_call 32; (with_reducible refine (HVI2.out _).mono ?_); rintro e w13 ⟨rfl, hb13⟩)
                      refine ⟨⟨k + 1, yv, (isVal yv), by go_num, by omega, by rw [HCS.out]; simp [isA], rfl, rfl, by rw [HTS.out]; exact PH.put _ (by unfold isP; simp), (by repeat (first | exact HBEL.out | refine below_drewN ?_ _ | refine below_next ?_ hb13))⟩, ?_⟩
                      simp [intOf]
                      omega
                    · have f1 : (yk == 1) = false := by simp [h1]
                      go_wp2
                      go_quiet (fail)
                      go_wp2
                      go_quiet (fail)
                      go_wp2
                      refine ⟨⟨k + 1, put, has, by go_num, by omega, by rw [HCS.out]; simp [isA, h3], rfl, rfl, by rw [HTS.out]; exact HPH.out.other _ (by unfold isP; simp [h1]), (by repeat (first | exact HBEL.out | refine below_drewN ?_ _ | refine below_next ?_ hb13))⟩, ?_⟩
                      simp [intOf]
                      omega
                · rw [decide_eq_false hyk] at heq
                  go_wp2
                  go_quiet (fail)
                  go_wp2
                  go_quiet (fail)
                  go_wp2
                  refine ⟨⟨k + 1, put, has, by go_num, by omega, by rw [HCS.out]; simp [isA, hyk], rfl, rfl, by rw [HTS.out]; exact HPH.out.other _ (by unfold isP; simp [hyk]), (by repeat (first | exact HBEL.out | refine below_drewN ?_ _ | refine below_next ?_ hb13))⟩, ?_⟩
                  simp [intOf]
                  omega
            · obtain rfl : k = P.length := by omega
              rw [List.take_length] at hph
              rw [List.take_length]
              have hbase := PH.base HPP.out hph
              have hbx := box_below HX10.out hbel
              obtain ⟨s0, s1, s2, s3, s4, s5⟩ : wr.cell? ⟨w9.heap.size, 0, none⟩ = some (.int .i64 3) ∧ wr.cell? ⟨w9.heap.size, 1, none⟩ = some (.string key) ∧ wr.cell? ⟨w9.heap.size, 2, none⟩ = some (.string val) ∧ wr.cell? ⟨w9.heap.size, 3, none⟩ = some (.int .u64 n) ∧ wr.cell? ⟨w9.heap.size, 4, none⟩ = some (.string lo) ∧ wr.cell? ⟨w9.heap.size, 5, none⟩ = some (.string hi) := (by refine ⟨?_, ?_, ?_, ?_, ?_, ?_⟩ <;> (rw [Lib.cell_of_heap hbx]; rfl))
              have hxlr := World.block_lt_of_cell? _ _ s0
              have HBW := Lib.hid (below_next HB910.out hbel)
              have HBR := Lib.hid (below_next HB10.out hbel)
              have hiff := LA.out HKV.out.1 (by first | trivial | rfl)
              rw [hbase] at hiff
              generalize cntA key (P.eraseIdx i) = cn at *
              clear hph hbel hbx hbase
              cases has with
              | true =>
                rw [if_pos rfl] at hiff
                by_cases h8 : put.size = 8
                · have f8 : ((put.size : Int) != 8) = false := by simp; omega
                  by_cases hn0 : n = 0
                  · subst hn0
                    have hD : decide (I1 = I2) = true := decide_eq_true (hiff.2 (.inr ⟨.inl (fun h => by cases h), rfl⟩))
                    have hs := fun W A' c' A2 c2 h1 h2 => HSS.out W A' c' A2 c2 h1 h2
                    simp only [hD] at hs
                    have HS := Lib.hid hs
                    clear hs hD hiff h8
                    go_wp2_with (go_at_call 28; (with_reducible refine (HS.out _ _ _ _ _ (HE9.out.below HBW.out) (HO9.out.below HBW.out)).mono ?_); rintro e w14 ⟨rfl, hb14⟩)
                    go_ret
                    exact ⟨rfl, HB4.out.trans ((below_next HBR.out hb14).mono HB4.out.size)⟩
                  · have fn : (n == 0) = false := by simp [hn0]
                    have hD : decide (I1 = I2) = false := decide_eq_false (fun h => by rcases hiff.1 h with ⟨v, hv, h⟩ | ⟨_, h⟩; cases hv; exact h h8; exact hn0 h)
                    have hs := fun W A' c' A2 c2 h1 h2 => HSS.out W A' c' A2 c2 h1 h2
                    simp only [hD] at hs
                    have HS := Lib.hid hs
                    clear hs hD hiff h8 hn0
                    go_wp2_with (go_at_call 28; (with_reducible refine (HS.out _ _ _ _ _ (HE9.out.below HBW.out) (HO9.out.below HBW.out)).mono ?_); rintro e w14 ⟨rfl, hb14⟩)
                    go_ret
                    exact ⟨rfl, HB4.out.trans ((below_next HBR.out hb14).mono HB4.out.size)⟩
                · have f8 : ((put.size : Int) != 8) = true := by simp; omega
                  have hD : decide (I1 = I2) = true := decide_eq_true (hiff.2 (.inl ⟨put, rfl, h8⟩))
                  have hs := fun W A' c' A2 c2 h1 h2 => HSS.out W A' c' A2 c2 h1 h2
                  simp only [hD] at hs
                  have HS := Lib.hid hs
                  clear hs hD hiff h8
                  go_wp2_with (go_at_call 28; (with_reducible refine (HS.out _ _ _ _ _ (HE9.out.below HBW.out) (HO9.out.below HBW.out)).mono ?_); rintro e w14 ⟨rfl, hb14⟩)
                  go_ret
                  exact ⟨rfl, HB4.out.trans ((below_next HBR.out hb14).mono HB4.out.size)⟩
              | false =>
                rw [if_neg (by decide)] at hiff
                by_cases hc : 0 < cn
                · have hcI : (0 : Int) < (cn : Int) := by omega
                  by_cases hn0 : n = 0
                  · subst hn0
                    have hD : decide (I1 = I2) = true := decide_eq_true (hiff.2 (.inr ⟨.inr hc, rfl⟩))
                    have hs := fun W A' c' A2 c2 h1 h2 => HSS.out W A' c' A2 c2 h1 h2
                    simp only [hD] at hs
                    have HS := Lib.hid hs
                    clear hs hD hiff hc
                    go_wp2_with (go_at_call 28; (with_reducible refine (HS.out _ _ _ _ _ (HE9.out.below HBW.out) (HO9.out.below HBW.out)).mono ?_); rintro e w14 ⟨rfl, hb14⟩)
                    go_ret
                    exact ⟨rfl, HB4.out.trans ((below_next HBR.out hb14).mono HB4.out.size)⟩
                  · have fn : (n == 0) = false := by simp [hn0]
                    have hD : decide (I1 = I2) = false := decide_eq_false (fun h => by rcases hiff.1 h with ⟨v, hv, h⟩ | ⟨_, h⟩; cases hv; exact hn0 h)
                    have hs := fun W A' c' A2 c2 h1 h2 => HSS.out W A' c' A2 c2 h1 h2
                    simp only [hD] at hs
                    have HS := Lib.hid hs
                    clear hs hD hiff hc hn0
                    go_wp2_with (go_at_call 28; (with_reducible refine (HS.out _ _ _ _ _ (HE9.out.below HBW.out) (HO9.out.below HBW.out)).mono ?_); rintro e w14 ⟨rfl, hb14⟩)
                    go_ret
                    exact ⟨rfl, HB4.out.trans ((below_next HBR.out hb14).mono HB4.out.size)⟩
                · obtain rfl : cn = 0 := by omega
                  have e0 : ((0 : Nat) : Int) = 0 := rfl
                  rw [e0]
                  clear e0
                  have hD : decide (I1 = I2) = false := decide_eq_false (fun h => by rcases hiff.1 h with ⟨v, hv, h⟩ | ⟨h, _⟩; cases hv; rcases h with h | h; exact h rfl; exact hc h)
                  have hs := fun W A' c' A2 c2 h1 h2 => HSS.out W A' c' A2 c2 h1 h2
                  simp only [hD] at hs
                  have HS := Lib.hid hs
                  clear hs hD hiff hc
                  go_wp2_with (go_at_call 28; (with_reducible refine (HS.out _ _ _ _ _ (HE9.out.below HBW.out) (HO9.out.below HBW.out)).mono ?_); rintro e w14 ⟨rfl, hb14⟩)
                  go_ret
                  exact ⟨rfl, HB4.out.trans ((below_next HBR.out hb14).mono HB4.out.size)⟩
end Go.Proofs.YtdfgdnaejnngoaaGreat
namespace Go.Proofs.YtdfgdnaejnngoaaGreat
open Go.ChangeShapes Go.WideShapes Go.ChangeAt Go.RowKit Go.Deep
/-! What comes in: rows. -/

theorem own : ownKnob Tryz.prog.godebug = none := by kernel_rfl
theorem laidOut : laidOutB Tryz.prog = true := by kernel_rfl
theorem add_none (b off n : Nat) : (⟨b, off, none⟩ : Addr).add n = ⟨b, off + n, none⟩ := by unfold Addr.add; split <;> simp_all
theorem cell_lt {w : World} {a : Addr} {v : Value} (h : w.cell? a = some v) : a.block < w.heap.size := by
  rcases Nat.lt_or_ge a.block w.heap.size with hl | hl
  · exact hl
  · exfalso
    rw [World.cell?] at h
    simp [Array.getElem?_eq_none hl] at h
theorem list_of {α : Type} {P : Nat → α → Prop} : ∀ n : Nat, (∀ i, i < n → ∃ a, P i a) → ∃ l : List α, l.length = n ∧ ∀ i a, l[i]? = some a → P i a
  | 0, _ => ⟨[], rfl, fun i a h => by simp at h⟩
  | n + 1, h => by
    obtain ⟨l, hl, hp⟩ := list_of n (fun i hi => h i (by omega))
    obtain ⟨a, ha⟩ := h n (by omega)
    refine ⟨l ++ [a], by simp [hl], fun i b hb => ?_⟩
    rcases Nat.lt_or_ge i l.length with hi | hi
    · rw [List.getElem?_append_left hi] at hb
      exact hp i b hb
    · rw [List.getElem?_append_right hi] at hb
      have e : i - l.length = 0 := by
        have := (List.getElem?_eq_some_iff.1 hb).1
        simp at this
        omega
      rw [e] at hb
      simp at hb
      subst hb
      obtain rfl : i = n := by omega
      exact ha
section
variable {H : Type} {enc : TypeId × Value → H} {w : World} {base : Nat} {sp : Nat → Bool} {held : Bool}
set_option maxRecDepth 100000 in
/-- an argument that is a row -/
theorem rows_in {α : Type} {T e : TypeId} {k : Nat} (f : α → List Value) (Q : α → Prop) (hs : Tryz.prog.underlying T = some (.slice e)) (hk : Tryz.prog.cellsOf e = k) (h0 : 0 < k) (hlen : ∀ a, (f a).length = k)
    (hread : ∀ (fuel : Nat) (cs : List Value) (x : DataW H × List MemPlace), DataW.trod enc Tryz.prog w base sp held fuel e cs = some x → ∃ a, cs = f a ∧ Q a)
    {r : Reach} {b0 : Nat} {v : Value} {d : DataW H} {p : List MemPlace} (hv : Value.okWide Tryz.prog w r b0 T v) (h : DataW.Trod enc Tryz.prog w base sp held T v d p) :
    ∃ (A : Option Addr) (cap : Nat) (l : List α), v = .slice A l.length cap ∧ Elems w A k (l.map f) ∧ ∀ a ∈ l, Q a := by
  obtain ⟨A, len, cap, rfl⟩ := okWide_slice hs hv
  obtain ⟨fuel, hf⟩ := h
  rcases open_slice hs hf with ⟨hc, _⟩ | ⟨ad, len', cap', m, n, D, Pl, hc, _, hlc, _, hm, _, hat⟩
  · simp [Value.cells] at hc
    obtain ⟨rfl, rfl, rfl⟩ := hc
    exact ⟨none, 0, [], rfl, Elems.nil _ _ _, by simp⟩
  · simp [Value.cells] at hc
    obtain ⟨rfl, rfl, rfl⟩ := hc
    have hle : len ≤ m := by rw [hm]; split <;> omega
    obtain ⟨l, hl, hp⟩ := list_of (P := fun i (a : α) => (∀ j u, (f a)[j]? = some u → w.cell? (ad.add (i * k + j)) = some u) ∧ Q a) len (fun i hi => by
      obtain ⟨cs, hcs, htr⟩ := hat i (by omega)
      obtain ⟨a, rfl, hq⟩ := hread n cs _ htr
      obtain ⟨_, hcl, hcell⟩ := World.cells?_some hcs
      refine ⟨a, fun j u hu => ?_, hq⟩
      have hj := (List.getElem?_eq_some_iff.1 hu).1
      have := hcell j (by rw [← hcl]; exact hj)
      rw [add_add, hk] at this
      rw [this, hu])
    refine ⟨some ad, cap, l, by rw [hl], ?_, fun a ha => ?_⟩
    · intro i r hr
      rw [List.getElem?_map, Option.map_eq_some_iff] at hr
      obtain ⟨a, ha, rfl⟩ := hr
      have hi := (hp i a ha).1
      have hz := hi 0 _ (List.getElem?_eq_getElem (by rw [hlen]; exact h0))
      have hl0 : 0 < l.length := by have := (List.getElem?_eq_some_iff.1 ha).1; omega
      have hz0 := (hp 0 l[0] (List.getElem?_eq_getElem hl0)).1 0 _ (List.getElem?_eq_getElem (by rw [hlen]; exact h0))
      have hsp : ad.spot = none := by simpa [Addr.add] using World.cell?_spot hz0
      obtain ⟨b, off, spot⟩ := ad
      obtain rfl : spot = none := hsp
      refine ⟨b, off, rfl, ?_, fun j u hu => ?_⟩
      · have := cell_lt hz
        rw [add_none] at this
        exact this
      · have := hi j u hu
        rw [add_none, ← Nat.add_assoc] at this
        exact this
    · obtain ⟨i, hi⟩ := List.getElem?_of_mem ha
      exact (hp i a hi).2
end
end Go.Proofs.YtdfgdnaejnngoaaGreat
namespace Go.Proofs.YtdfgdnaejnngoaaGreat
open Go.ChangeShapes Go.WideShapes Go.ChangeAt Go.RowKit Go.Deep
/-! What comes in: orders. -/
def Ord.fits (o : Ord) : Prop := 0 ≤ o.n ∧ o.n.toNat < 18446744073709551616
theorem list_six {α : Type} {l : List α} (h : l.length = 6) : ∃ a b c d e f, l = [a, b, c, d, e, f] := by
  match l, h with
  | [a, b, c, d, e, f], _ => exact ⟨a, b, c, d, e, f, rfl⟩
theorem fits_of {n : Int} (h : (Lit.int .u64 n).wf = true) : 0 ≤ n ∧ n.toNat < 18446744073709551616 := by
  simp [Lit.wf, IntKind.min, IntKind.max, IntKind.signed, IntKind.bits] at h
  omega
theorem ord_type : ∃ fs : Array Field, Tryz.prog.underlying 39 = some (.struct fs) ∧ oneCellFields Tryz.prog fs = true ∧ fs.size = 6 ∧ fs[0]?.map (·.type) = some 3 ∧ fs[1]?.map (·.type) = some 9 ∧ fs[2]?.map (·.type) = some 9 ∧ fs[3]?.map (·.type) = some 37 ∧ fs[4]?.map (·.type) = some 9 ∧ fs[5]?.map (·.type) = some 9 :=
  ⟨_, Tryz.underlying39, by kernel_rfl, by kernel_rfl, by kernel_rfl, by kernel_rfl, by kernel_rfl, by kernel_rfl, by kernel_rfl, by kernel_rfl⟩
theorem ord_cells_of : Tryz.prog.cellsOf 39 = 6 := by kernel_rfl
section
variable {H : Type} {enc : TypeId × Value → H} {w : World} {base : Nat} {sp : Nat → Bool} {held : Bool}
/-- cells that read as an order are an order's -/
theorem ord_cells {fuel : Nat} {cs : List Value} {x : DataW H × List MemPlace} (h : DataW.trod enc Tryz.prog w base sp held fuel 39 cs = some x) : ∃ o : Ord, cs = o.cells ∧ o.fits := by
  obtain ⟨fs, hs, hone, hsz, t0, t1, t2, t3, t4, t5⟩ := ord_type
  obtain ⟨xs, n, _, _, hl, hx, hf⟩ := DataW.trod_struct hs h
  obtain ⟨c0, c1, c2, c3, c4, c5, rfl⟩ := list_six (hl.trans ord_cells_of)
  obtain ⟨x0, x1, x2, x3, x4, x5, rfl⟩ := list_six (hx.trans hsz)
  obtain ⟨g0, m0, u0⟩ := Option.map_eq_some_iff.1 t0
  obtain ⟨o0, k0⟩ := hone_of hone 0 g0 m0
  have f0 := hf 0 g0 m0
  rw [o0, k0, u0] at f0
  have f0 : DataW.trod enc Tryz.prog w base sp held n 3 [c0] = some x0 := f0
  obtain ⟨g1, m1, u1⟩ := Option.map_eq_some_iff.1 t1
  obtain ⟨o1, k1⟩ := hone_of hone 1 g1 m1
  have f1 := hf 1 g1 m1
  rw [o1, k1, u1] at f1
  have f1 : DataW.trod enc Tryz.prog w base sp held n 9 [c1] = some x1 := f1
  obtain ⟨g2, m2, u2⟩ := Option.map_eq_some_iff.1 t2
  obtain ⟨o2, k2⟩ := hone_of hone 2 g2 m2
  have f2 := hf 2 g2 m2
  rw [o2, k2, u2] at f2
  have f2 : DataW.trod enc Tryz.prog w base sp held n 9 [c2] = some x2 := f2
  obtain ⟨g3, m3, u3⟩ := Option.map_eq_some_iff.1 t3
  obtain ⟨o3, k3⟩ := hone_of hone 3 g3 m3
  have f3 := hf 3 g3 m3
  rw [o3, k3, u3] at f3
  have f3 : DataW.trod enc Tryz.prog w base sp held n 37 [c3] = some x3 := f3
  obtain ⟨g4, m4, u4⟩ := Option.map_eq_some_iff.1 t4
  obtain ⟨o4, k4⟩ := hone_of hone 4 g4 m4
  have f4 := hf 4 g4 m4
  rw [o4, k4, u4] at f4
  have f4 : DataW.trod enc Tryz.prog w base sp held n 9 [c4] = some x4 := f4
  obtain ⟨g5, m5, u5⟩ := Option.map_eq_some_iff.1 t5
  obtain ⟨o5, k5⟩ := hone_of hone 5 g5 m5
  have f5 := hf 5 g5 m5
  rw [o5, k5, u5] at f5
  have f5 : DataW.trod enc Tryz.prog w base sp held n 9 [c5] = some x5 := f5
  obtain ⟨k, h0, _, _⟩ := DataW.trod_int Tryz.underlying3 f0
  obtain ⟨s1, h1, _, _⟩ := DataW.trod_string Tryz.underlying9 f1
  obtain ⟨s2, h2, _, _⟩ := DataW.trod_string Tryz.underlying9 f2
  obtain ⟨n3, h3, _, hw⟩ := DataW.trod_int Tryz.underlying37 f3
  obtain ⟨s4, h4, _, _⟩ := DataW.trod_string Tryz.underlying9 f4
  obtain ⟨s5, h5, _, _⟩ := DataW.trod_string Tryz.underlying9 f5
  simp only [List.cons.injEq, and_true] at h0 h1 h2 h3 h4 h5
  subst h0 h1 h2 h3 h4 h5
  exact ⟨⟨k, s1, s2, n3, s4, s5⟩, by rw [Ord.cells_def], fits_of hw⟩
set_option maxRecDepth 100000 in
/-- an argument that is an order -/
theorem ord_in {r : Reach} {b0 : Nat} {v : Value} {d : DataW H} {p : List MemPlace} (hv : Value.okWide Tryz.prog w r b0 39 v) (h : DataW.Trod enc Tryz.prog w base sp held 39 v d p) : ∃ o : Ord, v = o.v ∧ o.fits := by
  obtain ⟨fs, hs, _⟩ := ord_type
  obtain ⟨cs, rfl, _⟩ := okWide_struct hs hv
  obtain ⟨fuel, hf⟩ := h
  obtain ⟨o, ho, hfit⟩ := ord_cells hf
  refine ⟨o, ?_, hfit⟩
  simp only [Value.cells] at ho
  obtain ⟨l⟩ := cs
  simp only at ho
  rw [ho, Ord.cells_def, Ord.v_def]
set_option maxRecDepth 100000 in
theorem ords_in {r : Reach} {b0 : Nat} {v : Value} {d : DataW H} {p : List MemPlace} (hv : Value.okWide Tryz.prog w r b0 47 v) (h : DataW.Trod enc Tryz.prog w base sp held 47 v d p) :
    ∃ (A : Option Addr) (cap : Nat) (l : List Ord), v = .slice A l.length cap ∧ Elems w A 6 (l.map Ord.cells) ∧ ∀ o ∈ l, o.fits :=
  rows_in Ord.cells Ord.fits Tryz.underlying47 (by kernel_rfl) (by decide) (fun _ => rfl) (fun _ _ _ h => ord_cells h) hv h
end
end Go.Proofs.YtdfgdnaejnngoaaGreat
