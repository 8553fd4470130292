import Derived.Test.YtdfgdnaejnngoaaGreatJx13
set_option linter.unusedVariables false
set_option linter.unusedSimpArgs false
namespace Go.Proofs.YtdfgdnaejnngoaaGreat
open Go.RowKit
/-! grangerlaw26.ModelExact. -/
theorem an_nopair (a : An) (A : Option Addr) (c : Nat) : ∀ i x y, (a.cells A c)[i]? = some (.string x) → (a.cells A c)[i + 1]? = some (.string y) → False := by
  intro i x y h1 h2
  rcases i with _ | _ | _ | _ | _ | _ | _ | _ | _ | _ | _ | _ | _ | i <;> simp [An.cells] at h1 h2
theorem act_all (kd kind : Int) (key val : ByteArray) (n : Int) (lo hi : ByteArray) (err : Int) (has : Bool) (aval : ByteArray) (A1 : Option Addr) (l1 c1 : Nat) (s0 s1 s2 s3 s4 s5 s6 s7 s8 at_ : Int) (A2 : Option Addr) (l2 c2 : Nat) : ([.int .i64 kd, .int .i64 kind, .string key, .string val, .int .u64 n, .string lo, .string hi, .int .i64 err, .bool has, .string aval, .slice A1 l1 c1, .int .i64 s0, .int .i64 s1, .int .i64 s2, .int .i64 s3, .int .i64 s4, .int .i64 s5, .int .i64 s6, .int .i64 s7, .int .i64 s8, .int .i64 at_, .slice A2 l2 c2] : List Value).all (·.oneCell') = true := rfl
set_option maxHeartbeats 20000000 in
set_option maxRecDepth 100000 in
theorem exact26_any (at0 : Int) (A : Option Addr) (cap : Nat) (xs : List Ac) (w : World) (hel : Elems w A 22 (xs.map Ac.cells)) (hgd : ∀ x ∈ xs, x.good w) :
    Calls Tryz.prog 8 #[.int .i64 at0, .slice A xs.length cap] w fun e w' => e = .returned (.bool true) ∧ Below w.heap.size w w' := by
  have haw := fun W => awake26_any W
  obtain ⟨k, hk, hK⟩ := at_mod at0 448 (by decide)
  rw [show (((448 : Nat) : Int) + 1) = 449 from rfl] at hK
  have hw1 : wrap64 (64 + (k : Int)) = 64 + (k : Int) := by unfold wrap64; omega
  have HAW := Lib.hid haw
  have HEL := Lib.hid hel
  have HGD := Lib.hid hgd
  clear haw hel hgd
  by_cases hl100 : (100 : Int) < (xs.length : Int)
  · clear hw1 hK
    go_enter Tryz.func8, Tryz.ntmps8
    go_wp2_with (go_at_call 10; (with_reducible refine (HAW.out _).mono ?_); rintro e w1 ⟨rfl, hb1⟩; have HB1 := Lib.hid hb1; clear hb1)
    go_ret
    exact ⟨rfl, HB1.out⟩
  · generalize hNN : (64 : Int) + (k : Int) = N at *
    have hbg := fun W => begun_ok N W (by omega) (by omega)
    rw [planA_def] at hbg
    have hnw := fun W => refNew_any (pCap N) W
    have HBG := Lib.hid hbg
    have HNW := Lib.hid hnw
    have HAZ := Lib.hid ans_size
    have HOZ := Lib.hid ord_size
    have HXZ := Lib.hid act_size
    clear hbg hnw
    go_enter Tryz.func8, Tryz.ntmps8
    go_wp2_with (first
      | (go_at_call 10; (with_reducible refine (HAW.out _).mono ?_); rintro e w1 ⟨rfl, hb1⟩; have HB1 := Lib.hid hb1; clear hb1)
      | (go_at_call 11; (with_reducible refine (HBG.out _).mono ?_); rintro e w2 ⟨bm, g2, rfl, hm2, hbm2, hg2, hb2⟩; have HM2 := Lib.hid hm2; have HBM2 := Lib.hid hbm2; have HG2 := Lib.hid hg2; have HB2 := Lib.hid (below_next HB1.out hb2); clear hm2 hbm2 hg2 hb2)
      | (go_at_call 33; (with_reducible refine (HNW.out _).mono ?_); rintro e w3 ⟨bu, rfl, hr3, hbu3, hb3⟩; have HR3 := Lib.hid hr3; have HBU3 := Lib.hid hbu3; have HM3 := Lib.hid ((HM2.out.below (below_alloc (Below.refl _ w2))).below hb3); have HB3 := Lib.hid (below_next (below_alloc HB2.out) hb3); clear hr3 hbu3 hb3))
    clear hw1 hK hNN hk
    have HBM := Lib.hid (show w.heap.size ≤ bm from Nat.le_trans HB1.out.size HBM2.out)
    have hgg : w.heap.size ≤ g2 := Nat.le_trans HB1.out.size HG2.out
    have HBU := Lib.hid (show w.heap.size ≤ bu from Nat.le_trans (below_alloc HB2.out).size HBU3.out)
    have hxl : xs.length ≤ 100 := by omega
    go_loopw [8, 9, 10, 11, 12, 13] (fun i _ _ _ _ _ wr => ∃ (k g : Nat) (ls : List (List Itm)) (l : List Itm), i = .int .i64 k ∧ k ≤ xs.length ∧ ModelAt wr bm g N ls ∧ RefAt wr bu (pCap N) ls ∧ w.heap.size ≤ g ∧ ls[ls.length - 1]? = some l ∧ ls.length ≤ k + 1 ∧ (∀ x ∈ ls, x.length ≤ k) ∧ Below w.heap.size w wr) (fun i _ _ _ _ _ _ => xs.length + 1 - (intOf i).toNat)
    case atStart => exact ⟨0, g2, [[]], [], rfl, Nat.zero_le _, HM3.out, HR3.out, hgg, rfl, Nat.le_refl _, by simp, HB3.out⟩
    case round =>
      obtain ⟨k, g, ls, l, rfl, hk, hmo, hrf, hg, hlast, hlsl, hlb, hbel⟩ := hrel
      by_cases hkl : k < xs.length
      · have hkI : (k : Int) < (xs.length : Int) := by omega
        obtain ⟨x, hx⟩ := get_lt hkl
        obtain ⟨b, off, rfl, hblt, hrng⟩ := act_row (HEL.out.below hbel) hx
        obtain ⟨hel1, hel2, n0, n1⟩ := HGD.out x (List.mem_of_getElem? hx)
        obtain ⟨hri, hok⟩ := model_rows hmo (List.mem_of_getElem? hlast)
        have hll := hlb l (List.mem_of_getElem? hlast)
        have hrb := rows_bound (c := pCap N) (o := x.o) hri hlast hlb
        obtain ⟨l', hl', _, hR2, _⟩ := rowsO_last (c := pCap N) (o := x.o) hri hlast
        have hlo := fun W => long_any x.o W
        obtain ⟨lb, hlbb⟩ : ∃ lb, longB x.o = lb := ⟨_, rfl⟩
        rw [hlbb] at hlo
        rw [Ord.v_def] at hlo
        have HRNG := Lib.hid hrng
        have HMO := Lib.hid hmo
        have HRF := Lib.hid hrf
        have HBE := Lib.hid hbel
        have HLO := Lib.hid hlo
        have HLAST := Lib.hid hlast
        have HLB := Lib.hid hlb
        have HRB := Lib.hid hrb
        have HL' := Lib.hid hl'
        have HRI := Lib.hid hri
        have HOK := Lib.hid hok
        have HE1 := Lib.hid hel1
        have HE2 := Lib.hid hel2
        have hbml := hmo.lt
        have hgl := hmo.glt
        have hbul := hrf.lt
        have HS9 := Lib.hid hbel.size
        clear hrng hmo hrf hbel hlo hlast hlb hrb hl' hri hok hel1 hel2 hlbb hx
        obtain ⟨kd, ⟨kind, key, val, n, lo, hi⟩, ⟨err, has, aval, aits, ⟨y0, y1, y2, y3, y4, y5, y6, y7, y8⟩⟩, A1, c1, at_, its, A2, c2⟩ := x
        dsimp only at HRNG HLO HRB HL' HE1 HE2 n0 n1 hR2
        cases lb with
        | true =>
          go_wp2_with (first
            | (refine wpList_load_mid rfl 71 (Operand.tmp 39) rfl b (off + k * 22) rfl [.int .i64 kd, .int .i64 kind, .string key, .string val, .int .u64 n, .string lo, .string hi, .int .i64 err, .bool has, .string aval, .slice A1 aits.length c1, .int .i64 y0, .int .i64 y1, .int .i64 y2, .int .i64 y3, .int .i64 y4, .int .i64 y5, .int .i64 y6, .int .i64 y7, .int .i64 y8, .int .i64 at_, .slice A2 its.length c2] _ HRNG.out Tryz.underlying71 rfl HXZ.out ?_)
            | (refine wpList_store_row rfl 71 (Operand.tmp 9) (Operand.tmp 40) rfl wr.heap.size _ [.int .i64 kd, .int .i64 kind, .string key, .string val, .int .u64 n, .string lo, .string hi, .int .i64 err, .bool has, .string aval, .slice A1 aits.length c1, .int .i64 y0, .int .i64 y1, .int .i64 y2, .int .i64 y3, .int .i64 y4, .int .i64 y5, .int .i64 y6, .int .i64 y7, .int .i64 y8, .int .i64 at_, .slice A2 its.length c2] _ rfl rfl (heap_alloc_new wr _) rfl HXZ.out (act_all _ _ _ _ _ _ _ _ _ _ _ _ _ _ _ _ _ _ _ _ _ _ _ _ _ _) ?_; intro w3 hr3 hf3; generalize hs9 : wr.heap.size = s9 at hr3 hf3; have hb03 : Below wr.heap.size wr w3 := (below_alloc (Below.refl _ wr)).trans (hf3.to_below (below_alloc (Below.refl _ wr)).size (fun i hi e => by omega)); have HX3 := Lib.hid hr3; have HB03 := Lib.hid hb03; have HS := Lib.hid hs9; clear hr3 hf3 hb03)
            | (refine wpList_load_mid rfl 39 (Operand.tmp 41) rfl s9 1 rfl ([.int .i64 kind, .string key, .string val, .int .u64 n, .string lo, .string hi]) _ (row_part (pre := [.int .i64 kd]) HX3.out) Tryz.underlying39 rfl HOZ.out ?_)
            | (go_at_call 16; (with_reducible refine (HLO.out _).mono ?_); rintro e w4 ⟨rfl, hb4⟩; have HB4 := Lib.hid (below_next (below_next HBE.out HB03.out) hb4); clear hb4))
          go_ret
          exact ⟨rfl, HB4.out⟩
        | false =>
          by_cases h50 : (50 : Int) < (its.length : Int) ∨ (50 : Int) < (aits.length : Int)
          · have h50' : ((50 : Int) < (its.length : Int)) ∨ (¬ (50 : Int) < (its.length : Int) ∧ (50 : Int) < (aits.length : Int)) := by omega
            clear h50
            rcases h50' with h50a | ⟨h50a, h50b⟩
            all_goals
              go_wp2_with (first
                | (refine wpList_load_mid rfl 71 (Operand.tmp 39) rfl b (off + k * 22) rfl [.int .i64 kd, .int .i64 kind, .string key, .string val, .int .u64 n, .string lo, .string hi, .int .i64 err, .bool has, .string aval, .slice A1 aits.length c1, .int .i64 y0, .int .i64 y1, .int .i64 y2, .int .i64 y3, .int .i64 y4, .int .i64 y5, .int .i64 y6, .int .i64 y7, .int .i64 y8, .int .i64 at_, .slice A2 its.length c2] _ HRNG.out Tryz.underlying71 rfl HXZ.out ?_)
                | (refine wpList_store_row rfl 71 (Operand.tmp 9) (Operand.tmp 40) rfl wr.heap.size _ [.int .i64 kd, .int .i64 kind, .string key, .string val, .int .u64 n, .string lo, .string hi, .int .i64 err, .bool has, .string aval, .slice A1 aits.length c1, .int .i64 y0, .int .i64 y1, .int .i64 y2, .int .i64 y3, .int .i64 y4, .int .i64 y5, .int .i64 y6, .int .i64 y7, .int .i64 y8, .int .i64 at_, .slice A2 its.length c2] _ rfl rfl (heap_alloc_new wr _) rfl HXZ.out (act_all _ _ _ _ _ _ _ _ _ _ _ _ _ _ _ _ _ _ _ _ _ _ _ _ _ _) ?_; intro w3 hr3 hf3; generalize hs9 : wr.heap.size = s9 at hr3 hf3; have hb03 : Below wr.heap.size wr w3 := (below_alloc (Below.refl _ wr)).trans (hf3.to_below (below_alloc (Below.refl _ wr)).size (fun i hi e => by omega)); have HX3 := Lib.hid hr3; have HB03 := Lib.hid hb03; have HS := Lib.hid hs9; clear hr3 hf3 hb03)
                | (refine wpList_load_mid rfl 39 (Operand.tmp 41) rfl s9 1 rfl ([.int .i64 kind, .string key, .string val, .int .u64 n, .string lo, .string hi]) _ (row_part (pre := [.int .i64 kd]) HX3.out) Tryz.underlying39 rfl HOZ.out ?_)
                | (go_at_call 16; (with_reducible refine (HLO.out _).mono ?_); rintro e w4 ⟨rfl, hb4⟩; have hx4 : w4.heap[s9]? = some (.cells #[.int .i64 kd, .int .i64 kind, .string key, .string val, .int .u64 n, .string lo, .string hi, .int .i64 err, .bool has, .string aval, .slice A1 aits.length c1, .int .i64 y0, .int .i64 y1, .int .i64 y2, .int .i64 y3, .int .i64 y4, .int .i64 y5, .int .i64 y6, .int .i64 y7, .int .i64 y8, .int .i64 at_, .slice A2 its.length c2] 71 (0, 0)) := box_below HX3.out hb4; obtain ⟨z0, z1, z2, z3, z4, z5, z6, z7, z8, z9, z10, z11, z12, z13, z14, z15, z16, z17, z18, z19, z20, z21⟩ : w4.cell? ⟨s9, 0, none⟩ = some (.int .i64 kd) ∧ w4.cell? ⟨s9, 1, none⟩ = some (.int .i64 kind) ∧ w4.cell? ⟨s9, 2, none⟩ = some (.string key) ∧ w4.cell? ⟨s9, 3, none⟩ = some (.string val) ∧ w4.cell? ⟨s9, 4, none⟩ = some (.int .u64 n) ∧ w4.cell? ⟨s9, 5, none⟩ = some (.string lo) ∧ w4.cell? ⟨s9, 6, none⟩ = some (.string hi) ∧ w4.cell? ⟨s9, 7, none⟩ = some (.int .i64 err) ∧ w4.cell? ⟨s9, 8, none⟩ = some (.bool has) ∧ w4.cell? ⟨s9, 9, none⟩ = some (.string aval) ∧ w4.cell? ⟨s9, 10, none⟩ = some (.slice A1 aits.length c1) ∧ w4.cell? ⟨s9, 11, none⟩ = some (.int .i64 y0) ∧ w4.cell? ⟨s9, 12, none⟩ = some (.int .i64 y1) ∧ w4.cell? ⟨s9, 13, none⟩ = some (.int .i64 y2) ∧ w4.cell? ⟨s9, 14, none⟩ = some (.int .i64 y3) ∧ w4.cell? ⟨s9, 15, none⟩ = some (.int .i64 y4) ∧ w4.cell? ⟨s9, 16, none⟩ = some (.int .i64 y5) ∧ w4.cell? ⟨s9, 17, none⟩ = some (.int .i64 y6) ∧ w4.cell? ⟨s9, 18, none⟩ = some (.int .i64 y7) ∧ w4.cell? ⟨s9, 19, none⟩ = some (.int .i64 y8) ∧ w4.cell? ⟨s9, 20, none⟩ = some (.int .i64 at_) ∧ w4.cell? ⟨s9, 21, none⟩ = some (.slice A2 its.length c2) := (by have hh := hx4; refine ⟨?_, ?_, ?_, ?_, ?_, ?_, ?_, ?_, ?_, ?_, ?_, ?_, ?_, ?_, ?_, ?_, ?_, ?_, ?_, ?_, ?_, ?_⟩ <;> (rw [Lib.cell_of_heap hh]; rfl)); have hzl := lt_of_row hx4; have HX4 := Lib.hid hx4; have HB4 := Lib.hid (below_next (below_next HBE.out HB03.out) hb4); have HB04 := Lib.hid (below_next HB03.out hb4); clear hb4 hx4))
              go_ret
              exact ⟨rfl, HB4.out⟩
          · have h50a : ¬ (50 : Int) < (its.length : Int) := fun h => h50 (.inl h)
            have h50b : ¬ (50 : Int) < (aits.length : Int) := fun h => h50 (.inr h)
            clear h50
            by_cases hk3 : kd = 3
            · as_aux_lemma =>
                subst hk3
                go_wp2_with (first
                  | (refine wpList_load_mid rfl 71 (Operand.tmp 39) rfl b (off + k * 22) rfl [.int .i64 3, .int .i64 kind, .string key, .string val, .int .u64 n, .string lo, .string hi, .int .i64 err, .bool has, .string aval, .slice A1 aits.length c1, .int .i64 y0, .int .i64 y1, .int .i64 y2, .int .i64 y3, .int .i64 y4, .int .i64 y5, .int .i64 y6, .int .i64 y7, .int .i64 y8, .int .i64 at_, .slice A2 its.length c2] _ HRNG.out Tryz.underlying71 rfl HXZ.out ?_)
                  | (refine wpList_store_row rfl 71 (Operand.tmp 9) (Operand.tmp 40) rfl wr.heap.size _ [.int .i64 3, .int .i64 kind, .string key, .string val, .int .u64 n, .string lo, .string hi, .int .i64 err, .bool has, .string aval, .slice A1 aits.length c1, .int .i64 y0, .int .i64 y1, .int .i64 y2, .int .i64 y3, .int .i64 y4, .int .i64 y5, .int .i64 y6, .int .i64 y7, .int .i64 y8, .int .i64 at_, .slice A2 its.length c2] _ rfl rfl (heap_alloc_new wr _) rfl HXZ.out (act_all _ _ _ _ _ _ _ _ _ _ _ _ _ _ _ _ _ _ _ _ _ _ _ _ _ _) ?_; intro w3 hr3 hf3; generalize hs9 : wr.heap.size = s9 at hr3 hf3; have hb03 : Below wr.heap.size wr w3 := (below_alloc (Below.refl _ wr)).trans (hf3.to_below (below_alloc (Below.refl _ wr)).size (fun i hi e => by omega)); have HX3 := Lib.hid hr3; have HB03 := Lib.hid hb03; have HS := Lib.hid hs9; clear hr3 hf3 hb03)
                  | (refine wpList_load_mid rfl 39 (Operand.tmp 41) rfl s9 1 rfl ([.int .i64 kind, .string key, .string val, .int .u64 n, .string lo, .string hi]) _ (row_part (pre := [.int .i64 3]) HX3.out) Tryz.underlying39 rfl HOZ.out ?_)
                  | (go_at_call 16; (with_reducible refine (HLO.out _).mono ?_); rintro e w4 ⟨rfl, hb4⟩; have hx4 : w4.heap[s9]? = some (.cells #[.int .i64 3, .int .i64 kind, .string key, .string val, .int .u64 n, .string lo, .string hi, .int .i64 err, .bool has, .string aval, .slice A1 aits.length c1, .int .i64 y0, .int .i64 y1, .int .i64 y2, .int .i64 y3, .int .i64 y4, .int .i64 y5, .int .i64 y6, .int .i64 y7, .int .i64 y8, .int .i64 at_, .slice A2 its.length c2] 71 (0, 0)) := box_below HX3.out hb4; obtain ⟨z0, z1, z2, z3, z4, z5, z6, z7, z8, z9, z10, z11, z12, z13, z14, z15, z16, z17, z18, z19, z20, z21⟩ : w4.cell? ⟨s9, 0, none⟩ = some (.int .i64 3) ∧ w4.cell? ⟨s9, 1, none⟩ = some (.int .i64 kind) ∧ w4.cell? ⟨s9, 2, none⟩ = some (.string key) ∧ w4.cell? ⟨s9, 3, none⟩ = some (.string val) ∧ w4.cell? ⟨s9, 4, none⟩ = some (.int .u64 n) ∧ w4.cell? ⟨s9, 5, none⟩ = some (.string lo) ∧ w4.cell? ⟨s9, 6, none⟩ = some (.string hi) ∧ w4.cell? ⟨s9, 7, none⟩ = some (.int .i64 err) ∧ w4.cell? ⟨s9, 8, none⟩ = some (.bool has) ∧ w4.cell? ⟨s9, 9, none⟩ = some (.string aval) ∧ w4.cell? ⟨s9, 10, none⟩ = some (.slice A1 aits.length c1) ∧ w4.cell? ⟨s9, 11, none⟩ = some (.int .i64 y0) ∧ w4.cell? ⟨s9, 12, none⟩ = some (.int .i64 y1) ∧ w4.cell? ⟨s9, 13, none⟩ = some (.int .i64 y2) ∧ w4.cell? ⟨s9, 14, none⟩ = some (.int .i64 y3) ∧ w4.cell? ⟨s9, 15, none⟩ = some (.int .i64 y4) ∧ w4.cell? ⟨s9, 16, none⟩ = some (.int .i64 y5) ∧ w4.cell? ⟨s9, 17, none⟩ = some (.int .i64 y6) ∧ w4.cell? ⟨s9, 18, none⟩ = some (.int .i64 y7) ∧ w4.cell? ⟨s9, 19, none⟩ = some (.int .i64 y8) ∧ w4.cell? ⟨s9, 20, none⟩ = some (.int .i64 at_) ∧ w4.cell? ⟨s9, 21, none⟩ = some (.slice A2 its.length c2) := (by have hh := hx4; refine ⟨?_, ?_, ?_, ?_, ?_, ?_, ?_, ?_, ?_, ?_, ?_, ?_, ?_, ?_, ?_, ?_, ?_, ?_, ?_, ?_, ?_, ?_⟩ <;> (rw [Lib.cell_of_heap hh]; rfl)); have hzl := lt_of_row hx4; have HX4 := Lib.hid hx4; have HB4 := Lib.hid (below_next (below_next HBE.out HB03.out) hb4); have HB04 := Lib.hid (below_next HB03.out hb4); clear hb4 hx4))
                clear z0 z1 z2 z3 z4 z5 z6 z7 z8 z9 z10 z11 z12 z13 z14 z15 z16 z17 z18 z19 z20 z21
                have hm4 := HMO.out.below HB04.out
                have hr4 := HRF.out.below HB04.out
                have hl60 : l.length ≤ 60000 := by omega
                have hs4 := HB04.out.size
                have hbm4 : bm < w4.heap.size := by omega
                have hgl4 : g < w4.heap.size := by omega
                have hbu4 : bu < w4.heap.size := by omega
                have hs9l : s9 = wr.heap.size := HS.out.symm
                have hnm : ¬ s9 = bm := by omega
                have hng : ¬ s9 = g := by omega
                have hnu : ¬ s9 = bu := by omega
                clear hs9l hs9
                have HEA := Lib.hid (HE1.out.below HB4.out)
                have haits : aits.length ≤ 80000 := by omega
                by_cases hdn : (⟨err, has, aval, aits, ⟨y0, y1, y2, y3, y4, y5, y6, y7, y8⟩⟩ : An) = downA
                · have hsee := see_down bm g N ls ⟨kind, key, val, n, lo, hi⟩ (⟨err, has, aval, aits, ⟨y0, y1, y2, y3, y4, y5, y6, y7, y8⟩⟩ : An) A1 c1 w4 hm4 HEA.out haits hdn
                  simp only [Ord.v_def, An.v_def] at hsee
                  have hsz := fun W => orderSame_any (⟨0, false, ⟨#[]⟩, [], ⟨0, 0, 0, 0, 0, 0, 0, 0, 0⟩⟩ : An) (⟨0, false, ⟨#[]⟩, [], ⟨0, 0, 0, 0, 0, 0, 0, 0, 0⟩⟩ : An) A1 none c1 0 W (by intro i r hr; simp at hr) (by intro i r hr; simp at hr) (by decide) (by decide)
                  simp only [An.v_def, decide_true] at hsz
                  have hdn2 := hdn
                  simp only [downA, An.mk.injEq, Sta.mk.injEq] at hdn2
                  obtain ⟨rfl, rfl, rfl, rfl, rfl, rfl, rfl, rfl, rfl, rfl, rfl, rfl, rfl⟩ := hdn2
                  dsimp only [List.length_nil] at hsz hsee ⊢
                  unfold SeeRes at hsee
                  have HSEE := Lib.hid hsee
                  have HSZ := Lib.hid hsz
                  clear hsee hsz hdn
                  go_wp2_with (first
                    | (go_at_call 34; (with_reducible refine HSEE.out.mono ?_); rintro e w5 ⟨g5, rfl, hm5, hg5, hf5⟩; have hx5 : w5.heap[s9]? = some (.cells #[.int .i64 3, .int .i64 kind, .string key, .string val, .int .u64 n, .string lo, .string hi, .int .i64 4, .bool false, .string ⟨#[]⟩, .slice A1 0 c1, .int .i64 0, .int .i64 0, .int .i64 0, .int .i64 0, .int .i64 0, .int .i64 0, .int .i64 0, .int .i64 0, .int .i64 0, .int .i64 at_, .slice A2 its.length c2] 71 (0, 0)) := hf5.row (by rintro (e | e); exact hnm e; exact hng e) HX4.out; obtain ⟨e0, e1, e2, e3, e4, e5, e6, e7, e8, e9, e10, e11, e12, e13, e14, e15, e16, e17, e18, e19, e20, e21⟩ : w5.cell? ⟨s9, 0, none⟩ = some (.int .i64 3) ∧ w5.cell? ⟨s9, 1, none⟩ = some (.int .i64 kind) ∧ w5.cell? ⟨s9, 2, none⟩ = some (.string key) ∧ w5.cell? ⟨s9, 3, none⟩ = some (.string val) ∧ w5.cell? ⟨s9, 4, none⟩ = some (.int .u64 n) ∧ w5.cell? ⟨s9, 5, none⟩ = some (.string lo) ∧ w5.cell? ⟨s9, 6, none⟩ = some (.string hi) ∧ w5.cell? ⟨s9, 7, none⟩ = some (.int .i64 4) ∧ w5.cell? ⟨s9, 8, none⟩ = some (.bool false) ∧ w5.cell? ⟨s9, 9, none⟩ = some (.string ⟨#[]⟩) ∧ w5.cell? ⟨s9, 10, none⟩ = some (.slice A1 0 c1) ∧ w5.cell? ⟨s9, 11, none⟩ = some (.int .i64 0) ∧ w5.cell? ⟨s9, 12, none⟩ = some (.int .i64 0) ∧ w5.cell? ⟨s9, 13, none⟩ = some (.int .i64 0) ∧ w5.cell? ⟨s9, 14, none⟩ = some (.int .i64 0) ∧ w5.cell? ⟨s9, 15, none⟩ = some (.int .i64 0) ∧ w5.cell? ⟨s9, 16, none⟩ = some (.int .i64 0) ∧ w5.cell? ⟨s9, 17, none⟩ = some (.int .i64 0) ∧ w5.cell? ⟨s9, 18, none⟩ = some (.int .i64 0) ∧ w5.cell? ⟨s9, 19, none⟩ = some (.int .i64 0) ∧ w5.cell? ⟨s9, 20, none⟩ = some (.int .i64 at_) ∧ w5.cell? ⟨s9, 21, none⟩ = some (.slice A2 its.length c2) := (by have hh := hx5; refine ⟨?_, ?_, ?_, ?_, ?_, ?_, ?_, ?_, ?_, ?_, ?_, ?_, ?_, ?_, ?_, ?_, ?_, ?_, ?_, ?_, ?_, ?_⟩ <;> (rw [Lib.cell_of_heap hh]; rfl)); have hzl5 := lt_of_row hx5; have HM5 := Lib.hid hm5; have HG5 := Lib.hid hg5; have HF5 := Lib.hid hf5; clear hm5 hg5 hf5 hx5)
                    | (go_at_call 35; (with_reducible refine (HSZ.out _).mono ?_); rintro e w6 ⟨rfl, hb6⟩; have HB6 := Lib.hid (below_next (below_alloc (Below.refl _ w5)) hb6); clear hb6))
                  have hmz := HM5.out.below HB6.out
                  have hrz := (ref_model hr4 hm4 HF5.out).below HB6.out
                  have hg5 := HG5.out
                  have hgz : w.heap.size ≤ g5 := hg5.elim (fun h => by omega) (fun h => Nat.le_trans HB4.out.size h)
                  have hbz : Below w.heap.size w w6 := below_next (HB4.out.trans (HF5.out.to_below HB4.out.size (fun i hi e => by have := HBM.out; omega))) HB6.out
                  have HLB2 := Lib.hid (show ∀ x ∈ ls, x.length ≤ k + 1 from fun x hx => Nat.le_succ_of_le (HLB.out x hx))
                  clear hg5
                  as_aux_lemma =>
                    have HMZ := Lib.hid hmz
                    have HRZ := Lib.hid hrz
                    have HBZ := Lib.hid hbz
                    have hposz := hmz.pos
                    obtain ⟨D, hD⟩ : ∃ D : Nat, ls.length = D + 1 := ⟨ls.length - 1, by omega⟩
                    have hD100 : D ≤ 101 := by omega
                    have hlz := HLAST.out
                    have hlzl : l.length ≤ 101 := by have := HLB2.out l (List.mem_of_getElem? hlz); omega
                    obtain ⟨gr, offz, capz, vs, q1, q2, q3, _⟩ := hrz.row
                    rw [hD] at q2
                    have x1 : w6.cell? ⟨bu, 1, none⟩ = some (.slice (some ⟨gr, offz, none⟩) (D + 1) capz) := by rw [Lib.cell_of_heap q1, ← q2]; rfl
                    have xl := lt_of_row q1
                    have hi1 := fun W (hW : Below w6.heap.size w6 W) => mitems_any bm g5 N ls l W (HMZ.out.below hW) hlz (by omega) (by omega)
                    have hnow := fun W (hW : Below w6.heap.size w6 W) => refNow_any bu (pCap N) ls l W (HRZ.out.below hW) hlz (by omega)
                    have hsm := fun W A' c' A2 c2 h1 h2 => refSame_any A' A2 c' c2 l l W h1 h2 (by omega) (by omega)
                    simp only [decide_true] at hsm
                    have hwt := fun W (hW : Below w6.heap.size w6 W) => mweight_any bm g5 N ls l W (HMZ.out.below hW) hlz (by omega)
                    have hrw := fun W A' c' h1 => refWeight_any A' c' l W h1 (model_rows HMZ.out (List.mem_of_getElem? hlz)).2 (by omega)
                    have hlate := fun W (hW : Below w6.heap.size w6 W) => late_any bm g5 N ls W (HMZ.out.below hW) (by omega)
                    rw [show (ls.length : Int) - 1 = (D : Int) by omega] at hlate
                    generalize sumW l = S at *
                    have hwD : IntKind.i64.wrap (D : Int) = (D : Int) := by rw [IntKind.wrap_i64]; omega
                    have hwD2 : IntKind.i64.wrap ((D : Int) + 1 - 1) = (D : Int) := by rw [IntKind.wrap_i64]; omega
                    have HI1 := Lib.hid hi1
                    have HNOW := Lib.hid hnow
                    have HSMZ := Lib.hid hsm
                    have HWT := Lib.hid hwt
                    have HRW := Lib.hid hrw
                    have HLATE := Lib.hid hlate
                    clear hi1 hnow hsm hwt hrw hlate hmz hrz hbz q1 q2 q3 hlz hposz
                    refine rg_start (n := 25) (fun w' => w'.cell? ⟨bu, 1, none⟩ = some (.slice (some ⟨gr, offz, none⟩) (D + 1) capz) ∧ bu < w'.heap.size ∧ Below w6.heap.size w6 w') #[false, false, false, false, false, false, false, false, false, false, false, false, false, false, false, false, false, false, false, false, false, false, false, false, false] (by kernel_rfl) rfl rfl ⟨x1, xl, (Below.refl _ w6).drew⟩ (fun hHeld => ?_)
                    refine rg_take (i := 0) (N := (some 151)) (v := ?_) (a' := ?_) #[true, false, false, false, false, false, false, false, false, false, false, false, false, false, false, false, false, false, false, false, false, false, false, false, false] rfl rfl (by kernel_rfl) (fun _ _ _ h => h) (by rfl) ?_ hHeld ?_ ?_
                    rotate_left 2
                    · rintro w' ⟨s0, s1, s2⟩
                      go_simp
                      try with_reducible rfl
                    · simp only [Act.put, List.setIfInBounds_toArray, List.set_cons_zero, List.set_cons_succ]
                      rfl
                    refine rg_take (i := 2) (N := (some 153)) (v := ?_) (a' := ?_) #[true, false, true, false, false, false, false, false, false, false, false, false, false, false, false, false, false, false, false, false, false, false, false, false, false] rfl rfl (by kernel_rfl) (fun _ _ _ h => h) (by rfl) ?_ hHeld ?_ ?_
                    rotate_left 2
                    · rintro w' ⟨s0, s1, s2⟩
                      go_simp
                      try with_reducible rfl
                    · simp only [Act.put, List.setIfInBounds_toArray, List.set_cons_zero, List.set_cons_succ]
                      rfl
                    refine rg_one (i := 1) #[true, true, true, false, false, false, false, false, false, false, false, false, false, false, false, false, false, false, false, false, false, false, false, false, false] rfl (by kernel_rfl) (by rfl) (fun K hK => ?_)
                    obtain ⟨s0, s1, s2⟩ := hHeld
                    repeat go_step
                    ((with_reducible refine (HI1.out _ s2).mono ?_); rintro e t1 ⟨At1, ct1, rfl, ho1, hb1⟩)
                    try dsimp only
                    refine hK.out _ _ ?_ (fun hHeld => ?_)
                    · exact ⟨keep_cell hb1 s1 s0, keep_lt hb1 s1, below_next s2 hb1⟩
                    clear hK K
                    clear s0 s1 s2
                    refine rg_one (i := 3) #[true, true, true, true, false, false, false, false, false, false, false, false, false, false, false, false, false, false, false, false, false, false, false, false, false] rfl (by kernel_rfl) (by rfl) (fun K hK => ?_)
                    obtain ⟨s0, s1, s2⟩ := hHeld
                    repeat go_step
                    ((with_reducible refine (HNOW.out _ s2).mono ?_); rintro e t3 ⟨At3, ct3, rfl, hel3, hb3⟩)
                    try dsimp only
                    refine hK.out _ _ ?_ (fun hHeld => ?_)
                    · exact ⟨keep_cell hb3 s1 s0, keep_lt hb3 s1, below_next s2 hb3⟩
                    clear hK K
                    clear s0 s1 s2
                    refine rg_one (i := 4) #[true, true, true, true, true, false, false, false, false, false, false, false, false, false, false, false, false, false, false, false, false, false, false, false, false] rfl (by kernel_rfl) (by rfl) (fun K hK => ?_)
                    obtain ⟨s0, s1, s2⟩ := hHeld
                    repeat go_step
                    ((first | (with_reducible refine (HSMZ.out _ _ _ _ _ ((ho1.below hb3).elems Itm.clen) hel3).mono ?_) | (with_reducible refine (HSMZ.out _ _ _ _ _ (ho1.elems Itm.clen) (hel3.below hb1)).mono ?_)); rintro e t4 ⟨rfl, hb4⟩)
                    try dsimp only
                    refine hK.out _ _ ?_ (fun hHeld => ?_)
                    · exact ⟨keep_cell hb4 s1 s0, keep_lt hb4 s1, below_next s2 hb4⟩
                    clear hK K
                    clear s0 s1 s2
                    refine rg_take (i := 5) (N := (some 156)) (v := ?_) (a' := ?_) #[true, true, true, true, true, true, false, false, false, false, false, false, false, false, false, false, false, false, false, false, false, false, false, false, false] rfl rfl (by kernel_rfl) (fun _ _ _ h => h) (by rfl) ?_ hHeld ?_ ?_
                    rotate_left 2
                    · rintro w' ⟨s0, s1, s2⟩
                      go_simp
                      try with_reducible rfl
                    · simp only [Act.put, List.setIfInBounds_toArray, List.set_cons_zero, List.set_cons_succ]
                      rfl
                    refine rg_take (i := 6) (N := (some 157)) (v := ?_) (a' := ?_) #[true, true, true, true, true, true, true, false, false, false, false, false, false, false, false, false, false, false, false, false, false, false, false, false, false] rfl rfl (by kernel_rfl) (fun _ _ _ h => h) (by rfl) ?_ hHeld ?_ ?_
                    rotate_left 2
                    · rintro w' ⟨s0, s1, s2⟩
                      go_simp
                      try with_reducible rfl
                    · simp only [Act.put, List.setIfInBounds_toArray, List.set_cons_zero, List.set_cons_succ]
                      rfl
                    refine rg_take (i := 7) (N := (some 158)) (v := ?_) (a' := ?_) #[true, true, true, true, true, true, true, true, false, false, false, false, false, false, false, false, false, false, false, false, false, false, false, false, false] rfl rfl (by kernel_rfl) (fun _ _ _ h => h) (by rfl) ?_ hHeld ?_ ?_
                    rotate_left 2
                    · rintro w' ⟨s0, s1, s2⟩
                      go_simp
                      try with_reducible rfl
                    · simp only [Act.put, List.setIfInBounds_toArray, List.set_cons_zero, List.set_cons_succ]
                      rfl
                    refine rg_take (i := 9) (N := (some 160)) (v := ?_) (a' := ?_) #[true, true, true, true, true, true, true, true, false, true, false, false, false, false, false, false, false, false, false, false, false, false, false, false, false] rfl rfl (by kernel_rfl) (fun _ _ _ h => h) (by rfl) ?_ hHeld ?_ ?_
                    rotate_left 2
                    · rintro w' ⟨s0, s1, s2⟩
                      go_simp
                      try with_reducible rfl
                    · simp only [Act.put, List.setIfInBounds_toArray, List.set_cons_zero, List.set_cons_succ]
                      rfl
                    refine rg_one (i := 8) #[true, true, true, true, true, true, true, true, true, true, false, false, false, false, false, false, false, false, false, false, false, false, false, false, false] rfl (by kernel_rfl) (by rfl) (fun K hK => ?_)
                    obtain ⟨s0, s1, s2⟩ := hHeld
                    repeat go_step
                    ((with_reducible refine (HWT.out _ s2).mono ?_); rintro e t8 ⟨rfl, hb8⟩; (try have hel10 := hel10.below hb8))
                    try dsimp only
                    refine hK.out _ _ ?_ (fun hHeld => ?_)
                    · exact ⟨keep_cell hb8 s1 s0, keep_lt hb8 s1, below_next s2 hb8⟩
                    clear hK K
                    clear s0 s1 s2
                    refine rg_one (i := 10) #[true, true, true, true, true, true, true, true, true, true, true, false, false, false, false, false, false, false, false, false, false, false, false, false, false] rfl (by kernel_rfl) (by rfl) (fun K hK => ?_)
                    obtain ⟨s0, s1, s2⟩ := hHeld
                    repeat go_step
                    ((with_reducible refine (HNOW.out _ s2).mono ?_); rintro e t10 ⟨At10, ct10, rfl, hel10, hb10⟩)
                    try dsimp only
                    refine hK.out _ _ ?_ (fun hHeld => ?_)
                    · exact ⟨keep_cell hb10 s1 s0, keep_lt hb10 s1, below_next s2 hb10⟩
                    clear hK K
                    clear s0 s1 s2
                    refine rg_one (i := 11) #[true, true, true, true, true, true, true, true, true, true, true, true, false, false, false, false, false, false, false, false, false, false, false, false, false] rfl (by kernel_rfl) (by rfl) (fun K hK => ?_)
                    obtain ⟨s0, s1, s2⟩ := hHeld
                    repeat go_step
                    ((with_reducible refine (HRW.out _ _ _ hel10).mono ?_); rintro e t11 ⟨rfl, hb11⟩)
                    try dsimp only
                    refine hK.out _ _ ?_ (fun hHeld => ?_)
                    · exact ⟨keep_cell hb11 s1 s0, keep_lt hb11 s1, below_next s2 hb11⟩
                    clear hK K
                    clear s0 s1 s2
                    refine rg_take (i := 12) (N := (some 163)) (v := ?_) (a' := ?_) #[true, true, true, true, true, true, true, true, true, true, true, true, true, false, false, false, false, false, false, false, false, false, false, false, false] rfl rfl (by kernel_rfl) (fun _ _ _ h => h) (by rfl) ?_ hHeld ?_ ?_
                    rotate_left 2
                    · rintro w' ⟨s0, s1, s2⟩
                      go_simp
                      try with_reducible rfl
                    · simp only [Act.put, List.setIfInBounds_toArray, List.set_cons_zero, List.set_cons_succ]
                      rfl
                    refine rg_take (i := 13) (N := (some 164)) (v := ?_) (a' := ?_) #[true, true, true, true, true, true, true, true, true, true, true, true, true, true, false, false, false, false, false, false, false, false, false, false, false] rfl rfl (by kernel_rfl) (fun _ _ _ h => h) (by rfl) ?_ hHeld ?_ ?_
                    rotate_left 2
                    · rintro w' ⟨s0, s1, s2⟩
                      go_simp
                      try with_reducible rfl
                    · simp only [Act.put, List.setIfInBounds_toArray, List.set_cons_zero, List.set_cons_succ]
                      rfl
                    refine rg_take (i := 14) (N := (some 165)) (v := ?_) (a' := ?_) #[true, true, true, true, true, true, true, true, true, true, true, true, true, true, true, false, false, false, false, false, false, false, false, false, false] rfl rfl (by kernel_rfl) (fun _ _ _ h => h) (by rfl) ?_ hHeld ?_ ?_
                    rotate_left 2
                    · rintro w' ⟨s0, s1, s2⟩
                      go_simp
                      try with_reducible rfl
                    · simp only [Act.put, List.setIfInBounds_toArray, List.set_cons_zero, List.set_cons_succ]
                      rfl
                    refine rg_take (i := 15) (N := (some 166)) (v := ?_) (a' := ?_) #[true, true, true, true, true, true, true, true, true, true, true, true, true, true, true, true, false, false, false, false, false, false, false, false, false] rfl rfl (by kernel_rfl) (fun _ _ _ h => h) (by rfl) ?_ hHeld ?_ ?_
                    rotate_left 2
                    · rintro w' ⟨s0, s1, s2⟩
                      go_simp
                      try with_reducible rfl
                    · simp only [Act.put, List.setIfInBounds_toArray, List.set_cons_zero, List.set_cons_succ]
                      rfl
                    refine rg_take (i := 17) (N := (some 168)) (v := ?_) (a' := ?_) #[true, true, true, true, true, true, true, true, true, true, true, true, true, true, true, true, false, true, false, false, false, false, false, false, false] rfl rfl (by kernel_rfl) (fun _ _ _ h => h) (by rfl) ?_ hHeld ?_ ?_
                    rotate_left 2
                    · rintro w' ⟨s0, s1, s2⟩
                      go_simp
                      try with_reducible rfl
                    · simp only [Act.put, List.setIfInBounds_toArray, List.set_cons_zero, List.set_cons_succ]
                      rfl
                    refine rg_take (i := 18) (N := (some 169)) (v := ?_) (a' := ?_) #[true, true, true, true, true, true, true, true, true, true, true, true, true, true, true, true, false, true, true, false, false, false, false, false, false] rfl rfl (by kernel_rfl) (fun _ _ _ h => h) (by rfl) ?_ hHeld ?_ ?_
                    rotate_left 2
                    · rintro w' ⟨s0, s1, s2⟩
                      go_simp
                      try with_reducible rfl
                    · simp only [Act.put, List.setIfInBounds_toArray, List.set_cons_zero, List.set_cons_succ]
                      rfl
                    refine rg_take (i := 19) (N := (some 170)) (v := ?_) (a' := ?_) #[true, true, true, true, true, true, true, true, true, true, true, true, true, true, true, true, false, true, true, true, false, false, false, false, false] rfl rfl (by kernel_rfl) (fun _ _ _ h => h) (by rfl) ?_ hHeld ?_ ?_
                    rotate_left 2
                    · rintro w' ⟨s0, s1, s2⟩
                      go_simp
                      try with_reducible rfl
                    · simp only [Act.put, List.setIfInBounds_toArray, List.set_cons_zero, List.set_cons_succ]
                      rfl
                    refine rg_take (i := 20) (N := (some 171)) (v := ?_) (a' := ?_) #[true, true, true, true, true, true, true, true, true, true, true, true, true, true, true, true, false, true, true, true, true, false, false, false, false] rfl rfl (by kernel_rfl) (fun _ _ _ h => h) (by rfl) ?_ hHeld ?_ ?_
                    rotate_left 2
                    · rintro w' ⟨s0, s1, s2⟩
                      go_simp
                      try with_reducible rfl
                    · simp only [Act.put, List.setIfInBounds_toArray, List.set_cons_zero, List.set_cons_succ]
                      rfl
                    refine rg_take (i := 21) (N := (some 172)) (v := ?_) (a' := ?_) #[true, true, true, true, true, true, true, true, true, true, true, true, true, true, true, true, false, true, true, true, true, true, false, false, false] rfl rfl (by kernel_rfl) (fun _ _ _ h => h) (by rfl) ?_ hHeld ?_ ?_
                    rotate_left 2
                    · rintro w' ⟨s0, s1, s2⟩
                      go_simp
                      try with_reducible rfl
                    · simp only [Act.put, List.setIfInBounds_toArray, List.set_cons_zero, List.set_cons_succ]
                      rfl
                    refine rg_take (i := 22) (N := (some 173)) (v := ?_) (a' := ?_) #[true, true, true, true, true, true, true, true, true, true, true, true, true, true, true, true, false, true, true, true, true, true, true, false, false] rfl rfl (by kernel_rfl) (fun _ _ _ h => h) (by rfl) ?_ hHeld ?_ ?_
                    rotate_left 2
                    · rintro w' ⟨s0, s1, s2⟩
                      go_simp
                      try with_reducible rfl
                    · simp only [Act.put, List.setIfInBounds_toArray, List.set_cons_zero, List.set_cons_succ]
                      rfl
                    refine rg_one (i := 16) #[true, true, true, true, true, true, true, true, true, true, true, true, true, true, true, true, true, true, true, true, true, true, true, false, false] rfl (by kernel_rfl) (by rfl) (fun K hK => ?_)
                    obtain ⟨s0, s1, s2⟩ := hHeld
                    repeat go_step
                    ((with_reducible refine (HLATE.out _ s2).mono ?_); rintro e t16 ⟨rfl, hb16⟩)
                    try dsimp only
                    refine hK.out _ _ ?_ (fun hHeld => ?_)
                    · exact ⟨keep_cell hb16 s1 s0, keep_lt hb16 s1, below_next s2 hb16⟩
                    clear hK K
                    clear s0 s1 s2
                    refine rg_take (i := 23) (N := (some 174)) (v := ?_) (a' := ?_) #[true, true, true, true, true, true, true, true, true, true, true, true, true, true, true, true, true, true, true, true, true, true, true, true, false] rfl rfl (by kernel_rfl) (fun _ _ _ h => h) (by rfl) ?_ hHeld ?_ ?_
                    rotate_left 2
                    · rintro w' ⟨s0, s1, s2⟩
                      go_simp
                      try with_reducible rfl
                    · simp only [Act.put, List.setIfInBounds_toArray, List.set_cons_zero, List.set_cons_succ]
                      rfl
                    refine rg_take (i := 24) (N := (some 175)) (v := ?_) (a' := ?_) #[true, true, true, true, true, true, true, true, true, true, true, true, true, true, true, true, true, true, true, true, true, true, true, true, true] rfl rfl (by kernel_rfl) (fun _ _ _ h => h) (by rfl) ?_ hHeld ?_ ?_
                    rotate_left 2
                    · rintro w' ⟨s0, s1, s2⟩
                      go_simp
                      try with_reducible rfl
                    · simp only [Act.put, List.setIfInBounds_toArray, List.set_cons_zero, List.set_cons_succ]
                      rfl
                    refine rg_done (by kernel_rfl) ?_
                    obtain ⟨_, _, rb⟩ := hHeld
                    have HRBZ := Lib.hid rb
                    clear rb hwD hwD2
                    go_wp2
                    refine ⟨⟨k + 1, g5, ls, l, by go_num, by omega, HMZ.out.below HRBZ.out, HRZ.out.below HRBZ.out, hgz, HLAST.out, by omega, HLB2.out, below_next HBZ.out HRBZ.out⟩, ?_⟩
                    simp [intOf]
                    omega
                · have hap : aits ≠ [] → ∀ ad, A1 = some ad → ad.block ≠ bm ∧ ad.block ≠ g := fun hne ad e => by
                    obtain ⟨y, ys, rfl⟩ := List.exists_cons_of_ne_nil hne
                    obtain ⟨b', o', e2, hlt, _⟩ := HE1.out 0 y.cells rfl
                    rw [e] at e2
                    cases e2
                    have := HBM.out
                    exact ⟨by dsimp only; omega, by dsimp only; omega⟩
                  have hsee := see_else bm g N ls l ⟨kind, key, val, n, lo, hi⟩ (⟨err, has, aval, aits, ⟨y0, y1, y2, y3, y4, y5, y6, y7, y8⟩⟩ : An) A1 c1 w4 hm4 HLAST.out (by omega) hl60 n0 (by show n < 18446744073709551616; omega) HEA.out hap haits hdn
                  unfold SeeRes at hsee
                  have hdo := fun W (hU : Fr (fun k => k = bu) w4 W) => do_whole bm g N ls l ⟨kind, key, val, n, lo, hi⟩ W (model_ref hr4 hm4 hU) HLAST.out (by omega) hl60 n0 (by show n < 18446744073709551616; omega)
                  have hrd := fun W (hV : Fr (fun k => k = bm ∨ k = g) w4 W) => ref_whole bu (pCap N) ls l ⟨kind, key, val, n, lo, hi⟩ W (ref_model hr4 hm4 hV) HLAST.out (by omega) hl60 HRI.out HOK.out n0 (by show n < 18446744073709551616; omega)
                  have hits : (ansO (pCap N) l ⟨kind, key, val, n, lo, hi⟩).2.2.2.1 = (ansAn (ansO (pCap N) l ⟨kind, key, val, n, lo, hi⟩)).its := rfl
                  have hrl := rows_items_len (c := pCap N) (l := l) (o := ⟨kind, key, val, n, lo, hi⟩)
                  have hst : (ansAn (ansO (pCap N) l ⟨kind, key, val, n, lo, hi⟩)).st = ⟨(ansAn (ansO (pCap N) l ⟨kind, key, val, n, lo, hi⟩)).st.a0, (ansAn (ansO (pCap N) l ⟨kind, key, val, n, lo, hi⟩)).st.a1, 0, 0, 0, 0, 0, 0, 0⟩ := rfl
                  rw [hits] at hdo hrl
                  have hfo := fun W => form_any ⟨kind, key, val, n, lo, hi⟩ W
                  generalize ansAn (ansO (pCap N) l ⟨kind, key, val, n, lo, hi⟩) = rr at *
                  generalize rowsO (pCap N) ls l ⟨kind, key, val, n, lo, hi⟩ = RR at *
                  simp only [Ord.v_def, An.v_def] at hdo
                  simp only [Ord.v_def] at hrd hfo
                  have hak := fun W B5 c5 h1 h2 => alike_any (askedA (⟨err, has, aval, aits, ⟨y0, y1, y2, y3, y4, y5, y6, y7, y8⟩⟩ : An)) rr rr.st.a0 rr.st.a1 A1 B5 c1 c5 W hst h1 h2 haits (by omega)
                  generalize decide ((askedA (⟨err, has, aval, aits, ⟨y0, y1, y2, y3, y4, y5, y6, y7, y8⟩⟩ : An)) = rr) = bb at *
                  simp only [Ord.v_def, An.v_def] at hsee hak
                  dsimp only [askedA] at hak
                  have hrd2 : ∀ W, Fr (fun k => k = bm ∨ k = g) w4 W → Calls Tryz.prog 36 #[.pointer (some ⟨bu, 0, none⟩), .agg #[.int .i64 kind, .string key, .string val, .int .u64 n, .string lo, .string hi]] W fun e w' => ∃ (A : Option Addr) (cp : Nat), e = .returned (.agg #[.int .i64 rr.err, .bool rr.has, .string rr.val, .slice A rr.its.length cp, .int .i64 rr.st.a0, .int .i64 rr.st.a1, .int .i64 0, .int .i64 0, .int .i64 0]) ∧ RowAt w' A rr.its ∧ RefAt w' bu (pCap N) RR ∧ Fr (fun k => k = bu) W w' := hrd
                  have hak2 : ∀ (W : World) (B5 : Option Addr) (c5 : Nat), Elems W A1 2 (aits.map Itm.cells) → Elems W B5 2 (rr.its.map Itm.cells) → Calls Tryz.prog 38 #[.agg #[.int .i64 err, .bool has, .string aval, .slice A1 aits.length c1, .int .i64 y0, .int .i64 y1, .int .i64 0, .int .i64 0, .int .i64 0, .int .i64 0, .int .i64 0, .int .i64 0, .int .i64 0], .agg #[.int .i64 rr.err, .bool rr.has, .string rr.val, .slice B5 rr.its.length c5, .int .i64 rr.st.a0, .int .i64 rr.st.a1, .int .i64 0, .int .i64 0, .int .i64 0]] W fun e w' => e = .returned (.bool bb) ∧ Below W.heap.size W w' := hak
                  have HSEE := Lib.hid hsee
                  have HRD := Lib.hid hrd2
                  have HFO := Lib.hid hfo
                  have HAK := Lib.hid hak2
                  clear hrd2 hak2
                  have HRZ9 := Lib.hid refans_size
                  have HZF := Lib.hid (fun (h4 : err = 4) (e : (⟨0, has, aval, aits, ⟨y0, y1, y2, y3, y4, y5, y6, y7, y8⟩⟩ : An) = (⟨0, false, ⟨#[]⟩, [], ⟨0, 0, 0, 0, 0, 0, 0, 0, 0⟩⟩ : An)) => hdn ((down_iff (⟨err, has, aval, aits, ⟨y0, y1, y2, y3, y4, y5, y6, y7, y8⟩⟩ : An)).2 ⟨h4, e⟩))
                  clear hsee hrd hfo hak hits hrl hst hdo hap hdn
                  by_cases he4 : err = 4
                  · subst he4
                    have hsz := fun W (h : Elems W A1 2 (aits.map Itm.cells)) => orderSame_any (⟨0, has, aval, aits, ⟨y0, y1, y2, y3, y4, y5, y6, y7, y8⟩⟩ : An) (⟨0, false, ⟨#[]⟩, [], ⟨0, 0, 0, 0, 0, 0, 0, 0, 0⟩⟩ : An) A1 none c1 0 W h (by intro i r hr; simp at hr) haits (by decide)
                    rw [decide_eq_false (HZF.out rfl)] at hsz
                    simp only [An.v_def] at hsz
                    dsimp only [List.length_nil] at hsz
                    have HSZ := Lib.hid hsz
                    clear hsz HZF
                    go_wp2_with (first
                      | (go_at_call 34; (with_reducible refine HSEE.out.mono ?_); rintro e w5 ⟨g5, rfl, hm5, hg5, hf5⟩; have hx5 : w5.heap[s9]? = some (.cells #[.int .i64 3, .int .i64 kind, .string key, .string val, .int .u64 n, .string lo, .string hi, .int .i64 4, .bool has, .string aval, .slice A1 aits.length c1, .int .i64 y0, .int .i64 y1, .int .i64 y2, .int .i64 y3, .int .i64 y4, .int .i64 y5, .int .i64 y6, .int .i64 y7, .int .i64 y8, .int .i64 at_, .slice A2 its.length c2] 71 (0, 0)) := hf5.row (by rintro (e | e); exact hnm e; exact hng e) HX4.out; obtain ⟨e0, e1, e2, e3, e4, e5, e6, e7, e8, e9, e10, e11, e12, e13, e14, e15, e16, e17, e18, e19, e20, e21⟩ : w5.cell? ⟨s9, 0, none⟩ = some (.int .i64 3) ∧ w5.cell? ⟨s9, 1, none⟩ = some (.int .i64 kind) ∧ w5.cell? ⟨s9, 2, none⟩ = some (.string key) ∧ w5.cell? ⟨s9, 3, none⟩ = some (.string val) ∧ w5.cell? ⟨s9, 4, none⟩ = some (.int .u64 n) ∧ w5.cell? ⟨s9, 5, none⟩ = some (.string lo) ∧ w5.cell? ⟨s9, 6, none⟩ = some (.string hi) ∧ w5.cell? ⟨s9, 7, none⟩ = some (.int .i64 4) ∧ w5.cell? ⟨s9, 8, none⟩ = some (.bool has) ∧ w5.cell? ⟨s9, 9, none⟩ = some (.string aval) ∧ w5.cell? ⟨s9, 10, none⟩ = some (.slice A1 aits.length c1) ∧ w5.cell? ⟨s9, 11, none⟩ = some (.int .i64 y0) ∧ w5.cell? ⟨s9, 12, none⟩ = some (.int .i64 y1) ∧ w5.cell? ⟨s9, 13, none⟩ = some (.int .i64 y2) ∧ w5.cell? ⟨s9, 14, none⟩ = some (.int .i64 y3) ∧ w5.cell? ⟨s9, 15, none⟩ = some (.int .i64 y4) ∧ w5.cell? ⟨s9, 16, none⟩ = some (.int .i64 y5) ∧ w5.cell? ⟨s9, 17, none⟩ = some (.int .i64 y6) ∧ w5.cell? ⟨s9, 18, none⟩ = some (.int .i64 y7) ∧ w5.cell? ⟨s9, 19, none⟩ = some (.int .i64 y8) ∧ w5.cell? ⟨s9, 20, none⟩ = some (.int .i64 at_) ∧ w5.cell? ⟨s9, 21, none⟩ = some (.slice A2 its.length c2) := (by have hh := hx5; refine ⟨?_, ?_, ?_, ?_, ?_, ?_, ?_, ?_, ?_, ?_, ?_, ?_, ?_, ?_, ?_, ?_, ?_, ?_, ?_, ?_, ?_, ?_⟩ <;> (rw [Lib.cell_of_heap hh]; rfl)); have hzl5 := lt_of_row hx5; have HX5 := Lib.hid hx5; have HM5 := Lib.hid hm5; have HG5 := Lib.hid hg5; have HF5 := Lib.hid hf5; have HB5 := Lib.hid (HB4.out.trans (hf5.to_below HB4.out.size (fun i hi e => by have := HBM.out; omega))); clear hm5 hg5 hf5 hx5)
                      | (go_at_call 35; (with_reducible refine (HSZ.out _ (HE1.out.below (below_alloc HB5.out))).mono ?_); rintro e w6 ⟨rfl, hb6⟩; have hx6 : w6.heap[s9]? = some (.cells #[.int .i64 3, .int .i64 kind, .string key, .string val, .int .u64 n, .string lo, .string hi, .int .i64 4, .bool has, .string aval, .slice A1 aits.length c1, .int .i64 y0, .int .i64 y1, .int .i64 y2, .int .i64 y3, .int .i64 y4, .int .i64 y5, .int .i64 y6, .int .i64 y7, .int .i64 y8, .int .i64 at_, .slice A2 its.length c2] 71 (0, 0)) := box_below (((Fr.refl (fun _ => False) _).alloc _).row id HX5.out) hb6; obtain ⟨h0, h1, h2, h3, h4, h5, h6, h7, h8, h9, h10, h11, h12, h13, h14, h15, h16, h17, h18, h19, h20, h21⟩ : w6.cell? ⟨s9, 0, none⟩ = some (.int .i64 3) ∧ w6.cell? ⟨s9, 1, none⟩ = some (.int .i64 kind) ∧ w6.cell? ⟨s9, 2, none⟩ = some (.string key) ∧ w6.cell? ⟨s9, 3, none⟩ = some (.string val) ∧ w6.cell? ⟨s9, 4, none⟩ = some (.int .u64 n) ∧ w6.cell? ⟨s9, 5, none⟩ = some (.string lo) ∧ w6.cell? ⟨s9, 6, none⟩ = some (.string hi) ∧ w6.cell? ⟨s9, 7, none⟩ = some (.int .i64 4) ∧ w6.cell? ⟨s9, 8, none⟩ = some (.bool has) ∧ w6.cell? ⟨s9, 9, none⟩ = some (.string aval) ∧ w6.cell? ⟨s9, 10, none⟩ = some (.slice A1 aits.length c1) ∧ w6.cell? ⟨s9, 11, none⟩ = some (.int .i64 y0) ∧ w6.cell? ⟨s9, 12, none⟩ = some (.int .i64 y1) ∧ w6.cell? ⟨s9, 13, none⟩ = some (.int .i64 y2) ∧ w6.cell? ⟨s9, 14, none⟩ = some (.int .i64 y3) ∧ w6.cell? ⟨s9, 15, none⟩ = some (.int .i64 y4) ∧ w6.cell? ⟨s9, 16, none⟩ = some (.int .i64 y5) ∧ w6.cell? ⟨s9, 17, none⟩ = some (.int .i64 y6) ∧ w6.cell? ⟨s9, 18, none⟩ = some (.int .i64 y7) ∧ w6.cell? ⟨s9, 19, none⟩ = some (.int .i64 y8) ∧ w6.cell? ⟨s9, 20, none⟩ = some (.int .i64 at_) ∧ w6.cell? ⟨s9, 21, none⟩ = some (.slice A2 its.length c2) := (by have hh := hx6; refine ⟨?_, ?_, ?_, ?_, ?_, ?_, ?_, ?_, ?_, ?_, ?_, ?_, ?_, ?_, ?_, ?_, ?_, ?_, ?_, ?_, ?_, ?_⟩ <;> (rw [Lib.cell_of_heap hh]; rfl)); have hzl6 := lt_of_row hx6; have HX6 := Lib.hid hx6; have HXB6 := Lib.hid (show w6.heap[w5.heap.size]? = some (.cells #[.int .i64 0, .bool has, .string aval, .slice A1 aits.length c1, .int .i64 y0, .int .i64 y1, .int .i64 y2, .int .i64 y3, .int .i64 y4, .int .i64 y5, .int .i64 y6, .int .i64 y7, .int .i64 y8] 35 (0, 0)) from box_cells hb6); have HB56 := Lib.hid (below_next (below_alloc (Below.refl _ w5)) hb6); clear hb6 hx6)
                      | (go_at_call 37; (with_reducible refine (HFO.out _).mono ?_); rintro e w7 ⟨rfl, hb7⟩; have HX7 := Lib.hid (show w7.heap[s9]? = some (.cells #[.int .i64 3, .int .i64 kind, .string key, .string val, .int .u64 n, .string lo, .string hi, .int .i64 4, .bool has, .string aval, .slice A1 aits.length c1, .int .i64 y0, .int .i64 y1, .int .i64 y2, .int .i64 y3, .int .i64 y4, .int .i64 y5, .int .i64 y6, .int .i64 y7, .int .i64 y8, .int .i64 at_, .slice A2 its.length c2] 71 (0, 0)) from box_below HX6.out hb7); have HXB7 := Lib.hid (show w7.heap[w5.heap.size]? = some (.cells #[.int .i64 0, .bool has, .string aval, .slice A1 aits.length c1, .int .i64 y0, .int .i64 y1, .int .i64 y2, .int .i64 y3, .int .i64 y4, .int .i64 y5, .int .i64 y6, .int .i64 y7, .int .i64 y8] 35 (0, 0)) from box_below HXB6.out hb7); have HB57 := Lib.hid (below_next HB56.out hb7); clear hb7)
                      | (go_at_call 36; (with_reducible refine (HRD.out _ (HF5.out.trans (Fr.of_below HB57.out) (fun i _ e => e))).mono ?_); rintro e w8 ⟨B8, c8, rfl, hue, hr8, hf8⟩; have hs45 := HF5.out.size; have hs57 := HB57.out.size; have hx8 : w8.heap[s9]? = some (.cells #[.int .i64 3, .int .i64 kind, .string key, .string val, .int .u64 n, .string lo, .string hi, .int .i64 4, .bool has, .string aval, .slice A1 aits.length c1, .int .i64 y0, .int .i64 y1, .int .i64 y2, .int .i64 y3, .int .i64 y4, .int .i64 y5, .int .i64 y6, .int .i64 y7, .int .i64 y8, .int .i64 at_, .slice A2 its.length c2] 71 (0, 0)) := hf8.row hnu HX7.out; obtain ⟨f0, f1, f2, f3, f4, f5, f6, f7, f8, f9, f10, f11, f12, f13, f14, f15, f16, f17, f18, f19, f20, f21⟩ : w8.cell? ⟨s9, 0, none⟩ = some (.int .i64 3) ∧ w8.cell? ⟨s9, 1, none⟩ = some (.int .i64 kind) ∧ w8.cell? ⟨s9, 2, none⟩ = some (.string key) ∧ w8.cell? ⟨s9, 3, none⟩ = some (.string val) ∧ w8.cell? ⟨s9, 4, none⟩ = some (.int .u64 n) ∧ w8.cell? ⟨s9, 5, none⟩ = some (.string lo) ∧ w8.cell? ⟨s9, 6, none⟩ = some (.string hi) ∧ w8.cell? ⟨s9, 7, none⟩ = some (.int .i64 4) ∧ w8.cell? ⟨s9, 8, none⟩ = some (.bool has) ∧ w8.cell? ⟨s9, 9, none⟩ = some (.string aval) ∧ w8.cell? ⟨s9, 10, none⟩ = some (.slice A1 aits.length c1) ∧ w8.cell? ⟨s9, 11, none⟩ = some (.int .i64 y0) ∧ w8.cell? ⟨s9, 12, none⟩ = some (.int .i64 y1) ∧ w8.cell? ⟨s9, 13, none⟩ = some (.int .i64 y2) ∧ w8.cell? ⟨s9, 14, none⟩ = some (.int .i64 y3) ∧ w8.cell? ⟨s9, 15, none⟩ = some (.int .i64 y4) ∧ w8.cell? ⟨s9, 16, none⟩ = some (.int .i64 y5) ∧ w8.cell? ⟨s9, 17, none⟩ = some (.int .i64 y6) ∧ w8.cell? ⟨s9, 18, none⟩ = some (.int .i64 y7) ∧ w8.cell? ⟨s9, 19, none⟩ = some (.int .i64 y8) ∧ w8.cell? ⟨s9, 20, none⟩ = some (.int .i64 at_) ∧ w8.cell? ⟨s9, 21, none⟩ = some (.slice A2 its.length c2) := (by have hh := hx8; refine ⟨?_, ?_, ?_, ?_, ?_, ?_, ?_, ?_, ?_, ?_, ?_, ?_, ?_, ?_, ?_, ?_, ?_, ?_, ?_, ?_, ?_, ?_⟩ <;> (rw [Lib.cell_of_heap hh]; rfl)); have hzl8 := lt_of_row hx8; have HXB8 := Lib.hid (show w8.heap[w5.heap.size]? = some (.cells #[.int .i64 0, .bool has, .string aval, .slice A1 aits.length c1, .int .i64 y0, .int .i64 y1, .int .i64 y2, .int .i64 y3, .int .i64 y4, .int .i64 y5, .int .i64 y6, .int .i64 y7, .int .i64 y8] 35 (0, 0)) from hf8.row (by omega) HXB7.out); have HUE := Lib.hid hue; have HR8 := Lib.hid hr8; have HM8 := Lib.hid (model_ref ((ref_model hr4 hm4 HF5.out).below HB57.out) (HM5.out.below HB57.out) hf8); have HB8 := Lib.hid ((below_next HB5.out HB57.out).trans (hf8.to_below (below_next HB5.out HB57.out).size (fun i hi e => by have := HBU.out; omega))); have HS58 := Lib.hid (show w5.heap.size < w8.heap.size from lt_of_row HXB8.out); clear hue hr8 hf8 hx8)
                      | (refine wpList_store_row rfl 35 (Operand.tmp 11) (Operand.tmp 98) rfl w5.heap.size _ ([.int .i64 4, .bool has, .string aval, .slice A1 aits.length c1, .int .i64 y0, .int .i64 y1, .int .i64 y2, .int .i64 y3, .int .i64 y4, .int .i64 y5, .int .i64 y6, .int .i64 y7, .int .i64 y8]) _ rfl rfl (((Fr.refl (fun _ => False) _).alloc _).row id HXB8.out) rfl HAZ.out (an_all (⟨4, has, aval, aits, ⟨y0, y1, y2, y3, y4, y5, y6, y7, y8⟩⟩ : An) A1 c1) ?_; intro w9 hr9 hf9; have hs58 := HS58.out; have HXC9 := Lib.hid (show w9.heap[w8.heap.size]? = some (.cells #[.int .i64 rr.err, .bool rr.has, .string rr.val, .slice B8 rr.its.length c8, .int .i64 rr.st.a0, .int .i64 rr.st.a1, .int .i64 0, .int .i64 0, .int .i64 0] 76 (0, 0)) from hf9.row (by omega) (heap_alloc_new w8 _)); have HR9 := Lib.hid hr9; have HF9 := Lib.hid hf9; have u4 : w9.cell? ⟨w5.heap.size, 4, none⟩ = some (.int .i64 y0) := (by rw [Lib.cell_of_heap hr9]; rfl); have u5 : w9.cell? ⟨w5.heap.size, 5, none⟩ = some (.int .i64 y1) := (by rw [Lib.cell_of_heap hr9]; rfl); clear hr9 hf9)
                      | (refine sta_store rfl (Operand.tmp 106) (Operand.tmp 105) rfl w5.heap.size (⟨4, has, aval, aits, ⟨y0, y1, y2, y3, y4, y5, y6, y7, y8⟩⟩ : An) A1 c1 rfl rfl HR9.out ?_; intro w10 hr10 hf10; have hs58 := HS58.out; have HXC10 := Lib.hid (show w10.heap[w8.heap.size]? = some (.cells #[.int .i64 rr.err, .bool rr.has, .string rr.val, .slice B8 rr.its.length c8, .int .i64 rr.st.a0, .int .i64 rr.st.a1, .int .i64 0, .int .i64 0, .int .i64 0] 76 (0, 0)) from hf10.row (by omega) HXC9.out); have HR10 := Lib.hid hr10; have HF10 := Lib.hid hf10; have HB10 := Lib.hid (((below_alloc HB8.out).trans (HF9.out.to_below (below_alloc HB8.out).size (fun i hi e => by have := HB5.out.size; omega))).trans (hf10.to_below (Nat.le_trans (below_alloc HB8.out).size HF9.out.size) (fun i hi e => by have := HB5.out.size; omega))); clear hr10 hf10)
                      | (refine wpList_load_mid rfl 35 (Operand.tmp 11) rfl w5.heap.size 0 rfl ([.int .i64 4, .bool has, .string aval, .slice A1 aits.length c1, .int .i64 y0, .int .i64 y1, .int .i64 0, .int .i64 0, .int .i64 0, .int .i64 0, .int .i64 0, .int .i64 0, .int .i64 0]) _ (row_range HR10.out) Tryz.underlying35 rfl HAZ.out ?_)
                      | (refine wpList_load_mid rfl 76 (Operand.tmp 12) rfl w8.heap.size 0 rfl ([.int .i64 rr.err, .bool rr.has, .string rr.val, .slice B8 rr.its.length c8, .int .i64 rr.st.a0, .int .i64 rr.st.a1, .int .i64 0, .int .i64 0, .int .i64 0]) _ (row_range HXC10.out) Tryz.underlying76 rfl HRZ9.out ?_)
                      | (go_at_call 38; (with_reducible refine (HAK.out _ _ _ (HE1.out.below HB10.out) (((HUE.out.below (below_alloc (Below.refl _ w8))).fr HF9.out (fun q hq _ => by subst hq; exact ⟨_, _, ((Fr.refl (fun _ => False) _).alloc _).row id HXB8.out, by decide⟩)).fr HF10.out (fun q hq _ => by subst hq; exact ⟨_, _, HR9.out, by decide⟩)).el).mono ?_); rintro e w11 ⟨rfl, hb11⟩; have HB11 := Lib.hid hb11; clear hb11))
                    have hm9 := model_other (cs := [.int .i64 0, .bool has, .string aval, .slice A1 aits.length c1, .int .i64 y0, .int .i64 y1, .int .i64 y2, .int .i64 y3, .int .i64 y4, .int .i64 y5, .int .i64 y6, .int .i64 y7, .int .i64 y8]) (HM8.out.below (below_alloc (Below.refl _ w8))) (((Fr.refl (fun _ => False) _).alloc _).row id HXB8.out) (by decide) (by decide) (by decide) (an_nopair (⟨0, has, aval, aits, ⟨y0, y1, y2, y3, y4, y5, y6, y7, y8⟩⟩ : An) A1 c1) HF9.out
                    have hm10 := model_other hm9 HR9.out (by decide) (by decide) (by decide) (an_nopair (⟨4, has, aval, aits, ⟨y0, y1, y2, y3, y4, y5, y6, y7, y8⟩⟩ : An) A1 c1) HF10.out
                    have hr9 := ref_other (HR8.out.below (below_alloc (Below.refl _ w8))) (((Fr.refl (fun _ => False) _).alloc _).row id HXB8.out) (by decide) (by decide) (by decide) HF9.out
                    have hr10 := ref_other hr9 HR9.out (by decide) (by decide) (by decide) HF10.out
                    have hmz := hm10.below HB11.out
                    have hrz := hr10.below HB11.out
                    have hg5 := HG5.out
                    have hgz : w.heap.size ≤ g5 := hg5.elim (fun h => by omega) (fun h => Nat.le_trans HB4.out.size h)
                    have hbz : Below w.heap.size w w11 := below_next HB10.out HB11.out
                    clear hg5 hm9 hm10 hr9 hr10
                    as_aux_lemma =>
                      have HMZ := Lib.hid hmz
                      have HRZ := Lib.hid hrz
                      have HBZ := Lib.hid hbz
                      have hposz := hmz.pos
                      obtain ⟨D, hD⟩ : ∃ D : Nat, RR.length = D + 1 := ⟨RR.length - 1, by omega⟩
                      have hD100 : D ≤ 101 := by omega
                      have hlz := HL'.out
                      have hlzl : l'.length ≤ 101 := by have := HRB.out l' (List.mem_of_getElem? hlz); omega
                      obtain ⟨gr, offz, capz, vs, q1, q2, q3, _⟩ := hrz.row
                      rw [hD] at q2
                      have x1 : w11.cell? ⟨bu, 1, none⟩ = some (.slice (some ⟨gr, offz, none⟩) (D + 1) capz) := by rw [Lib.cell_of_heap q1, ← q2]; rfl
                      have xl := lt_of_row q1
                      have hi1 := fun W (hW : Below w11.heap.size w11 W) => mitems_any bm g5 N RR l' W (HMZ.out.below hW) hlz (by omega) (by omega)
                      have hnow := fun W (hW : Below w11.heap.size w11 W) => refNow_any bu (pCap N) RR l' W (HRZ.out.below hW) hlz (by omega)
                      have hsm := fun W A' c' A2 c2 h1 h2 => refSame_any A' A2 c' c2 l' l' W h1 h2 (by omega) (by omega)
                      simp only [decide_true] at hsm
                      have hwt := fun W (hW : Below w11.heap.size w11 W) => mweight_any bm g5 N RR l' W (HMZ.out.below hW) hlz (by omega)
                      have hrw := fun W A' c' h1 => refWeight_any A' c' l' W h1 (model_rows HMZ.out (List.mem_of_getElem? hlz)).2 (by omega)
                      have hlate := fun W (hW : Below w11.heap.size w11 W) => late_any bm g5 N RR W (HMZ.out.below hW) (by omega)
                      rw [show (RR.length : Int) - 1 = (D : Int) by omega] at hlate
                      generalize sumW l' = S at *
                      have hwD : IntKind.i64.wrap (D : Int) = (D : Int) := by rw [IntKind.wrap_i64]; omega
                      have hwD2 : IntKind.i64.wrap ((D : Int) + 1 - 1) = (D : Int) := by rw [IntKind.wrap_i64]; omega
                      have HI1 := Lib.hid hi1
                      have HNOW := Lib.hid hnow
                      have HSMZ := Lib.hid hsm
                      have HWT := Lib.hid hwt
                      have HRW := Lib.hid hrw
                      have HLATE := Lib.hid hlate
                      clear hi1 hnow hsm hwt hrw hlate hmz hrz hbz q1 q2 q3 hlz hposz
                      refine rg_start (n := 25) (fun w' => w'.cell? ⟨bu, 1, none⟩ = some (.slice (some ⟨gr, offz, none⟩) (D + 1) capz) ∧ bu < w'.heap.size ∧ Below w11.heap.size w11 w') #[false, false, false, false, false, false, false, false, false, false, false, false, false, false, false, false, false, false, false, false, false, false, false, false, false] (by kernel_rfl) rfl rfl ⟨x1, xl, (Below.refl _ w11).drew⟩ (fun hHeld => ?_)
                      refine rg_take (i := 0) (N := (some 151)) (v := ?_) (a' := ?_) #[true, false, false, false, false, false, false, false, false, false, false, false, false, false, false, false, false, false, false, false, false, false, false, false, false] rfl rfl (by kernel_rfl) (fun _ _ _ h => h) (by rfl) ?_ hHeld ?_ ?_
                      rotate_left 2
                      · rintro w' ⟨s0, s1, s2⟩
                        go_simp
                        try with_reducible rfl
                      · simp only [Act.put, List.setIfInBounds_toArray, List.set_cons_zero, List.set_cons_succ]
                        rfl
                      refine rg_take (i := 2) (N := (some 153)) (v := ?_) (a' := ?_) #[true, false, true, false, false, false, false, false, false, false, false, false, false, false, false, false, false, false, false, false, false, false, false, false, false] rfl rfl (by kernel_rfl) (fun _ _ _ h => h) (by rfl) ?_ hHeld ?_ ?_
                      rotate_left 2
                      · rintro w' ⟨s0, s1, s2⟩
                        go_simp
                        try with_reducible rfl
                      · simp only [Act.put, List.setIfInBounds_toArray, List.set_cons_zero, List.set_cons_succ]
                        rfl
                      refine rg_one (i := 1) #[true, true, true, false, false, false, false, false, false, false, false, false, false, false, false, false, false, false, false, false, false, false, false, false, false] rfl (by kernel_rfl) (by rfl) (fun K hK => ?_)
                      obtain ⟨s0, s1, s2⟩ := hHeld
                      repeat go_step
                      ((with_reducible refine (HI1.out _ s2).mono ?_); rintro e t1 ⟨At1, ct1, rfl, ho1, hb1⟩)
                      try dsimp only
                      refine hK.out _ _ ?_ (fun hHeld => ?_)
                      · exact ⟨keep_cell hb1 s1 s0, keep_lt hb1 s1, below_next s2 hb1⟩
                      clear hK K
                      clear s0 s1 s2
                      refine rg_one (i := 3) #[true, true, true, true, false, false, false, false, false, false, false, false, false, false, false, false, false, false, false, false, false, false, false, false, false] rfl (by kernel_rfl) (by rfl) (fun K hK => ?_)
                      obtain ⟨s0, s1, s2⟩ := hHeld
                      repeat go_step
                      ((with_reducible refine (HNOW.out _ s2).mono ?_); rintro e t3 ⟨At3, ct3, rfl, hel3, hb3⟩)
                      try dsimp only
                      refine hK.out _ _ ?_ (fun hHeld => ?_)
                      · exact ⟨keep_cell hb3 s1 s0, keep_lt hb3 s1, below_next s2 hb3⟩
                      clear hK K
                      clear s0 s1 s2
                      refine rg_one (i := 4) #[true, true, true, true, true, false, false, false, false, false, false, false, false, false, false, false, false, false, false, false, false, false, false, false, false] rfl (by kernel_rfl) (by rfl) (fun K hK => ?_)
                      obtain ⟨s0, s1, s2⟩ := hHeld
                      repeat go_step
                      ((first | (with_reducible refine (HSMZ.out _ _ _ _ _ ((ho1.below hb3).elems Itm.clen) hel3).mono ?_) | (with_reducible refine (HSMZ.out _ _ _ _ _ (ho1.elems Itm.clen) (hel3.below hb1)).mono ?_)); rintro e t4 ⟨rfl, hb4⟩)
                      try dsimp only
                      refine hK.out _ _ ?_ (fun hHeld => ?_)
                      · exact ⟨keep_cell hb4 s1 s0, keep_lt hb4 s1, below_next s2 hb4⟩
                      clear hK K
                      clear s0 s1 s2
                      refine rg_take (i := 5) (N := (some 156)) (v := ?_) (a' := ?_) #[true, true, true, true, true, true, false, false, false, false, false, false, false, false, false, false, false, false, false, false, false, false, false, false, false] rfl rfl (by kernel_rfl) (fun _ _ _ h => h) (by rfl) ?_ hHeld ?_ ?_
                      rotate_left 2
                      · rintro w' ⟨s0, s1, s2⟩
                        go_simp
                        try with_reducible rfl
                      · simp only [Act.put, List.setIfInBounds_toArray, List.set_cons_zero, List.set_cons_succ]
                        rfl
                      refine rg_take (i := 6) (N := (some 157)) (v := ?_) (a' := ?_) #[true, true, true, true, true, true, true, false, false, false, false, false, false, false, false, false, false, false, false, false, false, false, false, false, false] rfl rfl (by kernel_rfl) (fun _ _ _ h => h) (by rfl) ?_ hHeld ?_ ?_
                      rotate_left 2
                      · rintro w' ⟨s0, s1, s2⟩
                        go_simp
                        try with_reducible rfl
                      · simp only [Act.put, List.setIfInBounds_toArray, List.set_cons_zero, List.set_cons_succ]
                        rfl
                      refine rg_take (i := 7) (N := (some 158)) (v := ?_) (a' := ?_) #[true, true, true, true, true, true, true, true, false, false, false, false, false, false, false, false, false, false, false, false, false, false, false, false, false] rfl rfl (by kernel_rfl) (fun _ _ _ h => h) (by rfl) ?_ hHeld ?_ ?_
                      rotate_left 2
                      · rintro w' ⟨s0, s1, s2⟩
                        go_simp
                        try with_reducible rfl
                      · simp only [Act.put, List.setIfInBounds_toArray, List.set_cons_zero, List.set_cons_succ]
                        rfl
                      refine rg_take (i := 9) (N := (some 160)) (v := ?_) (a' := ?_) #[true, true, true, true, true, true, true, true, false, true, false, false, false, false, false, false, false, false, false, false, false, false, false, false, false] rfl rfl (by kernel_rfl) (fun _ _ _ h => h) (by rfl) ?_ hHeld ?_ ?_
                      rotate_left 2
                      · rintro w' ⟨s0, s1, s2⟩
                        go_simp
                        try with_reducible rfl
                      · simp only [Act.put, List.setIfInBounds_toArray, List.set_cons_zero, List.set_cons_succ]
                        rfl
                      refine rg_one (i := 8) #[true, true, true, true, true, true, true, true, true, true, false, false, false, false, false, false, false, false, false, false, false, false, false, false, false] rfl (by kernel_rfl) (by rfl) (fun K hK => ?_)
                      obtain ⟨s0, s1, s2⟩ := hHeld
                      repeat go_step
                      ((with_reducible refine (HWT.out _ s2).mono ?_); rintro e t8 ⟨rfl, hb8⟩; (try have hel10 := hel10.below hb8))
                      try dsimp only
                      refine hK.out _ _ ?_ (fun hHeld => ?_)
                      · exact ⟨keep_cell hb8 s1 s0, keep_lt hb8 s1, below_next s2 hb8⟩
                      clear hK K
                      clear s0 s1 s2
                      refine rg_one (i := 10) #[true, true, true, true, true, true, true, true, true, true, true, false, false, false, false, false, false, false, false, false, false, false, false, false, false] rfl (by kernel_rfl) (by rfl) (fun K hK => ?_)
                      obtain ⟨s0, s1, s2⟩ := hHeld
                      repeat go_step
                      ((with_reducible refine (HNOW.out _ s2).mono ?_); rintro e t10 ⟨At10, ct10, rfl, hel10, hb10⟩)
                      try dsimp only
                      refine hK.out _ _ ?_ (fun hHeld => ?_)
                      · exact ⟨keep_cell hb10 s1 s0, keep_lt hb10 s1, below_next s2 hb10⟩
                      clear hK K
                      clear s0 s1 s2
                      refine rg_one (i := 11) #[true, true, true, true, true, true, true, true, true, true, true, true, false, false, false, false, false, false, false, false, false, false, false, false, false] rfl (by kernel_rfl) (by rfl) (fun K hK => ?_)
                      obtain ⟨s0, s1, s2⟩ := hHeld
                      repeat go_step
                      ((with_reducible refine (HRW.out _ _ _ hel10).mono ?_); rintro e t11 ⟨rfl, hb11⟩)
                      try dsimp only
                      refine hK.out _ _ ?_ (fun hHeld => ?_)
                      · exact ⟨keep_cell hb11 s1 s0, keep_lt hb11 s1, below_next s2 hb11⟩
                      clear hK K
                      clear s0 s1 s2
                      refine rg_take (i := 12) (N := (some 163)) (v := ?_) (a' := ?_) #[true, true, true, true, true, true, true, true, true, true, true, true, true, false, false, false, false, false, false, false, false, false, false, false, false] rfl rfl (by kernel_rfl) (fun _ _ _ h => h) (by rfl) ?_ hHeld ?_ ?_
                      rotate_left 2
                      · rintro w' ⟨s0, s1, s2⟩
                        go_simp
                        try with_reducible rfl
                      · simp only [Act.put, List.setIfInBounds_toArray, List.set_cons_zero, List.set_cons_succ]
                        rfl
                      refine rg_take (i := 13) (N := (some 164)) (v := ?_) (a' := ?_) #[true, true, true, true, true, true, true, true, true, true, true, true, true, true, false, false, false, false, false, false, false, false, false, false, false] rfl rfl (by kernel_rfl) (fun _ _ _ h => h) (by rfl) ?_ hHeld ?_ ?_
                      rotate_left 2
                      · rintro w' ⟨s0, s1, s2⟩
                        go_simp
                        try with_reducible rfl
                      · simp only [Act.put, List.setIfInBounds_toArray, List.set_cons_zero, List.set_cons_succ]
                        rfl
                      refine rg_take (i := 14) (N := (some 165)) (v := ?_) (a' := ?_) #[true, true, true, true, true, true, true, true, true, true, true, true, true, true, true, false, false, false, false, false, false, false, false, false, false] rfl rfl (by kernel_rfl) (fun _ _ _ h => h) (by rfl) ?_ hHeld ?_ ?_
                      rotate_left 2
                      · rintro w' ⟨s0, s1, s2⟩
                        go_simp
                        try with_reducible rfl
                      · simp only [Act.put, List.setIfInBounds_toArray, List.set_cons_zero, List.set_cons_succ]
                        rfl
                      refine rg_take (i := 15) (N := (some 166)) (v := ?_) (a' := ?_) #[true, true, true, true, true, true, true, true, true, true, true, true, true, true, true, true, false, false, false, false, false, false, false, false, false] rfl rfl (by kernel_rfl) (fun _ _ _ h => h) (by rfl) ?_ hHeld ?_ ?_
                      rotate_left 2
                      · rintro w' ⟨s0, s1, s2⟩
                        go_simp
                        try with_reducible rfl
                      · simp only [Act.put, List.setIfInBounds_toArray, List.set_cons_zero, List.set_cons_succ]
                        rfl
                      refine rg_take (i := 17) (N := (some 168)) (v := ?_) (a' := ?_) #[true, true, true, true, true, true, true, true, true, true, true, true, true, true, true, true, false, true, false, false, false, false, false, false, false] rfl rfl (by kernel_rfl) (fun _ _ _ h => h) (by rfl) ?_ hHeld ?_ ?_
                      rotate_left 2
                      · rintro w' ⟨s0, s1, s2⟩
                        go_simp
                        try with_reducible rfl
                      · simp only [Act.put, List.setIfInBounds_toArray, List.set_cons_zero, List.set_cons_succ]
                        rfl
                      refine rg_take (i := 18) (N := (some 169)) (v := ?_) (a' := ?_) #[true, true, true, true, true, true, true, true, true, true, true, true, true, true, true, true, false, true, true, false, false, false, false, false, false] rfl rfl (by kernel_rfl) (fun _ _ _ h => h) (by rfl) ?_ hHeld ?_ ?_
                      rotate_left 2
                      · rintro w' ⟨s0, s1, s2⟩
                        go_simp
                        try with_reducible rfl
                      · simp only [Act.put, List.setIfInBounds_toArray, List.set_cons_zero, List.set_cons_succ]
                        rfl
                      refine rg_take (i := 19) (N := (some 170)) (v := ?_) (a' := ?_) #[true, true, true, true, true, true, true, true, true, true, true, true, true, true, true, true, false, true, true, true, false, false, false, false, false] rfl rfl (by kernel_rfl) (fun _ _ _ h => h) (by rfl) ?_ hHeld ?_ ?_
                      rotate_left 2
                      · rintro w' ⟨s0, s1, s2⟩
                        go_simp
                        try with_reducible rfl
                      · simp only [Act.put, List.setIfInBounds_toArray, List.set_cons_zero, List.set_cons_succ]
                        rfl
                      refine rg_take (i := 20) (N := (some 171)) (v := ?_) (a' := ?_) #[true, true, true, true, true, true, true, true, true, true, true, true, true, true, true, true, false, true, true, true, true, false, false, false, false] rfl rfl (by kernel_rfl) (fun _ _ _ h => h) (by rfl) ?_ hHeld ?_ ?_
                      rotate_left 2
                      · rintro w' ⟨s0, s1, s2⟩
                        go_simp
                        try with_reducible rfl
                      · simp only [Act.put, List.setIfInBounds_toArray, List.set_cons_zero, List.set_cons_succ]
                        rfl
                      refine rg_take (i := 21) (N := (some 172)) (v := ?_) (a' := ?_) #[true, true, true, true, true, true, true, true, true, true, true, true, true, true, true, true, false, true, true, true, true, true, false, false, false] rfl rfl (by kernel_rfl) (fun _ _ _ h => h) (by rfl) ?_ hHeld ?_ ?_
                      rotate_left 2
                      · rintro w' ⟨s0, s1, s2⟩
                        go_simp
                        try with_reducible rfl
                      · simp only [Act.put, List.setIfInBounds_toArray, List.set_cons_zero, List.set_cons_succ]
                        rfl
                      refine rg_take (i := 22) (N := (some 173)) (v := ?_) (a' := ?_) #[true, true, true, true, true, true, true, true, true, true, true, true, true, true, true, true, false, true, true, true, true, true, true, false, false] rfl rfl (by kernel_rfl) (fun _ _ _ h => h) (by rfl) ?_ hHeld ?_ ?_
                      rotate_left 2
                      · rintro w' ⟨s0, s1, s2⟩
                        go_simp
                        try with_reducible rfl
                      · simp only [Act.put, List.setIfInBounds_toArray, List.set_cons_zero, List.set_cons_succ]
                        rfl
                      refine rg_one (i := 16) #[true, true, true, true, true, true, true, true, true, true, true, true, true, true, true, true, true, true, true, true, true, true, true, false, false] rfl (by kernel_rfl) (by rfl) (fun K hK => ?_)
                      obtain ⟨s0, s1, s2⟩ := hHeld
                      repeat go_step
                      ((with_reducible refine (HLATE.out _ s2).mono ?_); rintro e t16 ⟨rfl, hb16⟩)
                      try dsimp only
                      refine hK.out _ _ ?_ (fun hHeld => ?_)
                      · exact ⟨keep_cell hb16 s1 s0, keep_lt hb16 s1, below_next s2 hb16⟩
                      clear hK K
                      clear s0 s1 s2
                      refine rg_take (i := 23) (N := (some 174)) (v := ?_) (a' := ?_) #[true, true, true, true, true, true, true, true, true, true, true, true, true, true, true, true, true, true, true, true, true, true, true, true, false] rfl rfl (by kernel_rfl) (fun _ _ _ h => h) (by rfl) ?_ hHeld ?_ ?_
                      rotate_left 2
                      · rintro w' ⟨s0, s1, s2⟩
                        go_simp
                        try with_reducible rfl
                      · simp only [Act.put, List.setIfInBounds_toArray, List.set_cons_zero, List.set_cons_succ]
                        rfl
                      refine rg_take (i := 24) (N := (some 175)) (v := ?_) (a' := ?_) #[true, true, true, true, true, true, true, true, true, true, true, true, true, true, true, true, true, true, true, true, true, true, true, true, true] rfl rfl (by kernel_rfl) (fun _ _ _ h => h) (by rfl) ?_ hHeld ?_ ?_
                      rotate_left 2
                      · rintro w' ⟨s0, s1, s2⟩
                        go_simp
                        try with_reducible rfl
                      · simp only [Act.put, List.setIfInBounds_toArray, List.set_cons_zero, List.set_cons_succ]
                        rfl
                      refine rg_done (by kernel_rfl) ?_
                      obtain ⟨_, _, rb⟩ := hHeld
                      have HRBZ := Lib.hid rb
                      clear rb hwD hwD2
                      go_wp2
                      refine ⟨⟨k + 1, g5, RR, l', by go_num, by omega, HMZ.out.below HRBZ.out, HRZ.out.below HRBZ.out, hgz, HL'.out, by omega, HRB.out, below_next HBZ.out HRBZ.out⟩, ?_⟩
                      simp [intOf]
                      omega
                  · have e4 : (err == 4) = false := by simp [he4]
                    clear he4 HZF
                    go_wp2_with (first
                      | (go_at_call 34; (with_reducible refine HSEE.out.mono ?_); rintro e w5 ⟨g5, rfl, hm5, hg5, hf5⟩; have hx5 : w5.heap[s9]? = some (.cells #[.int .i64 3, .int .i64 kind, .string key, .string val, .int .u64 n, .string lo, .string hi, .int .i64 err, .bool has, .string aval, .slice A1 aits.length c1, .int .i64 y0, .int .i64 y1, .int .i64 y2, .int .i64 y3, .int .i64 y4, .int .i64 y5, .int .i64 y6, .int .i64 y7, .int .i64 y8, .int .i64 at_, .slice A2 its.length c2] 71 (0, 0)) := hf5.row (by rintro (e | e); exact hnm e; exact hng e) HX4.out; obtain ⟨e0, e1, e2, e3, e4, e5, e6, e7, e8, e9, e10, e11, e12, e13, e14, e15, e16, e17, e18, e19, e20, e21⟩ : w5.cell? ⟨s9, 0, none⟩ = some (.int .i64 3) ∧ w5.cell? ⟨s9, 1, none⟩ = some (.int .i64 kind) ∧ w5.cell? ⟨s9, 2, none⟩ = some (.string key) ∧ w5.cell? ⟨s9, 3, none⟩ = some (.string val) ∧ w5.cell? ⟨s9, 4, none⟩ = some (.int .u64 n) ∧ w5.cell? ⟨s9, 5, none⟩ = some (.string lo) ∧ w5.cell? ⟨s9, 6, none⟩ = some (.string hi) ∧ w5.cell? ⟨s9, 7, none⟩ = some (.int .i64 err) ∧ w5.cell? ⟨s9, 8, none⟩ = some (.bool has) ∧ w5.cell? ⟨s9, 9, none⟩ = some (.string aval) ∧ w5.cell? ⟨s9, 10, none⟩ = some (.slice A1 aits.length c1) ∧ w5.cell? ⟨s9, 11, none⟩ = some (.int .i64 y0) ∧ w5.cell? ⟨s9, 12, none⟩ = some (.int .i64 y1) ∧ w5.cell? ⟨s9, 13, none⟩ = some (.int .i64 y2) ∧ w5.cell? ⟨s9, 14, none⟩ = some (.int .i64 y3) ∧ w5.cell? ⟨s9, 15, none⟩ = some (.int .i64 y4) ∧ w5.cell? ⟨s9, 16, none⟩ = some (.int .i64 y5) ∧ w5.cell? ⟨s9, 17, none⟩ = some (.int .i64 y6) ∧ w5.cell? ⟨s9, 18, none⟩ = some (.int .i64 y7) ∧ w5.cell? ⟨s9, 19, none⟩ = some (.int .i64 y8) ∧ w5.cell? ⟨s9, 20, none⟩ = some (.int .i64 at_) ∧ w5.cell? ⟨s9, 21, none⟩ = some (.slice A2 its.length c2) := (by have hh := hx5; refine ⟨?_, ?_, ?_, ?_, ?_, ?_, ?_, ?_, ?_, ?_, ?_, ?_, ?_, ?_, ?_, ?_, ?_, ?_, ?_, ?_, ?_, ?_⟩ <;> (rw [Lib.cell_of_heap hh]; rfl)); have hzl5 := lt_of_row hx5; have HX5 := Lib.hid hx5; have HM5 := Lib.hid hm5; have HG5 := Lib.hid hg5; have HF5 := Lib.hid hf5; have HB5 := Lib.hid (HB4.out.trans (hf5.to_below HB4.out.size (fun i hi e => by have := HBM.out; omega))); clear hm5 hg5 hf5 hx5)
                      | (go_at_call 37; (with_reducible refine (HFO.out _).mono ?_); rintro e w7 ⟨rfl, hb7⟩; have HX7 := Lib.hid (show w7.heap[s9]? = some (.cells #[.int .i64 3, .int .i64 kind, .string key, .string val, .int .u64 n, .string lo, .string hi, .int .i64 err, .bool has, .string aval, .slice A1 aits.length c1, .int .i64 y0, .int .i64 y1, .int .i64 y2, .int .i64 y3, .int .i64 y4, .int .i64 y5, .int .i64 y6, .int .i64 y7, .int .i64 y8, .int .i64 at_, .slice A2 its.length c2] 71 (0, 0)) from box_below (((Fr.refl (fun _ => False) _).alloc _).row id HX5.out) hb7); have HXB7 := Lib.hid (show w7.heap[w5.heap.size]? = some (.cells #[.int .i64 0, .bool has, .string aval, .slice A1 aits.length c1, .int .i64 y0, .int .i64 y1, .int .i64 y2, .int .i64 y3, .int .i64 y4, .int .i64 y5, .int .i64 y6, .int .i64 y7, .int .i64 y8] 35 (0, 0)) from box_below (heap_alloc_new w5 _) hb7); have HB57 := Lib.hid (below_next (below_alloc (Below.refl _ w5)) hb7); clear hb7)
                      | (go_at_call 36; (with_reducible refine (HRD.out _ (HF5.out.trans (Fr.of_below HB57.out) (fun i _ e => e))).mono ?_); rintro e w8 ⟨B8, c8, rfl, hue, hr8, hf8⟩; have hs45 := HF5.out.size; have hs57 := HB57.out.size; have hx8 : w8.heap[s9]? = some (.cells #[.int .i64 3, .int .i64 kind, .string key, .string val, .int .u64 n, .string lo, .string hi, .int .i64 err, .bool has, .string aval, .slice A1 aits.length c1, .int .i64 y0, .int .i64 y1, .int .i64 y2, .int .i64 y3, .int .i64 y4, .int .i64 y5, .int .i64 y6, .int .i64 y7, .int .i64 y8, .int .i64 at_, .slice A2 its.length c2] 71 (0, 0)) := hf8.row hnu HX7.out; obtain ⟨f0, f1, f2, f3, f4, f5, f6, f7, f8, f9, f10, f11, f12, f13, f14, f15, f16, f17, f18, f19, f20, f21⟩ : w8.cell? ⟨s9, 0, none⟩ = some (.int .i64 3) ∧ w8.cell? ⟨s9, 1, none⟩ = some (.int .i64 kind) ∧ w8.cell? ⟨s9, 2, none⟩ = some (.string key) ∧ w8.cell? ⟨s9, 3, none⟩ = some (.string val) ∧ w8.cell? ⟨s9, 4, none⟩ = some (.int .u64 n) ∧ w8.cell? ⟨s9, 5, none⟩ = some (.string lo) ∧ w8.cell? ⟨s9, 6, none⟩ = some (.string hi) ∧ w8.cell? ⟨s9, 7, none⟩ = some (.int .i64 err) ∧ w8.cell? ⟨s9, 8, none⟩ = some (.bool has) ∧ w8.cell? ⟨s9, 9, none⟩ = some (.string aval) ∧ w8.cell? ⟨s9, 10, none⟩ = some (.slice A1 aits.length c1) ∧ w8.cell? ⟨s9, 11, none⟩ = some (.int .i64 y0) ∧ w8.cell? ⟨s9, 12, none⟩ = some (.int .i64 y1) ∧ w8.cell? ⟨s9, 13, none⟩ = some (.int .i64 y2) ∧ w8.cell? ⟨s9, 14, none⟩ = some (.int .i64 y3) ∧ w8.cell? ⟨s9, 15, none⟩ = some (.int .i64 y4) ∧ w8.cell? ⟨s9, 16, none⟩ = some (.int .i64 y5) ∧ w8.cell? ⟨s9, 17, none⟩ = some (.int .i64 y6) ∧ w8.cell? ⟨s9, 18, none⟩ = some (.int .i64 y7) ∧ w8.cell? ⟨s9, 19, none⟩ = some (.int .i64 y8) ∧ w8.cell? ⟨s9, 20, none⟩ = some (.int .i64 at_) ∧ w8.cell? ⟨s9, 21, none⟩ = some (.slice A2 its.length c2) := (by have hh := hx8; refine ⟨?_, ?_, ?_, ?_, ?_, ?_, ?_, ?_, ?_, ?_, ?_, ?_, ?_, ?_, ?_, ?_, ?_, ?_, ?_, ?_, ?_, ?_⟩ <;> (rw [Lib.cell_of_heap hh]; rfl)); have hzl8 := lt_of_row hx8; have HXB8 := Lib.hid (show w8.heap[w5.heap.size]? = some (.cells #[.int .i64 0, .bool has, .string aval, .slice A1 aits.length c1, .int .i64 y0, .int .i64 y1, .int .i64 y2, .int .i64 y3, .int .i64 y4, .int .i64 y5, .int .i64 y6, .int .i64 y7, .int .i64 y8] 35 (0, 0)) from hf8.row (by omega) HXB7.out); have HUE := Lib.hid hue; have HR8 := Lib.hid hr8; have HM8 := Lib.hid (model_ref ((ref_model hr4 hm4 HF5.out).below HB57.out) (HM5.out.below HB57.out) hf8); have HB8 := Lib.hid ((below_next HB5.out HB57.out).trans (hf8.to_below (below_next HB5.out HB57.out).size (fun i hi e => by have := HBU.out; omega))); have HS58 := Lib.hid (show w5.heap.size < w8.heap.size from lt_of_row HXB8.out); clear hue hr8 hf8 hx8)
                      | (refine wpList_store_row rfl 35 (Operand.tmp 11) (Operand.tmp 98) rfl w5.heap.size _ ([.int .i64 err, .bool has, .string aval, .slice A1 aits.length c1, .int .i64 y0, .int .i64 y1, .int .i64 y2, .int .i64 y3, .int .i64 y4, .int .i64 y5, .int .i64 y6, .int .i64 y7, .int .i64 y8]) _ rfl rfl (((Fr.refl (fun _ => False) _).alloc _).row id HXB8.out) rfl HAZ.out (an_all (⟨err, has, aval, aits, ⟨y0, y1, y2, y3, y4, y5, y6, y7, y8⟩⟩ : An) A1 c1) ?_; intro w9 hr9 hf9; have hs58 := HS58.out; have HXC9 := Lib.hid (show w9.heap[w8.heap.size]? = some (.cells #[.int .i64 rr.err, .bool rr.has, .string rr.val, .slice B8 rr.its.length c8, .int .i64 rr.st.a0, .int .i64 rr.st.a1, .int .i64 0, .int .i64 0, .int .i64 0] 76 (0, 0)) from hf9.row (by omega) (heap_alloc_new w8 _)); have HR9 := Lib.hid hr9; have HF9 := Lib.hid hf9; have u4 : w9.cell? ⟨w5.heap.size, 4, none⟩ = some (.int .i64 y0) := (by rw [Lib.cell_of_heap hr9]; rfl); have u5 : w9.cell? ⟨w5.heap.size, 5, none⟩ = some (.int .i64 y1) := (by rw [Lib.cell_of_heap hr9]; rfl); clear hr9 hf9)
                      | (refine sta_store rfl (Operand.tmp 106) (Operand.tmp 105) rfl w5.heap.size (⟨err, has, aval, aits, ⟨y0, y1, y2, y3, y4, y5, y6, y7, y8⟩⟩ : An) A1 c1 rfl rfl HR9.out ?_; intro w10 hr10 hf10; have hs58 := HS58.out; have HXC10 := Lib.hid (show w10.heap[w8.heap.size]? = some (.cells #[.int .i64 rr.err, .bool rr.has, .string rr.val, .slice B8 rr.its.length c8, .int .i64 rr.st.a0, .int .i64 rr.st.a1, .int .i64 0, .int .i64 0, .int .i64 0] 76 (0, 0)) from hf10.row (by omega) HXC9.out); have HR10 := Lib.hid hr10; have HF10 := Lib.hid hf10; have HB10 := Lib.hid (((below_alloc HB8.out).trans (HF9.out.to_below (below_alloc HB8.out).size (fun i hi e => by have := HB5.out.size; omega))).trans (hf10.to_below (Nat.le_trans (below_alloc HB8.out).size HF9.out.size) (fun i hi e => by have := HB5.out.size; omega))); clear hr10 hf10)
                      | (refine wpList_load_mid rfl 35 (Operand.tmp 11) rfl w5.heap.size 0 rfl ([.int .i64 err, .bool has, .string aval, .slice A1 aits.length c1, .int .i64 y0, .int .i64 y1, .int .i64 0, .int .i64 0, .int .i64 0, .int .i64 0, .int .i64 0, .int .i64 0, .int .i64 0]) _ (row_range HR10.out) Tryz.underlying35 rfl HAZ.out ?_)
                      | (refine wpList_load_mid rfl 76 (Operand.tmp 12) rfl w8.heap.size 0 rfl ([.int .i64 rr.err, .bool rr.has, .string rr.val, .slice B8 rr.its.length c8, .int .i64 rr.st.a0, .int .i64 rr.st.a1, .int .i64 0, .int .i64 0, .int .i64 0]) _ (row_range HXC10.out) Tryz.underlying76 rfl HRZ9.out ?_)
                      | (go_at_call 38; (with_reducible refine (HAK.out _ _ _ (HE1.out.below HB10.out) (((HUE.out.below (below_alloc (Below.refl _ w8))).fr HF9.out (fun q hq _ => by subst hq; exact ⟨_, _, ((Fr.refl (fun _ => False) _).alloc _).row id HXB8.out, by decide⟩)).fr HF10.out (fun q hq _ => by subst hq; exact ⟨_, _, HR9.out, by decide⟩)).el).mono ?_); rintro e w11 ⟨rfl, hb11⟩; have HB11 := Lib.hid hb11; clear hb11))
                    have hm9 := model_other (cs := [.int .i64 0, .bool has, .string aval, .slice A1 aits.length c1, .int .i64 y0, .int .i64 y1, .int .i64 y2, .int .i64 y3, .int .i64 y4, .int .i64 y5, .int .i64 y6, .int .i64 y7, .int .i64 y8]) (HM8.out.below (below_alloc (Below.refl _ w8))) (((Fr.refl (fun _ => False) _).alloc _).row id HXB8.out) (by decide) (by decide) (by decide) (an_nopair (⟨0, has, aval, aits, ⟨y0, y1, y2, y3, y4, y5, y6, y7, y8⟩⟩ : An) A1 c1) HF9.out
                    have hm10 := model_other hm9 HR9.out (by decide) (by decide) (by decide) (an_nopair (⟨err, has, aval, aits, ⟨y0, y1, y2, y3, y4, y5, y6, y7, y8⟩⟩ : An) A1 c1) HF10.out
                    have hr9 := ref_other (HR8.out.below (below_alloc (Below.refl _ w8))) (((Fr.refl (fun _ => False) _).alloc _).row id HXB8.out) (by decide) (by decide) (by decide) HF9.out
                    have hr10 := ref_other hr9 HR9.out (by decide) (by decide) (by decide) HF10.out
                    have hmz := hm10.below HB11.out
                    have hrz := hr10.below HB11.out
                    have hg5 := HG5.out
                    have hgz : w.heap.size ≤ g5 := hg5.elim (fun h => by omega) (fun h => Nat.le_trans HB4.out.size h)
                    have hbz : Below w.heap.size w w11 := below_next HB10.out HB11.out
                    clear hg5 hm9 hm10 hr9 hr10
                    as_aux_lemma =>
                      have HMZ := Lib.hid hmz
                      have HRZ := Lib.hid hrz
                      have HBZ := Lib.hid hbz
                      have hposz := hmz.pos
                      obtain ⟨D, hD⟩ : ∃ D : Nat, RR.length = D + 1 := ⟨RR.length - 1, by omega⟩
                      have hD100 : D ≤ 101 := by omega
                      have hlz := HL'.out
                      have hlzl : l'.length ≤ 101 := by have := HRB.out l' (List.mem_of_getElem? hlz); omega
                      obtain ⟨gr, offz, capz, vs, q1, q2, q3, _⟩ := hrz.row
                      rw [hD] at q2
                      have x1 : w11.cell? ⟨bu, 1, none⟩ = some (.slice (some ⟨gr, offz, none⟩) (D + 1) capz) := by rw [Lib.cell_of_heap q1, ← q2]; rfl
                      have xl := lt_of_row q1
                      have hi1 := fun W (hW : Below w11.heap.size w11 W) => mitems_any bm g5 N RR l' W (HMZ.out.below hW) hlz (by omega) (by omega)
                      have hnow := fun W (hW : Below w11.heap.size w11 W) => refNow_any bu (pCap N) RR l' W (HRZ.out.below hW) hlz (by omega)
                      have hsm := fun W A' c' A2 c2 h1 h2 => refSame_any A' A2 c' c2 l' l' W h1 h2 (by omega) (by omega)
                      simp only [decide_true] at hsm
                      have hwt := fun W (hW : Below w11.heap.size w11 W) => mweight_any bm g5 N RR l' W (HMZ.out.below hW) hlz (by omega)
                      have hrw := fun W A' c' h1 => refWeight_any A' c' l' W h1 (model_rows HMZ.out (List.mem_of_getElem? hlz)).2 (by omega)
                      have hlate := fun W (hW : Below w11.heap.size w11 W) => late_any bm g5 N RR W (HMZ.out.below hW) (by omega)
                      rw [show (RR.length : Int) - 1 = (D : Int) by omega] at hlate
                      generalize sumW l' = S at *
                      have hwD : IntKind.i64.wrap (D : Int) = (D : Int) := by rw [IntKind.wrap_i64]; omega
                      have hwD2 : IntKind.i64.wrap ((D : Int) + 1 - 1) = (D : Int) := by rw [IntKind.wrap_i64]; omega
                      have HI1 := Lib.hid hi1
                      have HNOW := Lib.hid hnow
                      have HSMZ := Lib.hid hsm
                      have HWT := Lib.hid hwt
                      have HRW := Lib.hid hrw
                      have HLATE := Lib.hid hlate
                      clear hi1 hnow hsm hwt hrw hlate hmz hrz hbz q1 q2 q3 hlz hposz
                      refine rg_start (n := 25) (fun w' => w'.cell? ⟨bu, 1, none⟩ = some (.slice (some ⟨gr, offz, none⟩) (D + 1) capz) ∧ bu < w'.heap.size ∧ Below w11.heap.size w11 w') #[false, false, false, false, false, false, false, false, false, false, false, false, false, false, false, false, false, false, false, false, false, false, false, false, false] (by kernel_rfl) rfl rfl ⟨x1, xl, (Below.refl _ w11).drew⟩ (fun hHeld => ?_)
                      refine rg_take (i := 0) (N := (some 151)) (v := ?_) (a' := ?_) #[true, false, false, false, false, false, false, false, false, false, false, false, false, false, false, false, false, false, false, false, false, false, false, false, false] rfl rfl (by kernel_rfl) (fun _ _ _ h => h) (by rfl) ?_ hHeld ?_ ?_
                      rotate_left 2
                      · rintro w' ⟨s0, s1, s2⟩
                        go_simp
                        try with_reducible rfl
                      · simp only [Act.put, List.setIfInBounds_toArray, List.set_cons_zero, List.set_cons_succ]
                        rfl
                      refine rg_take (i := 2) (N := (some 153)) (v := ?_) (a' := ?_) #[true, false, true, false, false, false, false, false, false, false, false, false, false, false, false, false, false, false, false, false, false, false, false, false, false] rfl rfl (by kernel_rfl) (fun _ _ _ h => h) (by rfl) ?_ hHeld ?_ ?_
                      rotate_left 2
                      · rintro w' ⟨s0, s1, s2⟩
                        go_simp
                        try with_reducible rfl
                      · simp only [Act.put, List.setIfInBounds_toArray, List.set_cons_zero, List.set_cons_succ]
                        rfl
                      refine rg_one (i := 1) #[true, true, true, false, false, false, false, false, false, false, false, false, false, false, false, false, false, false, false, false, false, false, false, false, false] rfl (by kernel_rfl) (by rfl) (fun K hK => ?_)
                      obtain ⟨s0, s1, s2⟩ := hHeld
                      repeat go_step
                      ((with_reducible refine (HI1.out _ s2).mono ?_); rintro e t1 ⟨At1, ct1, rfl, ho1, hb1⟩)
                      try dsimp only
                      refine hK.out _ _ ?_ (fun hHeld => ?_)
                      · exact ⟨keep_cell hb1 s1 s0, keep_lt hb1 s1, below_next s2 hb1⟩
                      clear hK K
                      clear s0 s1 s2
                      refine rg_one (i := 3) #[true, true, true, true, false, false, false, false, false, false, false, false, false, false, false, false, false, false, false, false, false, false, false, false, false] rfl (by kernel_rfl) (by rfl) (fun K hK => ?_)
                      obtain ⟨s0, s1, s2⟩ := hHeld
                      repeat go_step
                      ((with_reducible refine (HNOW.out _ s2).mono ?_); rintro e t3 ⟨At3, ct3, rfl, hel3, hb3⟩)
                      try dsimp only
                      refine hK.out _ _ ?_ (fun hHeld => ?_)
                      · exact ⟨keep_cell hb3 s1 s0, keep_lt hb3 s1, below_next s2 hb3⟩
                      clear hK K
                      clear s0 s1 s2
                      refine rg_one (i := 4) #[true, true, true, true, true, false, false, false, false, false, false, false, false, false, false, false, false, false, false, false, false, false, false, false, false] rfl (by kernel_rfl) (by rfl) (fun K hK => ?_)
                      obtain ⟨s0, s1, s2⟩ := hHeld
                      repeat go_step
                      ((first | (with_reducible refine (HSMZ.out _ _ _ _ _ ((ho1.below hb3).elems Itm.clen) hel3).mono ?_) | (with_reducible refine (HSMZ.out _ _ _ _ _ (ho1.elems Itm.clen) (hel3.below hb1)).mono ?_)); rintro e t4 ⟨rfl, hb4⟩)
                      try dsimp only
                      refine hK.out _ _ ?_ (fun hHeld => ?_)
                      · exact ⟨keep_cell hb4 s1 s0, keep_lt hb4 s1, below_next s2 hb4⟩
                      clear hK K
                      clear s0 s1 s2
                      refine rg_take (i := 5) (N := (some 156)) (v := ?_) (a' := ?_) #[true, true, true, true, true, true, false, false, false, false, false, false, false, false, false, false, false, false, false, false, false, false, false, false, false] rfl rfl (by kernel_rfl) (fun _ _ _ h => h) (by rfl) ?_ hHeld ?_ ?_
                      rotate_left 2
                      · rintro w' ⟨s0, s1, s2⟩
                        go_simp
                        try with_reducible rfl
                      · simp only [Act.put, List.setIfInBounds_toArray, List.set_cons_zero, List.set_cons_succ]
                        rfl
                      refine rg_take (i := 6) (N := (some 157)) (v := ?_) (a' := ?_) #[true, true, true, true, true, true, true, false, false, false, false, false, false, false, false, false, false, false, false, false, false, false, false, false, false] rfl rfl (by kernel_rfl) (fun _ _ _ h => h) (by rfl) ?_ hHeld ?_ ?_
                      rotate_left 2
                      · rintro w' ⟨s0, s1, s2⟩
                        go_simp
                        try with_reducible rfl
                      · simp only [Act.put, List.setIfInBounds_toArray, List.set_cons_zero, List.set_cons_succ]
                        rfl
                      refine rg_take (i := 7) (N := (some 158)) (v := ?_) (a' := ?_) #[true, true, true, true, true, true, true, true, false, false, false, false, false, false, false, false, false, false, false, false, false, false, false, false, false] rfl rfl (by kernel_rfl) (fun _ _ _ h => h) (by rfl) ?_ hHeld ?_ ?_
                      rotate_left 2
                      · rintro w' ⟨s0, s1, s2⟩
                        go_simp
                        try with_reducible rfl
                      · simp only [Act.put, List.setIfInBounds_toArray, List.set_cons_zero, List.set_cons_succ]
                        rfl
                      refine rg_take (i := 9) (N := (some 160)) (v := ?_) (a' := ?_) #[true, true, true, true, true, true, true, true, false, true, false, false, false, false, false, false, false, false, false, false, false, false, false, false, false] rfl rfl (by kernel_rfl) (fun _ _ _ h => h) (by rfl) ?_ hHeld ?_ ?_
                      rotate_left 2
                      · rintro w' ⟨s0, s1, s2⟩
                        go_simp
                        try with_reducible rfl
                      · simp only [Act.put, List.setIfInBounds_toArray, List.set_cons_zero, List.set_cons_succ]
                        rfl
                      refine rg_one (i := 8) #[true, true, true, true, true, true, true, true, true, true, false, false, false, false, false, false, false, false, false, false, false, false, false, false, false] rfl (by kernel_rfl) (by rfl) (fun K hK => ?_)
                      obtain ⟨s0, s1, s2⟩ := hHeld
                      repeat go_step
                      ((with_reducible refine (HWT.out _ s2).mono ?_); rintro e t8 ⟨rfl, hb8⟩; (try have hel10 := hel10.below hb8))
                      try dsimp only
                      refine hK.out _ _ ?_ (fun hHeld => ?_)
                      · exact ⟨keep_cell hb8 s1 s0, keep_lt hb8 s1, below_next s2 hb8⟩
                      clear hK K
                      clear s0 s1 s2
                      refine rg_one (i := 10) #[true, true, true, true, true, true, true, true, true, true, true, false, false, false, false, false, false, false, false, false, false, false, false, false, false] rfl (by kernel_rfl) (by rfl) (fun K hK => ?_)
                      obtain ⟨s0, s1, s2⟩ := hHeld
                      repeat go_step
                      ((with_reducible refine (HNOW.out _ s2).mono ?_); rintro e t10 ⟨At10, ct10, rfl, hel10, hb10⟩)
                      try dsimp only
                      refine hK.out _ _ ?_ (fun hHeld => ?_)
                      · exact ⟨keep_cell hb10 s1 s0, keep_lt hb10 s1, below_next s2 hb10⟩
                      clear hK K
                      clear s0 s1 s2
                      refine rg_one (i := 11) #[true, true, true, true, true, true, true, true, true, true, true, true, false, false, false, false, false, false, false, false, false, false, false, false, false] rfl (by kernel_rfl) (by rfl) (fun K hK => ?_)
                      obtain ⟨s0, s1, s2⟩ := hHeld
                      repeat go_step
                      ((with_reducible refine (HRW.out _ _ _ hel10).mono ?_); rintro e t11 ⟨rfl, hb11⟩)
                      try dsimp only
                      refine hK.out _ _ ?_ (fun hHeld => ?_)
                      · exact ⟨keep_cell hb11 s1 s0, keep_lt hb11 s1, below_next s2 hb11⟩
                      clear hK K
                      clear s0 s1 s2
                      refine rg_take (i := 12) (N := (some 163)) (v := ?_) (a' := ?_) #[true, true, true, true, true, true, true, true, true, true, true, true, true, false, false, false, false, false, false, false, false, false, false, false, false] rfl rfl (by kernel_rfl) (fun _ _ _ h => h) (by rfl) ?_ hHeld ?_ ?_
                      rotate_left 2
                      · rintro w' ⟨s0, s1, s2⟩
                        go_simp
                        try with_reducible rfl
                      · simp only [Act.put, List.setIfInBounds_toArray, List.set_cons_zero, List.set_cons_succ]
                        rfl
                      refine rg_take (i := 13) (N := (some 164)) (v := ?_) (a' := ?_) #[true, true, true, true, true, true, true, true, true, true, true, true, true, true, false, false, false, false, false, false, false, false, false, false, false] rfl rfl (by kernel_rfl) (fun _ _ _ h => h) (by rfl) ?_ hHeld ?_ ?_
                      rotate_left 2
                      · rintro w' ⟨s0, s1, s2⟩
                        go_simp
                        try with_reducible rfl
                      · simp only [Act.put, List.setIfInBounds_toArray, List.set_cons_zero, List.set_cons_succ]
                        rfl
                      refine rg_take (i := 14) (N := (some 165)) (v := ?_) (a' := ?_) #[true, true, true, true, true, true, true, true, true, true, true, true, true, true, true, false, false, false, false, false, false, false, false, false, false] rfl rfl (by kernel_rfl) (fun _ _ _ h => h) (by rfl) ?_ hHeld ?_ ?_
                      rotate_left 2
                      · rintro w' ⟨s0, s1, s2⟩
                        go_simp
                        try with_reducible rfl
                      · simp only [Act.put, List.setIfInBounds_toArray, List.set_cons_zero, List.set_cons_succ]
                        rfl
                      refine rg_take (i := 15) (N := (some 166)) (v := ?_) (a' := ?_) #[true, true, true, true, true, true, true, true, true, true, true, true, true, true, true, true, false, false, false, false, false, false, false, false, false] rfl rfl (by kernel_rfl) (fun _ _ _ h => h) (by rfl) ?_ hHeld ?_ ?_
                      rotate_left 2
                      · rintro w' ⟨s0, s1, s2⟩
                        go_simp
                        try with_reducible rfl
                      · simp only [Act.put, List.setIfInBounds_toArray, List.set_cons_zero, List.set_cons_succ]
                        rfl
                      refine rg_take (i := 17) (N := (some 168)) (v := ?_) (a' := ?_) #[true, true, true, true, true, true, true, true, true, true, true, true, true, true, true, true, false, true, false, false, false, false, false, false, false] rfl rfl (by kernel_rfl) (fun _ _ _ h => h) (by rfl) ?_ hHeld ?_ ?_
                      rotate_left 2
                      · rintro w' ⟨s0, s1, s2⟩
                        go_simp
                        try with_reducible rfl
                      · simp only [Act.put, List.setIfInBounds_toArray, List.set_cons_zero, List.set_cons_succ]
                        rfl
                      refine rg_take (i := 18) (N := (some 169)) (v := ?_) (a' := ?_) #[true, true, true, true, true, true, true, true, true, true, true, true, true, true, true, true, false, true, true, false, false, false, false, false, false] rfl rfl (by kernel_rfl) (fun _ _ _ h => h) (by rfl) ?_ hHeld ?_ ?_
                      rotate_left 2
                      · rintro w' ⟨s0, s1, s2⟩
                        go_simp
                        try with_reducible rfl
                      · simp only [Act.put, List.setIfInBounds_toArray, List.set_cons_zero, List.set_cons_succ]
                        rfl
                      refine rg_take (i := 19) (N := (some 170)) (v := ?_) (a' := ?_) #[true, true, true, true, true, true, true, true, true, true, true, true, true, true, true, true, false, true, true, true, false, false, false, false, false] rfl rfl (by kernel_rfl) (fun _ _ _ h => h) (by rfl) ?_ hHeld ?_ ?_
                      rotate_left 2
                      · rintro w' ⟨s0, s1, s2⟩
                        go_simp
                        try with_reducible rfl
                      · simp only [Act.put, List.setIfInBounds_toArray, List.set_cons_zero, List.set_cons_succ]
                        rfl
                      refine rg_take (i := 20) (N := (some 171)) (v := ?_) (a' := ?_) #[true, true, true, true, true, true, true, true, true, true, true, true, true, true, true, true, false, true, true, true, true, false, false, false, false] rfl rfl (by kernel_rfl) (fun _ _ _ h => h) (by rfl) ?_ hHeld ?_ ?_
                      rotate_left 2
                      · rintro w' ⟨s0, s1, s2⟩
                        go_simp
                        try with_reducible rfl
                      · simp only [Act.put, List.setIfInBounds_toArray, List.set_cons_zero, List.set_cons_succ]
                        rfl
                      refine rg_take (i := 21) (N := (some 172)) (v := ?_) (a' := ?_) #[true, true, true, true, true, true, true, true, true, true, true, true, true, true, true, true, false, true, true, true, true, true, false, false, false] rfl rfl (by kernel_rfl) (fun _ _ _ h => h) (by rfl) ?_ hHeld ?_ ?_
                      rotate_left 2
                      · rintro w' ⟨s0, s1, s2⟩
                        go_simp
                        try with_reducible rfl
                      · simp only [Act.put, List.setIfInBounds_toArray, List.set_cons_zero, List.set_cons_succ]
                        rfl
                      refine rg_take (i := 22) (N := (some 173)) (v := ?_) (a' := ?_) #[true, true, true, true, true, true, true, true, true, true, true, true, true, true, true, true, false, true, true, true, true, true, true, false, false] rfl rfl (by kernel_rfl) (fun _ _ _ h => h) (by rfl) ?_ hHeld ?_ ?_
                      rotate_left 2
                      · rintro w' ⟨s0, s1, s2⟩
                        go_simp
                        try with_reducible rfl
                      · simp only [Act.put, List.setIfInBounds_toArray, List.set_cons_zero, List.set_cons_succ]
                        rfl
                      refine rg_one (i := 16) #[true, true, true, true, true, true, true, true, true, true, true, true, true, true, true, true, true, true, true, true, true, true, true, false, false] rfl (by kernel_rfl) (by rfl) (fun K hK => ?_)
                      obtain ⟨s0, s1, s2⟩ := hHeld
                      repeat go_step
                      ((with_reducible refine (HLATE.out _ s2).mono ?_); rintro e t16 ⟨rfl, hb16⟩)
                      try dsimp only
                      refine hK.out _ _ ?_ (fun hHeld => ?_)
                      · exact ⟨keep_cell hb16 s1 s0, keep_lt hb16 s1, below_next s2 hb16⟩
                      clear hK K
                      clear s0 s1 s2
                      refine rg_take (i := 23) (N := (some 174)) (v := ?_) (a' := ?_) #[true, true, true, true, true, true, true, true, true, true, true, true, true, true, true, true, true, true, true, true, true, true, true, true, false] rfl rfl (by kernel_rfl) (fun _ _ _ h => h) (by rfl) ?_ hHeld ?_ ?_
                      rotate_left 2
                      · rintro w' ⟨s0, s1, s2⟩
                        go_simp
                        try with_reducible rfl
                      · simp only [Act.put, List.setIfInBounds_toArray, List.set_cons_zero, List.set_cons_succ]
                        rfl
                      refine rg_take (i := 24) (N := (some 175)) (v := ?_) (a' := ?_) #[true, true, true, true, true, true, true, true, true, true, true, true, true, true, true, true, true, true, true, true, true, true, true, true, true] rfl rfl (by kernel_rfl) (fun _ _ _ h => h) (by rfl) ?_ hHeld ?_ ?_
                      rotate_left 2
                      · rintro w' ⟨s0, s1, s2⟩
                        go_simp
                        try with_reducible rfl
                      · simp only [Act.put, List.setIfInBounds_toArray, List.set_cons_zero, List.set_cons_succ]
                        rfl
                      refine rg_done (by kernel_rfl) ?_
                      obtain ⟨_, _, rb⟩ := hHeld
                      have HRBZ := Lib.hid rb
                      clear rb hwD hwD2
                      go_wp2
                      refine ⟨⟨k + 1, g5, RR, l', by go_num, by omega, HMZ.out.below HRBZ.out, HRZ.out.below HRBZ.out, hgz, HL'.out, by omega, HRB.out, below_next HBZ.out HRBZ.out⟩, ?_⟩
                      simp [intOf]
                      omega
            by_cases hk4 : kd = 4
            · as_aux_lemma =>
                subst hk4
                go_wp2_with (first
                  | (refine wpList_load_mid rfl 71 (Operand.tmp 39) rfl b (off + k * 22) rfl [.int .i64 4, .int .i64 kind, .string key, .string val, .int .u64 n, .string lo, .string hi, .int .i64 err, .bool has, .string aval, .slice A1 aits.length c1, .int .i64 y0, .int .i64 y1, .int .i64 y2, .int .i64 y3, .int .i64 y4, .int .i64 y5, .int .i64 y6, .int .i64 y7, .int .i64 y8, .int .i64 at_, .slice A2 its.length c2] _ HRNG.out Tryz.underlying71 rfl HXZ.out ?_)
                  | (refine wpList_store_row rfl 71 (Operand.tmp 9) (Operand.tmp 40) rfl wr.heap.size _ [.int .i64 4, .int .i64 kind, .string key, .string val, .int .u64 n, .string lo, .string hi, .int .i64 err, .bool has, .string aval, .slice A1 aits.length c1, .int .i64 y0, .int .i64 y1, .int .i64 y2, .int .i64 y3, .int .i64 y4, .int .i64 y5, .int .i64 y6, .int .i64 y7, .int .i64 y8, .int .i64 at_, .slice A2 its.length c2] _ rfl rfl (heap_alloc_new wr _) rfl HXZ.out (act_all _ _ _ _ _ _ _ _ _ _ _ _ _ _ _ _ _ _ _ _ _ _ _ _ _ _) ?_; intro w3 hr3 hf3; generalize hs9 : wr.heap.size = s9 at hr3 hf3; have hb03 : Below wr.heap.size wr w3 := (below_alloc (Below.refl _ wr)).trans (hf3.to_below (below_alloc (Below.refl _ wr)).size (fun i hi e => by omega)); have HX3 := Lib.hid hr3; have HB03 := Lib.hid hb03; have HS := Lib.hid hs9; clear hr3 hf3 hb03)
                  | (refine wpList_load_mid rfl 39 (Operand.tmp 41) rfl s9 1 rfl ([.int .i64 kind, .string key, .string val, .int .u64 n, .string lo, .string hi]) _ (row_part (pre := [.int .i64 4]) HX3.out) Tryz.underlying39 rfl HOZ.out ?_)
                  | (go_at_call 16; (with_reducible refine (HLO.out _).mono ?_); rintro e w4 ⟨rfl, hb4⟩; have hx4 : w4.heap[s9]? = some (.cells #[.int .i64 4, .int .i64 kind, .string key, .string val, .int .u64 n, .string lo, .string hi, .int .i64 err, .bool has, .string aval, .slice A1 aits.length c1, .int .i64 y0, .int .i64 y1, .int .i64 y2, .int .i64 y3, .int .i64 y4, .int .i64 y5, .int .i64 y6, .int .i64 y7, .int .i64 y8, .int .i64 at_, .slice A2 its.length c2] 71 (0, 0)) := box_below HX3.out hb4; obtain ⟨z0, z1, z2, z3, z4, z5, z6, z7, z8, z9, z10, z11, z12, z13, z14, z15, z16, z17, z18, z19, z20, z21⟩ : w4.cell? ⟨s9, 0, none⟩ = some (.int .i64 4) ∧ w4.cell? ⟨s9, 1, none⟩ = some (.int .i64 kind) ∧ w4.cell? ⟨s9, 2, none⟩ = some (.string key) ∧ w4.cell? ⟨s9, 3, none⟩ = some (.string val) ∧ w4.cell? ⟨s9, 4, none⟩ = some (.int .u64 n) ∧ w4.cell? ⟨s9, 5, none⟩ = some (.string lo) ∧ w4.cell? ⟨s9, 6, none⟩ = some (.string hi) ∧ w4.cell? ⟨s9, 7, none⟩ = some (.int .i64 err) ∧ w4.cell? ⟨s9, 8, none⟩ = some (.bool has) ∧ w4.cell? ⟨s9, 9, none⟩ = some (.string aval) ∧ w4.cell? ⟨s9, 10, none⟩ = some (.slice A1 aits.length c1) ∧ w4.cell? ⟨s9, 11, none⟩ = some (.int .i64 y0) ∧ w4.cell? ⟨s9, 12, none⟩ = some (.int .i64 y1) ∧ w4.cell? ⟨s9, 13, none⟩ = some (.int .i64 y2) ∧ w4.cell? ⟨s9, 14, none⟩ = some (.int .i64 y3) ∧ w4.cell? ⟨s9, 15, none⟩ = some (.int .i64 y4) ∧ w4.cell? ⟨s9, 16, none⟩ = some (.int .i64 y5) ∧ w4.cell? ⟨s9, 17, none⟩ = some (.int .i64 y6) ∧ w4.cell? ⟨s9, 18, none⟩ = some (.int .i64 y7) ∧ w4.cell? ⟨s9, 19, none⟩ = some (.int .i64 y8) ∧ w4.cell? ⟨s9, 20, none⟩ = some (.int .i64 at_) ∧ w4.cell? ⟨s9, 21, none⟩ = some (.slice A2 its.length c2) := (by have hh := hx4; refine ⟨?_, ?_, ?_, ?_, ?_, ?_, ?_, ?_, ?_, ?_, ?_, ?_, ?_, ?_, ?_, ?_, ?_, ?_, ?_, ?_, ?_, ?_⟩ <;> (rw [Lib.cell_of_heap hh]; rfl)); have hzl := lt_of_row hx4; have HX4 := Lib.hid hx4; have HB4 := Lib.hid (below_next (below_next HBE.out HB03.out) hb4); have HB04 := Lib.hid (below_next HB03.out hb4); clear hb4 hx4))
                clear z0 z1 z2 z3 z4 z5 z6 z7 z8 z9 z10 z11 z12 z13 z14 z15 z16 z17 z18 z19 z21
                have hm4 := HMO.out.below HB04.out
                have hr4 := HRF.out.below HB04.out
                have hl60 : l.length ≤ 60000 := by omega
                have hs4 := HB04.out.size
                have hbm4 : bm < w4.heap.size := by omega
                have hgl4 : g < w4.heap.size := by omega
                have hbu4 : bu < w4.heap.size := by omega
                have hs9l : s9 = wr.heap.size := HS.out.symm
                have hnm : ¬ s9 = bm := by omega
                have hng : ¬ s9 = g := by omega
                have hnu : ¬ s9 = bu := by omega
                clear hs9l hs9
                have hits50 : its.length ≤ 50 := by omega
                have hlrows : ∀ x ∈ ls, x.length ≤ 80000 := fun x hx => by have := HLB.out x hx; omega
                have hposl := hr4.pos
                obtain ⟨D0, hD0⟩ : ∃ D0 : Nat, ls.length = D0 + 1 := ⟨ls.length - 1, by omega⟩
                obtain ⟨gr4, off4, cap4, vs4, p1, p2, p3, ⟨cs4, p4⟩, p5, p6⟩ := hr4.row
                rw [hD0] at p2
                have x1 : w4.cell? ⟨bu, 1, none⟩ = some (.slice (some ⟨gr4, off4, none⟩) (D0 + 1) cap4) := by rw [Lib.cell_of_heap p1, ← p2]; rfl
                obtain ⟨j, hj, hK4⟩ := at_modU at_ D0 (by omega)
                have hjI : (j : Int) < (D0 : Int) + 1 := by omega
                have hj0 : (0 : Int) ≤ (j : Int) := by omega
                have hu4 : IntKind.u64.wrap ((D0 : Int) + 1) = (D0 : Int) + 1 := by simp [IntKind.wrap, IntKind.signed, IntKind.bits]; omega
                have hne4 : (((D0 : Int) + 1) == 0) = false := by simp; omega
                obtain ⟨v4, hv4⟩ := get_lt (l := vs4) (i := j) (by omega)
                obtain ⟨lj, hlj⟩ := get_lt (l := ls) (i := j) (by omega)
                obtain ⟨Aj, cj, rfl, hrowj⟩ := p6 j v4 lj hv4 hlj
                have xj := p5 j _ hv4
                have xgl := lt_of_row p4
                have hmem := List.mem_of_getElem? hlj
                obtain ⟨hrj, hoj⟩ := model_rows hm4 hmem
                have hljl := HLB.out lj hmem
                have hlost : lostB ls lj = true := by rw [lostB_rises hrj hoj]; exact decide_eq_true hmem
                have hlo1 := fun W (hW : Below w4.heap.size w4 W) => lost_any bm g N ls Aj cj lj W (hm4.below hW) (hrowj.el.below hW) (by omega) (by omega) hlrows
                have hlo2 := fun W (hV : Fr (fun k => k = bm) w4 W) => refLost_any bu (pCap N) ls Aj cj lj W (ref_model hr4 hm4 (hV.mono (fun _ _ e => .inl e))) (rowAt_bm hrowj hm4 (hV.mono (fun _ _ e => .inl e))).el (by omega) (by omega) hlrows
                unfold LostRes at hlo1
                unfold RefLost at hlo2
                rw [hlost, if_pos rfl, iso_self hrj] at hlo1 hlo2
                have HL2 := Lib.hid (show [lj][[lj].length - 1]? = some lj from rfl)
                have HRB2 := Lib.hid (show ∀ x ∈ [lj], x.length ≤ k + 1 from fun x hx => by simp at hx; subst hx; omega)
                have hRL2 : [lj].length ≤ ls.length + 1 := by simp
                generalize [lj] = RR at *
                have HLO1 := Lib.hid hlo1
                have HLO2 := Lib.hid hlo2
                clear hlo1 hlo2
                clear hlost p1 p2 p3 p4 p5 p6 hrowj hrj hoj hv4 hlj hmem hposl
                go_wp2
                go_quiet (fail)
                go_wp2_with (first
                  | (go_at_call 14; (with_reducible refine (HLO1.out _ (below_drewN (Below.refl _ w4) _)).mono ?_); rintro e w5 ⟨g5, rfl, hm5, hg5, hf5⟩; have hV5 : Fr (fun k => k = bm) w4 w5 := (Fr.of_below (S := fun k => k = bm) (below_drewN (Below.refl _ w4) _)).trans hf5 (fun i _ e => e); have HV5 := Lib.hid hV5; have HM5 := Lib.hid hm5; have HG5 := Lib.hid hg5; clear hm5 hg5 hf5 hV5)
                  | (go_at_call 39; (with_reducible refine (HLO2.out _ HV5.out).mono ?_); rintro e w6 ⟨rfl, hr6, hf6⟩; have HR6 := Lib.hid hr6; have HF6 := Lib.hid hf6; clear hr6 hf6))
                have hmz := model_ref (ref_model hr4 hm4 (HV5.out.mono (fun _ _ e => .inl e))) HM5.out HF6.out
                have hrz := HR6.out
                have hg5 := HG5.out
                have hgz : w.heap.size ≤ g5 := hg5.elim (fun h => by omega) (fun h => Nat.le_trans HB4.out.size h)
                have hbz : Below w.heap.size w w6 := HB4.out.trans (((HV5.out.mono (S' := fun k => k = bm ∨ k = bu) (fun _ _ e => .inl e)).trans HF6.out (fun i _ e => .inr e)).to_below HB4.out.size (fun i hi e => by have := HBM.out; have := HBU.out; omega))
                clear hg5 hu4 hne4 hjI hj0
                as_aux_lemma =>
                  have HMZ := Lib.hid hmz
                  have HRZ := Lib.hid hrz
                  have HBZ := Lib.hid hbz
                  have hposz := hmz.pos
                  obtain ⟨D, hD⟩ : ∃ D : Nat, RR.length = D + 1 := ⟨RR.length - 1, by omega⟩
                  have hD100 : D ≤ 101 := by omega
                  have hlz := HL2.out
                  have hlzl : lj.length ≤ 101 := by have := HRB2.out lj (List.mem_of_getElem? hlz); omega
                  obtain ⟨gr, offz, capz, vs, q1, q2, q3, _⟩ := hrz.row
                  rw [hD] at q2
                  have x1 : w6.cell? ⟨bu, 1, none⟩ = some (.slice (some ⟨gr, offz, none⟩) (D + 1) capz) := by rw [Lib.cell_of_heap q1, ← q2]; rfl
                  have xl := lt_of_row q1
                  have hi1 := fun W (hW : Below w6.heap.size w6 W) => mitems_any bm g5 N RR lj W (HMZ.out.below hW) hlz (by omega) (by omega)
                  have hnow := fun W (hW : Below w6.heap.size w6 W) => refNow_any bu (pCap N) RR lj W (HRZ.out.below hW) hlz (by omega)
                  have hsm := fun W A' c' A2 c2 h1 h2 => refSame_any A' A2 c' c2 lj lj W h1 h2 (by omega) (by omega)
                  simp only [decide_true] at hsm
                  have hwt := fun W (hW : Below w6.heap.size w6 W) => mweight_any bm g5 N RR lj W (HMZ.out.below hW) hlz (by omega)
                  have hrw := fun W A' c' h1 => refWeight_any A' c' lj W h1 (model_rows HMZ.out (List.mem_of_getElem? hlz)).2 (by omega)
                  have hlate := fun W (hW : Below w6.heap.size w6 W) => late_any bm g5 N RR W (HMZ.out.below hW) (by omega)
                  rw [show (RR.length : Int) - 1 = (D : Int) by omega] at hlate
                  generalize sumW lj = S at *
                  have hwD : IntKind.i64.wrap (D : Int) = (D : Int) := by rw [IntKind.wrap_i64]; omega
                  have hwD2 : IntKind.i64.wrap ((D : Int) + 1 - 1) = (D : Int) := by rw [IntKind.wrap_i64]; omega
                  have HI1 := Lib.hid hi1
                  have HNOW := Lib.hid hnow
                  have HSMZ := Lib.hid hsm
                  have HWT := Lib.hid hwt
                  have HRW := Lib.hid hrw
                  have HLATE := Lib.hid hlate
                  clear hi1 hnow hsm hwt hrw hlate hmz hrz hbz q1 q2 q3 hlz hposz
                  refine rg_start (n := 25) (fun w' => w'.cell? ⟨bu, 1, none⟩ = some (.slice (some ⟨gr, offz, none⟩) (D + 1) capz) ∧ bu < w'.heap.size ∧ Below w6.heap.size w6 w') #[false, false, false, false, false, false, false, false, false, false, false, false, false, false, false, false, false, false, false, false, false, false, false, false, false] (by kernel_rfl) rfl rfl ⟨x1, xl, (Below.refl _ w6).drew⟩ (fun hHeld => ?_)
                  refine rg_take (i := 0) (N := (some 151)) (v := ?_) (a' := ?_) #[true, false, false, false, false, false, false, false, false, false, false, false, false, false, false, false, false, false, false, false, false, false, false, false, false] rfl rfl (by kernel_rfl) (fun _ _ _ h => h) (by rfl) ?_ hHeld ?_ ?_
                  rotate_left 2
                  · rintro w' ⟨s0, s1, s2⟩
                    go_simp
                    try with_reducible rfl
                  · simp only [Act.put, List.setIfInBounds_toArray, List.set_cons_zero, List.set_cons_succ]
                    rfl
                  refine rg_take (i := 2) (N := (some 153)) (v := ?_) (a' := ?_) #[true, false, true, false, false, false, false, false, false, false, false, false, false, false, false, false, false, false, false, false, false, false, false, false, false] rfl rfl (by kernel_rfl) (fun _ _ _ h => h) (by rfl) ?_ hHeld ?_ ?_
                  rotate_left 2
                  · rintro w' ⟨s0, s1, s2⟩
                    go_simp
                    try with_reducible rfl
                  · simp only [Act.put, List.setIfInBounds_toArray, List.set_cons_zero, List.set_cons_succ]
                    rfl
                  refine rg_one (i := 1) #[true, true, true, false, false, false, false, false, false, false, false, false, false, false, false, false, false, false, false, false, false, false, false, false, false] rfl (by kernel_rfl) (by rfl) (fun K hK => ?_)
                  obtain ⟨s0, s1, s2⟩ := hHeld
                  repeat go_step
                  ((with_reducible refine (HI1.out _ s2).mono ?_); rintro e t1 ⟨At1, ct1, rfl, ho1, hb1⟩)
                  try dsimp only
                  refine hK.out _ _ ?_ (fun hHeld => ?_)
                  · exact ⟨keep_cell hb1 s1 s0, keep_lt hb1 s1, below_next s2 hb1⟩
                  clear hK K
                  clear s0 s1 s2
                  refine rg_one (i := 3) #[true, true, true, true, false, false, false, false, false, false, false, false, false, false, false, false, false, false, false, false, false, false, false, false, false] rfl (by kernel_rfl) (by rfl) (fun K hK => ?_)
                  obtain ⟨s0, s1, s2⟩ := hHeld
                  repeat go_step
                  ((with_reducible refine (HNOW.out _ s2).mono ?_); rintro e t3 ⟨At3, ct3, rfl, hel3, hb3⟩)
                  try dsimp only
                  refine hK.out _ _ ?_ (fun hHeld => ?_)
                  · exact ⟨keep_cell hb3 s1 s0, keep_lt hb3 s1, below_next s2 hb3⟩
                  clear hK K
                  clear s0 s1 s2
                  refine rg_one (i := 4) #[true, true, true, true, true, false, false, false, false, false, false, false, false, false, false, false, false, false, false, false, false, false, false, false, false] rfl (by kernel_rfl) (by rfl) (fun K hK => ?_)
                  obtain ⟨s0, s1, s2⟩ := hHeld
                  repeat go_step
                  ((first | (with_reducible refine (HSMZ.out _ _ _ _ _ ((ho1.below hb3).elems Itm.clen) hel3).mono ?_) | (with_reducible refine (HSMZ.out _ _ _ _ _ (ho1.elems Itm.clen) (hel3.below hb1)).mono ?_)); rintro e t4 ⟨rfl, hb4⟩)
                  try dsimp only
                  refine hK.out _ _ ?_ (fun hHeld => ?_)
                  · exact ⟨keep_cell hb4 s1 s0, keep_lt hb4 s1, below_next s2 hb4⟩
                  clear hK K
                  clear s0 s1 s2
                  refine rg_take (i := 5) (N := (some 156)) (v := ?_) (a' := ?_) #[true, true, true, true, true, true, false, false, false, false, false, false, false, false, false, false, false, false, false, false, false, false, false, false, false] rfl rfl (by kernel_rfl) (fun _ _ _ h => h) (by rfl) ?_ hHeld ?_ ?_
                  rotate_left 2
                  · rintro w' ⟨s0, s1, s2⟩
                    go_simp
                    try with_reducible rfl
                  · simp only [Act.put, List.setIfInBounds_toArray, List.set_cons_zero, List.set_cons_succ]
                    rfl
                  refine rg_take (i := 6) (N := (some 157)) (v := ?_) (a' := ?_) #[true, true, true, true, true, true, true, false, false, false, false, false, false, false, false, false, false, false, false, false, false, false, false, false, false] rfl rfl (by kernel_rfl) (fun _ _ _ h => h) (by rfl) ?_ hHeld ?_ ?_
                  rotate_left 2
                  · rintro w' ⟨s0, s1, s2⟩
                    go_simp
                    try with_reducible rfl
                  · simp only [Act.put, List.setIfInBounds_toArray, List.set_cons_zero, List.set_cons_succ]
                    rfl
                  refine rg_take (i := 7) (N := (some 158)) (v := ?_) (a' := ?_) #[true, true, true, true, true, true, true, true, false, false, false, false, false, false, false, false, false, false, false, false, false, false, false, false, false] rfl rfl (by kernel_rfl) (fun _ _ _ h => h) (by rfl) ?_ hHeld ?_ ?_
                  rotate_left 2
                  · rintro w' ⟨s0, s1, s2⟩
                    go_simp
                    try with_reducible rfl
                  · simp only [Act.put, List.setIfInBounds_toArray, List.set_cons_zero, List.set_cons_succ]
                    rfl
                  refine rg_take (i := 9) (N := (some 160)) (v := ?_) (a' := ?_) #[true, true, true, true, true, true, true, true, false, true, false, false, false, false, false, false, false, false, false, false, false, false, false, false, false] rfl rfl (by kernel_rfl) (fun _ _ _ h => h) (by rfl) ?_ hHeld ?_ ?_
                  rotate_left 2
                  · rintro w' ⟨s0, s1, s2⟩
                    go_simp
                    try with_reducible rfl
                  · simp only [Act.put, List.setIfInBounds_toArray, List.set_cons_zero, List.set_cons_succ]
                    rfl
                  refine rg_one (i := 8) #[true, true, true, true, true, true, true, true, true, true, false, false, false, false, false, false, false, false, false, false, false, false, false, false, false] rfl (by kernel_rfl) (by rfl) (fun K hK => ?_)
                  obtain ⟨s0, s1, s2⟩ := hHeld
                  repeat go_step
                  ((with_reducible refine (HWT.out _ s2).mono ?_); rintro e t8 ⟨rfl, hb8⟩; (try have hel10 := hel10.below hb8))
                  try dsimp only
                  refine hK.out _ _ ?_ (fun hHeld => ?_)
                  · exact ⟨keep_cell hb8 s1 s0, keep_lt hb8 s1, below_next s2 hb8⟩
                  clear hK K
                  clear s0 s1 s2
                  refine rg_one (i := 10) #[true, true, true, true, true, true, true, true, true, true, true, false, false, false, false, false, false, false, false, false, false, false, false, false, false] rfl (by kernel_rfl) (by rfl) (fun K hK => ?_)
                  obtain ⟨s0, s1, s2⟩ := hHeld
                  repeat go_step
                  ((with_reducible refine (HNOW.out _ s2).mono ?_); rintro e t10 ⟨At10, ct10, rfl, hel10, hb10⟩)
                  try dsimp only
                  refine hK.out _ _ ?_ (fun hHeld => ?_)
                  · exact ⟨keep_cell hb10 s1 s0, keep_lt hb10 s1, below_next s2 hb10⟩
                  clear hK K
                  clear s0 s1 s2
                  refine rg_one (i := 11) #[true, true, true, true, true, true, true, true, true, true, true, true, false, false, false, false, false, false, false, false, false, false, false, false, false] rfl (by kernel_rfl) (by rfl) (fun K hK => ?_)
                  obtain ⟨s0, s1, s2⟩ := hHeld
                  repeat go_step
                  ((with_reducible refine (HRW.out _ _ _ hel10).mono ?_); rintro e t11 ⟨rfl, hb11⟩)
                  try dsimp only
                  refine hK.out _ _ ?_ (fun hHeld => ?_)
                  · exact ⟨keep_cell hb11 s1 s0, keep_lt hb11 s1, below_next s2 hb11⟩
                  clear hK K
                  clear s0 s1 s2
                  refine rg_take (i := 12) (N := (some 163)) (v := ?_) (a' := ?_) #[true, true, true, true, true, true, true, true, true, true, true, true, true, false, false, false, false, false, false, false, false, false, false, false, false] rfl rfl (by kernel_rfl) (fun _ _ _ h => h) (by rfl) ?_ hHeld ?_ ?_
                  rotate_left 2
                  · rintro w' ⟨s0, s1, s2⟩
                    go_simp
                    try with_reducible rfl
                  · simp only [Act.put, List.setIfInBounds_toArray, List.set_cons_zero, List.set_cons_succ]
                    rfl
                  refine rg_take (i := 13) (N := (some 164)) (v := ?_) (a' := ?_) #[true, true, true, true, true, true, true, true, true, true, true, true, true, true, false, false, false, false, false, false, false, false, false, false, false] rfl rfl (by kernel_rfl) (fun _ _ _ h => h) (by rfl) ?_ hHeld ?_ ?_
                  rotate_left 2
                  · rintro w' ⟨s0, s1, s2⟩
                    go_simp
                    try with_reducible rfl
                  · simp only [Act.put, List.setIfInBounds_toArray, List.set_cons_zero, List.set_cons_succ]
                    rfl
                  refine rg_take (i := 14) (N := (some 165)) (v := ?_) (a' := ?_) #[true, true, true, true, true, true, true, true, true, true, true, true, true, true, true, false, false, false, false, false, false, false, false, false, false] rfl rfl (by kernel_rfl) (fun _ _ _ h => h) (by rfl) ?_ hHeld ?_ ?_
                  rotate_left 2
                  · rintro w' ⟨s0, s1, s2⟩
                    go_simp
                    try with_reducible rfl
                  · simp only [Act.put, List.setIfInBounds_toArray, List.set_cons_zero, List.set_cons_succ]
                    rfl
                  refine rg_take (i := 15) (N := (some 166)) (v := ?_) (a' := ?_) #[true, true, true, true, true, true, true, true, true, true, true, true, true, true, true, true, false, false, false, false, false, false, false, false, false] rfl rfl (by kernel_rfl) (fun _ _ _ h => h) (by rfl) ?_ hHeld ?_ ?_
                  rotate_left 2
                  · rintro w' ⟨s0, s1, s2⟩
                    go_simp
                    try with_reducible rfl
                  · simp only [Act.put, List.setIfInBounds_toArray, List.set_cons_zero, List.set_cons_succ]
                    rfl
                  refine rg_take (i := 17) (N := (some 168)) (v := ?_) (a' := ?_) #[true, true, true, true, true, true, true, true, true, true, true, true, true, true, true, true, false, true, false, false, false, false, false, false, false] rfl rfl (by kernel_rfl) (fun _ _ _ h => h) (by rfl) ?_ hHeld ?_ ?_
                  rotate_left 2
                  · rintro w' ⟨s0, s1, s2⟩
                    go_simp
                    try with_reducible rfl
                  · simp only [Act.put, List.setIfInBounds_toArray, List.set_cons_zero, List.set_cons_succ]
                    rfl
                  refine rg_take (i := 18) (N := (some 169)) (v := ?_) (a' := ?_) #[true, true, true, true, true, true, true, true, true, true, true, true, true, true, true, true, false, true, true, false, false, false, false, false, false] rfl rfl (by kernel_rfl) (fun _ _ _ h => h) (by rfl) ?_ hHeld ?_ ?_
                  rotate_left 2
                  · rintro w' ⟨s0, s1, s2⟩
                    go_simp
                    try with_reducible rfl
                  · simp only [Act.put, List.setIfInBounds_toArray, List.set_cons_zero, List.set_cons_succ]
                    rfl
                  refine rg_take (i := 19) (N := (some 170)) (v := ?_) (a' := ?_) #[true, true, true, true, true, true, true, true, true, true, true, true, true, true, true, true, false, true, true, true, false, false, false, false, false] rfl rfl (by kernel_rfl) (fun _ _ _ h => h) (by rfl) ?_ hHeld ?_ ?_
                  rotate_left 2
                  · rintro w' ⟨s0, s1, s2⟩
                    go_simp
                    try with_reducible rfl
                  · simp only [Act.put, List.setIfInBounds_toArray, List.set_cons_zero, List.set_cons_succ]
                    rfl
                  refine rg_take (i := 20) (N := (some 171)) (v := ?_) (a' := ?_) #[true, true, true, true, true, true, true, true, true, true, true, true, true, true, true, true, false, true, true, true, true, false, false, false, false] rfl rfl (by kernel_rfl) (fun _ _ _ h => h) (by rfl) ?_ hHeld ?_ ?_
                  rotate_left 2
                  · rintro w' ⟨s0, s1, s2⟩
                    go_simp
                    try with_reducible rfl
                  · simp only [Act.put, List.setIfInBounds_toArray, List.set_cons_zero, List.set_cons_succ]
                    rfl
                  refine rg_take (i := 21) (N := (some 172)) (v := ?_) (a' := ?_) #[true, true, true, true, true, true, true, true, true, true, true, true, true, true, true, true, false, true, true, true, true, true, false, false, false] rfl rfl (by kernel_rfl) (fun _ _ _ h => h) (by rfl) ?_ hHeld ?_ ?_
                  rotate_left 2
                  · rintro w' ⟨s0, s1, s2⟩
                    go_simp
                    try with_reducible rfl
                  · simp only [Act.put, List.setIfInBounds_toArray, List.set_cons_zero, List.set_cons_succ]
                    rfl
                  refine rg_take (i := 22) (N := (some 173)) (v := ?_) (a' := ?_) #[true, true, true, true, true, true, true, true, true, true, true, true, true, true, true, true, false, true, true, true, true, true, true, false, false] rfl rfl (by kernel_rfl) (fun _ _ _ h => h) (by rfl) ?_ hHeld ?_ ?_
                  rotate_left 2
                  · rintro w' ⟨s0, s1, s2⟩
                    go_simp
                    try with_reducible rfl
                  · simp only [Act.put, List.setIfInBounds_toArray, List.set_cons_zero, List.set_cons_succ]
                    rfl
                  refine rg_one (i := 16) #[true, true, true, true, true, true, true, true, true, true, true, true, true, true, true, true, true, true, true, true, true, true, true, false, false] rfl (by kernel_rfl) (by rfl) (fun K hK => ?_)
                  obtain ⟨s0, s1, s2⟩ := hHeld
                  repeat go_step
                  ((with_reducible refine (HLATE.out _ s2).mono ?_); rintro e t16 ⟨rfl, hb16⟩)
                  try dsimp only
                  refine hK.out _ _ ?_ (fun hHeld => ?_)
                  · exact ⟨keep_cell hb16 s1 s0, keep_lt hb16 s1, below_next s2 hb16⟩
                  clear hK K
                  clear s0 s1 s2
                  refine rg_take (i := 23) (N := (some 174)) (v := ?_) (a' := ?_) #[true, true, true, true, true, true, true, true, true, true, true, true, true, true, true, true, true, true, true, true, true, true, true, true, false] rfl rfl (by kernel_rfl) (fun _ _ _ h => h) (by rfl) ?_ hHeld ?_ ?_
                  rotate_left 2
                  · rintro w' ⟨s0, s1, s2⟩
                    go_simp
                    try with_reducible rfl
                  · simp only [Act.put, List.setIfInBounds_toArray, List.set_cons_zero, List.set_cons_succ]
                    rfl
                  refine rg_take (i := 24) (N := (some 175)) (v := ?_) (a' := ?_) #[true, true, true, true, true, true, true, true, true, true, true, true, true, true, true, true, true, true, true, true, true, true, true, true, true] rfl rfl (by kernel_rfl) (fun _ _ _ h => h) (by rfl) ?_ hHeld ?_ ?_
                  rotate_left 2
                  · rintro w' ⟨s0, s1, s2⟩
                    go_simp
                    try with_reducible rfl
                  · simp only [Act.put, List.setIfInBounds_toArray, List.set_cons_zero, List.set_cons_succ]
                    rfl
                  refine rg_done (by kernel_rfl) ?_
                  obtain ⟨_, _, rb⟩ := hHeld
                  have HRBZ := Lib.hid rb
                  clear rb hwD hwD2
                  go_wp2
                  refine ⟨⟨k + 1, g5, RR, lj, by go_num, by omega, HMZ.out.below HRBZ.out, HRZ.out.below HRBZ.out, hgz, HL2.out, by omega, HRB2.out, below_next HBZ.out HRBZ.out⟩, ?_⟩
                  simp [intOf]
                  omega
            by_cases hk5 : kd = 5
            · as_aux_lemma =>
                subst hk5
                go_wp2_with (first
                  | (refine wpList_load_mid rfl 71 (Operand.tmp 39) rfl b (off + k * 22) rfl [.int .i64 5, .int .i64 kind, .string key, .string val, .int .u64 n, .string lo, .string hi, .int .i64 err, .bool has, .string aval, .slice A1 aits.length c1, .int .i64 y0, .int .i64 y1, .int .i64 y2, .int .i64 y3, .int .i64 y4, .int .i64 y5, .int .i64 y6, .int .i64 y7, .int .i64 y8, .int .i64 at_, .slice A2 its.length c2] _ HRNG.out Tryz.underlying71 rfl HXZ.out ?_)
                  | (refine wpList_store_row rfl 71 (Operand.tmp 9) (Operand.tmp 40) rfl wr.heap.size _ [.int .i64 5, .int .i64 kind, .string key, .string val, .int .u64 n, .string lo, .string hi, .int .i64 err, .bool has, .string aval, .slice A1 aits.length c1, .int .i64 y0, .int .i64 y1, .int .i64 y2, .int .i64 y3, .int .i64 y4, .int .i64 y5, .int .i64 y6, .int .i64 y7, .int .i64 y8, .int .i64 at_, .slice A2 its.length c2] _ rfl rfl (heap_alloc_new wr _) rfl HXZ.out (act_all _ _ _ _ _ _ _ _ _ _ _ _ _ _ _ _ _ _ _ _ _ _ _ _ _ _) ?_; intro w3 hr3 hf3; generalize hs9 : wr.heap.size = s9 at hr3 hf3; have hb03 : Below wr.heap.size wr w3 := (below_alloc (Below.refl _ wr)).trans (hf3.to_below (below_alloc (Below.refl _ wr)).size (fun i hi e => by omega)); have HX3 := Lib.hid hr3; have HB03 := Lib.hid hb03; have HS := Lib.hid hs9; clear hr3 hf3 hb03)
                  | (refine wpList_load_mid rfl 39 (Operand.tmp 41) rfl s9 1 rfl ([.int .i64 kind, .string key, .string val, .int .u64 n, .string lo, .string hi]) _ (row_part (pre := [.int .i64 5]) HX3.out) Tryz.underlying39 rfl HOZ.out ?_)
                  | (go_at_call 16; (with_reducible refine (HLO.out _).mono ?_); rintro e w4 ⟨rfl, hb4⟩; have hx4 : w4.heap[s9]? = some (.cells #[.int .i64 5, .int .i64 kind, .string key, .string val, .int .u64 n, .string lo, .string hi, .int .i64 err, .bool has, .string aval, .slice A1 aits.length c1, .int .i64 y0, .int .i64 y1, .int .i64 y2, .int .i64 y3, .int .i64 y4, .int .i64 y5, .int .i64 y6, .int .i64 y7, .int .i64 y8, .int .i64 at_, .slice A2 its.length c2] 71 (0, 0)) := box_below HX3.out hb4; obtain ⟨z0, z1, z2, z3, z4, z5, z6, z7, z8, z9, z10, z11, z12, z13, z14, z15, z16, z17, z18, z19, z20, z21⟩ : w4.cell? ⟨s9, 0, none⟩ = some (.int .i64 5) ∧ w4.cell? ⟨s9, 1, none⟩ = some (.int .i64 kind) ∧ w4.cell? ⟨s9, 2, none⟩ = some (.string key) ∧ w4.cell? ⟨s9, 3, none⟩ = some (.string val) ∧ w4.cell? ⟨s9, 4, none⟩ = some (.int .u64 n) ∧ w4.cell? ⟨s9, 5, none⟩ = some (.string lo) ∧ w4.cell? ⟨s9, 6, none⟩ = some (.string hi) ∧ w4.cell? ⟨s9, 7, none⟩ = some (.int .i64 err) ∧ w4.cell? ⟨s9, 8, none⟩ = some (.bool has) ∧ w4.cell? ⟨s9, 9, none⟩ = some (.string aval) ∧ w4.cell? ⟨s9, 10, none⟩ = some (.slice A1 aits.length c1) ∧ w4.cell? ⟨s9, 11, none⟩ = some (.int .i64 y0) ∧ w4.cell? ⟨s9, 12, none⟩ = some (.int .i64 y1) ∧ w4.cell? ⟨s9, 13, none⟩ = some (.int .i64 y2) ∧ w4.cell? ⟨s9, 14, none⟩ = some (.int .i64 y3) ∧ w4.cell? ⟨s9, 15, none⟩ = some (.int .i64 y4) ∧ w4.cell? ⟨s9, 16, none⟩ = some (.int .i64 y5) ∧ w4.cell? ⟨s9, 17, none⟩ = some (.int .i64 y6) ∧ w4.cell? ⟨s9, 18, none⟩ = some (.int .i64 y7) ∧ w4.cell? ⟨s9, 19, none⟩ = some (.int .i64 y8) ∧ w4.cell? ⟨s9, 20, none⟩ = some (.int .i64 at_) ∧ w4.cell? ⟨s9, 21, none⟩ = some (.slice A2 its.length c2) := (by have hh := hx4; refine ⟨?_, ?_, ?_, ?_, ?_, ?_, ?_, ?_, ?_, ?_, ?_, ?_, ?_, ?_, ?_, ?_, ?_, ?_, ?_, ?_, ?_, ?_⟩ <;> (rw [Lib.cell_of_heap hh]; rfl)); have hzl := lt_of_row hx4; have HX4 := Lib.hid hx4; have HB4 := Lib.hid (below_next (below_next HBE.out HB03.out) hb4); have HB04 := Lib.hid (below_next HB03.out hb4); clear hb4 hx4))
                clear z0 z1 z2 z3 z4 z5 z6 z7 z8 z9 z10 z11 z12 z13 z14 z15 z16 z17 z18 z19 z20
                have hm4 := HMO.out.below HB04.out
                have hr4 := HRF.out.below HB04.out
                have hl60 : l.length ≤ 60000 := by omega
                have hs4 := HB04.out.size
                have hbm4 : bm < w4.heap.size := by omega
                have hgl4 : g < w4.heap.size := by omega
                have hbu4 : bu < w4.heap.size := by omega
                have hs9l : s9 = wr.heap.size := HS.out.symm
                have hnm : ¬ s9 = bm := by omega
                have hng : ¬ s9 = g := by omega
                have hnu : ¬ s9 = bu := by omega
                clear hs9l hs9
                have hits50 : its.length ≤ 50 := by omega
                have hlrows : ∀ x ∈ ls, x.length ≤ 80000 := fun x hx => by have := HLB.out x hx; omega
                have hlo1 := fun W (hW : Below w4.heap.size w4 W) => lost_any bm g N ls A2 c2 its W (hm4.below hW) (HE2.out.below (below_next HB4.out hW)) (by omega) (by omega) hlrows
                have hlo2 := fun W (hV : Fr (fun k => k = bm) w4 W) => refLost_any bu (pCap N) ls A2 c2 its W (ref_model hr4 hm4 (hV.mono (fun _ _ e => .inl e))) (HE2.out.below (HB4.out.trans (hV.to_below HB4.out.size (fun i hi e => by have := HBM.out; omega)))) (by omega) (by omega) hlrows
                unfold LostRes at hlo1
                unfold RefLost at hlo2
                have hRR : ∃ l2, (if lostB ls its = true then [isoL its] else ls)[(if lostB ls its = true then [isoL its] else ls).length - 1]? = some l2 ∧ (if lostB ls its = true then [isoL its] else ls).length ≤ ls.length + 1 ∧ ∀ x ∈ (if lostB ls its = true then [isoL its] else ls), x.length ≤ k + 1 := by
                  cases hb : lostB ls its with
                  | true =>
                    rw [if_pos rfl]
                    refine ⟨isoL its, rfl, by simp, fun x hx => ?_⟩
                    simp at hx
                    subst hx
                    unfold lostB at hb
                    simp at hb
                    have := HLB.out _ hb.2
                    omega
                  | false =>
                    rw [if_neg (by decide)]
                    exact ⟨l, HLAST.out, by omega, fun x hx => by have := HLB.out x hx; omega⟩
                obtain ⟨l2, hl2, hRL2, hrb2⟩ := hRR
                generalize (if lostB ls its = true then [isoL its] else ls) = RR at *
                generalize lostB ls its = bb at *
                have HL2 := Lib.hid hl2
                have HRB2 := Lib.hid hrb2
                clear hl2 hrb2
                have HLO1 := Lib.hid hlo1
                have HLO2 := Lib.hid hlo2
                clear hlo1 hlo2
                have hW : Fr (fun k => k = bm ∨ k = g ∨ k = bu) w4 w4.drew := Fr.of_below (Below.refl _ w4).drew
                refine rg_start (n := 9) (fun w' => w'.cell? ⟨s9, 21, none⟩ = some (.slice A2 its.length c2) ∧ s9 < w'.heap.size ∧ Fr (fun k => k = bm ∨ k = g ∨ k = bu) w4 w') #[false, false, false, false, false, false, false, false, false] (by kernel_rfl) rfl rfl ⟨z21, hzl, hW⟩ (fun hHeld => ?_)
                refine rg_take (i := 0) (N := (some 142)) (v := ?_) (a' := ?_) #[true, false, false, false, false, false, false, false, false] rfl rfl (by kernel_rfl) (fun _ _ _ h => h) (by rfl) ?_ hHeld ?_ ?_
                rotate_left 2
                · rintro w' ⟨s0, s1, s2⟩
                  go_simp
                  try with_reducible rfl
                · simp only [Act.put, List.setIfInBounds_toArray, List.set_cons_zero, List.set_cons_succ]
                  rfl
                refine rg_take (i := 1) (N := (some 143)) (v := ?_) (a' := ?_) #[true, true, false, false, false, false, false, false, false] rfl rfl (by kernel_rfl) (fun _ _ _ h => h) (by rfl) ?_ hHeld ?_ ?_
                rotate_left 2
                · rintro w' ⟨s0, s1, s2⟩
                  go_simp
                  try with_reducible rfl
                · simp only [Act.put, List.setIfInBounds_toArray, List.set_cons_zero, List.set_cons_succ]
                  rfl
                refine rg_take (i := 2) (N := (some 144)) (v := ?_) (a' := ?_) #[true, true, true, false, false, false, false, false, false] rfl rfl (by kernel_rfl) (fun _ _ _ h => h) (by rfl) ?_ hHeld ?_ ?_
                rotate_left 2
                · rintro w' ⟨s0, s1, s2⟩
                  go_simp
                  try with_reducible rfl
                · simp only [Act.put, List.setIfInBounds_toArray, List.set_cons_zero, List.set_cons_succ]
                  rfl
                refine rg_take (i := 4) (N := (some 146)) (v := ?_) (a' := ?_) #[true, true, true, false, true, false, false, false, false] rfl rfl (by kernel_rfl) (fun _ _ _ h => h) (by rfl) ?_ hHeld ?_ ?_
                rotate_left 2
                · rintro w' ⟨s0, s1, s2⟩
                  go_simp
                  try with_reducible rfl
                · simp only [Act.put, List.setIfInBounds_toArray, List.set_cons_zero, List.set_cons_succ]
                  rfl
                refine rg_take (i := 5) (N := (some 147)) (v := ?_) (a' := ?_) #[true, true, true, false, true, true, false, false, false] rfl rfl (by kernel_rfl) (fun _ _ _ h => h) (by rfl) ?_ hHeld ?_ ?_
                rotate_left 2
                · rintro w' ⟨s0, s1, s2⟩
                  go_simp
                  try with_reducible rfl
                · simp only [Act.put, List.setIfInBounds_toArray, List.set_cons_zero, List.set_cons_succ]
                  rfl
                refine rg_take (i := 6) (N := (some 148)) (v := ?_) (a' := ?_) #[true, true, true, false, true, true, true, false, false] rfl rfl (by kernel_rfl) (fun _ _ _ h => h) (by rfl) ?_ hHeld ?_ ?_
                rotate_left 2
                · rintro w' ⟨s0, s1, s2⟩
                  go_simp
                  try with_reducible rfl
                · simp only [Act.put, List.setIfInBounds_toArray, List.set_cons_zero, List.set_cons_succ]
                  rfl
                refine rg_one (i := 3) #[true, true, true, true, true, true, true, false, false] rfl (by kernel_rfl) (by rfl) (fun K hK => ?_)
                obtain ⟨s0, s1, s2⟩ := hHeld
                repeat go_step
                ((with_reducible refine (HLO1.out _ (Below.refl _ w4).drew).mono ?_); rintro e w5 ⟨g5, rfl, hm5, hg5, hf5⟩; have hV5 : Fr (fun k => k = bm) w4 w5 := (Fr.of_below (S := fun k => k = bm) (Below.refl _ w4).drew).trans hf5 (fun i _ e => e); have hW5 := s2.trans hf5 (fun i _ e => .inl e))
                try dsimp only
                refine hK.out _ _ ?_ (fun hHeld => ?_)
                · exact ⟨hf5.cell s1 (by omega) s0, Nat.lt_of_lt_of_le s1 hf5.size, hW5⟩
                clear hK K
                clear s0 s1 s2
                refine rg_one (i := 7) #[true, true, true, true, true, true, true, true, false] rfl (by kernel_rfl) (by rfl) (fun K hK => ?_)
                obtain ⟨s0, s1, s2⟩ := hHeld
                repeat go_step
                ((with_reducible refine (HLO2.out _ hV5).mono ?_); rintro e w6 ⟨rfl, hrz, hf6⟩; have hmz := model_ref (ref_model hr4 hm4 (hV5.mono (fun _ _ e => .inl e))) hm5 hf6; have hW6 := s2.trans hf6 (fun i _ e => .inr (.inr e)); have hgz : w.heap.size ≤ g5 := hg5.elim (fun h => by omega) (fun h => Nat.le_trans HB4.out.size h))
                try dsimp only
                refine hK.out _ _ ?_ (fun hHeld => ?_)
                · exact ⟨hf6.cell s1 (by omega) s0, Nat.lt_of_lt_of_le s1 hf6.size, hW6⟩
                clear hK K
                clear s0 s1 s2
                refine rg_take (i := 8) (N := (some 150)) (v := ?_) (a' := ?_) #[true, true, true, true, true, true, true, true, true] rfl rfl (by kernel_rfl) (fun _ _ _ h => h) (by rfl) ?_ hHeld ?_ ?_
                rotate_left 2
                · rintro w' ⟨s0, s1, s2⟩
                  go_simp
                  try with_reducible rfl
                · simp only [Act.put, List.setIfInBounds_toArray, List.set_cons_zero, List.set_cons_succ]
                  rfl
                refine rg_done (by kernel_rfl) ?_
                obtain ⟨_, _, rW⟩ := hHeld
                have hbz : Below w.heap.size w w6 := HB4.out.trans (rW.to_below HB4.out.size (fun i hi e => by have := HBM.out; have := HBU.out; omega))
                clear rW
                go_wp2
                as_aux_lemma =>
                  have HMZ := Lib.hid hmz
                  have HRZ := Lib.hid hrz
                  have HBZ := Lib.hid hbz
                  have hposz := hmz.pos
                  obtain ⟨D, hD⟩ : ∃ D : Nat, RR.length = D + 1 := ⟨RR.length - 1, by omega⟩
                  have hD100 : D ≤ 101 := by omega
                  have hlz := HL2.out
                  have hlzl : l2.length ≤ 101 := by have := HRB2.out l2 (List.mem_of_getElem? hlz); omega
                  obtain ⟨gr, offz, capz, vs, q1, q2, q3, _⟩ := hrz.row
                  rw [hD] at q2
                  have x1 : w6.cell? ⟨bu, 1, none⟩ = some (.slice (some ⟨gr, offz, none⟩) (D + 1) capz) := by rw [Lib.cell_of_heap q1, ← q2]; rfl
                  have xl := lt_of_row q1
                  have hi1 := fun W (hW : Below w6.heap.size w6 W) => mitems_any bm g5 N RR l2 W (HMZ.out.below hW) hlz (by omega) (by omega)
                  have hnow := fun W (hW : Below w6.heap.size w6 W) => refNow_any bu (pCap N) RR l2 W (HRZ.out.below hW) hlz (by omega)
                  have hsm := fun W A' c' A2 c2 h1 h2 => refSame_any A' A2 c' c2 l2 l2 W h1 h2 (by omega) (by omega)
                  simp only [decide_true] at hsm
                  have hwt := fun W (hW : Below w6.heap.size w6 W) => mweight_any bm g5 N RR l2 W (HMZ.out.below hW) hlz (by omega)
                  have hrw := fun W A' c' h1 => refWeight_any A' c' l2 W h1 (model_rows HMZ.out (List.mem_of_getElem? hlz)).2 (by omega)
                  have hlate := fun W (hW : Below w6.heap.size w6 W) => late_any bm g5 N RR W (HMZ.out.below hW) (by omega)
                  rw [show (RR.length : Int) - 1 = (D : Int) by omega] at hlate
                  generalize sumW l2 = S at *
                  have hwD : IntKind.i64.wrap (D : Int) = (D : Int) := by rw [IntKind.wrap_i64]; omega
                  have hwD2 : IntKind.i64.wrap ((D : Int) + 1 - 1) = (D : Int) := by rw [IntKind.wrap_i64]; omega
                  have HI1 := Lib.hid hi1
                  have HNOW := Lib.hid hnow
                  have HSMZ := Lib.hid hsm
                  have HWT := Lib.hid hwt
                  have HRW := Lib.hid hrw
                  have HLATE := Lib.hid hlate
                  clear hi1 hnow hsm hwt hrw hlate hmz hrz hbz q1 q2 q3 hlz hposz
                  refine rg_start (n := 25) (fun w' => w'.cell? ⟨bu, 1, none⟩ = some (.slice (some ⟨gr, offz, none⟩) (D + 1) capz) ∧ bu < w'.heap.size ∧ Below w6.heap.size w6 w') #[false, false, false, false, false, false, false, false, false, false, false, false, false, false, false, false, false, false, false, false, false, false, false, false, false] (by kernel_rfl) rfl rfl ⟨x1, xl, (Below.refl _ w6).drew⟩ (fun hHeld => ?_)
                  refine rg_take (i := 0) (N := (some 151)) (v := ?_) (a' := ?_) #[true, false, false, false, false, false, false, false, false, false, false, false, false, false, false, false, false, false, false, false, false, false, false, false, false] rfl rfl (by kernel_rfl) (fun _ _ _ h => h) (by rfl) ?_ hHeld ?_ ?_
                  rotate_left 2
                  · rintro w' ⟨s0, s1, s2⟩
                    go_simp
                    try with_reducible rfl
                  · simp only [Act.put, List.setIfInBounds_toArray, List.set_cons_zero, List.set_cons_succ]
                    rfl
                  refine rg_take (i := 2) (N := (some 153)) (v := ?_) (a' := ?_) #[true, false, true, false, false, false, false, false, false, false, false, false, false, false, false, false, false, false, false, false, false, false, false, false, false] rfl rfl (by kernel_rfl) (fun _ _ _ h => h) (by rfl) ?_ hHeld ?_ ?_
                  rotate_left 2
                  · rintro w' ⟨s0, s1, s2⟩
                    go_simp
                    try with_reducible rfl
                  · simp only [Act.put, List.setIfInBounds_toArray, List.set_cons_zero, List.set_cons_succ]
                    rfl
                  refine rg_one (i := 1) #[true, true, true, false, false, false, false, false, false, false, false, false, false, false, false, false, false, false, false, false, false, false, false, false, false] rfl (by kernel_rfl) (by rfl) (fun K hK => ?_)
                  obtain ⟨s0, s1, s2⟩ := hHeld
                  repeat go_step
                  ((with_reducible refine (HI1.out _ s2).mono ?_); rintro e t1 ⟨At1, ct1, rfl, ho1, hb1⟩)
                  try dsimp only
                  refine hK.out _ _ ?_ (fun hHeld => ?_)
                  · exact ⟨keep_cell hb1 s1 s0, keep_lt hb1 s1, below_next s2 hb1⟩
                  clear hK K
                  clear s0 s1 s2
                  refine rg_one (i := 3) #[true, true, true, true, false, false, false, false, false, false, false, false, false, false, false, false, false, false, false, false, false, false, false, false, false] rfl (by kernel_rfl) (by rfl) (fun K hK => ?_)
                  obtain ⟨s0, s1, s2⟩ := hHeld
                  repeat go_step
                  ((with_reducible refine (HNOW.out _ s2).mono ?_); rintro e t3 ⟨At3, ct3, rfl, hel3, hb3⟩)
                  try dsimp only
                  refine hK.out _ _ ?_ (fun hHeld => ?_)
                  · exact ⟨keep_cell hb3 s1 s0, keep_lt hb3 s1, below_next s2 hb3⟩
                  clear hK K
                  clear s0 s1 s2
                  refine rg_one (i := 4) #[true, true, true, true, true, false, false, false, false, false, false, false, false, false, false, false, false, false, false, false, false, false, false, false, false] rfl (by kernel_rfl) (by rfl) (fun K hK => ?_)
                  obtain ⟨s0, s1, s2⟩ := hHeld
                  repeat go_step
                  ((first | (with_reducible refine (HSMZ.out _ _ _ _ _ ((ho1.below hb3).elems Itm.clen) hel3).mono ?_) | (with_reducible refine (HSMZ.out _ _ _ _ _ (ho1.elems Itm.clen) (hel3.below hb1)).mono ?_)); rintro e t4 ⟨rfl, hb4⟩)
                  try dsimp only
                  refine hK.out _ _ ?_ (fun hHeld => ?_)
                  · exact ⟨keep_cell hb4 s1 s0, keep_lt hb4 s1, below_next s2 hb4⟩
                  clear hK K
                  clear s0 s1 s2
                  refine rg_take (i := 5) (N := (some 156)) (v := ?_) (a' := ?_) #[true, true, true, true, true, true, false, false, false, false, false, false, false, false, false, false, false, false, false, false, false, false, false, false, false] rfl rfl (by kernel_rfl) (fun _ _ _ h => h) (by rfl) ?_ hHeld ?_ ?_
                  rotate_left 2
                  · rintro w' ⟨s0, s1, s2⟩
                    go_simp
                    try with_reducible rfl
                  · simp only [Act.put, List.setIfInBounds_toArray, List.set_cons_zero, List.set_cons_succ]
                    rfl
                  refine rg_take (i := 6) (N := (some 157)) (v := ?_) (a' := ?_) #[true, true, true, true, true, true, true, false, false, false, false, false, false, false, false, false, false, false, false, false, false, false, false, false, false] rfl rfl (by kernel_rfl) (fun _ _ _ h => h) (by rfl) ?_ hHeld ?_ ?_
                  rotate_left 2
                  · rintro w' ⟨s0, s1, s2⟩
                    go_simp
                    try with_reducible rfl
                  · simp only [Act.put, List.setIfInBounds_toArray, List.set_cons_zero, List.set_cons_succ]
                    rfl
                  refine rg_take (i := 7) (N := (some 158)) (v := ?_) (a' := ?_) #[true, true, true, true, true, true, true, true, false, false, false, false, false, false, false, false, false, false, false, false, false, false, false, false, false] rfl rfl (by kernel_rfl) (fun _ _ _ h => h) (by rfl) ?_ hHeld ?_ ?_
                  rotate_left 2
                  · rintro w' ⟨s0, s1, s2⟩
                    go_simp
                    try with_reducible rfl
                  · simp only [Act.put, List.setIfInBounds_toArray, List.set_cons_zero, List.set_cons_succ]
                    rfl
                  refine rg_take (i := 9) (N := (some 160)) (v := ?_) (a' := ?_) #[true, true, true, true, true, true, true, true, false, true, false, false, false, false, false, false, false, false, false, false, false, false, false, false, false] rfl rfl (by kernel_rfl) (fun _ _ _ h => h) (by rfl) ?_ hHeld ?_ ?_
                  rotate_left 2
                  · rintro w' ⟨s0, s1, s2⟩
                    go_simp
                    try with_reducible rfl
                  · simp only [Act.put, List.setIfInBounds_toArray, List.set_cons_zero, List.set_cons_succ]
                    rfl
                  refine rg_one (i := 8) #[true, true, true, true, true, true, true, true, true, true, false, false, false, false, false, false, false, false, false, false, false, false, false, false, false] rfl (by kernel_rfl) (by rfl) (fun K hK => ?_)
                  obtain ⟨s0, s1, s2⟩ := hHeld
                  repeat go_step
                  ((with_reducible refine (HWT.out _ s2).mono ?_); rintro e t8 ⟨rfl, hb8⟩; (try have hel10 := hel10.below hb8))
                  try dsimp only
                  refine hK.out _ _ ?_ (fun hHeld => ?_)
                  · exact ⟨keep_cell hb8 s1 s0, keep_lt hb8 s1, below_next s2 hb8⟩
                  clear hK K
                  clear s0 s1 s2
                  refine rg_one (i := 10) #[true, true, true, true, true, true, true, true, true, true, true, false, false, false, false, false, false, false, false, false, false, false, false, false, false] rfl (by kernel_rfl) (by rfl) (fun K hK => ?_)
                  obtain ⟨s0, s1, s2⟩ := hHeld
                  repeat go_step
                  ((with_reducible refine (HNOW.out _ s2).mono ?_); rintro e t10 ⟨At10, ct10, rfl, hel10, hb10⟩)
                  try dsimp only
                  refine hK.out _ _ ?_ (fun hHeld => ?_)
                  · exact ⟨keep_cell hb10 s1 s0, keep_lt hb10 s1, below_next s2 hb10⟩
                  clear hK K
                  clear s0 s1 s2
                  refine rg_one (i := 11) #[true, true, true, true, true, true, true, true, true, true, true, true, false, false, false, false, false, false, false, false, false, false, false, false, false] rfl (by kernel_rfl) (by rfl) (fun K hK => ?_)
                  obtain ⟨s0, s1, s2⟩ := hHeld
                  repeat go_step
                  ((with_reducible refine (HRW.out _ _ _ hel10).mono ?_); rintro e t11 ⟨rfl, hb11⟩)
                  try dsimp only
                  refine hK.out _ _ ?_ (fun hHeld => ?_)
                  · exact ⟨keep_cell hb11 s1 s0, keep_lt hb11 s1, below_next s2 hb11⟩
                  clear hK K
                  clear s0 s1 s2
                  refine rg_take (i := 12) (N := (some 163)) (v := ?_) (a' := ?_) #[true, true, true, true, true, true, true, true, true, true, true, true, true, false, false, false, false, false, false, false, false, false, false, false, false] rfl rfl (by kernel_rfl) (fun _ _ _ h => h) (by rfl) ?_ hHeld ?_ ?_
                  rotate_left 2
                  · rintro w' ⟨s0, s1, s2⟩
                    go_simp
                    try with_reducible rfl
                  · simp only [Act.put, List.setIfInBounds_toArray, List.set_cons_zero, List.set_cons_succ]
                    rfl
                  refine rg_take (i := 13) (N := (some 164)) (v := ?_) (a' := ?_) #[true, true, true, true, true, true, true, true, true, true, true, true, true, true, false, false, false, false, false, false, false, false, false, false, false] rfl rfl (by kernel_rfl) (fun _ _ _ h => h) (by rfl) ?_ hHeld ?_ ?_
                  rotate_left 2
                  · rintro w' ⟨s0, s1, s2⟩
                    go_simp
                    try with_reducible rfl
                  · simp only [Act.put, List.setIfInBounds_toArray, List.set_cons_zero, List.set_cons_succ]
                    rfl
                  refine rg_take (i := 14) (N := (some 165)) (v := ?_) (a' := ?_) #[true, true, true, true, true, true, true, true, true, true, true, true, true, true, true, false, false, false, false, false, false, false, false, false, false] rfl rfl (by kernel_rfl) (fun _ _ _ h => h) (by rfl) ?_ hHeld ?_ ?_
                  rotate_left 2
                  · rintro w' ⟨s0, s1, s2⟩
                    go_simp
                    try with_reducible rfl
                  · simp only [Act.put, List.setIfInBounds_toArray, List.set_cons_zero, List.set_cons_succ]
                    rfl
                  refine rg_take (i := 15) (N := (some 166)) (v := ?_) (a' := ?_) #[true, true, true, true, true, true, true, true, true, true, true, true, true, true, true, true, false, false, false, false, false, false, false, false, false] rfl rfl (by kernel_rfl) (fun _ _ _ h => h) (by rfl) ?_ hHeld ?_ ?_
                  rotate_left 2
                  · rintro w' ⟨s0, s1, s2⟩
                    go_simp
                    try with_reducible rfl
                  · simp only [Act.put, List.setIfInBounds_toArray, List.set_cons_zero, List.set_cons_succ]
                    rfl
                  refine rg_take (i := 17) (N := (some 168)) (v := ?_) (a' := ?_) #[true, true, true, true, true, true, true, true, true, true, true, true, true, true, true, true, false, true, false, false, false, false, false, false, false] rfl rfl (by kernel_rfl) (fun _ _ _ h => h) (by rfl) ?_ hHeld ?_ ?_
                  rotate_left 2
                  · rintro w' ⟨s0, s1, s2⟩
                    go_simp
                    try with_reducible rfl
                  · simp only [Act.put, List.setIfInBounds_toArray, List.set_cons_zero, List.set_cons_succ]
                    rfl
                  refine rg_take (i := 18) (N := (some 169)) (v := ?_) (a' := ?_) #[true, true, true, true, true, true, true, true, true, true, true, true, true, true, true, true, false, true, true, false, false, false, false, false, false] rfl rfl (by kernel_rfl) (fun _ _ _ h => h) (by rfl) ?_ hHeld ?_ ?_
                  rotate_left 2
                  · rintro w' ⟨s0, s1, s2⟩
                    go_simp
                    try with_reducible rfl
                  · simp only [Act.put, List.setIfInBounds_toArray, List.set_cons_zero, List.set_cons_succ]
                    rfl
                  refine rg_take (i := 19) (N := (some 170)) (v := ?_) (a' := ?_) #[true, true, true, true, true, true, true, true, true, true, true, true, true, true, true, true, false, true, true, true, false, false, false, false, false] rfl rfl (by kernel_rfl) (fun _ _ _ h => h) (by rfl) ?_ hHeld ?_ ?_
                  rotate_left 2
                  · rintro w' ⟨s0, s1, s2⟩
                    go_simp
                    try with_reducible rfl
                  · simp only [Act.put, List.setIfInBounds_toArray, List.set_cons_zero, List.set_cons_succ]
                    rfl
                  refine rg_take (i := 20) (N := (some 171)) (v := ?_) (a' := ?_) #[true, true, true, true, true, true, true, true, true, true, true, true, true, true, true, true, false, true, true, true, true, false, false, false, false] rfl rfl (by kernel_rfl) (fun _ _ _ h => h) (by rfl) ?_ hHeld ?_ ?_
                  rotate_left 2
                  · rintro w' ⟨s0, s1, s2⟩
                    go_simp
                    try with_reducible rfl
                  · simp only [Act.put, List.setIfInBounds_toArray, List.set_cons_zero, List.set_cons_succ]
                    rfl
                  refine rg_take (i := 21) (N := (some 172)) (v := ?_) (a' := ?_) #[true, true, true, true, true, true, true, true, true, true, true, true, true, true, true, true, false, true, true, true, true, true, false, false, false] rfl rfl (by kernel_rfl) (fun _ _ _ h => h) (by rfl) ?_ hHeld ?_ ?_
                  rotate_left 2
                  · rintro w' ⟨s0, s1, s2⟩
                    go_simp
                    try with_reducible rfl
                  · simp only [Act.put, List.setIfInBounds_toArray, List.set_cons_zero, List.set_cons_succ]
                    rfl
                  refine rg_take (i := 22) (N := (some 173)) (v := ?_) (a' := ?_) #[true, true, true, true, true, true, true, true, true, true, true, true, true, true, true, true, false, true, true, true, true, true, true, false, false] rfl rfl (by kernel_rfl) (fun _ _ _ h => h) (by rfl) ?_ hHeld ?_ ?_
                  rotate_left 2
                  · rintro w' ⟨s0, s1, s2⟩
                    go_simp
                    try with_reducible rfl
                  · simp only [Act.put, List.setIfInBounds_toArray, List.set_cons_zero, List.set_cons_succ]
                    rfl
                  refine rg_one (i := 16) #[true, true, true, true, true, true, true, true, true, true, true, true, true, true, true, true, true, true, true, true, true, true, true, false, false] rfl (by kernel_rfl) (by rfl) (fun K hK => ?_)
                  obtain ⟨s0, s1, s2⟩ := hHeld
                  repeat go_step
                  ((with_reducible refine (HLATE.out _ s2).mono ?_); rintro e t16 ⟨rfl, hb16⟩)
                  try dsimp only
                  refine hK.out _ _ ?_ (fun hHeld => ?_)
                  · exact ⟨keep_cell hb16 s1 s0, keep_lt hb16 s1, below_next s2 hb16⟩
                  clear hK K
                  clear s0 s1 s2
                  refine rg_take (i := 23) (N := (some 174)) (v := ?_) (a' := ?_) #[true, true, true, true, true, true, true, true, true, true, true, true, true, true, true, true, true, true, true, true, true, true, true, true, false] rfl rfl (by kernel_rfl) (fun _ _ _ h => h) (by rfl) ?_ hHeld ?_ ?_
                  rotate_left 2
                  · rintro w' ⟨s0, s1, s2⟩
                    go_simp
                    try with_reducible rfl
                  · simp only [Act.put, List.setIfInBounds_toArray, List.set_cons_zero, List.set_cons_succ]
                    rfl
                  refine rg_take (i := 24) (N := (some 175)) (v := ?_) (a' := ?_) #[true, true, true, true, true, true, true, true, true, true, true, true, true, true, true, true, true, true, true, true, true, true, true, true, true] rfl rfl (by kernel_rfl) (fun _ _ _ h => h) (by rfl) ?_ hHeld ?_ ?_
                  rotate_left 2
                  · rintro w' ⟨s0, s1, s2⟩
                    go_simp
                    try with_reducible rfl
                  · simp only [Act.put, List.setIfInBounds_toArray, List.set_cons_zero, List.set_cons_succ]
                    rfl
                  refine rg_done (by kernel_rfl) ?_
                  obtain ⟨_, _, rb⟩ := hHeld
                  have HRBZ := Lib.hid rb
                  clear rb hwD hwD2
                  go_wp2
                  refine ⟨⟨k + 1, g5, RR, l2, by go_num, by omega, HMZ.out.below HRBZ.out, HRZ.out.below HRBZ.out, hgz, HL2.out, by omega, HRB2.out, below_next HBZ.out HRBZ.out⟩, ?_⟩
                  simp [intOf]
                  omega
            as_aux_lemma =>
              have e3 : (kd == 3) = false := by simp [hk3]
              have e4 : (kd == 4) = false := by simp [hk4]
              have e5 : (kd == 5) = false := by simp [hk5]
              clear hk3 hk4 hk5
              go_wp2_with (first
                | (refine wpList_load_mid rfl 71 (Operand.tmp 39) rfl b (off + k * 22) rfl [.int .i64 kd, .int .i64 kind, .string key, .string val, .int .u64 n, .string lo, .string hi, .int .i64 err, .bool has, .string aval, .slice A1 aits.length c1, .int .i64 y0, .int .i64 y1, .int .i64 y2, .int .i64 y3, .int .i64 y4, .int .i64 y5, .int .i64 y6, .int .i64 y7, .int .i64 y8, .int .i64 at_, .slice A2 its.length c2] _ HRNG.out Tryz.underlying71 rfl HXZ.out ?_)
                | (refine wpList_store_row rfl 71 (Operand.tmp 9) (Operand.tmp 40) rfl wr.heap.size _ [.int .i64 kd, .int .i64 kind, .string key, .string val, .int .u64 n, .string lo, .string hi, .int .i64 err, .bool has, .string aval, .slice A1 aits.length c1, .int .i64 y0, .int .i64 y1, .int .i64 y2, .int .i64 y3, .int .i64 y4, .int .i64 y5, .int .i64 y6, .int .i64 y7, .int .i64 y8, .int .i64 at_, .slice A2 its.length c2] _ rfl rfl (heap_alloc_new wr _) rfl HXZ.out (act_all _ _ _ _ _ _ _ _ _ _ _ _ _ _ _ _ _ _ _ _ _ _ _ _ _ _) ?_; intro w3 hr3 hf3; generalize hs9 : wr.heap.size = s9 at hr3 hf3; have hb03 : Below wr.heap.size wr w3 := (below_alloc (Below.refl _ wr)).trans (hf3.to_below (below_alloc (Below.refl _ wr)).size (fun i hi e => by omega)); have HX3 := Lib.hid hr3; have HB03 := Lib.hid hb03; have HS := Lib.hid hs9; clear hr3 hf3 hb03)
                | (refine wpList_load_mid rfl 39 (Operand.tmp 41) rfl s9 1 rfl ([.int .i64 kind, .string key, .string val, .int .u64 n, .string lo, .string hi]) _ (row_part (pre := [.int .i64 kd]) HX3.out) Tryz.underlying39 rfl HOZ.out ?_)
                | (go_at_call 16; (with_reducible refine (HLO.out _).mono ?_); rintro e w4 ⟨rfl, hb4⟩; have hx4 : w4.heap[s9]? = some (.cells #[.int .i64 kd, .int .i64 kind, .string key, .string val, .int .u64 n, .string lo, .string hi, .int .i64 err, .bool has, .string aval, .slice A1 aits.length c1, .int .i64 y0, .int .i64 y1, .int .i64 y2, .int .i64 y3, .int .i64 y4, .int .i64 y5, .int .i64 y6, .int .i64 y7, .int .i64 y8, .int .i64 at_, .slice A2 its.length c2] 71 (0, 0)) := box_below HX3.out hb4; obtain ⟨z0, z1, z2, z3, z4, z5, z6, z7, z8, z9, z10, z11, z12, z13, z14, z15, z16, z17, z18, z19, z20, z21⟩ : w4.cell? ⟨s9, 0, none⟩ = some (.int .i64 kd) ∧ w4.cell? ⟨s9, 1, none⟩ = some (.int .i64 kind) ∧ w4.cell? ⟨s9, 2, none⟩ = some (.string key) ∧ w4.cell? ⟨s9, 3, none⟩ = some (.string val) ∧ w4.cell? ⟨s9, 4, none⟩ = some (.int .u64 n) ∧ w4.cell? ⟨s9, 5, none⟩ = some (.string lo) ∧ w4.cell? ⟨s9, 6, none⟩ = some (.string hi) ∧ w4.cell? ⟨s9, 7, none⟩ = some (.int .i64 err) ∧ w4.cell? ⟨s9, 8, none⟩ = some (.bool has) ∧ w4.cell? ⟨s9, 9, none⟩ = some (.string aval) ∧ w4.cell? ⟨s9, 10, none⟩ = some (.slice A1 aits.length c1) ∧ w4.cell? ⟨s9, 11, none⟩ = some (.int .i64 y0) ∧ w4.cell? ⟨s9, 12, none⟩ = some (.int .i64 y1) ∧ w4.cell? ⟨s9, 13, none⟩ = some (.int .i64 y2) ∧ w4.cell? ⟨s9, 14, none⟩ = some (.int .i64 y3) ∧ w4.cell? ⟨s9, 15, none⟩ = some (.int .i64 y4) ∧ w4.cell? ⟨s9, 16, none⟩ = some (.int .i64 y5) ∧ w4.cell? ⟨s9, 17, none⟩ = some (.int .i64 y6) ∧ w4.cell? ⟨s9, 18, none⟩ = some (.int .i64 y7) ∧ w4.cell? ⟨s9, 19, none⟩ = some (.int .i64 y8) ∧ w4.cell? ⟨s9, 20, none⟩ = some (.int .i64 at_) ∧ w4.cell? ⟨s9, 21, none⟩ = some (.slice A2 its.length c2) := (by have hh := hx4; refine ⟨?_, ?_, ?_, ?_, ?_, ?_, ?_, ?_, ?_, ?_, ?_, ?_, ?_, ?_, ?_, ?_, ?_, ?_, ?_, ?_, ?_, ?_⟩ <;> (rw [Lib.cell_of_heap hh]; rfl)); have hzl := lt_of_row hx4; have HX4 := Lib.hid hx4; have HB4 := Lib.hid (below_next (below_next HBE.out HB03.out) hb4); have HB04 := Lib.hid (below_next HB03.out hb4); clear hb4 hx4))
              clear z0 z1 z2 z3 z4 z5 z6 z7 z8 z9 z10 z11 z12 z13 z14 z15 z16 z17 z18 z19 z20 z21
              have hm4 := HMO.out.below HB04.out
              have hr4 := HRF.out.below HB04.out
              have hl60 : l.length ≤ 60000 := by omega
              have hs4 := HB04.out.size
              have hbm4 : bm < w4.heap.size := by omega
              have hgl4 : g < w4.heap.size := by omega
              have hbu4 : bu < w4.heap.size := by omega
              have hs9l : s9 = wr.heap.size := HS.out.symm
              have hnm : ¬ s9 = bm := by omega
              have hng : ¬ s9 = g := by omega
              have hnu : ¬ s9 = bu := by omega
              clear hs9l hs9
              have hdo := fun W (hU : Fr (fun k => k = bu) w4 W) => do_whole bm g N ls l ⟨kind, key, val, n, lo, hi⟩ W (model_ref hr4 hm4 hU) HLAST.out (by omega) hl60 n0 (by show n < 18446744073709551616; omega)
              have hrd := fun W (hV : Fr (fun k => k = bm ∨ k = g) w4 W) => ref_whole bu (pCap N) ls l ⟨kind, key, val, n, lo, hi⟩ W (ref_model hr4 hm4 hV) HLAST.out (by omega) hl60 HRI.out HOK.out n0 (by show n < 18446744073709551616; omega)
              have hits : (ansO (pCap N) l ⟨kind, key, val, n, lo, hi⟩).2.2.2.1 = (ansAn (ansO (pCap N) l ⟨kind, key, val, n, lo, hi⟩)).its := rfl
              have hrl := rows_items_len (c := pCap N) (l := l) (o := ⟨kind, key, val, n, lo, hi⟩)
              have hst : (ansAn (ansO (pCap N) l ⟨kind, key, val, n, lo, hi⟩)).st = ⟨(ansAn (ansO (pCap N) l ⟨kind, key, val, n, lo, hi⟩)).st.a0, (ansAn (ansO (pCap N) l ⟨kind, key, val, n, lo, hi⟩)).st.a1, 0, 0, 0, 0, 0, 0, 0⟩ := rfl
              rw [hits] at hdo hrl
              have hfo := fun W => form_any ⟨kind, key, val, n, lo, hi⟩ W
              generalize ansAn (ansO (pCap N) l ⟨kind, key, val, n, lo, hi⟩) = rr at *
              generalize rowsO (pCap N) ls l ⟨kind, key, val, n, lo, hi⟩ = RR at *
              simp only [Ord.v_def, An.v_def] at hdo
              simp only [Ord.v_def] at hrd hfo
              have hak := fun W A4 c4 B5 c5 h1 h2 => alike_any rr rr rr.st.a0 rr.st.a1 A4 B5 c4 c5 W hst h1 h2 (by omega) (by omega)
              simp only [decide_true, An.v_def] at hak
              have HDO := Lib.hid hdo
              have HRD := Lib.hid hrd
              have HFO := Lib.hid hfo
              have HAK := Lib.hid hak
              clear hdo hrd hfo hak
              clear hits hrl hst
              have hx4 := HX4.out
              have hU : Fr (fun k => k = bu) w4 w4.drew := Fr.of_below (Below.refl _ w4).drew
              have hV : Fr (fun k => k = bm ∨ k = g) w4 w4.drew := Fr.of_below (Below.refl _ w4).drew
              have hW : Fr (fun k => k = bm ∨ k = g ∨ k = bu) w4 w4.drew := Fr.of_below (Below.refl _ w4).drew
              refine rg_start (n := 11) (fun w' => w'.heap[s9]? = some (.cells #[.int .i64 kd, .int .i64 kind, .string key, .string val, .int .u64 n, .string lo, .string hi, .int .i64 err, .bool has, .string aval, .slice A1 aits.length c1, .int .i64 y0, .int .i64 y1, .int .i64 y2, .int .i64 y3, .int .i64 y4, .int .i64 y5, .int .i64 y6, .int .i64 y7, .int .i64 y8, .int .i64 at_, .slice A2 its.length c2] 71 (0, 0)) ∧ Fr (fun k => k = bm ∨ k = g ∨ k = bu) w4 w') #[false, false, false, false, false, false, false, false, false, false, false] (by kernel_rfl) rfl rfl ⟨hx4, hW⟩ (fun hHeld => ?_)
              refine rg_take (i := 0) (N := (some 59)) (v := ?_) (a' := ?_) #[true, false, false, false, false, false, false, false, false, false, false] rfl rfl (by kernel_rfl) (fun _ _ _ h => h) (by rfl) ?_ hHeld ?_ ?_
              rotate_left 2
              · rintro w' ⟨s0, s1⟩
                go_simp
                try with_reducible rfl
              · simp only [Act.put, List.setIfInBounds_toArray, List.set_cons_zero, List.set_cons_succ]
                rfl
              refine rg_take (i := 1) (N := (some 60)) (v := ?_) (a' := ?_) #[true, true, false, false, false, false, false, false, false, false, false] rfl rfl (by kernel_rfl) (fun _ _ _ h => h) (by rfl) ?_ hHeld ?_ ?_
              rotate_left 2
              · rintro w' ⟨s0, s1⟩
                go_simp
                try with_reducible rfl
              · simp only [Act.put, List.setIfInBounds_toArray, List.set_cons_zero, List.set_cons_succ]
                rfl
              refine rg_take (i := 2) (N := (some 61)) (v := ?_) (a' := ?_) #[true, true, true, false, false, false, false, false, false, false, false] rfl rfl (by kernel_rfl) (fun _ _ _ h => h) (by rfl) ?_ hHeld ?_ ?_
              rotate_left 2
              · rintro w' ⟨s0, s1⟩
                (refine Eq.trans (b := Result.ok (Next.value (.agg #[.int .i64 kind, .string key, .string val, .int .u64 n, .string lo, .string hi])) w') ?_ ?_; exact exec_range (cs := [.int .i64 kind, .string key, .string val, .int .u64 n, .string lo, .string hi]) rfl rfl (row_part (pre := [.int .i64 kd]) s0) Tryz.underlying39 rfl HOZ.out; with_reducible rfl)
              · simp only [Act.put, List.setIfInBounds_toArray, List.set_cons_zero, List.set_cons_succ]
                rfl
              refine rg_take (i := 4) (N := (some 63)) (v := ?_) (a' := ?_) #[true, true, true, false, true, false, false, false, false, false, false] rfl rfl (by kernel_rfl) (fun _ _ _ h => h) (by rfl) ?_ hHeld ?_ ?_
              rotate_left 2
              · rintro w' ⟨s0, s1⟩
                go_simp
                try with_reducible rfl
              · simp only [Act.put, List.setIfInBounds_toArray, List.set_cons_zero, List.set_cons_succ]
                rfl
              refine rg_take (i := 5) (N := (some 64)) (v := ?_) (a' := ?_) #[true, true, true, false, true, true, false, false, false, false, false] rfl rfl (by kernel_rfl) (fun _ _ _ h => h) (by rfl) ?_ hHeld ?_ ?_
              rotate_left 2
              · rintro w' ⟨s0, s1⟩
                go_simp
                try with_reducible rfl
              · simp only [Act.put, List.setIfInBounds_toArray, List.set_cons_zero, List.set_cons_succ]
                rfl
              refine rg_take (i := 6) (N := (some 65)) (v := ?_) (a' := ?_) #[true, true, true, false, true, true, true, false, false, false, false] rfl rfl (by kernel_rfl) (fun _ _ _ h => h) (by rfl) ?_ hHeld ?_ ?_
              rotate_left 2
              · rintro w' ⟨s0, s1⟩
                (refine Eq.trans (b := Result.ok (Next.value (.agg #[.int .i64 kind, .string key, .string val, .int .u64 n, .string lo, .string hi])) w') ?_ ?_; exact exec_range (cs := [.int .i64 kind, .string key, .string val, .int .u64 n, .string lo, .string hi]) rfl rfl (row_part (pre := [.int .i64 kd]) s0) Tryz.underlying39 rfl HOZ.out; with_reducible rfl)
              · simp only [Act.put, List.setIfInBounds_toArray, List.set_cons_zero, List.set_cons_succ]
                rfl
              refine rg_one (i := 3) #[true, true, true, true, true, true, true, false, false, false, false] rfl (by kernel_rfl) (by rfl) (fun K hK => ?_)
              obtain ⟨s0, s1⟩ := hHeld
              repeat go_step
              ((with_reducible refine (HDO.out _ hU).mono ?_); rintro e w5 ⟨A5, c5, g5, rfl, ho5, hm5, hg5, hf5⟩; have hmo5 := hm4; (have hmW := model_ref hr4 hm4 hU); have hx5 : w5.heap[s9]? = some (.cells #[.int .i64 kd, .int .i64 kind, .string key, .string val, .int .u64 n, .string lo, .string hi, .int .i64 err, .bool has, .string aval, .slice A1 aits.length c1, .int .i64 y0, .int .i64 y1, .int .i64 y2, .int .i64 y3, .int .i64 y4, .int .i64 y5, .int .i64 y6, .int .i64 y7, .int .i64 y8, .int .i64 at_, .slice A2 its.length c2] 71 (0, 0)) := hf5.row (by omega) s0; have hW5 := s1.trans hf5 (fun i _ e => e.elim .inl (fun e => .inr (.inl e))); have hme := ownM_row ho5; have hmz := hm5; (try have hue := rowAt_bm hue hmW hf5); (try have hrz := ref_model hrz hmW hf5); (try have hV := hV.trans hf5 (fun i _ e => e)); have hgz : w.heap.size ≤ g5 := (by have := HBE.out.size; have := s1.size; omega))
              try dsimp only
              refine hK.out _ _ ?_ (fun hHeld => ?_)
              · exact ⟨hx5, hW5⟩
              clear hK K
              clear s0 s1
              refine rg_one (i := 7) #[true, true, true, true, true, true, true, true, false, false, false] rfl (by kernel_rfl) (by rfl) (fun K hK => ?_)
              obtain ⟨s0, s1⟩ := hHeld
              repeat go_step
              ((with_reducible refine (HFO.out _).mono ?_); rintro e w6 ⟨rfl, hb6⟩; have hW6 := s1.trans (Fr.of_below (S := fun k => k = bm ∨ k = g ∨ k = bu) hb6) (fun i _ e => e); (try have hU := hU.trans (Fr.of_below (S := fun k => k = bu) hb6) (fun i _ e => e)); (try have hV := hV.trans (Fr.of_below (S := fun k => k = bm ∨ k = g) hb6) (fun i _ e => e)); (try have hme := hme.below hb6); (try have hmz := hmz.below hb6))
              try dsimp only
              refine hK.out _ _ ?_ (fun hHeld => ?_)
              · exact ⟨box_below s0 hb6, hW6⟩
              clear hK K
              clear s0 s1
              refine rg_one (i := 8) #[true, true, true, true, true, true, true, true, true, false, false] rfl (by kernel_rfl) (by rfl) (fun K hK => ?_)
              obtain ⟨s0, s1⟩ := hHeld
              repeat go_step
              ((with_reducible refine (HRD.out _ hV).mono ?_); rintro e w7 ⟨B7, c7, rfl, hue, hrz, hf7⟩; (have hrW := ref_model hr4 hm4 hV); have hx7 : w7.heap[s9]? = some (.cells #[.int .i64 kd, .int .i64 kind, .string key, .string val, .int .u64 n, .string lo, .string hi, .int .i64 err, .bool has, .string aval, .slice A1 aits.length c1, .int .i64 y0, .int .i64 y1, .int .i64 y2, .int .i64 y3, .int .i64 y4, .int .i64 y5, .int .i64 y6, .int .i64 y7, .int .i64 y8, .int .i64 at_, .slice A2 its.length c2] 71 (0, 0)) := hf7.row (by omega) s0; have hW7 := s1.trans hf7 (fun i _ e => .inr (.inr e)); (try have hU := hU.trans hf7 (fun i _ e => e)); (try have hme := rowAt_bu hme hrW hf7); (try have hmz := model_ref hrW hmz hf7))
              try dsimp only
              refine hK.out _ _ ?_ (fun hHeld => ?_)
              · exact ⟨hx7, hW7⟩
              clear hK K
              clear s0 s1
              refine rg_one (i := 9) #[true, true, true, true, true, true, true, true, true, true, false] rfl (by kernel_rfl) (by rfl) (fun K hK => ?_)
              obtain ⟨s0, s1⟩ := hHeld
              repeat go_step
              ((with_reducible refine (HAK.out _ _ _ _ _ hme.el hue.el).mono ?_); rintro e w8 ⟨rfl, hb8⟩; have hmz := hmz.below hb8; have hrz := hrz.below hb8; have hW8 := s1.trans (Fr.of_below (S := fun k => k = bm ∨ k = g ∨ k = bu) hb8) (fun i _ e => e))
              try dsimp only
              refine hK.out _ _ ?_ (fun hHeld => ?_)
              · exact ⟨box_below s0 hb8, hW8⟩
              clear hK K
              clear s0 s1
              refine rg_take (i := 10) (N := (some 69)) (v := ?_) (a' := ?_) #[true, true, true, true, true, true, true, true, true, true, true] rfl rfl (by kernel_rfl) (fun _ _ _ h => h) (by rfl) ?_ hHeld ?_ ?_
              rotate_left 2
              · rintro w' ⟨s0, s1⟩
                go_simp
                try with_reducible rfl
              · simp only [Act.put, List.setIfInBounds_toArray, List.set_cons_zero, List.set_cons_succ]
                rfl
              refine rg_done (by kernel_rfl) ?_
              obtain ⟨_, rW⟩ := hHeld
              have hbz : Below w.heap.size w w8 := HB4.out.trans (rW.to_below HB4.out.size (fun i hi e => by have := HBM.out; have := HBU.out; omega))
              clear rW
              go_wp2
              as_aux_lemma =>
                have HMZ := Lib.hid hmz
                have HRZ := Lib.hid hrz
                have HBZ := Lib.hid hbz
                have hposz := hmz.pos
                obtain ⟨D, hD⟩ : ∃ D : Nat, RR.length = D + 1 := ⟨RR.length - 1, by omega⟩
                have hD100 : D ≤ 101 := by omega
                have hlz := HL'.out
                have hlzl : l'.length ≤ 101 := by have := HRB.out l' (List.mem_of_getElem? hlz); omega
                obtain ⟨gr, offz, capz, vs, q1, q2, q3, _⟩ := hrz.row
                rw [hD] at q2
                have x1 : w8.cell? ⟨bu, 1, none⟩ = some (.slice (some ⟨gr, offz, none⟩) (D + 1) capz) := by rw [Lib.cell_of_heap q1, ← q2]; rfl
                have xl := lt_of_row q1
                have hi1 := fun W (hW : Below w8.heap.size w8 W) => mitems_any bm g5 N RR l' W (HMZ.out.below hW) hlz (by omega) (by omega)
                have hnow := fun W (hW : Below w8.heap.size w8 W) => refNow_any bu (pCap N) RR l' W (HRZ.out.below hW) hlz (by omega)
                have hsm := fun W A' c' A2 c2 h1 h2 => refSame_any A' A2 c' c2 l' l' W h1 h2 (by omega) (by omega)
                simp only [decide_true] at hsm
                have hwt := fun W (hW : Below w8.heap.size w8 W) => mweight_any bm g5 N RR l' W (HMZ.out.below hW) hlz (by omega)
                have hrw := fun W A' c' h1 => refWeight_any A' c' l' W h1 (model_rows HMZ.out (List.mem_of_getElem? hlz)).2 (by omega)
                have hlate := fun W (hW : Below w8.heap.size w8 W) => late_any bm g5 N RR W (HMZ.out.below hW) (by omega)
                rw [show (RR.length : Int) - 1 = (D : Int) by omega] at hlate
                generalize sumW l' = S at *
                have hwD : IntKind.i64.wrap (D : Int) = (D : Int) := by rw [IntKind.wrap_i64]; omega
                have hwD2 : IntKind.i64.wrap ((D : Int) + 1 - 1) = (D : Int) := by rw [IntKind.wrap_i64]; omega
                have HI1 := Lib.hid hi1
                have HNOW := Lib.hid hnow
                have HSMZ := Lib.hid hsm
                have HWT := Lib.hid hwt
                have HRW := Lib.hid hrw
                have HLATE := Lib.hid hlate
                clear hi1 hnow hsm hwt hrw hlate hmz hrz hbz q1 q2 q3 hlz hposz
                refine rg_start (n := 25) (fun w' => w'.cell? ⟨bu, 1, none⟩ = some (.slice (some ⟨gr, offz, none⟩) (D + 1) capz) ∧ bu < w'.heap.size ∧ Below w8.heap.size w8 w') #[false, false, false, false, false, false, false, false, false, false, false, false, false, false, false, false, false, false, false, false, false, false, false, false, false] (by kernel_rfl) rfl rfl ⟨x1, xl, (Below.refl _ w8).drew⟩ (fun hHeld => ?_)
                refine rg_take (i := 0) (N := (some 151)) (v := ?_) (a' := ?_) #[true, false, false, false, false, false, false, false, false, false, false, false, false, false, false, false, false, false, false, false, false, false, false, false, false] rfl rfl (by kernel_rfl) (fun _ _ _ h => h) (by rfl) ?_ hHeld ?_ ?_
                rotate_left 2
                · rintro w' ⟨s0, s1, s2⟩
                  go_simp
                  try with_reducible rfl
                · simp only [Act.put, List.setIfInBounds_toArray, List.set_cons_zero, List.set_cons_succ]
                  rfl
                refine rg_take (i := 2) (N := (some 153)) (v := ?_) (a' := ?_) #[true, false, true, false, false, false, false, false, false, false, false, false, false, false, false, false, false, false, false, false, false, false, false, false, false] rfl rfl (by kernel_rfl) (fun _ _ _ h => h) (by rfl) ?_ hHeld ?_ ?_
                rotate_left 2
                · rintro w' ⟨s0, s1, s2⟩
                  go_simp
                  try with_reducible rfl
                · simp only [Act.put, List.setIfInBounds_toArray, List.set_cons_zero, List.set_cons_succ]
                  rfl
                refine rg_one (i := 1) #[true, true, true, false, false, false, false, false, false, false, false, false, false, false, false, false, false, false, false, false, false, false, false, false, false] rfl (by kernel_rfl) (by rfl) (fun K hK => ?_)
                obtain ⟨s0, s1, s2⟩ := hHeld
                repeat go_step
                ((with_reducible refine (HI1.out _ s2).mono ?_); rintro e t1 ⟨At1, ct1, rfl, ho1, hb1⟩)
                try dsimp only
                refine hK.out _ _ ?_ (fun hHeld => ?_)
                · exact ⟨keep_cell hb1 s1 s0, keep_lt hb1 s1, below_next s2 hb1⟩
                clear hK K
                clear s0 s1 s2
                refine rg_one (i := 3) #[true, true, true, true, false, false, false, false, false, false, false, false, false, false, false, false, false, false, false, false, false, false, false, false, false] rfl (by kernel_rfl) (by rfl) (fun K hK => ?_)
                obtain ⟨s0, s1, s2⟩ := hHeld
                repeat go_step
                ((with_reducible refine (HNOW.out _ s2).mono ?_); rintro e t3 ⟨At3, ct3, rfl, hel3, hb3⟩)
                try dsimp only
                refine hK.out _ _ ?_ (fun hHeld => ?_)
                · exact ⟨keep_cell hb3 s1 s0, keep_lt hb3 s1, below_next s2 hb3⟩
                clear hK K
                clear s0 s1 s2
                refine rg_one (i := 4) #[true, true, true, true, true, false, false, false, false, false, false, false, false, false, false, false, false, false, false, false, false, false, false, false, false] rfl (by kernel_rfl) (by rfl) (fun K hK => ?_)
                obtain ⟨s0, s1, s2⟩ := hHeld
                repeat go_step
                ((first | (with_reducible refine (HSMZ.out _ _ _ _ _ ((ho1.below hb3).elems Itm.clen) hel3).mono ?_) | (with_reducible refine (HSMZ.out _ _ _ _ _ (ho1.elems Itm.clen) (hel3.below hb1)).mono ?_)); rintro e t4 ⟨rfl, hb4⟩)
                try dsimp only
                refine hK.out _ _ ?_ (fun hHeld => ?_)
                · exact ⟨keep_cell hb4 s1 s0, keep_lt hb4 s1, below_next s2 hb4⟩
                clear hK K
                clear s0 s1 s2
                refine rg_take (i := 5) (N := (some 156)) (v := ?_) (a' := ?_) #[true, true, true, true, true, true, false, false, false, false, false, false, false, false, false, false, false, false, false, false, false, false, false, false, false] rfl rfl (by kernel_rfl) (fun _ _ _ h => h) (by rfl) ?_ hHeld ?_ ?_
                rotate_left 2
                · rintro w' ⟨s0, s1, s2⟩
                  go_simp
                  try with_reducible rfl
                · simp only [Act.put, List.setIfInBounds_toArray, List.set_cons_zero, List.set_cons_succ]
                  rfl
                refine rg_take (i := 6) (N := (some 157)) (v := ?_) (a' := ?_) #[true, true, true, true, true, true, true, false, false, false, false, false, false, false, false, false, false, false, false, false, false, false, false, false, false] rfl rfl (by kernel_rfl) (fun _ _ _ h => h) (by rfl) ?_ hHeld ?_ ?_
                rotate_left 2
                · rintro w' ⟨s0, s1, s2⟩
                  go_simp
                  try with_reducible rfl
                · simp only [Act.put, List.setIfInBounds_toArray, List.set_cons_zero, List.set_cons_succ]
                  rfl
                refine rg_take (i := 7) (N := (some 158)) (v := ?_) (a' := ?_) #[true, true, true, true, true, true, true, true, false, false, false, false, false, false, false, false, false, false, false, false, false, false, false, false, false] rfl rfl (by kernel_rfl) (fun _ _ _ h => h) (by rfl) ?_ hHeld ?_ ?_
                rotate_left 2
                · rintro w' ⟨s0, s1, s2⟩
                  go_simp
                  try with_reducible rfl
                · simp only [Act.put, List.setIfInBounds_toArray, List.set_cons_zero, List.set_cons_succ]
                  rfl
                refine rg_take (i := 9) (N := (some 160)) (v := ?_) (a' := ?_) #[true, true, true, true, true, true, true, true, false, true, false, false, false, false, false, false, false, false, false, false, false, false, false, false, false] rfl rfl (by kernel_rfl) (fun _ _ _ h => h) (by rfl) ?_ hHeld ?_ ?_
                rotate_left 2
                · rintro w' ⟨s0, s1, s2⟩
                  go_simp
                  try with_reducible rfl
                · simp only [Act.put, List.setIfInBounds_toArray, List.set_cons_zero, List.set_cons_succ]
                  rfl
                refine rg_one (i := 8) #[true, true, true, true, true, true, true, true, true, true, false, false, false, false, false, false, false, false, false, false, false, false, false, false, false] rfl (by kernel_rfl) (by rfl) (fun K hK => ?_)
                obtain ⟨s0, s1, s2⟩ := hHeld
                repeat go_step
                ((with_reducible refine (HWT.out _ s2).mono ?_); rintro e t8 ⟨rfl, hb8⟩; (try have hel10 := hel10.below hb8))
                try dsimp only
                refine hK.out _ _ ?_ (fun hHeld => ?_)
                · exact ⟨keep_cell hb8 s1 s0, keep_lt hb8 s1, below_next s2 hb8⟩
                clear hK K
                clear s0 s1 s2
                refine rg_one (i := 10) #[true, true, true, true, true, true, true, true, true, true, true, false, false, false, false, false, false, false, false, false, false, false, false, false, false] rfl (by kernel_rfl) (by rfl) (fun K hK => ?_)
                obtain ⟨s0, s1, s2⟩ := hHeld
                repeat go_step
                ((with_reducible refine (HNOW.out _ s2).mono ?_); rintro e t10 ⟨At10, ct10, rfl, hel10, hb10⟩)
                try dsimp only
                refine hK.out _ _ ?_ (fun hHeld => ?_)
                · exact ⟨keep_cell hb10 s1 s0, keep_lt hb10 s1, below_next s2 hb10⟩
                clear hK K
                clear s0 s1 s2
                refine rg_one (i := 11) #[true, true, true, true, true, true, true, true, true, true, true, true, false, false, false, false, false, false, false, false, false, false, false, false, false] rfl (by kernel_rfl) (by rfl) (fun K hK => ?_)
                obtain ⟨s0, s1, s2⟩ := hHeld
                repeat go_step
                ((with_reducible refine (HRW.out _ _ _ hel10).mono ?_); rintro e t11 ⟨rfl, hb11⟩)
                try dsimp only
                refine hK.out _ _ ?_ (fun hHeld => ?_)
                · exact ⟨keep_cell hb11 s1 s0, keep_lt hb11 s1, below_next s2 hb11⟩
                clear hK K
                clear s0 s1 s2
                refine rg_take (i := 12) (N := (some 163)) (v := ?_) (a' := ?_) #[true, true, true, true, true, true, true, true, true, true, true, true, true, false, false, false, false, false, false, false, false, false, false, false, false] rfl rfl (by kernel_rfl) (fun _ _ _ h => h) (by rfl) ?_ hHeld ?_ ?_
                rotate_left 2
                · rintro w' ⟨s0, s1, s2⟩
                  go_simp
                  try with_reducible rfl
                · simp only [Act.put, List.setIfInBounds_toArray, List.set_cons_zero, List.set_cons_succ]
                  rfl
                refine rg_take (i := 13) (N := (some 164)) (v := ?_) (a' := ?_) #[true, true, true, true, true, true, true, true, true, true, true, true, true, true, false, false, false, false, false, false, false, false, false, false, false] rfl rfl (by kernel_rfl) (fun _ _ _ h => h) (by rfl) ?_ hHeld ?_ ?_
                rotate_left 2
                · rintro w' ⟨s0, s1, s2⟩
                  go_simp
                  try with_reducible rfl
                · simp only [Act.put, List.setIfInBounds_toArray, List.set_cons_zero, List.set_cons_succ]
                  rfl
                refine rg_take (i := 14) (N := (some 165)) (v := ?_) (a' := ?_) #[true, true, true, true, true, true, true, true, true, true, true, true, true, true, true, false, false, false, false, false, false, false, false, false, false] rfl rfl (by kernel_rfl) (fun _ _ _ h => h) (by rfl) ?_ hHeld ?_ ?_
                rotate_left 2
                · rintro w' ⟨s0, s1, s2⟩
                  go_simp
                  try with_reducible rfl
                · simp only [Act.put, List.setIfInBounds_toArray, List.set_cons_zero, List.set_cons_succ]
                  rfl
                refine rg_take (i := 15) (N := (some 166)) (v := ?_) (a' := ?_) #[true, true, true, true, true, true, true, true, true, true, true, true, true, true, true, true, false, false, false, false, false, false, false, false, false] rfl rfl (by kernel_rfl) (fun _ _ _ h => h) (by rfl) ?_ hHeld ?_ ?_
                rotate_left 2
                · rintro w' ⟨s0, s1, s2⟩
                  go_simp
                  try with_reducible rfl
                · simp only [Act.put, List.setIfInBounds_toArray, List.set_cons_zero, List.set_cons_succ]
                  rfl
                refine rg_take (i := 17) (N := (some 168)) (v := ?_) (a' := ?_) #[true, true, true, true, true, true, true, true, true, true, true, true, true, true, true, true, false, true, false, false, false, false, false, false, false] rfl rfl (by kernel_rfl) (fun _ _ _ h => h) (by rfl) ?_ hHeld ?_ ?_
                rotate_left 2
                · rintro w' ⟨s0, s1, s2⟩
                  go_simp
                  try with_reducible rfl
                · simp only [Act.put, List.setIfInBounds_toArray, List.set_cons_zero, List.set_cons_succ]
                  rfl
                refine rg_take (i := 18) (N := (some 169)) (v := ?_) (a' := ?_) #[true, true, true, true, true, true, true, true, true, true, true, true, true, true, true, true, false, true, true, false, false, false, false, false, false] rfl rfl (by kernel_rfl) (fun _ _ _ h => h) (by rfl) ?_ hHeld ?_ ?_
                rotate_left 2
                · rintro w' ⟨s0, s1, s2⟩
                  go_simp
                  try with_reducible rfl
                · simp only [Act.put, List.setIfInBounds_toArray, List.set_cons_zero, List.set_cons_succ]
                  rfl
                refine rg_take (i := 19) (N := (some 170)) (v := ?_) (a' := ?_) #[true, true, true, true, true, true, true, true, true, true, true, true, true, true, true, true, false, true, true, true, false, false, false, false, false] rfl rfl (by kernel_rfl) (fun _ _ _ h => h) (by rfl) ?_ hHeld ?_ ?_
                rotate_left 2
                · rintro w' ⟨s0, s1, s2⟩
                  go_simp
                  try with_reducible rfl
                · simp only [Act.put, List.setIfInBounds_toArray, List.set_cons_zero, List.set_cons_succ]
                  rfl
                refine rg_take (i := 20) (N := (some 171)) (v := ?_) (a' := ?_) #[true, true, true, true, true, true, true, true, true, true, true, true, true, true, true, true, false, true, true, true, true, false, false, false, false] rfl rfl (by kernel_rfl) (fun _ _ _ h => h) (by rfl) ?_ hHeld ?_ ?_
                rotate_left 2
                · rintro w' ⟨s0, s1, s2⟩
                  go_simp
                  try with_reducible rfl
                · simp only [Act.put, List.setIfInBounds_toArray, List.set_cons_zero, List.set_cons_succ]
                  rfl
                refine rg_take (i := 21) (N := (some 172)) (v := ?_) (a' := ?_) #[true, true, true, true, true, true, true, true, true, true, true, true, true, true, true, true, false, true, true, true, true, true, false, false, false] rfl rfl (by kernel_rfl) (fun _ _ _ h => h) (by rfl) ?_ hHeld ?_ ?_
                rotate_left 2
                · rintro w' ⟨s0, s1, s2⟩
                  go_simp
                  try with_reducible rfl
                · simp only [Act.put, List.setIfInBounds_toArray, List.set_cons_zero, List.set_cons_succ]
                  rfl
                refine rg_take (i := 22) (N := (some 173)) (v := ?_) (a' := ?_) #[true, true, true, true, true, true, true, true, true, true, true, true, true, true, true, true, false, true, true, true, true, true, true, false, false] rfl rfl (by kernel_rfl) (fun _ _ _ h => h) (by rfl) ?_ hHeld ?_ ?_
                rotate_left 2
                · rintro w' ⟨s0, s1, s2⟩
                  go_simp
                  try with_reducible rfl
                · simp only [Act.put, List.setIfInBounds_toArray, List.set_cons_zero, List.set_cons_succ]
                  rfl
                refine rg_one (i := 16) #[true, true, true, true, true, true, true, true, true, true, true, true, true, true, true, true, true, true, true, true, true, true, true, false, false] rfl (by kernel_rfl) (by rfl) (fun K hK => ?_)
                obtain ⟨s0, s1, s2⟩ := hHeld
                repeat go_step
                ((with_reducible refine (HLATE.out _ s2).mono ?_); rintro e t16 ⟨rfl, hb16⟩)
                try dsimp only
                refine hK.out _ _ ?_ (fun hHeld => ?_)
                · exact ⟨keep_cell hb16 s1 s0, keep_lt hb16 s1, below_next s2 hb16⟩
                clear hK K
                clear s0 s1 s2
                refine rg_take (i := 23) (N := (some 174)) (v := ?_) (a' := ?_) #[true, true, true, true, true, true, true, true, true, true, true, true, true, true, true, true, true, true, true, true, true, true, true, true, false] rfl rfl (by kernel_rfl) (fun _ _ _ h => h) (by rfl) ?_ hHeld ?_ ?_
                rotate_left 2
                · rintro w' ⟨s0, s1, s2⟩
                  go_simp
                  try with_reducible rfl
                · simp only [Act.put, List.setIfInBounds_toArray, List.set_cons_zero, List.set_cons_succ]
                  rfl
                refine rg_take (i := 24) (N := (some 175)) (v := ?_) (a' := ?_) #[true, true, true, true, true, true, true, true, true, true, true, true, true, true, true, true, true, true, true, true, true, true, true, true, true] rfl rfl (by kernel_rfl) (fun _ _ _ h => h) (by rfl) ?_ hHeld ?_ ?_
                rotate_left 2
                · rintro w' ⟨s0, s1, s2⟩
                  go_simp
                  try with_reducible rfl
                · simp only [Act.put, List.setIfInBounds_toArray, List.set_cons_zero, List.set_cons_succ]
                  rfl
                refine rg_done (by kernel_rfl) ?_
                obtain ⟨_, _, rb⟩ := hHeld
                have HRBZ := Lib.hid rb
                clear rb hwD hwD2
                go_wp2
                refine ⟨⟨k + 1, g5, RR, l', by go_num, by omega, HMZ.out.below HRBZ.out, HRZ.out.below HRBZ.out, hgz, HL'.out, by omega, HRB.out, below_next HBZ.out HRBZ.out⟩, ?_⟩
                simp [intOf]
                omega
      · obtain rfl : k = xs.length := by omega
        have HB := Lib.hid hbel
        clear hbel hmo hrf hlast hlsl hlb
        go_wp2
        go_ret
        exact ⟨rfl, HB.out⟩
end Go.Proofs.YtdfgdnaejnngoaaGreat
