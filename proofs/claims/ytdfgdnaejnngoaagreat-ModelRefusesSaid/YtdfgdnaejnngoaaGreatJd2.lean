import Derived.Test.YtdfgdnaejnngoaaGreatJd1
import Derived.Test.YtdfgdnaejnngoaaGreatJc11
set_option linter.unusedVariables false
set_option linter.unusedSimpArgs false
namespace Go.Proofs.YtdfgdnaejnngoaaGreat
open Go.RowKit
/-! grangerlaw26.ModelRefuses. -/
theorem model_rises {w : World} {bm g : Nat} {N : Int} {ls : List (List Itm)} (h : ModelAt w bm g N ls) {l : List Itm} (hl : ls[ls.length - 1]? = some l) : Rises l ∧ ∀ x ∈ l, x.ok := by
  obtain ⟨off, n, cap, p, A, c, _, _, _, _, _, hla⟩ := h.last hl
  exact ⟨hla.rises, hla.oks⟩
theorem wrap_succ (j : Nat) (h : j ≤ 100000) : wrap64 ((j : Int) + 1) = ((j + 1 : Nat) : Int) ∧ wrap64 ((j : Int) + 1) = (j : Int) + 1 := by unfold wrap64; omega
set_option maxHeartbeats 8000000 in
set_option maxRecDepth 100000 in
theorem refuses_any (at_ : Int) (A : Option Addr) (cap : Nat) (os : List Ord) (w : World) (hel : Elems w A 6 (os.map Ord.cells)) (hn : okN os) :
    Calls Tryz.prog 4 #[.int .i64 at_, .slice A os.length cap] w fun e w' => e = .returned (.bool true) ∧ Below w.heap.size w w' := by
  have haw := fun W => awake26_any W
  obtain ⟨k, hk, hK⟩ := at_mod at_ 448 (by decide)
  rw [show (((448 : Nat) : Int) + 1) = 449 from rfl] at hK
  have hw1 : wrap64 (64 + (k : Int)) = 64 + (k : Int) := by unfold wrap64; omega
  have HAW := Lib.hid haw
  have HEL := Lib.hid hel
  have HN := Lib.hid hn
  clear haw hel hn
  by_cases hl120 : (120 : Int) < (os.length : Int)
  · clear hw1 hK
    go_enter Tryz.func4, Tryz.ntmps4
    go_wp2_with (go_at_call 10; (with_reducible refine (HAW.out _).mono ?_); rintro e w1 ⟨rfl, hb1⟩; have HB1 := Lib.hid hb1; clear hb1)
    go_ret
    exact ⟨rfl, HB1.out⟩
  · generalize hNN : (64 : Int) + (k : Int) = N at *
    have hbg := fun W => begun_ok N W (by omega) (by omega)
    rw [planA_def] at hbg
    have hcap : 0 ≤ pCap N := by unfold pCap pLeaves pHalf pData pLog; split <;> omega
    have HBG := Lib.hid hbg
    have HCAP := Lib.hid hcap
    clear hbg hcap
    go_enter Tryz.func4, Tryz.ntmps4
    go_wp2_with (first
      | (go_at_call 10; (with_reducible refine (HAW.out _).mono ?_); rintro e w1 ⟨rfl, hb1⟩; have HB1 := Lib.hid hb1; clear hb1)
      | (go_at_call 11; (with_reducible refine (HBG.out _).mono ?_); rintro e w2 ⟨bm, g2, rfl, hm2, hbm2, hg2, hb2⟩; have HM2 := Lib.hid hm2; have HBM2 := Lib.hid hbm2; have HG2 := Lib.hid hg2; have HB2 := Lib.hid (below_next HB1.out hb2); clear hm2 hbm2 hg2 hb2))
    clear hw1 hK hNN hk
    have hbm : w.heap.size ≤ bm := Nat.le_trans HB1.out.size HBM2.out
    have hgg : w.heap.size ≤ g2 := Nat.le_trans HB1.out.size HG2.out
    have HBM := Lib.hid hbm
    have HPX0 := Lib.hid (heap_alloc_new w2 (.cells #[.int .i64 N, .int .i64 (pLog N), .int .i64 (2 + pLog N), .int .i64 (pData N), .int .i64 (pHalf N), .int .i64 (pLeaves N), .int .i64 (pCap N)] 26))
    have HWP := Lib.hid HB2.out.size
    have HM2A := Lib.hid (HM2.out.below (below_alloc (o := .cells #[.int .i64 N, .int .i64 (pLog N), .int .i64 (2 + pLog N), .int .i64 (pData N), .int .i64 (pHalf N), .int .i64 (pLeaves N), .int .i64 (pCap N)] 26) (Below.refl _ w2)))
    have HB2A := Lib.hid (below_alloc (o := .cells #[.int .i64 N, .int .i64 (pLog N), .int .i64 (2 + pLog N), .int .i64 (pData N), .int .i64 (pHalf N), .int .i64 (pLeaves N), .int .i64 (pCap N)] 26) HB2.out)
    generalize w2.heap.size = wp at *
    go_loopw [8, 9, 10, 11, 12, 13, 14] (fun i _ _ _ _ _ _ wr => ∃ (k g : Nat) (ls : List (List Itm)) (l : List Itm), i = .int .i64 k ∧ k ≤ os.length ∧ ModelAt wr bm g N ls ∧ w.heap.size ≤ g ∧ ls[ls.length - 1]? = some l ∧ ls.length ≤ k + 1 ∧ l.length ≤ k ∧ Hid (sumW l ≤ pCap N) ∧ wr.heap[wp]? = some (.cells #[.int .i64 N, .int .i64 (pLog N), .int .i64 (2 + pLog N), .int .i64 (pData N), .int .i64 (pHalf N), .int .i64 (pLeaves N), .int .i64 (pCap N)] 26 (0, 0)) ∧ Below w.heap.size w wr) (fun i _ _ _ _ _ _ _ => os.length + 1 - (intOf i).toNat)
    case atStart => exact ⟨0, g2, [[]], [], rfl, Nat.zero_le _, HM2A.out, hgg, rfl, Nat.le_refl _, Nat.le_refl _, HCAP.out, HPX0.out, HB2A.out⟩
    case round =>
      have hosl : os.length ≤ 100000 := by omega
      obtain ⟨k, g, ls, l, rfl, hk, hmo, hg, hlast, hlsl, hll, HSU, hpx, hbel⟩ := hrel
      by_cases hkl : k < os.length
      · have hkI : (k : Int) < (os.length : Int) := by omega
        obtain ⟨o, ho⟩ := get_lt hkl
        obtain ⟨b, off, rfl, hblt, d0, d1, d2, d3, d4, d5⟩ := ord_row HEL.out ho
        obtain ⟨n0, n1⟩ := HN.out o (List.mem_of_getElem? ho)
        have hcell : ∀ W, Below w.heap.size w W → W.cell? ⟨b, off + k * 6, none⟩ = some (.int .i64 o.kind) ∧ W.cell? ⟨b, off + k * 6 + 1, none⟩ = some (.string o.key) ∧ W.cell? ⟨b, off + k * 6 + 2, none⟩ = some (.string o.val) ∧ W.cell? ⟨b, off + k * 6 + 3, none⟩ = some (.int .u64 o.n) ∧ W.cell? ⟨b, off + k * 6 + 4, none⟩ = some (.string o.lo) ∧ W.cell? ⟨b, off + k * 6 + 5, none⟩ = some (.string o.hi) ∧ b < W.heap.size := fun W hW => ⟨keep_cell hW hblt d0, keep_cell hW hblt d1, keep_cell hW hblt d2, keep_cell hW hblt d3, keep_cell hW hblt d4, keep_cell hW hblt d5, keep_lt hW hblt⟩
        clear d0 d1 d2 d3 d4 d5 hblt
        obtain ⟨hri, hok⟩ := model_rises hmo hlast
        obtain ⟨l', hl', hR1, hR2, hR3, hRC⟩ := refuse_law (c := pCap N) (o := o) hri hlast HSU.out
        have hit1 := fun W (hW : Below wr.heap.size wr W) => mitems_any bm g N ls l W (hmo.below hW) hlast (by omega) (by omega)
        have hlate := fun W (hW : Below wr.heap.size wr W) => late_any bm g N ls W (hmo.below hW) (by omega)
        have hdo := fun W (hW : Below wr.heap.size wr W) => do_step w.heap.size bm g N ls l o W (Nat.le_trans hbel.size hW.size) HBM.out hg (hmo.below hW) hlast (by omega) (by omega) n0 n1
        have hlong := fun W => long_any o W
        have hpos := hmo.pos
        obtain ⟨D, hD⟩ : ∃ D : Nat, ls.length = D + 1 := ⟨ls.length - 1, by omega⟩
        have hDI : (ls.length : Int) - 1 = (D : Int) := by omega
        rw [hDI] at hlate
        rw [hD] at hRC hR1
        have hDk : D ≤ k := by omega
        have hRlen : (rowsO (pCap N) ls l o).length ≤ 1000 := by omega
        have hbml := hmo.lt
        have hgl := hmo.glt
        generalize rowsO (pCap N) ls l o = R at *
        generalize errO (pCap N) l o = E at *
        obtain ⟨has4, hhas⟩ : ∃ h, (ansO (pCap N) l o).2.1 = h := ⟨_, rfl⟩
        rw [hhas] at hdo
        have HL' := Lib.hid hl'
        have HRC := Lib.hid hRC
        have HR1 := Lib.hid hR1
        have HSW := Lib.hid hR3
        have HRL := Lib.hid hRlen
        have HI1 := Lib.hid hit1
        have HLA := Lib.hid hlate
        have HDO := Lib.hid hdo
        have HLO := Lib.hid hlong
        have HMO := Lib.hid hmo
        have HPX := Lib.hid hpx
        have HBE := Lib.hid hbel
        have HCE := Lib.hid hcell
        have HGG := Lib.hid hg
        have hll' : l'.length ≤ 1000 := by omega
        have HRK := Lib.hid (show R.length ≤ k + 1 + 1 by omega)
        have hlk' : l'.length ≤ k + 1 := by omega
        clear hl' hRC hR1 hR3 hRlen hit1 hlate hdo hlong hmo hpx hcell hri hok hlast ho n0 n1 hhas hD hDI hpos hg HSU hlsl hR2
        obtain ⟨kind, key, val, n, lo, hi⟩ := o
        dsimp only at HRC HDO HLO HCE
        rw [Ord.v_def] at HDO HLO
        dsimp only at HDO HLO
        obtain ⟨lb, hlb⟩ : ∃ lb, longB ⟨kind, key, val, n, lo, hi⟩ = lb := ⟨_, rfl⟩
        rw [hlb] at HLO
        clear hlb
        obtain ⟨d0, d1, d2, d3, d4, d5, dl⟩ := HCE.out _ hbel
        clear hbel
        cases lb with
        | true =>
          go_wp2_with (go_at_call 16; (with_reducible refine (HLO.out _).mono ?_); rintro e w3 ⟨rfl, hb3⟩; have HB3 := Lib.hid (below_next HBE.out hb3); clear hb3)
          go_ret
          exact ⟨rfl, HB3.out⟩
        | false =>
          go_wp2_with (first
            | (go_at_call 16; (with_reducible refine (HLO.out _).mono ?_); rintro e w3 ⟨rfl, hb3⟩; have HB3 := Lib.hid hb3; clear hb3 d0 d1 d2 d3 d4 d5 dl)
            | (go_at_call 15; (with_reducible refine (HI2.out _ (Below.refl _ _)).mono ?_); rintro e w7 ⟨A7, c7, rfl, ho7, hb7⟩; have hx7 : w7.heap[w6.heap.size]? = some (.cells #[.int .i64 E, .bool has4, .string val4, .slice A4 k4 c4, .int .i64 x4, .int .i64 y4, .int .i64 0, .int .i64 0, .int .i64 0, .int .i64 0, .int .i64 0, .int .i64 0, .int .i64 0] 35 (0, 0)) := box_cells hb7; have u0 : w7.cell? ⟨w6.heap.size, 0, none⟩ = some (.int .i64 E) := (by rw [Lib.cell_of_heap hx7]; rfl); have HX7 := Lib.hid (lt_of_row hx7); have HO7 := Lib.hid ho7; have HB7 := Lib.hid (below_next (below_alloc (o := .cells #[.int .i64 E, .bool has4, .string val4, .slice A4 k4 c4, .int .i64 x4, .int .i64 y4, .int .i64 0, .int .i64 0, .int .i64 0, .int .i64 0, .int .i64 0, .int .i64 0, .int .i64 0] 35) (Below.refl _ w6)) hb7); clear hb7 ho7 hx7)
            | (go_at_call 15; (with_reducible refine (HI1.out _ HB3.out).mono ?_); rintro e w4 ⟨A3, c3, rfl, ho4, hb4⟩; have HO4 := Lib.hid ho4; have HB34 := Lib.hid (below_next HB3.out hb4); clear hb4 ho4)
            | (go_at_call 13; (with_reducible refine (HLA.out _ HB34.out).mono ?_); rintro e w5 ⟨rfl, hb5⟩; have HO5 := Lib.hid (HO4.out.below hb5); have HB5 := Lib.hid (below_next HB34.out hb5); obtain ⟨d0, d1, d2, d3, d4, d5, dl⟩ := HCE.out _ (below_next HBE.out HB5.out); clear hb5)
            | (go_at_call 12; (with_reducible refine (HDO.out _ HB5.out).mono ?_); rintro e w6 ⟨val4, A4, k4, c4, x4, y4, g6, rfl, hm6, hg6, hb6, hf6⟩; have hpx6 : w6.heap[wp]? = some (.cells #[.int .i64 N, .int .i64 (pLog N), .int .i64 (2 + pLog N), .int .i64 (pData N), .int .i64 (pHalf N), .int .i64 (pLeaves N), .int .i64 (pCap N)] 26 (0, 0)) := model_keeps (HMO.out.below HB5.out) (box_below HPX.out HB5.out) (by decide) (by decide) hf6; have ho6 := HO5.out.fr hf6 (fun q hq e => by have := HB3.out.size; omega); have hi2 := fun W (hW : Below (w6.alloc (.cells #[.int .i64 E, .bool has4, .string val4, .slice A4 k4 c4, .int .i64 x4, .int .i64 y4, .int .i64 0, .int .i64 0, .int .i64 0, .int .i64 0, .int .i64 0, .int .i64 0, .int .i64 0] 35)).heap.size (w6.alloc (.cells #[.int .i64 E, .bool has4, .string val4, .slice A4 k4 c4, .int .i64 x4, .int .i64 y4, .int .i64 0, .int .i64 0, .int .i64 0, .int .i64 0, .int .i64 0, .int .i64 0, .int .i64 0] 35)) W) => mitems_any bm g6 N R l' W ((hm6.below (below_alloc (Below.refl _ w6))).below hW) HL'.out (by have := HRL.out; omega) (by omega); have HI2 := Lib.hid hi2; have HM6 := Lib.hid hm6; have HG6 := Lib.hid hg6; have HPX6 := Lib.hid hpx6; have HO6 := Lib.hid ho6; have HB6 := Lib.hid ((below_next HBE.out HB5.out).trans hb6); clear hi2 hm6 hg6 hpx6 ho6 hb6 hf6 d0 d1 d2 d3 d4 d5 dl))
          -- the rows of items, compared
          go_loopw [14, 13] (fun jv qv w8 => ∃ (j : Nat) (q : Bool), jv = .int .i64 j ∧ qv = .bool q ∧ j ≤ l'.length ∧ Hid (q = decide (l.length = l'.length ∧ l.take j = l'.take j)) ∧ Below w7.heap.size w7 w8) (fun jv _ _ => l'.length + 1 - (intOf jv).toNat)
          case atStart => exact ⟨0, _, rfl, rfl, Nat.zero_le _, Lib.hid (by by_cases e : l.length = l'.length <;> simp [e]; omega), Below.refl _ _⟩
          case round =>
            rename World => w8
            obtain ⟨j, q, rfl, rfl, hj, HQ, hb8⟩ := hrel
            have hb68 := below_next HB7.out hb8
            have HO68 := Lib.hid (HO6.out.below hb68)
            have HO78 := Lib.hid (HO7.out.below hb8)
            have HM8 := Lib.hid (HM6.out.below hb68)
            have hpx8 := box_below HPX6.out hb68
            have HB8 := Lib.hid (below_next HB6.out hb68)
            obtain ⟨d0, _, _, _, _, _, dl⟩ := HCE.out _ HB8.out
            have v0 := keep_cell hb8 HX7.out u0
            have vl := keep_lt hb8 HX7.out
            have v6 : w8.cell? ⟨wp, 6, none⟩ = some (.int .i64 (pCap N)) := by rw [Lib.cell_of_heap hpx8]; rfl
            have vp := lt_of_row hpx8
            have HPX8 := Lib.hid hpx8
            have hwt := fun W (hW : Below w8.heap.size w8 W) => mweight_any bm g6 N R l' W (HM8.out.below hW) HL'.out (by have := HRL.out; omega)
            have hcw := fun W (hW : Below w8.heap.size w8 W) => capaWeight_any A7 c7 l' W ((HO78.out.below hW).elems Itm.clen) (model_rises HM8.out HL'.out).2 (by omega)
            have hsw := HSW.out
            have HCI := Lib.hid hsw
            have HB78 := Lib.hid hb8
            clear hb8 hb68 hpx8 hsw
            by_cases hjl : j < l'.length
            · have hjI : (j : Int) < (l'.length : Int) := by omega
              cases q with
              | true =>
                obtain ⟨hlen, htk⟩ : l.length = l'.length ∧ l.take j = l'.take j := of_decide_eq_true HQ.out.symm
                have hjJ : (j : Int) < (l.length : Int) := by omega
                obtain ⟨y, hy⟩ := get_lt (l := l) (i := j) (by omega)
                obtain ⟨z, hz⟩ := get_lt hjl
                obtain ⟨g3, rfl, _, hg3, _, hc3⟩ := HO68.out.row Itm.clen hy
                obtain ⟨g7, rfl, _, hg7, _, hc7⟩ := HO78.out.row Itm.clen hz
                have a0 := hc3 0 _ rfl
                have a1 := hc3 1 _ rfl
                have e0 := hc7 0 _ rfl
                have e1 := hc7 1 _ rfl
                simp only [Nat.add_zero] at a0 e0
                have heq := fun W => eql_itm y z W
                have HST := Lib.hid (show decide (l.length = l'.length ∧ l.take (j + 1) = l'.take (j + 1)) = decide (y = z) by
                  rw [take_snocR hy, take_snocR hz, htk]
                  simp [hlen])
                obtain ⟨q2, hq2⟩ : ∃ q2, decide (y = z) = q2 := ⟨_, rfl⟩
                rw [hq2] at heq HST
                simp only [Itm.v_def] at heq
                clear hq2 hc3 hc7 hy hz htk hlen hwt hcw
                obtain ⟨yk, yv⟩ := y
                obtain ⟨zk, zv⟩ := z
                dsimp only at a0 a1 e0 e1 heq
                go_wp2
                go_quiet (fail)
                go_wp2
                refine ⟨⟨j + 1, q2, by go_num, rfl, by omega, Lib.hid HST.out.symm, below_drewN HB78.out _⟩, ?_⟩
                simp [intOf]
                omega
              | false =>
                have hne : ¬ l' = l := by
                  rintro rfl
                  have := HQ.out
                  simp at this
                obtain ⟨hE, hk3, hRl⟩ : E = 0 ∧ kind < 4 ∧ R.length = D + 1 + 1 := by
                  rcases HRC.out with ⟨h, _⟩ | h | ⟨h, _⟩
                  · exact absurd h hne
                  · exact h
                  · exact absurd h hne
                have hk4 : ¬ (4 : Int) ≤ kind := by omega
                subst hE
                generalize hSS : sumW l' = S at *
                have HSS := Lib.hid hSS
                clear hSS
                have HWT := Lib.hid hwt
                have HCW := Lib.hid hcw
                clear hwt hcw hne
                have f0 : ((D : Int) + 1 != (D : Int)) = true := by simp; omega
                have HWD := Lib.hid (show wrap64 ((D : Int) + 1) = (D : Int) + 1 from (wrap_succ D (Nat.le_trans hDk (Nat.le_trans hk hosl))).2)
                have hlt := fun W (hW : Below w8.heap.size w8 W) => late_any bm g6 N R W (HM8.out.below hW) (by have := HRL.out; omega)
                rw [show (R.length : Int) - 1 = (D : Int) + 1 by omega] at hlt
                have HLT := Lib.hid hlt
                clear hlt hRl
                go_wp2
                have hcI : decide (pCap N < S) = false := decide_eq_false (Int.not_lt.2 HCI.out)
                have hk4d : decide ((4 : Int) ≤ kind) = false := decide_eq_false (by omega)
                refine rg_start (n := 29) (fun w' => w'.cell? ⟨w6.heap.size, 0, none⟩ = some (.int .i64 0) ∧ w'.cell? ⟨b, off + k * 6, none⟩ = some (.int .i64 kind) ∧ w'.cell? ⟨wp, 6, none⟩ = some (.int .i64 (pCap N)) ∧ w6.heap.size < w'.heap.size ∧ b < w'.heap.size ∧ wp < w'.heap.size ∧ Below w8.heap.size w8 w') #[false, false, false, false, false, false, false, false, false, false, false, false, false, false, false, false, false, false, false, false, false, false, false, false, false, false, false, false, false] (by kernel_rfl) rfl rfl ⟨v0, d0, v6, vl, dl, vp, (Below.refl _ w8).drew⟩ (fun hHeld => ?_)
                refine rg_take (i := 0) (N := (some 76)) (v := ?_) (a' := ?_) #[true, false, false, false, false, false, false, false, false, false, false, false, false, false, false, false, false, false, false, false, false, false, false, false, false, false, false, false, false] rfl rfl (by kernel_rfl) (fun _ _ _ h => h) (by rfl) ?_ hHeld ?_ ?_
                rotate_left 2
                · rintro w' ⟨s0, s1, s2, s3, s4, s5, s6⟩
                  go_simp
                  try with_reducible rfl
                · simp only [Act.put, List.setIfInBounds_toArray, List.set_cons_zero, List.set_cons_succ]
                  rfl
                refine rg_take (i := 1) (N := (some 77)) (v := ?_) (a' := ?_) #[true, true, false, false, false, false, false, false, false, false, false, false, false, false, false, false, false, false, false, false, false, false, false, false, false, false, false, false, false] rfl rfl (by kernel_rfl) (fun _ _ _ h => h) (by rfl) ?_ hHeld ?_ ?_
                rotate_left 2
                · rintro w' ⟨s0, s1, s2, s3, s4, s5, s6⟩
                  go_simp
                  try with_reducible rfl
                · simp only [Act.put, List.setIfInBounds_toArray, List.set_cons_zero, List.set_cons_succ]
                  rfl
                refine rg_take (i := 2) (N := (some 78)) (v := ?_) (a' := ?_) #[true, true, true, false, false, false, false, false, false, false, false, false, false, false, false, false, false, false, false, false, false, false, false, false, false, false, false, false, false] rfl rfl (by kernel_rfl) (fun _ _ _ h => h) (by rfl) ?_ hHeld ?_ ?_
                rotate_left 2
                · rintro w' ⟨s0, s1, s2, s3, s4, s5, s6⟩
                  go_simp
                  try with_reducible rfl
                · simp only [Act.put, List.setIfInBounds_toArray, List.set_cons_zero, List.set_cons_succ]
                  rfl
                refine rg_take (i := 3) (N := (some 79)) (v := ?_) (a' := ?_) #[true, true, true, true, false, false, false, false, false, false, false, false, false, false, false, false, false, false, false, false, false, false, false, false, false, false, false, false, false] rfl rfl (by kernel_rfl) (fun _ _ _ h => h) (by rfl) ?_ hHeld ?_ ?_
                rotate_left 2
                · rintro w' ⟨s0, s1, s2, s3, s4, s5, s6⟩
                  go_simp
                  try with_reducible rfl
                · simp only [Act.put, List.setIfInBounds_toArray, List.set_cons_zero, List.set_cons_succ]
                  rfl
                refine rg_take (i := 4) (N := (some 80)) (v := ?_) (a' := ?_) #[true, true, true, true, true, false, false, false, false, false, false, false, false, false, false, false, false, false, false, false, false, false, false, false, false, false, false, false, false] rfl rfl (by kernel_rfl) (fun _ _ _ h => h) (by rfl) ?_ hHeld ?_ ?_
                rotate_left 2
                · rintro w' ⟨s0, s1, s2, s3, s4, s5, s6⟩
                  go_simp
                  try with_reducible rfl
                · simp only [Act.put, List.setIfInBounds_toArray, List.set_cons_zero, List.set_cons_succ]
                  rfl
                refine rg_take (i := 5) (N := (some 81)) (v := ?_) (a' := ?_) #[true, true, true, true, true, true, false, false, false, false, false, false, false, false, false, false, false, false, false, false, false, false, false, false, false, false, false, false, false] rfl rfl (by kernel_rfl) (fun _ _ _ h => h) (by rfl) ?_ hHeld ?_ ?_
                rotate_left 2
                · rintro w' ⟨s0, s1, s2, s3, s4, s5, s6⟩
                  go_simp
                  try with_reducible rfl
                · simp only [Act.put, List.setIfInBounds_toArray, List.set_cons_zero, List.set_cons_succ]
                  rfl
                refine rg_take (i := 6) (N := (some 82)) (v := ?_) (a' := ?_) #[true, true, true, true, true, true, true, false, false, false, false, false, false, false, false, false, false, false, false, false, false, false, false, false, false, false, false, false, false] rfl rfl (by kernel_rfl) (fun _ _ _ h => h) (by rfl) ?_ hHeld ?_ ?_
                rotate_left 2
                · rintro w' ⟨s0, s1, s2, s3, s4, s5, s6⟩
                  go_simp
                  try with_reducible rfl
                · simp only [Act.put, List.setIfInBounds_toArray, List.set_cons_zero, List.set_cons_succ]
                  rfl
                refine rg_take (i := 7) (N := (some 83)) (v := ?_) (a' := ?_) #[true, true, true, true, true, true, true, true, false, false, false, false, false, false, false, false, false, false, false, false, false, false, false, false, false, false, false, false, false] rfl rfl (by kernel_rfl) (fun _ _ _ h => h) (by rfl) ?_ hHeld ?_ ?_
                rotate_left 2
                · rintro w' ⟨s0, s1, s2, s3, s4, s5, s6⟩
                  go_simp
                  try with_reducible rfl
                · simp only [Act.put, List.setIfInBounds_toArray, List.set_cons_zero, List.set_cons_succ]
                  rfl
                refine rg_take (i := 8) (N := (some 84)) (v := ?_) (a' := ?_) #[true, true, true, true, true, true, true, true, true, false, false, false, false, false, false, false, false, false, false, false, false, false, false, false, false, false, false, false, false] rfl rfl (by kernel_rfl) (fun _ _ _ h => h) (by rfl) ?_ hHeld ?_ ?_
                rotate_left 2
                · rintro w' ⟨s0, s1, s2, s3, s4, s5, s6⟩
                  go_simp
                  try with_reducible rfl
                · simp only [Act.put, List.setIfInBounds_toArray, List.set_cons_zero, List.set_cons_succ]
                  rfl
                refine rg_take (i := 9) (N := (some 85)) (v := ?_) (a' := ?_) #[true, true, true, true, true, true, true, true, true, true, false, false, false, false, false, false, false, false, false, false, false, false, false, false, false, false, false, false, false] rfl rfl (by kernel_rfl) (fun _ _ _ h => h) (by rfl) ?_ hHeld ?_ ?_
                rotate_left 2
                · rintro w' ⟨s0, s1, s2, s3, s4, s5, s6⟩
                  go_simp
                  try with_reducible rfl
                · simp only [Act.put, List.setIfInBounds_toArray, List.set_cons_zero, List.set_cons_succ]
                  rfl
                refine rg_take (i := 10) (N := (some 86)) (v := ?_) (a' := ?_) #[true, true, true, true, true, true, true, true, true, true, true, false, false, false, false, false, false, false, false, false, false, false, false, false, false, false, false, false, false] rfl rfl (by kernel_rfl) (fun _ _ _ h => h) (by rfl) ?_ hHeld ?_ ?_
                rotate_left 2
                · rintro w' ⟨s0, s1, s2, s3, s4, s5, s6⟩
                  go_simp
                  try with_reducible rfl
                · simp only [Act.put, List.setIfInBounds_toArray, List.set_cons_zero, List.set_cons_succ]
                  rfl
                refine rg_take (i := 11) (N := (some 87)) (v := ?_) (a' := ?_) #[true, true, true, true, true, true, true, true, true, true, true, true, false, false, false, false, false, false, false, false, false, false, false, false, false, false, false, false, false] rfl rfl (by kernel_rfl) (fun _ _ _ h => h) (by rfl) ?_ hHeld ?_ ?_
                rotate_left 2
                · rintro w' ⟨s0, s1, s2, s3, s4, s5, s6⟩
                  go_simp
                  try with_reducible rfl
                · simp only [Act.put, List.setIfInBounds_toArray, List.set_cons_zero, List.set_cons_succ]
                  rfl
                refine rg_skip (i := 12) (N := (some 88)) (a' := ?_) #[true, true, true, true, true, true, true, true, true, true, true, true, true, false, false, false, false, false, false, false, false, false, false, false, false, false, false, false, false] rfl rfl (by kernel_rfl) (fun _ _ _ h => h) (by rfl) hHeld ?_ ?_
                rotate_left
                · simp only [Act.put, List.setIfInBounds_toArray, List.set_cons_zero, List.set_cons_succ]
                  rfl
                refine rg_skip (i := 13) (N := (some 89)) (a' := ?_) #[true, true, true, true, true, true, true, true, true, true, true, true, true, true, false, false, false, false, false, false, false, false, false, false, false, false, false, false, false] rfl rfl (by kernel_rfl) (fun _ _ _ h => h) (by rfl) hHeld ?_ ?_
                rotate_left
                · simp only [Act.put, List.setIfInBounds_toArray, List.set_cons_zero, List.set_cons_succ]
                  rfl
                refine rg_take (i := 14) (N := (some 90)) (v := ?_) (a' := ?_) #[true, true, true, true, true, true, true, true, true, true, true, true, true, true, true, false, false, false, false, false, false, false, false, false, false, false, false, false, false] rfl rfl (by kernel_rfl) (fun _ _ _ h => h) (by rfl) ?_ hHeld ?_ ?_
                rotate_left 2
                · rintro w' ⟨s0, s1, s2, s3, s4, s5, s6⟩
                  go_simp
                  try with_reducible rfl
                · simp only [Act.put, List.setIfInBounds_toArray, List.set_cons_zero, List.set_cons_succ]
                  rfl
                refine rg_take (i := 15) (N := (some 91)) (v := ?_) (a' := ?_) #[true, true, true, true, true, true, true, true, true, true, true, true, true, true, true, true, false, false, false, false, false, false, false, false, false, false, false, false, false] rfl rfl (by kernel_rfl) (fun _ _ _ h => h) (by rfl) ?_ hHeld ?_ ?_
                rotate_left 2
                · rintro w' ⟨s0, s1, s2, s3, s4, s5, s6⟩
                  go_simp
                  try with_reducible rfl
                · simp only [Act.put, List.setIfInBounds_toArray, List.set_cons_zero, List.set_cons_succ]
                  rfl
                refine rg_take (i := 16) (N := (some 92)) (v := ?_) (a' := ?_) #[true, true, true, true, true, true, true, true, true, true, true, true, true, true, true, true, true, false, false, false, false, false, false, false, false, false, false, false, false] rfl rfl (by kernel_rfl) (fun _ _ _ h => h) (by rfl) ?_ hHeld ?_ ?_
                rotate_left 2
                · rintro w' ⟨s0, s1, s2, s3, s4, s5, s6⟩
                  go_simp
                  try with_reducible rfl
                · simp only [Act.put, List.setIfInBounds_toArray, List.set_cons_zero, List.set_cons_succ]
                  rfl
                refine rg_take (i := 18) (N := (some 94)) (v := ?_) (a' := ?_) #[true, true, true, true, true, true, true, true, true, true, true, true, true, true, true, true, true, false, true, false, false, false, false, false, false, false, false, false, false] rfl rfl (by kernel_rfl) (fun _ _ _ h => h) (by rfl) ?_ hHeld ?_ ?_
                rotate_left 2
                · rintro w' ⟨s0, s1, s2, s3, s4, s5, s6⟩
                  go_simp
                  try with_reducible rfl
                · simp only [Act.put, List.setIfInBounds_toArray, List.set_cons_zero, List.set_cons_succ]
                  rfl
                refine rg_take (i := 19) (N := (some 95)) (v := ?_) (a' := ?_) #[true, true, true, true, true, true, true, true, true, true, true, true, true, true, true, true, true, false, true, true, false, false, false, false, false, false, false, false, false] rfl rfl (by kernel_rfl) (fun _ _ _ h => h) (by rfl) ?_ hHeld ?_ ?_
                rotate_left 2
                · rintro w' ⟨s0, s1, s2, s3, s4, s5, s6⟩
                  go_simp
                  try with_reducible rfl
                · simp only [Act.put, List.setIfInBounds_toArray, List.set_cons_zero, List.set_cons_succ]
                  rfl
                refine rg_one (i := 17) #[true, true, true, true, true, true, true, true, true, true, true, true, true, true, true, true, true, true, true, true, false, false, false, false, false, false, false, false, false] rfl (by kernel_rfl) (by rfl) (fun K hK => ?_)
                obtain ⟨s0, s1, s2, s3, s4, s5, s6⟩ := hHeld
                repeat go_step
                ((with_reducible refine (HWT.out _ s6).mono ?_); rintro e wa ⟨rfl, hba⟩)
                try dsimp only
                refine hK.out _ _ ?_ (fun hHeld => ?_)
                · exact ⟨keep_cell hba s3 s0, keep_cell hba s4 s1, keep_cell hba s5 s2, keep_lt hba s3, keep_lt hba s4, keep_lt hba s5, below_next s6 hba⟩
                clear hK K
                clear s0 s1 s2 s3 s4 s5 s6
                refine rg_take (i := 20) (N := (some 96)) (v := ?_) (a' := ?_) #[true, true, true, true, true, true, true, true, true, true, true, true, true, true, true, true, true, true, true, true, true, false, false, false, false, false, false, false, false] rfl rfl (by kernel_rfl) (fun _ _ _ h => h) (by rfl) ?_ hHeld ?_ ?_
                rotate_left 2
                · rintro w' ⟨s0, s1, s2, s3, s4, s5, s6⟩
                  go_simp
                  try with_reducible rfl
                · simp only [Act.put, List.setIfInBounds_toArray, List.set_cons_zero, List.set_cons_succ]
                  rfl
                refine rg_take (i := 21) (N := (some 97)) (v := ?_) (a' := ?_) #[true, true, true, true, true, true, true, true, true, true, true, true, true, true, true, true, true, true, true, true, true, true, false, false, false, false, false, false, false] rfl rfl (by kernel_rfl) (fun _ _ _ h => h) (by rfl) ?_ hHeld ?_ ?_
                rotate_left 2
                · rintro w' ⟨s0, s1, s2, s3, s4, s5, s6⟩
                  go_simp
                  try with_reducible rfl
                · simp only [Act.put, List.setIfInBounds_toArray, List.set_cons_zero, List.set_cons_succ]
                  rfl
                refine rg_take (i := 22) (N := (some 98)) (v := ?_) (a' := ?_) #[true, true, true, true, true, true, true, true, true, true, true, true, true, true, true, true, true, true, true, true, true, true, true, false, false, false, false, false, false] rfl rfl (by kernel_rfl) (fun _ _ _ h => h) (by rfl) ?_ hHeld ?_ ?_
                rotate_left 2
                · rintro w' ⟨s0, s1, s2, s3, s4, s5, s6⟩
                  go_simp
                  try with_reducible rfl
                · simp only [Act.put, List.setIfInBounds_toArray, List.set_cons_zero, List.set_cons_succ]
                  rfl
                refine rg_take (i := 23) (N := (some 99)) (v := ?_) (a' := ?_) #[true, true, true, true, true, true, true, true, true, true, true, true, true, true, true, true, true, true, true, true, true, true, true, true, false, false, false, false, false] rfl rfl (by kernel_rfl) (fun _ _ _ h => h) (by rfl) ?_ hHeld ?_ ?_
                rotate_left 2
                · rintro w' ⟨s0, s1, s2, s3, s4, s5, s6⟩
                  go_simp
                  try with_reducible rfl
                · simp only [Act.put, List.setIfInBounds_toArray, List.set_cons_zero, List.set_cons_succ]
                  rfl
                refine rg_take (i := 25) (N := (some 101)) (v := ?_) (a' := ?_) #[true, true, true, true, true, true, true, true, true, true, true, true, true, true, true, true, true, true, true, true, true, true, true, true, false, true, false, false, false] rfl rfl (by kernel_rfl) (fun _ _ _ h => h) (by rfl) ?_ hHeld ?_ ?_
                rotate_left 2
                · rintro w' ⟨s0, s1, s2, s3, s4, s5, s6⟩
                  go_simp
                  try with_reducible rfl
                · simp only [Act.put, List.setIfInBounds_toArray, List.set_cons_zero, List.set_cons_succ]
                  rfl
                refine rg_one (i := 24) #[true, true, true, true, true, true, true, true, true, true, true, true, true, true, true, true, true, true, true, true, true, true, true, true, true, true, false, false, false] rfl (by kernel_rfl) (by rfl) (fun K hK => ?_)
                obtain ⟨s0, s1, s2, s3, s4, s5, s6⟩ := hHeld
                repeat go_step
                ((with_reducible refine (HWT.out _ s6).mono ?_); rintro e wb ⟨rfl, hbb⟩)
                try dsimp only
                refine hK.out _ _ ?_ (fun hHeld => ?_)
                · exact ⟨keep_cell hbb s3 s0, keep_cell hbb s4 s1, keep_cell hbb s5 s2, keep_lt hbb s3, keep_lt hbb s4, keep_lt hbb s5, below_next s6 hbb⟩
                clear hK K
                clear s0 s1 s2 s3 s4 s5 s6
                refine rg_one (i := 26) #[true, true, true, true, true, true, true, true, true, true, true, true, true, true, true, true, true, true, true, true, true, true, true, true, true, true, true, false, false] rfl (by kernel_rfl) (by rfl) (fun K hK => ?_)
                obtain ⟨s0, s1, s2, s3, s4, s5, s6⟩ := hHeld
                repeat go_step
                ((with_reducible refine (HCW.out _ s6).mono ?_); rintro e wc ⟨rfl, hbc⟩)
                try dsimp only
                refine hK.out _ _ ?_ (fun hHeld => ?_)
                · exact ⟨keep_cell hbc s3 s0, keep_cell hbc s4 s1, keep_cell hbc s5 s2, keep_lt hbc s3, keep_lt hbc s4, keep_lt hbc s5, below_next s6 hbc⟩
                clear hK K
                clear s0 s1 s2 s3 s4 s5 s6
                refine rg_take (i := 27) (N := (some 103)) (v := ?_) (a' := ?_) #[true, true, true, true, true, true, true, true, true, true, true, true, true, true, true, true, true, true, true, true, true, true, true, true, true, true, true, true, false] rfl rfl (by kernel_rfl) (fun _ _ _ h => h) (by rfl) ?_ hHeld ?_ ?_
                rotate_left 2
                · rintro w' ⟨s0, s1, s2, s3, s4, s5, s6⟩
                  go_simp
                  try with_reducible rfl
                · simp only [Act.put, List.setIfInBounds_toArray, List.set_cons_zero, List.set_cons_succ]
                  rfl
                refine rg_take (i := 28) (N := (some 104)) (v := ?_) (a' := ?_) #[true, true, true, true, true, true, true, true, true, true, true, true, true, true, true, true, true, true, true, true, true, true, true, true, true, true, true, true, true] rfl rfl (by kernel_rfl) (fun _ _ _ h => h) (by rfl) ?_ hHeld ?_ ?_
                rotate_left 2
                · rintro w' ⟨s0, s1, s2, s3, s4, s5, s6⟩
                  go_simp
                  try with_reducible rfl
                · simp only [Act.put, List.setIfInBounds_toArray, List.set_cons_zero, List.set_cons_succ]
                  rfl
                refine rg_done (by kernel_rfl) ?_
                obtain ⟨_, r1, _, _, r4, _, rb⟩ := hHeld
                have HBZ := Lib.hid rb
                clear rb hcI
                have hwD := HWD.out
                go_wp2_with (go_at_call 13; (with_reducible refine (HLT.out _ HBZ.out).mono ?_); rintro e wl ⟨rfl, hbl⟩; have r1 := keep_cell hbl r4 r1; have r4 := keep_lt hbl r4; have HBZ := Lib.hid (below_next HBZ.out hbl); clear hbl)
                clear hwD
                refine ⟨⟨k + 1, g6, R, l', by go_num, by omega, HM8.out.below HBZ.out, HG6.out, HL'.out, HRK.out, hlk', (by have h1 := HSW.out; rw [← HSS.out] at h1; exact h1), box_below HPX8.out HBZ.out, below_next HB8.out HBZ.out⟩, ?_⟩
                simp [intOf]
                omega
            · obtain rfl : j = l'.length := by omega
              have HQE : Hid (q = decide (l' = l)) := Lib.hid (by
                rw [HQ.out]
                have : (l.length = l'.length ∧ l.take l'.length = l'.take l'.length) ↔ l' = l := by
                  constructor
                  · rintro ⟨h1, h2⟩
                    rw [← h1, List.take_length, h1, List.take_length] at h2
                    exact h2.symm
                  · rintro rfl
                    exact ⟨rfl, rfl⟩
                exact decide_eq_decide.2 this)
              have hqt : l' = l → q = true := fun h => by rw [HQE.out]; exact decide_eq_true h
              generalize hSS : sumW l' = S at *
              have HSS := Lib.hid hSS
              clear hSS
              have HWT := Lib.hid hwt
              have HCW := Lib.hid hcw
              clear hwt hcw HQ
              by_cases hE : E = 0
              · by_cases hk4 : (4 : Int) ≤ kind
                · rcases HRC.out with ⟨hll2, hRl⟩ | ⟨_, hk3, _⟩ | ⟨hll2, _, hk67, hRl⟩
                  · have hq := hqt hll2
                    subst hE hq
                    clear hll2 hqt HQE
                    have hlt := fun W (hW : Below w8.heap.size w8 W) => late_any bm g6 N R W (HM8.out.below hW) (by have := HRL.out; omega)
                    rw [show (R.length : Int) - 1 = (D : Int) by omega] at hlt
                    have HLT := Lib.hid hlt
                    clear hlt hRl
                    go_wp2
                    have hcI : decide (pCap N < S) = false := decide_eq_false (Int.not_lt.2 HCI.out)
                    have hk4d : decide ((4 : Int) ≤ kind) = true := decide_eq_true (by omega)
                    refine rg_start (n := 29) (fun w' => w'.cell? ⟨w6.heap.size, 0, none⟩ = some (.int .i64 0) ∧ w'.cell? ⟨b, off + k * 6, none⟩ = some (.int .i64 kind) ∧ w'.cell? ⟨wp, 6, none⟩ = some (.int .i64 (pCap N)) ∧ w6.heap.size < w'.heap.size ∧ b < w'.heap.size ∧ wp < w'.heap.size ∧ Below w8.heap.size w8 w') #[false, false, false, false, false, false, false, false, false, false, false, false, false, false, false, false, false, false, false, false, false, false, false, false, false, false, false, false, false] (by kernel_rfl) rfl rfl ⟨v0, d0, v6, vl, dl, vp, (Below.refl _ w8).drew⟩ (fun hHeld => ?_)
                    refine rg_take (i := 0) (N := (some 76)) (v := ?_) (a' := ?_) #[true, false, false, false, false, false, false, false, false, false, false, false, false, false, false, false, false, false, false, false, false, false, false, false, false, false, false, false, false] rfl rfl (by kernel_rfl) (fun _ _ _ h => h) (by rfl) ?_ hHeld ?_ ?_
                    rotate_left 2
                    · rintro w' ⟨s0, s1, s2, s3, s4, s5, s6⟩
                      go_simp
                      try with_reducible rfl
                    · simp only [Act.put, List.setIfInBounds_toArray, List.set_cons_zero, List.set_cons_succ]
                      rfl
                    refine rg_take (i := 1) (N := (some 77)) (v := ?_) (a' := ?_) #[true, true, false, false, false, false, false, false, false, false, false, false, false, false, false, false, false, false, false, false, false, false, false, false, false, false, false, false, false] rfl rfl (by kernel_rfl) (fun _ _ _ h => h) (by rfl) ?_ hHeld ?_ ?_
                    rotate_left 2
                    · rintro w' ⟨s0, s1, s2, s3, s4, s5, s6⟩
                      go_simp
                      try with_reducible rfl
                    · simp only [Act.put, List.setIfInBounds_toArray, List.set_cons_zero, List.set_cons_succ]
                      rfl
                    refine rg_take (i := 2) (N := (some 78)) (v := ?_) (a' := ?_) #[true, true, true, false, false, false, false, false, false, false, false, false, false, false, false, false, false, false, false, false, false, false, false, false, false, false, false, false, false] rfl rfl (by kernel_rfl) (fun _ _ _ h => h) (by rfl) ?_ hHeld ?_ ?_
                    rotate_left 2
                    · rintro w' ⟨s0, s1, s2, s3, s4, s5, s6⟩
                      go_simp
                      try with_reducible rfl
                    · simp only [Act.put, List.setIfInBounds_toArray, List.set_cons_zero, List.set_cons_succ]
                      rfl
                    refine rg_take (i := 3) (N := (some 79)) (v := ?_) (a' := ?_) #[true, true, true, true, false, false, false, false, false, false, false, false, false, false, false, false, false, false, false, false, false, false, false, false, false, false, false, false, false] rfl rfl (by kernel_rfl) (fun _ _ _ h => h) (by rfl) ?_ hHeld ?_ ?_
                    rotate_left 2
                    · rintro w' ⟨s0, s1, s2, s3, s4, s5, s6⟩
                      go_simp
                      try with_reducible rfl
                    · simp only [Act.put, List.setIfInBounds_toArray, List.set_cons_zero, List.set_cons_succ]
                      rfl
                    refine rg_take (i := 4) (N := (some 80)) (v := ?_) (a' := ?_) #[true, true, true, true, true, false, false, false, false, false, false, false, false, false, false, false, false, false, false, false, false, false, false, false, false, false, false, false, false] rfl rfl (by kernel_rfl) (fun _ _ _ h => h) (by rfl) ?_ hHeld ?_ ?_
                    rotate_left 2
                    · rintro w' ⟨s0, s1, s2, s3, s4, s5, s6⟩
                      go_simp
                      try with_reducible rfl
                    · simp only [Act.put, List.setIfInBounds_toArray, List.set_cons_zero, List.set_cons_succ]
                      rfl
                    refine rg_take (i := 5) (N := (some 81)) (v := ?_) (a' := ?_) #[true, true, true, true, true, true, false, false, false, false, false, false, false, false, false, false, false, false, false, false, false, false, false, false, false, false, false, false, false] rfl rfl (by kernel_rfl) (fun _ _ _ h => h) (by rfl) ?_ hHeld ?_ ?_
                    rotate_left 2
                    · rintro w' ⟨s0, s1, s2, s3, s4, s5, s6⟩
                      go_simp
                      try with_reducible rfl
                    · simp only [Act.put, List.setIfInBounds_toArray, List.set_cons_zero, List.set_cons_succ]
                      rfl
                    refine rg_take (i := 6) (N := (some 82)) (v := ?_) (a' := ?_) #[true, true, true, true, true, true, true, false, false, false, false, false, false, false, false, false, false, false, false, false, false, false, false, false, false, false, false, false, false] rfl rfl (by kernel_rfl) (fun _ _ _ h => h) (by rfl) ?_ hHeld ?_ ?_
                    rotate_left 2
                    · rintro w' ⟨s0, s1, s2, s3, s4, s5, s6⟩
                      go_simp
                      try with_reducible rfl
                    · simp only [Act.put, List.setIfInBounds_toArray, List.set_cons_zero, List.set_cons_succ]
                      rfl
                    refine rg_take (i := 7) (N := (some 83)) (v := ?_) (a' := ?_) #[true, true, true, true, true, true, true, true, false, false, false, false, false, false, false, false, false, false, false, false, false, false, false, false, false, false, false, false, false] rfl rfl (by kernel_rfl) (fun _ _ _ h => h) (by rfl) ?_ hHeld ?_ ?_
                    rotate_left 2
                    · rintro w' ⟨s0, s1, s2, s3, s4, s5, s6⟩
                      go_simp
                      try with_reducible rfl
                    · simp only [Act.put, List.setIfInBounds_toArray, List.set_cons_zero, List.set_cons_succ]
                      rfl
                    refine rg_take (i := 8) (N := (some 84)) (v := ?_) (a' := ?_) #[true, true, true, true, true, true, true, true, true, false, false, false, false, false, false, false, false, false, false, false, false, false, false, false, false, false, false, false, false] rfl rfl (by kernel_rfl) (fun _ _ _ h => h) (by rfl) ?_ hHeld ?_ ?_
                    rotate_left 2
                    · rintro w' ⟨s0, s1, s2, s3, s4, s5, s6⟩
                      go_simp
                      try with_reducible rfl
                    · simp only [Act.put, List.setIfInBounds_toArray, List.set_cons_zero, List.set_cons_succ]
                      rfl
                    refine rg_take (i := 9) (N := (some 85)) (v := ?_) (a' := ?_) #[true, true, true, true, true, true, true, true, true, true, false, false, false, false, false, false, false, false, false, false, false, false, false, false, false, false, false, false, false] rfl rfl (by kernel_rfl) (fun _ _ _ h => h) (by rfl) ?_ hHeld ?_ ?_
                    rotate_left 2
                    · rintro w' ⟨s0, s1, s2, s3, s4, s5, s6⟩
                      go_simp
                      try with_reducible rfl
                    · simp only [Act.put, List.setIfInBounds_toArray, List.set_cons_zero, List.set_cons_succ]
                      rfl
                    refine rg_take (i := 10) (N := (some 86)) (v := ?_) (a' := ?_) #[true, true, true, true, true, true, true, true, true, true, true, false, false, false, false, false, false, false, false, false, false, false, false, false, false, false, false, false, false] rfl rfl (by kernel_rfl) (fun _ _ _ h => h) (by rfl) ?_ hHeld ?_ ?_
                    rotate_left 2
                    · rintro w' ⟨s0, s1, s2, s3, s4, s5, s6⟩
                      go_simp
                      try with_reducible rfl
                    · simp only [Act.put, List.setIfInBounds_toArray, List.set_cons_zero, List.set_cons_succ]
                      rfl
                    refine rg_take (i := 11) (N := (some 87)) (v := ?_) (a' := ?_) #[true, true, true, true, true, true, true, true, true, true, true, true, false, false, false, false, false, false, false, false, false, false, false, false, false, false, false, false, false] rfl rfl (by kernel_rfl) (fun _ _ _ h => h) (by rfl) ?_ hHeld ?_ ?_
                    rotate_left 2
                    · rintro w' ⟨s0, s1, s2, s3, s4, s5, s6⟩
                      go_simp
                      try with_reducible rfl
                    · simp only [Act.put, List.setIfInBounds_toArray, List.set_cons_zero, List.set_cons_succ]
                      rfl
                    refine rg_take (i := 12) (N := (some 88)) (v := ?_) (a' := ?_) #[true, true, true, true, true, true, true, true, true, true, true, true, true, false, false, false, false, false, false, false, false, false, false, false, false, false, false, false, false] rfl rfl (by kernel_rfl) (fun _ _ _ h => h) (by rfl) ?_ hHeld ?_ ?_
                    rotate_left 2
                    · rintro w' ⟨s0, s1, s2, s3, s4, s5, s6⟩
                      go_simp
                      try with_reducible rfl
                    · simp only [Act.put, List.setIfInBounds_toArray, List.set_cons_zero, List.set_cons_succ]
                      rfl
                    refine rg_take (i := 13) (N := (some 89)) (v := ?_) (a' := ?_) #[true, true, true, true, true, true, true, true, true, true, true, true, true, true, false, false, false, false, false, false, false, false, false, false, false, false, false, false, false] rfl rfl (by kernel_rfl) (fun _ _ _ h => h) (by rfl) ?_ hHeld ?_ ?_
                    rotate_left 2
                    · rintro w' ⟨s0, s1, s2, s3, s4, s5, s6⟩
                      go_simp
                      try with_reducible rfl
                    · simp only [Act.put, List.setIfInBounds_toArray, List.set_cons_zero, List.set_cons_succ]
                      rfl
                    refine rg_take (i := 14) (N := (some 90)) (v := ?_) (a' := ?_) #[true, true, true, true, true, true, true, true, true, true, true, true, true, true, true, false, false, false, false, false, false, false, false, false, false, false, false, false, false] rfl rfl (by kernel_rfl) (fun _ _ _ h => h) (by rfl) ?_ hHeld ?_ ?_
                    rotate_left 2
                    · rintro w' ⟨s0, s1, s2, s3, s4, s5, s6⟩
                      go_simp
                      try with_reducible rfl
                    · simp only [Act.put, List.setIfInBounds_toArray, List.set_cons_zero, List.set_cons_succ]
                      rfl
                    refine rg_take (i := 15) (N := (some 91)) (v := ?_) (a' := ?_) #[true, true, true, true, true, true, true, true, true, true, true, true, true, true, true, true, false, false, false, false, false, false, false, false, false, false, false, false, false] rfl rfl (by kernel_rfl) (fun _ _ _ h => h) (by rfl) ?_ hHeld ?_ ?_
                    rotate_left 2
                    · rintro w' ⟨s0, s1, s2, s3, s4, s5, s6⟩
                      go_simp
                      try with_reducible rfl
                    · simp only [Act.put, List.setIfInBounds_toArray, List.set_cons_zero, List.set_cons_succ]
                      rfl
                    refine rg_take (i := 16) (N := (some 92)) (v := ?_) (a' := ?_) #[true, true, true, true, true, true, true, true, true, true, true, true, true, true, true, true, true, false, false, false, false, false, false, false, false, false, false, false, false] rfl rfl (by kernel_rfl) (fun _ _ _ h => h) (by rfl) ?_ hHeld ?_ ?_
                    rotate_left 2
                    · rintro w' ⟨s0, s1, s2, s3, s4, s5, s6⟩
                      go_simp
                      try with_reducible rfl
                    · simp only [Act.put, List.setIfInBounds_toArray, List.set_cons_zero, List.set_cons_succ]
                      rfl
                    refine rg_take (i := 18) (N := (some 94)) (v := ?_) (a' := ?_) #[true, true, true, true, true, true, true, true, true, true, true, true, true, true, true, true, true, false, true, false, false, false, false, false, false, false, false, false, false] rfl rfl (by kernel_rfl) (fun _ _ _ h => h) (by rfl) ?_ hHeld ?_ ?_
                    rotate_left 2
                    · rintro w' ⟨s0, s1, s2, s3, s4, s5, s6⟩
                      go_simp
                      try with_reducible rfl
                    · simp only [Act.put, List.setIfInBounds_toArray, List.set_cons_zero, List.set_cons_succ]
                      rfl
                    refine rg_take (i := 19) (N := (some 95)) (v := ?_) (a' := ?_) #[true, true, true, true, true, true, true, true, true, true, true, true, true, true, true, true, true, false, true, true, false, false, false, false, false, false, false, false, false] rfl rfl (by kernel_rfl) (fun _ _ _ h => h) (by rfl) ?_ hHeld ?_ ?_
                    rotate_left 2
                    · rintro w' ⟨s0, s1, s2, s3, s4, s5, s6⟩
                      go_simp
                      try with_reducible rfl
                    · simp only [Act.put, List.setIfInBounds_toArray, List.set_cons_zero, List.set_cons_succ]
                      rfl
                    refine rg_one (i := 17) #[true, true, true, true, true, true, true, true, true, true, true, true, true, true, true, true, true, true, true, true, false, false, false, false, false, false, false, false, false] rfl (by kernel_rfl) (by rfl) (fun K hK => ?_)
                    obtain ⟨s0, s1, s2, s3, s4, s5, s6⟩ := hHeld
                    repeat go_step
                    ((with_reducible refine (HWT.out _ s6).mono ?_); rintro e wa ⟨rfl, hba⟩)
                    try dsimp only
                    refine hK.out _ _ ?_ (fun hHeld => ?_)
                    · exact ⟨keep_cell hba s3 s0, keep_cell hba s4 s1, keep_cell hba s5 s2, keep_lt hba s3, keep_lt hba s4, keep_lt hba s5, below_next s6 hba⟩
                    clear hK K
                    clear s0 s1 s2 s3 s4 s5 s6
                    refine rg_take (i := 20) (N := (some 96)) (v := ?_) (a' := ?_) #[true, true, true, true, true, true, true, true, true, true, true, true, true, true, true, true, true, true, true, true, true, false, false, false, false, false, false, false, false] rfl rfl (by kernel_rfl) (fun _ _ _ h => h) (by rfl) ?_ hHeld ?_ ?_
                    rotate_left 2
                    · rintro w' ⟨s0, s1, s2, s3, s4, s5, s6⟩
                      go_simp
                      try with_reducible rfl
                    · simp only [Act.put, List.setIfInBounds_toArray, List.set_cons_zero, List.set_cons_succ]
                      rfl
                    refine rg_take (i := 21) (N := (some 97)) (v := ?_) (a' := ?_) #[true, true, true, true, true, true, true, true, true, true, true, true, true, true, true, true, true, true, true, true, true, true, false, false, false, false, false, false, false] rfl rfl (by kernel_rfl) (fun _ _ _ h => h) (by rfl) ?_ hHeld ?_ ?_
                    rotate_left 2
                    · rintro w' ⟨s0, s1, s2, s3, s4, s5, s6⟩
                      go_simp
                      try with_reducible rfl
                    · simp only [Act.put, List.setIfInBounds_toArray, List.set_cons_zero, List.set_cons_succ]
                      rfl
                    refine rg_take (i := 22) (N := (some 98)) (v := ?_) (a' := ?_) #[true, true, true, true, true, true, true, true, true, true, true, true, true, true, true, true, true, true, true, true, true, true, true, false, false, false, false, false, false] rfl rfl (by kernel_rfl) (fun _ _ _ h => h) (by rfl) ?_ hHeld ?_ ?_
                    rotate_left 2
                    · rintro w' ⟨s0, s1, s2, s3, s4, s5, s6⟩
                      go_simp
                      try with_reducible rfl
                    · simp only [Act.put, List.setIfInBounds_toArray, List.set_cons_zero, List.set_cons_succ]
                      rfl
                    refine rg_take (i := 23) (N := (some 99)) (v := ?_) (a' := ?_) #[true, true, true, true, true, true, true, true, true, true, true, true, true, true, true, true, true, true, true, true, true, true, true, true, false, false, false, false, false] rfl rfl (by kernel_rfl) (fun _ _ _ h => h) (by rfl) ?_ hHeld ?_ ?_
                    rotate_left 2
                    · rintro w' ⟨s0, s1, s2, s3, s4, s5, s6⟩
                      go_simp
                      try with_reducible rfl
                    · simp only [Act.put, List.setIfInBounds_toArray, List.set_cons_zero, List.set_cons_succ]
                      rfl
                    refine rg_take (i := 25) (N := (some 101)) (v := ?_) (a' := ?_) #[true, true, true, true, true, true, true, true, true, true, true, true, true, true, true, true, true, true, true, true, true, true, true, true, false, true, false, false, false] rfl rfl (by kernel_rfl) (fun _ _ _ h => h) (by rfl) ?_ hHeld ?_ ?_
                    rotate_left 2
                    · rintro w' ⟨s0, s1, s2, s3, s4, s5, s6⟩
                      go_simp
                      try with_reducible rfl
                    · simp only [Act.put, List.setIfInBounds_toArray, List.set_cons_zero, List.set_cons_succ]
                      rfl
                    refine rg_one (i := 24) #[true, true, true, true, true, true, true, true, true, true, true, true, true, true, true, true, true, true, true, true, true, true, true, true, true, true, false, false, false] rfl (by kernel_rfl) (by rfl) (fun K hK => ?_)
                    obtain ⟨s0, s1, s2, s3, s4, s5, s6⟩ := hHeld
                    repeat go_step
                    ((with_reducible refine (HWT.out _ s6).mono ?_); rintro e wb ⟨rfl, hbb⟩)
                    try dsimp only
                    refine hK.out _ _ ?_ (fun hHeld => ?_)
                    · exact ⟨keep_cell hbb s3 s0, keep_cell hbb s4 s1, keep_cell hbb s5 s2, keep_lt hbb s3, keep_lt hbb s4, keep_lt hbb s5, below_next s6 hbb⟩
                    clear hK K
                    clear s0 s1 s2 s3 s4 s5 s6
                    refine rg_one (i := 26) #[true, true, true, true, true, true, true, true, true, true, true, true, true, true, true, true, true, true, true, true, true, true, true, true, true, true, true, false, false] rfl (by kernel_rfl) (by rfl) (fun K hK => ?_)
                    obtain ⟨s0, s1, s2, s3, s4, s5, s6⟩ := hHeld
                    repeat go_step
                    ((with_reducible refine (HCW.out _ s6).mono ?_); rintro e wc ⟨rfl, hbc⟩)
                    try dsimp only
                    refine hK.out _ _ ?_ (fun hHeld => ?_)
                    · exact ⟨keep_cell hbc s3 s0, keep_cell hbc s4 s1, keep_cell hbc s5 s2, keep_lt hbc s3, keep_lt hbc s4, keep_lt hbc s5, below_next s6 hbc⟩
                    clear hK K
                    clear s0 s1 s2 s3 s4 s5 s6
                    refine rg_take (i := 27) (N := (some 103)) (v := ?_) (a' := ?_) #[true, true, true, true, true, true, true, true, true, true, true, true, true, true, true, true, true, true, true, true, true, true, true, true, true, true, true, true, false] rfl rfl (by kernel_rfl) (fun _ _ _ h => h) (by rfl) ?_ hHeld ?_ ?_
                    rotate_left 2
                    · rintro w' ⟨s0, s1, s2, s3, s4, s5, s6⟩
                      go_simp
                      try with_reducible rfl
                    · simp only [Act.put, List.setIfInBounds_toArray, List.set_cons_zero, List.set_cons_succ]
                      rfl
                    refine rg_take (i := 28) (N := (some 104)) (v := ?_) (a' := ?_) #[true, true, true, true, true, true, true, true, true, true, true, true, true, true, true, true, true, true, true, true, true, true, true, true, true, true, true, true, true] rfl rfl (by kernel_rfl) (fun _ _ _ h => h) (by rfl) ?_ hHeld ?_ ?_
                    rotate_left 2
                    · rintro w' ⟨s0, s1, s2, s3, s4, s5, s6⟩
                      go_simp
                      try with_reducible rfl
                    · simp only [Act.put, List.setIfInBounds_toArray, List.set_cons_zero, List.set_cons_succ]
                      rfl
                    refine rg_done (by kernel_rfl) ?_
                    obtain ⟨_, r1, _, _, r4, _, rb⟩ := hHeld
                    have HBZ := Lib.hid rb
                    clear rb hcI
                    go_wp2_with (go_at_call 13; (with_reducible refine (HLT.out _ HBZ.out).mono ?_); rintro e wl ⟨rfl, hbl⟩; have r1 := keep_cell hbl r4 r1; have r4 := keep_lt hbl r4; have HBZ := Lib.hid (below_next HBZ.out hbl); clear hbl)
                    refine ⟨⟨k + 1, g6, R, l', by go_num, by omega, HM8.out.below HBZ.out, HG6.out, HL'.out, HRK.out, hlk', (by have h1 := HSW.out; rw [← HSS.out] at h1; exact h1), box_below HPX8.out HBZ.out, below_next HB8.out HBZ.out⟩, ?_⟩
                    simp [intOf]
                    omega
                  · omega
                  · have hq := hqt hll2
                    by_cases hD0 : D = 0
                    · have hRl : R.length = D + 1 := by omega
                      subst hE hq
                      clear hll2 hqt HQE hk67
                      have hlt := fun W (hW : Below w8.heap.size w8 W) => late_any bm g6 N R W (HM8.out.below hW) (by have := HRL.out; omega)
                      rw [show (R.length : Int) - 1 = (D : Int) by omega] at hlt
                      have HLT := Lib.hid hlt
                      clear hlt hRl
                      go_wp2
                      have hcI : decide (pCap N < S) = false := decide_eq_false (Int.not_lt.2 HCI.out)
                      have hk4d : decide ((4 : Int) ≤ kind) = true := decide_eq_true (by omega)
                      refine rg_start (n := 29) (fun w' => w'.cell? ⟨w6.heap.size, 0, none⟩ = some (.int .i64 0) ∧ w'.cell? ⟨b, off + k * 6, none⟩ = some (.int .i64 kind) ∧ w'.cell? ⟨wp, 6, none⟩ = some (.int .i64 (pCap N)) ∧ w6.heap.size < w'.heap.size ∧ b < w'.heap.size ∧ wp < w'.heap.size ∧ Below w8.heap.size w8 w') #[false, false, false, false, false, false, false, false, false, false, false, false, false, false, false, false, false, false, false, false, false, false, false, false, false, false, false, false, false] (by kernel_rfl) rfl rfl ⟨v0, d0, v6, vl, dl, vp, (Below.refl _ w8).drew⟩ (fun hHeld => ?_)
                      refine rg_take (i := 0) (N := (some 76)) (v := ?_) (a' := ?_) #[true, false, false, false, false, false, false, false, false, false, false, false, false, false, false, false, false, false, false, false, false, false, false, false, false, false, false, false, false] rfl rfl (by kernel_rfl) (fun _ _ _ h => h) (by rfl) ?_ hHeld ?_ ?_
                      rotate_left 2
                      · rintro w' ⟨s0, s1, s2, s3, s4, s5, s6⟩
                        go_simp
                        try with_reducible rfl
                      · simp only [Act.put, List.setIfInBounds_toArray, List.set_cons_zero, List.set_cons_succ]
                        rfl
                      refine rg_take (i := 1) (N := (some 77)) (v := ?_) (a' := ?_) #[true, true, false, false, false, false, false, false, false, false, false, false, false, false, false, false, false, false, false, false, false, false, false, false, false, false, false, false, false] rfl rfl (by kernel_rfl) (fun _ _ _ h => h) (by rfl) ?_ hHeld ?_ ?_
                      rotate_left 2
                      · rintro w' ⟨s0, s1, s2, s3, s4, s5, s6⟩
                        go_simp
                        try with_reducible rfl
                      · simp only [Act.put, List.setIfInBounds_toArray, List.set_cons_zero, List.set_cons_succ]
                        rfl
                      refine rg_take (i := 2) (N := (some 78)) (v := ?_) (a' := ?_) #[true, true, true, false, false, false, false, false, false, false, false, false, false, false, false, false, false, false, false, false, false, false, false, false, false, false, false, false, false] rfl rfl (by kernel_rfl) (fun _ _ _ h => h) (by rfl) ?_ hHeld ?_ ?_
                      rotate_left 2
                      · rintro w' ⟨s0, s1, s2, s3, s4, s5, s6⟩
                        go_simp
                        try with_reducible rfl
                      · simp only [Act.put, List.setIfInBounds_toArray, List.set_cons_zero, List.set_cons_succ]
                        rfl
                      refine rg_take (i := 3) (N := (some 79)) (v := ?_) (a' := ?_) #[true, true, true, true, false, false, false, false, false, false, false, false, false, false, false, false, false, false, false, false, false, false, false, false, false, false, false, false, false] rfl rfl (by kernel_rfl) (fun _ _ _ h => h) (by rfl) ?_ hHeld ?_ ?_
                      rotate_left 2
                      · rintro w' ⟨s0, s1, s2, s3, s4, s5, s6⟩
                        go_simp
                        try with_reducible rfl
                      · simp only [Act.put, List.setIfInBounds_toArray, List.set_cons_zero, List.set_cons_succ]
                        rfl
                      refine rg_take (i := 4) (N := (some 80)) (v := ?_) (a' := ?_) #[true, true, true, true, true, false, false, false, false, false, false, false, false, false, false, false, false, false, false, false, false, false, false, false, false, false, false, false, false] rfl rfl (by kernel_rfl) (fun _ _ _ h => h) (by rfl) ?_ hHeld ?_ ?_
                      rotate_left 2
                      · rintro w' ⟨s0, s1, s2, s3, s4, s5, s6⟩
                        go_simp
                        try with_reducible rfl
                      · simp only [Act.put, List.setIfInBounds_toArray, List.set_cons_zero, List.set_cons_succ]
                        rfl
                      refine rg_take (i := 5) (N := (some 81)) (v := ?_) (a' := ?_) #[true, true, true, true, true, true, false, false, false, false, false, false, false, false, false, false, false, false, false, false, false, false, false, false, false, false, false, false, false] rfl rfl (by kernel_rfl) (fun _ _ _ h => h) (by rfl) ?_ hHeld ?_ ?_
                      rotate_left 2
                      · rintro w' ⟨s0, s1, s2, s3, s4, s5, s6⟩
                        go_simp
                        try with_reducible rfl
                      · simp only [Act.put, List.setIfInBounds_toArray, List.set_cons_zero, List.set_cons_succ]
                        rfl
                      refine rg_take (i := 6) (N := (some 82)) (v := ?_) (a' := ?_) #[true, true, true, true, true, true, true, false, false, false, false, false, false, false, false, false, false, false, false, false, false, false, false, false, false, false, false, false, false] rfl rfl (by kernel_rfl) (fun _ _ _ h => h) (by rfl) ?_ hHeld ?_ ?_
                      rotate_left 2
                      · rintro w' ⟨s0, s1, s2, s3, s4, s5, s6⟩
                        go_simp
                        try with_reducible rfl
                      · simp only [Act.put, List.setIfInBounds_toArray, List.set_cons_zero, List.set_cons_succ]
                        rfl
                      refine rg_take (i := 7) (N := (some 83)) (v := ?_) (a' := ?_) #[true, true, true, true, true, true, true, true, false, false, false, false, false, false, false, false, false, false, false, false, false, false, false, false, false, false, false, false, false] rfl rfl (by kernel_rfl) (fun _ _ _ h => h) (by rfl) ?_ hHeld ?_ ?_
                      rotate_left 2
                      · rintro w' ⟨s0, s1, s2, s3, s4, s5, s6⟩
                        go_simp
                        try with_reducible rfl
                      · simp only [Act.put, List.setIfInBounds_toArray, List.set_cons_zero, List.set_cons_succ]
                        rfl
                      refine rg_take (i := 8) (N := (some 84)) (v := ?_) (a' := ?_) #[true, true, true, true, true, true, true, true, true, false, false, false, false, false, false, false, false, false, false, false, false, false, false, false, false, false, false, false, false] rfl rfl (by kernel_rfl) (fun _ _ _ h => h) (by rfl) ?_ hHeld ?_ ?_
                      rotate_left 2
                      · rintro w' ⟨s0, s1, s2, s3, s4, s5, s6⟩
                        go_simp
                        try with_reducible rfl
                      · simp only [Act.put, List.setIfInBounds_toArray, List.set_cons_zero, List.set_cons_succ]
                        rfl
                      refine rg_take (i := 9) (N := (some 85)) (v := ?_) (a' := ?_) #[true, true, true, true, true, true, true, true, true, true, false, false, false, false, false, false, false, false, false, false, false, false, false, false, false, false, false, false, false] rfl rfl (by kernel_rfl) (fun _ _ _ h => h) (by rfl) ?_ hHeld ?_ ?_
                      rotate_left 2
                      · rintro w' ⟨s0, s1, s2, s3, s4, s5, s6⟩
                        go_simp
                        try with_reducible rfl
                      · simp only [Act.put, List.setIfInBounds_toArray, List.set_cons_zero, List.set_cons_succ]
                        rfl
                      refine rg_take (i := 10) (N := (some 86)) (v := ?_) (a' := ?_) #[true, true, true, true, true, true, true, true, true, true, true, false, false, false, false, false, false, false, false, false, false, false, false, false, false, false, false, false, false] rfl rfl (by kernel_rfl) (fun _ _ _ h => h) (by rfl) ?_ hHeld ?_ ?_
                      rotate_left 2
                      · rintro w' ⟨s0, s1, s2, s3, s4, s5, s6⟩
                        go_simp
                        try with_reducible rfl
                      · simp only [Act.put, List.setIfInBounds_toArray, List.set_cons_zero, List.set_cons_succ]
                        rfl
                      refine rg_take (i := 11) (N := (some 87)) (v := ?_) (a' := ?_) #[true, true, true, true, true, true, true, true, true, true, true, true, false, false, false, false, false, false, false, false, false, false, false, false, false, false, false, false, false] rfl rfl (by kernel_rfl) (fun _ _ _ h => h) (by rfl) ?_ hHeld ?_ ?_
                      rotate_left 2
                      · rintro w' ⟨s0, s1, s2, s3, s4, s5, s6⟩
                        go_simp
                        try with_reducible rfl
                      · simp only [Act.put, List.setIfInBounds_toArray, List.set_cons_zero, List.set_cons_succ]
                        rfl
                      refine rg_take (i := 12) (N := (some 88)) (v := ?_) (a' := ?_) #[true, true, true, true, true, true, true, true, true, true, true, true, true, false, false, false, false, false, false, false, false, false, false, false, false, false, false, false, false] rfl rfl (by kernel_rfl) (fun _ _ _ h => h) (by rfl) ?_ hHeld ?_ ?_
                      rotate_left 2
                      · rintro w' ⟨s0, s1, s2, s3, s4, s5, s6⟩
                        go_simp
                        try with_reducible rfl
                      · simp only [Act.put, List.setIfInBounds_toArray, List.set_cons_zero, List.set_cons_succ]
                        rfl
                      refine rg_take (i := 13) (N := (some 89)) (v := ?_) (a' := ?_) #[true, true, true, true, true, true, true, true, true, true, true, true, true, true, false, false, false, false, false, false, false, false, false, false, false, false, false, false, false] rfl rfl (by kernel_rfl) (fun _ _ _ h => h) (by rfl) ?_ hHeld ?_ ?_
                      rotate_left 2
                      · rintro w' ⟨s0, s1, s2, s3, s4, s5, s6⟩
                        go_simp
                        try with_reducible rfl
                      · simp only [Act.put, List.setIfInBounds_toArray, List.set_cons_zero, List.set_cons_succ]
                        rfl
                      refine rg_take (i := 14) (N := (some 90)) (v := ?_) (a' := ?_) #[true, true, true, true, true, true, true, true, true, true, true, true, true, true, true, false, false, false, false, false, false, false, false, false, false, false, false, false, false] rfl rfl (by kernel_rfl) (fun _ _ _ h => h) (by rfl) ?_ hHeld ?_ ?_
                      rotate_left 2
                      · rintro w' ⟨s0, s1, s2, s3, s4, s5, s6⟩
                        go_simp
                        try with_reducible rfl
                      · simp only [Act.put, List.setIfInBounds_toArray, List.set_cons_zero, List.set_cons_succ]
                        rfl
                      refine rg_take (i := 15) (N := (some 91)) (v := ?_) (a' := ?_) #[true, true, true, true, true, true, true, true, true, true, true, true, true, true, true, true, false, false, false, false, false, false, false, false, false, false, false, false, false] rfl rfl (by kernel_rfl) (fun _ _ _ h => h) (by rfl) ?_ hHeld ?_ ?_
                      rotate_left 2
                      · rintro w' ⟨s0, s1, s2, s3, s4, s5, s6⟩
                        go_simp
                        try with_reducible rfl
                      · simp only [Act.put, List.setIfInBounds_toArray, List.set_cons_zero, List.set_cons_succ]
                        rfl
                      refine rg_take (i := 16) (N := (some 92)) (v := ?_) (a' := ?_) #[true, true, true, true, true, true, true, true, true, true, true, true, true, true, true, true, true, false, false, false, false, false, false, false, false, false, false, false, false] rfl rfl (by kernel_rfl) (fun _ _ _ h => h) (by rfl) ?_ hHeld ?_ ?_
                      rotate_left 2
                      · rintro w' ⟨s0, s1, s2, s3, s4, s5, s6⟩
                        go_simp
                        try with_reducible rfl
                      · simp only [Act.put, List.setIfInBounds_toArray, List.set_cons_zero, List.set_cons_succ]
                        rfl
                      refine rg_take (i := 18) (N := (some 94)) (v := ?_) (a' := ?_) #[true, true, true, true, true, true, true, true, true, true, true, true, true, true, true, true, true, false, true, false, false, false, false, false, false, false, false, false, false] rfl rfl (by kernel_rfl) (fun _ _ _ h => h) (by rfl) ?_ hHeld ?_ ?_
                      rotate_left 2
                      · rintro w' ⟨s0, s1, s2, s3, s4, s5, s6⟩
                        go_simp
                        try with_reducible rfl
                      · simp only [Act.put, List.setIfInBounds_toArray, List.set_cons_zero, List.set_cons_succ]
                        rfl
                      refine rg_take (i := 19) (N := (some 95)) (v := ?_) (a' := ?_) #[true, true, true, true, true, true, true, true, true, true, true, true, true, true, true, true, true, false, true, true, false, false, false, false, false, false, false, false, false] rfl rfl (by kernel_rfl) (fun _ _ _ h => h) (by rfl) ?_ hHeld ?_ ?_
                      rotate_left 2
                      · rintro w' ⟨s0, s1, s2, s3, s4, s5, s6⟩
                        go_simp
                        try with_reducible rfl
                      · simp only [Act.put, List.setIfInBounds_toArray, List.set_cons_zero, List.set_cons_succ]
                        rfl
                      refine rg_one (i := 17) #[true, true, true, true, true, true, true, true, true, true, true, true, true, true, true, true, true, true, true, true, false, false, false, false, false, false, false, false, false] rfl (by kernel_rfl) (by rfl) (fun K hK => ?_)
                      obtain ⟨s0, s1, s2, s3, s4, s5, s6⟩ := hHeld
                      repeat go_step
                      ((with_reducible refine (HWT.out _ s6).mono ?_); rintro e wa ⟨rfl, hba⟩)
                      try dsimp only
                      refine hK.out _ _ ?_ (fun hHeld => ?_)
                      · exact ⟨keep_cell hba s3 s0, keep_cell hba s4 s1, keep_cell hba s5 s2, keep_lt hba s3, keep_lt hba s4, keep_lt hba s5, below_next s6 hba⟩
                      clear hK K
                      clear s0 s1 s2 s3 s4 s5 s6
                      refine rg_take (i := 20) (N := (some 96)) (v := ?_) (a' := ?_) #[true, true, true, true, true, true, true, true, true, true, true, true, true, true, true, true, true, true, true, true, true, false, false, false, false, false, false, false, false] rfl rfl (by kernel_rfl) (fun _ _ _ h => h) (by rfl) ?_ hHeld ?_ ?_
                      rotate_left 2
                      · rintro w' ⟨s0, s1, s2, s3, s4, s5, s6⟩
                        go_simp
                        try with_reducible rfl
                      · simp only [Act.put, List.setIfInBounds_toArray, List.set_cons_zero, List.set_cons_succ]
                        rfl
                      refine rg_take (i := 21) (N := (some 97)) (v := ?_) (a' := ?_) #[true, true, true, true, true, true, true, true, true, true, true, true, true, true, true, true, true, true, true, true, true, true, false, false, false, false, false, false, false] rfl rfl (by kernel_rfl) (fun _ _ _ h => h) (by rfl) ?_ hHeld ?_ ?_
                      rotate_left 2
                      · rintro w' ⟨s0, s1, s2, s3, s4, s5, s6⟩
                        go_simp
                        try with_reducible rfl
                      · simp only [Act.put, List.setIfInBounds_toArray, List.set_cons_zero, List.set_cons_succ]
                        rfl
                      refine rg_take (i := 22) (N := (some 98)) (v := ?_) (a' := ?_) #[true, true, true, true, true, true, true, true, true, true, true, true, true, true, true, true, true, true, true, true, true, true, true, false, false, false, false, false, false] rfl rfl (by kernel_rfl) (fun _ _ _ h => h) (by rfl) ?_ hHeld ?_ ?_
                      rotate_left 2
                      · rintro w' ⟨s0, s1, s2, s3, s4, s5, s6⟩
                        go_simp
                        try with_reducible rfl
                      · simp only [Act.put, List.setIfInBounds_toArray, List.set_cons_zero, List.set_cons_succ]
                        rfl
                      refine rg_take (i := 23) (N := (some 99)) (v := ?_) (a' := ?_) #[true, true, true, true, true, true, true, true, true, true, true, true, true, true, true, true, true, true, true, true, true, true, true, true, false, false, false, false, false] rfl rfl (by kernel_rfl) (fun _ _ _ h => h) (by rfl) ?_ hHeld ?_ ?_
                      rotate_left 2
                      · rintro w' ⟨s0, s1, s2, s3, s4, s5, s6⟩
                        go_simp
                        try with_reducible rfl
                      · simp only [Act.put, List.setIfInBounds_toArray, List.set_cons_zero, List.set_cons_succ]
                        rfl
                      refine rg_take (i := 25) (N := (some 101)) (v := ?_) (a' := ?_) #[true, true, true, true, true, true, true, true, true, true, true, true, true, true, true, true, true, true, true, true, true, true, true, true, false, true, false, false, false] rfl rfl (by kernel_rfl) (fun _ _ _ h => h) (by rfl) ?_ hHeld ?_ ?_
                      rotate_left 2
                      · rintro w' ⟨s0, s1, s2, s3, s4, s5, s6⟩
                        go_simp
                        try with_reducible rfl
                      · simp only [Act.put, List.setIfInBounds_toArray, List.set_cons_zero, List.set_cons_succ]
                        rfl
                      refine rg_one (i := 24) #[true, true, true, true, true, true, true, true, true, true, true, true, true, true, true, true, true, true, true, true, true, true, true, true, true, true, false, false, false] rfl (by kernel_rfl) (by rfl) (fun K hK => ?_)
                      obtain ⟨s0, s1, s2, s3, s4, s5, s6⟩ := hHeld
                      repeat go_step
                      ((with_reducible refine (HWT.out _ s6).mono ?_); rintro e wb ⟨rfl, hbb⟩)
                      try dsimp only
                      refine hK.out _ _ ?_ (fun hHeld => ?_)
                      · exact ⟨keep_cell hbb s3 s0, keep_cell hbb s4 s1, keep_cell hbb s5 s2, keep_lt hbb s3, keep_lt hbb s4, keep_lt hbb s5, below_next s6 hbb⟩
                      clear hK K
                      clear s0 s1 s2 s3 s4 s5 s6
                      refine rg_one (i := 26) #[true, true, true, true, true, true, true, true, true, true, true, true, true, true, true, true, true, true, true, true, true, true, true, true, true, true, true, false, false] rfl (by kernel_rfl) (by rfl) (fun K hK => ?_)
                      obtain ⟨s0, s1, s2, s3, s4, s5, s6⟩ := hHeld
                      repeat go_step
                      ((with_reducible refine (HCW.out _ s6).mono ?_); rintro e wc ⟨rfl, hbc⟩)
                      try dsimp only
                      refine hK.out _ _ ?_ (fun hHeld => ?_)
                      · exact ⟨keep_cell hbc s3 s0, keep_cell hbc s4 s1, keep_cell hbc s5 s2, keep_lt hbc s3, keep_lt hbc s4, keep_lt hbc s5, below_next s6 hbc⟩
                      clear hK K
                      clear s0 s1 s2 s3 s4 s5 s6
                      refine rg_take (i := 27) (N := (some 103)) (v := ?_) (a' := ?_) #[true, true, true, true, true, true, true, true, true, true, true, true, true, true, true, true, true, true, true, true, true, true, true, true, true, true, true, true, false] rfl rfl (by kernel_rfl) (fun _ _ _ h => h) (by rfl) ?_ hHeld ?_ ?_
                      rotate_left 2
                      · rintro w' ⟨s0, s1, s2, s3, s4, s5, s6⟩
                        go_simp
                        try with_reducible rfl
                      · simp only [Act.put, List.setIfInBounds_toArray, List.set_cons_zero, List.set_cons_succ]
                        rfl
                      refine rg_take (i := 28) (N := (some 104)) (v := ?_) (a' := ?_) #[true, true, true, true, true, true, true, true, true, true, true, true, true, true, true, true, true, true, true, true, true, true, true, true, true, true, true, true, true] rfl rfl (by kernel_rfl) (fun _ _ _ h => h) (by rfl) ?_ hHeld ?_ ?_
                      rotate_left 2
                      · rintro w' ⟨s0, s1, s2, s3, s4, s5, s6⟩
                        go_simp
                        try with_reducible rfl
                      · simp only [Act.put, List.setIfInBounds_toArray, List.set_cons_zero, List.set_cons_succ]
                        rfl
                      refine rg_done (by kernel_rfl) ?_
                      obtain ⟨_, r1, _, _, r4, _, rb⟩ := hHeld
                      have HBZ := Lib.hid rb
                      clear rb hcI
                      go_wp2_with (go_at_call 13; (with_reducible refine (HLT.out _ HBZ.out).mono ?_); rintro e wl ⟨rfl, hbl⟩; have r1 := keep_cell hbl r4 r1; have r4 := keep_lt hbl r4; have HBZ := Lib.hid (below_next HBZ.out hbl); clear hbl)
                      refine ⟨⟨k + 1, g6, R, l', by go_num, by omega, HM8.out.below HBZ.out, HG6.out, HL'.out, HRK.out, hlk', (by have h1 := HSW.out; rw [← HSS.out] at h1; exact h1), box_below HPX8.out HBZ.out, below_next HB8.out HBZ.out⟩, ?_⟩
                      simp [intOf]
                      omega
                    · rcases hk67 with rfl | rfl
                      · subst hE hq
                        clear hll2 hqt HQE
                        have f0 : ((0 : Int) != (D : Int)) = true := by simp; omega
                        have f1 : ((0 : Int) != (D : Int) + 1) = true := by simp; omega
                        have HWD := Lib.hid (show wrap64 ((D : Int) + 1) = (D : Int) + 1 from (wrap_succ D (Nat.le_trans hDk (Nat.le_trans hk hosl))).2)
                        have hlt := fun W (hW : Below w8.heap.size w8 W) => late_any bm g6 N R W (HM8.out.below hW) (by have := HRL.out; omega)
                        rw [show (R.length : Int) - 1 = 0 by omega] at hlt
                        have HLT := Lib.hid hlt
                        clear hlt hRl
                        go_wp2
                        have hcI : decide (pCap N < S) = false := decide_eq_false (Int.not_lt.2 HCI.out)
                        refine rg_start (n := 29) (fun w' => w'.cell? ⟨w6.heap.size, 0, none⟩ = some (.int .i64 0) ∧ w'.cell? ⟨b, off + k * 6, none⟩ = some (.int .i64 6) ∧ w'.cell? ⟨wp, 6, none⟩ = some (.int .i64 (pCap N)) ∧ w6.heap.size < w'.heap.size ∧ b < w'.heap.size ∧ wp < w'.heap.size ∧ Below w8.heap.size w8 w') #[false, false, false, false, false, false, false, false, false, false, false, false, false, false, false, false, false, false, false, false, false, false, false, false, false, false, false, false, false] (by kernel_rfl) rfl rfl ⟨v0, d0, v6, vl, dl, vp, (Below.refl _ w8).drew⟩ (fun hHeld => ?_)
                        refine rg_take (i := 0) (N := (some 76)) (v := ?_) (a' := ?_) #[true, false, false, false, false, false, false, false, false, false, false, false, false, false, false, false, false, false, false, false, false, false, false, false, false, false, false, false, false] rfl rfl (by kernel_rfl) (fun _ _ _ h => h) (by rfl) ?_ hHeld ?_ ?_
                        rotate_left 2
                        · rintro w' ⟨s0, s1, s2, s3, s4, s5, s6⟩
                          go_simp
                          try with_reducible rfl
                        · simp only [Act.put, List.setIfInBounds_toArray, List.set_cons_zero, List.set_cons_succ]
                          rfl
                        refine rg_take (i := 1) (N := (some 77)) (v := ?_) (a' := ?_) #[true, true, false, false, false, false, false, false, false, false, false, false, false, false, false, false, false, false, false, false, false, false, false, false, false, false, false, false, false] rfl rfl (by kernel_rfl) (fun _ _ _ h => h) (by rfl) ?_ hHeld ?_ ?_
                        rotate_left 2
                        · rintro w' ⟨s0, s1, s2, s3, s4, s5, s6⟩
                          go_simp
                          try with_reducible rfl
                        · simp only [Act.put, List.setIfInBounds_toArray, List.set_cons_zero, List.set_cons_succ]
                          rfl
                        refine rg_take (i := 2) (N := (some 78)) (v := ?_) (a' := ?_) #[true, true, true, false, false, false, false, false, false, false, false, false, false, false, false, false, false, false, false, false, false, false, false, false, false, false, false, false, false] rfl rfl (by kernel_rfl) (fun _ _ _ h => h) (by rfl) ?_ hHeld ?_ ?_
                        rotate_left 2
                        · rintro w' ⟨s0, s1, s2, s3, s4, s5, s6⟩
                          go_simp
                          try with_reducible rfl
                        · simp only [Act.put, List.setIfInBounds_toArray, List.set_cons_zero, List.set_cons_succ]
                          rfl
                        refine rg_take (i := 3) (N := (some 79)) (v := ?_) (a' := ?_) #[true, true, true, true, false, false, false, false, false, false, false, false, false, false, false, false, false, false, false, false, false, false, false, false, false, false, false, false, false] rfl rfl (by kernel_rfl) (fun _ _ _ h => h) (by rfl) ?_ hHeld ?_ ?_
                        rotate_left 2
                        · rintro w' ⟨s0, s1, s2, s3, s4, s5, s6⟩
                          go_simp
                          try with_reducible rfl
                        · simp only [Act.put, List.setIfInBounds_toArray, List.set_cons_zero, List.set_cons_succ]
                          rfl
                        refine rg_take (i := 4) (N := (some 80)) (v := ?_) (a' := ?_) #[true, true, true, true, true, false, false, false, false, false, false, false, false, false, false, false, false, false, false, false, false, false, false, false, false, false, false, false, false] rfl rfl (by kernel_rfl) (fun _ _ _ h => h) (by rfl) ?_ hHeld ?_ ?_
                        rotate_left 2
                        · rintro w' ⟨s0, s1, s2, s3, s4, s5, s6⟩
                          go_simp
                          try with_reducible rfl
                        · simp only [Act.put, List.setIfInBounds_toArray, List.set_cons_zero, List.set_cons_succ]
                          rfl
                        refine rg_take (i := 5) (N := (some 81)) (v := ?_) (a' := ?_) #[true, true, true, true, true, true, false, false, false, false, false, false, false, false, false, false, false, false, false, false, false, false, false, false, false, false, false, false, false] rfl rfl (by kernel_rfl) (fun _ _ _ h => h) (by rfl) ?_ hHeld ?_ ?_
                        rotate_left 2
                        · rintro w' ⟨s0, s1, s2, s3, s4, s5, s6⟩
                          go_simp
                          try with_reducible rfl
                        · simp only [Act.put, List.setIfInBounds_toArray, List.set_cons_zero, List.set_cons_succ]
                          rfl
                        refine rg_take (i := 6) (N := (some 82)) (v := ?_) (a' := ?_) #[true, true, true, true, true, true, true, false, false, false, false, false, false, false, false, false, false, false, false, false, false, false, false, false, false, false, false, false, false] rfl rfl (by kernel_rfl) (fun _ _ _ h => h) (by rfl) ?_ hHeld ?_ ?_
                        rotate_left 2
                        · rintro w' ⟨s0, s1, s2, s3, s4, s5, s6⟩
                          go_simp
                          try with_reducible rfl
                        · simp only [Act.put, List.setIfInBounds_toArray, List.set_cons_zero, List.set_cons_succ]
                          rfl
                        refine rg_take (i := 7) (N := (some 83)) (v := ?_) (a' := ?_) #[true, true, true, true, true, true, true, true, false, false, false, false, false, false, false, false, false, false, false, false, false, false, false, false, false, false, false, false, false] rfl rfl (by kernel_rfl) (fun _ _ _ h => h) (by rfl) ?_ hHeld ?_ ?_
                        rotate_left 2
                        · rintro w' ⟨s0, s1, s2, s3, s4, s5, s6⟩
                          go_simp
                          try with_reducible rfl
                        · simp only [Act.put, List.setIfInBounds_toArray, List.set_cons_zero, List.set_cons_succ]
                          rfl
                        refine rg_take (i := 8) (N := (some 84)) (v := ?_) (a' := ?_) #[true, true, true, true, true, true, true, true, true, false, false, false, false, false, false, false, false, false, false, false, false, false, false, false, false, false, false, false, false] rfl rfl (by kernel_rfl) (fun _ _ _ h => h) (by rfl) ?_ hHeld ?_ ?_
                        rotate_left 2
                        · rintro w' ⟨s0, s1, s2, s3, s4, s5, s6⟩
                          go_simp
                          try with_reducible rfl
                        · simp only [Act.put, List.setIfInBounds_toArray, List.set_cons_zero, List.set_cons_succ]
                          rfl
                        refine rg_take (i := 9) (N := (some 85)) (v := ?_) (a' := ?_) #[true, true, true, true, true, true, true, true, true, true, false, false, false, false, false, false, false, false, false, false, false, false, false, false, false, false, false, false, false] rfl rfl (by kernel_rfl) (fun _ _ _ h => h) (by rfl) ?_ hHeld ?_ ?_
                        rotate_left 2
                        · rintro w' ⟨s0, s1, s2, s3, s4, s5, s6⟩
                          go_simp
                          try with_reducible rfl
                        · simp only [Act.put, List.setIfInBounds_toArray, List.set_cons_zero, List.set_cons_succ]
                          rfl
                        refine rg_take (i := 10) (N := (some 86)) (v := ?_) (a' := ?_) #[true, true, true, true, true, true, true, true, true, true, true, false, false, false, false, false, false, false, false, false, false, false, false, false, false, false, false, false, false] rfl rfl (by kernel_rfl) (fun _ _ _ h => h) (by rfl) ?_ hHeld ?_ ?_
                        rotate_left 2
                        · rintro w' ⟨s0, s1, s2, s3, s4, s5, s6⟩
                          go_simp
                          try with_reducible rfl
                        · simp only [Act.put, List.setIfInBounds_toArray, List.set_cons_zero, List.set_cons_succ]
                          rfl
                        refine rg_take (i := 11) (N := (some 87)) (v := ?_) (a' := ?_) #[true, true, true, true, true, true, true, true, true, true, true, true, false, false, false, false, false, false, false, false, false, false, false, false, false, false, false, false, false] rfl rfl (by kernel_rfl) (fun _ _ _ h => h) (by rfl) ?_ hHeld ?_ ?_
                        rotate_left 2
                        · rintro w' ⟨s0, s1, s2, s3, s4, s5, s6⟩
                          go_simp
                          try with_reducible rfl
                        · simp only [Act.put, List.setIfInBounds_toArray, List.set_cons_zero, List.set_cons_succ]
                          rfl
                        refine rg_take (i := 12) (N := (some 88)) (v := ?_) (a' := ?_) #[true, true, true, true, true, true, true, true, true, true, true, true, true, false, false, false, false, false, false, false, false, false, false, false, false, false, false, false, false] rfl rfl (by kernel_rfl) (fun _ _ _ h => h) (by rfl) ?_ hHeld ?_ ?_
                        rotate_left 2
                        · rintro w' ⟨s0, s1, s2, s3, s4, s5, s6⟩
                          go_simp
                          try with_reducible rfl
                        · simp only [Act.put, List.setIfInBounds_toArray, List.set_cons_zero, List.set_cons_succ]
                          rfl
                        refine rg_take (i := 13) (N := (some 89)) (v := ?_) (a' := ?_) #[true, true, true, true, true, true, true, true, true, true, true, true, true, true, false, false, false, false, false, false, false, false, false, false, false, false, false, false, false] rfl rfl (by kernel_rfl) (fun _ _ _ h => h) (by rfl) ?_ hHeld ?_ ?_
                        rotate_left 2
                        · rintro w' ⟨s0, s1, s2, s3, s4, s5, s6⟩
                          go_simp
                          try with_reducible rfl
                        · simp only [Act.put, List.setIfInBounds_toArray, List.set_cons_zero, List.set_cons_succ]
                          rfl
                        refine rg_take (i := 14) (N := (some 90)) (v := ?_) (a' := ?_) #[true, true, true, true, true, true, true, true, true, true, true, true, true, true, true, false, false, false, false, false, false, false, false, false, false, false, false, false, false] rfl rfl (by kernel_rfl) (fun _ _ _ h => h) (by rfl) ?_ hHeld ?_ ?_
                        rotate_left 2
                        · rintro w' ⟨s0, s1, s2, s3, s4, s5, s6⟩
                          go_simp
                          try with_reducible rfl
                        · simp only [Act.put, List.setIfInBounds_toArray, List.set_cons_zero, List.set_cons_succ]
                          rfl
                        refine rg_take (i := 15) (N := (some 91)) (v := ?_) (a' := ?_) #[true, true, true, true, true, true, true, true, true, true, true, true, true, true, true, true, false, false, false, false, false, false, false, false, false, false, false, false, false] rfl rfl (by kernel_rfl) (fun _ _ _ h => h) (by rfl) ?_ hHeld ?_ ?_
                        rotate_left 2
                        · rintro w' ⟨s0, s1, s2, s3, s4, s5, s6⟩
                          go_simp
                          try with_reducible rfl
                        · simp only [Act.put, List.setIfInBounds_toArray, List.set_cons_zero, List.set_cons_succ]
                          rfl
                        refine rg_take (i := 16) (N := (some 92)) (v := ?_) (a' := ?_) #[true, true, true, true, true, true, true, true, true, true, true, true, true, true, true, true, true, false, false, false, false, false, false, false, false, false, false, false, false] rfl rfl (by kernel_rfl) (fun _ _ _ h => h) (by rfl) ?_ hHeld ?_ ?_
                        rotate_left 2
                        · rintro w' ⟨s0, s1, s2, s3, s4, s5, s6⟩
                          go_simp
                          try with_reducible rfl
                        · simp only [Act.put, List.setIfInBounds_toArray, List.set_cons_zero, List.set_cons_succ]
                          rfl
                        refine rg_take (i := 18) (N := (some 94)) (v := ?_) (a' := ?_) #[true, true, true, true, true, true, true, true, true, true, true, true, true, true, true, true, true, false, true, false, false, false, false, false, false, false, false, false, false] rfl rfl (by kernel_rfl) (fun _ _ _ h => h) (by rfl) ?_ hHeld ?_ ?_
                        rotate_left 2
                        · rintro w' ⟨s0, s1, s2, s3, s4, s5, s6⟩
                          go_simp
                          try with_reducible rfl
                        · simp only [Act.put, List.setIfInBounds_toArray, List.set_cons_zero, List.set_cons_succ]
                          rfl
                        refine rg_take (i := 19) (N := (some 95)) (v := ?_) (a' := ?_) #[true, true, true, true, true, true, true, true, true, true, true, true, true, true, true, true, true, false, true, true, false, false, false, false, false, false, false, false, false] rfl rfl (by kernel_rfl) (fun _ _ _ h => h) (by rfl) ?_ hHeld ?_ ?_
                        rotate_left 2
                        · rintro w' ⟨s0, s1, s2, s3, s4, s5, s6⟩
                          go_simp
                          try with_reducible rfl
                        · simp only [Act.put, List.setIfInBounds_toArray, List.set_cons_zero, List.set_cons_succ]
                          rfl
                        refine rg_one (i := 17) #[true, true, true, true, true, true, true, true, true, true, true, true, true, true, true, true, true, true, true, true, false, false, false, false, false, false, false, false, false] rfl (by kernel_rfl) (by rfl) (fun K hK => ?_)
                        obtain ⟨s0, s1, s2, s3, s4, s5, s6⟩ := hHeld
                        repeat go_step
                        ((with_reducible refine (HWT.out _ s6).mono ?_); rintro e wa ⟨rfl, hba⟩)
                        try dsimp only
                        refine hK.out _ _ ?_ (fun hHeld => ?_)
                        · exact ⟨keep_cell hba s3 s0, keep_cell hba s4 s1, keep_cell hba s5 s2, keep_lt hba s3, keep_lt hba s4, keep_lt hba s5, below_next s6 hba⟩
                        clear hK K
                        clear s0 s1 s2 s3 s4 s5 s6
                        refine rg_take (i := 20) (N := (some 96)) (v := ?_) (a' := ?_) #[true, true, true, true, true, true, true, true, true, true, true, true, true, true, true, true, true, true, true, true, true, false, false, false, false, false, false, false, false] rfl rfl (by kernel_rfl) (fun _ _ _ h => h) (by rfl) ?_ hHeld ?_ ?_
                        rotate_left 2
                        · rintro w' ⟨s0, s1, s2, s3, s4, s5, s6⟩
                          go_simp
                          try with_reducible rfl
                        · simp only [Act.put, List.setIfInBounds_toArray, List.set_cons_zero, List.set_cons_succ]
                          rfl
                        refine rg_take (i := 21) (N := (some 97)) (v := ?_) (a' := ?_) #[true, true, true, true, true, true, true, true, true, true, true, true, true, true, true, true, true, true, true, true, true, true, false, false, false, false, false, false, false] rfl rfl (by kernel_rfl) (fun _ _ _ h => h) (by rfl) ?_ hHeld ?_ ?_
                        rotate_left 2
                        · rintro w' ⟨s0, s1, s2, s3, s4, s5, s6⟩
                          go_simp
                          try with_reducible rfl
                        · simp only [Act.put, List.setIfInBounds_toArray, List.set_cons_zero, List.set_cons_succ]
                          rfl
                        refine rg_take (i := 22) (N := (some 98)) (v := ?_) (a' := ?_) #[true, true, true, true, true, true, true, true, true, true, true, true, true, true, true, true, true, true, true, true, true, true, true, false, false, false, false, false, false] rfl rfl (by kernel_rfl) (fun _ _ _ h => h) (by rfl) ?_ hHeld ?_ ?_
                        rotate_left 2
                        · rintro w' ⟨s0, s1, s2, s3, s4, s5, s6⟩
                          go_simp
                          try with_reducible rfl
                        · simp only [Act.put, List.setIfInBounds_toArray, List.set_cons_zero, List.set_cons_succ]
                          rfl
                        refine rg_take (i := 23) (N := (some 99)) (v := ?_) (a' := ?_) #[true, true, true, true, true, true, true, true, true, true, true, true, true, true, true, true, true, true, true, true, true, true, true, true, false, false, false, false, false] rfl rfl (by kernel_rfl) (fun _ _ _ h => h) (by rfl) ?_ hHeld ?_ ?_
                        rotate_left 2
                        · rintro w' ⟨s0, s1, s2, s3, s4, s5, s6⟩
                          go_simp
                          try with_reducible rfl
                        · simp only [Act.put, List.setIfInBounds_toArray, List.set_cons_zero, List.set_cons_succ]
                          rfl
                        refine rg_take (i := 25) (N := (some 101)) (v := ?_) (a' := ?_) #[true, true, true, true, true, true, true, true, true, true, true, true, true, true, true, true, true, true, true, true, true, true, true, true, false, true, false, false, false] rfl rfl (by kernel_rfl) (fun _ _ _ h => h) (by rfl) ?_ hHeld ?_ ?_
                        rotate_left 2
                        · rintro w' ⟨s0, s1, s2, s3, s4, s5, s6⟩
                          go_simp
                          try with_reducible rfl
                        · simp only [Act.put, List.setIfInBounds_toArray, List.set_cons_zero, List.set_cons_succ]
                          rfl
                        refine rg_one (i := 24) #[true, true, true, true, true, true, true, true, true, true, true, true, true, true, true, true, true, true, true, true, true, true, true, true, true, true, false, false, false] rfl (by kernel_rfl) (by rfl) (fun K hK => ?_)
                        obtain ⟨s0, s1, s2, s3, s4, s5, s6⟩ := hHeld
                        repeat go_step
                        ((with_reducible refine (HWT.out _ s6).mono ?_); rintro e wb ⟨rfl, hbb⟩)
                        try dsimp only
                        refine hK.out _ _ ?_ (fun hHeld => ?_)
                        · exact ⟨keep_cell hbb s3 s0, keep_cell hbb s4 s1, keep_cell hbb s5 s2, keep_lt hbb s3, keep_lt hbb s4, keep_lt hbb s5, below_next s6 hbb⟩
                        clear hK K
                        clear s0 s1 s2 s3 s4 s5 s6
                        refine rg_one (i := 26) #[true, true, true, true, true, true, true, true, true, true, true, true, true, true, true, true, true, true, true, true, true, true, true, true, true, true, true, false, false] rfl (by kernel_rfl) (by rfl) (fun K hK => ?_)
                        obtain ⟨s0, s1, s2, s3, s4, s5, s6⟩ := hHeld
                        repeat go_step
                        ((with_reducible refine (HCW.out _ s6).mono ?_); rintro e wc ⟨rfl, hbc⟩)
                        try dsimp only
                        refine hK.out _ _ ?_ (fun hHeld => ?_)
                        · exact ⟨keep_cell hbc s3 s0, keep_cell hbc s4 s1, keep_cell hbc s5 s2, keep_lt hbc s3, keep_lt hbc s4, keep_lt hbc s5, below_next s6 hbc⟩
                        clear hK K
                        clear s0 s1 s2 s3 s4 s5 s6
                        refine rg_take (i := 27) (N := (some 103)) (v := ?_) (a' := ?_) #[true, true, true, true, true, true, true, true, true, true, true, true, true, true, true, true, true, true, true, true, true, true, true, true, true, true, true, true, false] rfl rfl (by kernel_rfl) (fun _ _ _ h => h) (by rfl) ?_ hHeld ?_ ?_
                        rotate_left 2
                        · rintro w' ⟨s0, s1, s2, s3, s4, s5, s6⟩
                          go_simp
                          try with_reducible rfl
                        · simp only [Act.put, List.setIfInBounds_toArray, List.set_cons_zero, List.set_cons_succ]
                          rfl
                        refine rg_take (i := 28) (N := (some 104)) (v := ?_) (a' := ?_) #[true, true, true, true, true, true, true, true, true, true, true, true, true, true, true, true, true, true, true, true, true, true, true, true, true, true, true, true, true] rfl rfl (by kernel_rfl) (fun _ _ _ h => h) (by rfl) ?_ hHeld ?_ ?_
                        rotate_left 2
                        · rintro w' ⟨s0, s1, s2, s3, s4, s5, s6⟩
                          go_simp
                          try with_reducible rfl
                        · simp only [Act.put, List.setIfInBounds_toArray, List.set_cons_zero, List.set_cons_succ]
                          rfl
                        refine rg_done (by kernel_rfl) ?_
                        obtain ⟨_, r1, _, _, r4, _, rb⟩ := hHeld
                        have HBZ := Lib.hid rb
                        clear rb hcI
                        have hwD := HWD.out
                        go_wp2_with (go_at_call 13; (with_reducible refine (HLT.out _ HBZ.out).mono ?_); rintro e wl ⟨rfl, hbl⟩; have r1 := keep_cell hbl r4 r1; have r4 := keep_lt hbl r4; have HBZ := Lib.hid (below_next HBZ.out hbl); clear hbl)
                        clear hwD
                        refine ⟨⟨k + 1, g6, R, l', by go_num, by omega, HM8.out.below HBZ.out, HG6.out, HL'.out, HRK.out, hlk', (by have h1 := HSW.out; rw [← HSS.out] at h1; exact h1), box_below HPX8.out HBZ.out, below_next HB8.out HBZ.out⟩, ?_⟩
                        simp [intOf]
                        omega
                      · subst hE hq
                        clear hll2 hqt HQE
                        have f0 : ((0 : Int) != (D : Int)) = true := by simp; omega
                        have f1 : ((0 : Int) != (D : Int) + 1) = true := by simp; omega
                        have HWD := Lib.hid (show wrap64 ((D : Int) + 1) = (D : Int) + 1 from (wrap_succ D (Nat.le_trans hDk (Nat.le_trans hk hosl))).2)
                        have hlt := fun W (hW : Below w8.heap.size w8 W) => late_any bm g6 N R W (HM8.out.below hW) (by have := HRL.out; omega)
                        rw [show (R.length : Int) - 1 = 0 by omega] at hlt
                        have HLT := Lib.hid hlt
                        clear hlt hRl
                        go_wp2
                        have hcI : decide (pCap N < S) = false := decide_eq_false (Int.not_lt.2 HCI.out)
                        refine rg_start (n := 29) (fun w' => w'.cell? ⟨w6.heap.size, 0, none⟩ = some (.int .i64 0) ∧ w'.cell? ⟨b, off + k * 6, none⟩ = some (.int .i64 7) ∧ w'.cell? ⟨wp, 6, none⟩ = some (.int .i64 (pCap N)) ∧ w6.heap.size < w'.heap.size ∧ b < w'.heap.size ∧ wp < w'.heap.size ∧ Below w8.heap.size w8 w') #[false, false, false, false, false, false, false, false, false, false, false, false, false, false, false, false, false, false, false, false, false, false, false, false, false, false, false, false, false] (by kernel_rfl) rfl rfl ⟨v0, d0, v6, vl, dl, vp, (Below.refl _ w8).drew⟩ (fun hHeld => ?_)
                        refine rg_take (i := 0) (N := (some 76)) (v := ?_) (a' := ?_) #[true, false, false, false, false, false, false, false, false, false, false, false, false, false, false, false, false, false, false, false, false, false, false, false, false, false, false, false, false] rfl rfl (by kernel_rfl) (fun _ _ _ h => h) (by rfl) ?_ hHeld ?_ ?_
                        rotate_left 2
                        · rintro w' ⟨s0, s1, s2, s3, s4, s5, s6⟩
                          go_simp
                          try with_reducible rfl
                        · simp only [Act.put, List.setIfInBounds_toArray, List.set_cons_zero, List.set_cons_succ]
                          rfl
                        refine rg_take (i := 1) (N := (some 77)) (v := ?_) (a' := ?_) #[true, true, false, false, false, false, false, false, false, false, false, false, false, false, false, false, false, false, false, false, false, false, false, false, false, false, false, false, false] rfl rfl (by kernel_rfl) (fun _ _ _ h => h) (by rfl) ?_ hHeld ?_ ?_
                        rotate_left 2
                        · rintro w' ⟨s0, s1, s2, s3, s4, s5, s6⟩
                          go_simp
                          try with_reducible rfl
                        · simp only [Act.put, List.setIfInBounds_toArray, List.set_cons_zero, List.set_cons_succ]
                          rfl
                        refine rg_take (i := 2) (N := (some 78)) (v := ?_) (a' := ?_) #[true, true, true, false, false, false, false, false, false, false, false, false, false, false, false, false, false, false, false, false, false, false, false, false, false, false, false, false, false] rfl rfl (by kernel_rfl) (fun _ _ _ h => h) (by rfl) ?_ hHeld ?_ ?_
                        rotate_left 2
                        · rintro w' ⟨s0, s1, s2, s3, s4, s5, s6⟩
                          go_simp
                          try with_reducible rfl
                        · simp only [Act.put, List.setIfInBounds_toArray, List.set_cons_zero, List.set_cons_succ]
                          rfl
                        refine rg_take (i := 3) (N := (some 79)) (v := ?_) (a' := ?_) #[true, true, true, true, false, false, false, false, false, false, false, false, false, false, false, false, false, false, false, false, false, false, false, false, false, false, false, false, false] rfl rfl (by kernel_rfl) (fun _ _ _ h => h) (by rfl) ?_ hHeld ?_ ?_
                        rotate_left 2
                        · rintro w' ⟨s0, s1, s2, s3, s4, s5, s6⟩
                          go_simp
                          try with_reducible rfl
                        · simp only [Act.put, List.setIfInBounds_toArray, List.set_cons_zero, List.set_cons_succ]
                          rfl
                        refine rg_take (i := 4) (N := (some 80)) (v := ?_) (a' := ?_) #[true, true, true, true, true, false, false, false, false, false, false, false, false, false, false, false, false, false, false, false, false, false, false, false, false, false, false, false, false] rfl rfl (by kernel_rfl) (fun _ _ _ h => h) (by rfl) ?_ hHeld ?_ ?_
                        rotate_left 2
                        · rintro w' ⟨s0, s1, s2, s3, s4, s5, s6⟩
                          go_simp
                          try with_reducible rfl
                        · simp only [Act.put, List.setIfInBounds_toArray, List.set_cons_zero, List.set_cons_succ]
                          rfl
                        refine rg_take (i := 5) (N := (some 81)) (v := ?_) (a' := ?_) #[true, true, true, true, true, true, false, false, false, false, false, false, false, false, false, false, false, false, false, false, false, false, false, false, false, false, false, false, false] rfl rfl (by kernel_rfl) (fun _ _ _ h => h) (by rfl) ?_ hHeld ?_ ?_
                        rotate_left 2
                        · rintro w' ⟨s0, s1, s2, s3, s4, s5, s6⟩
                          go_simp
                          try with_reducible rfl
                        · simp only [Act.put, List.setIfInBounds_toArray, List.set_cons_zero, List.set_cons_succ]
                          rfl
                        refine rg_take (i := 6) (N := (some 82)) (v := ?_) (a' := ?_) #[true, true, true, true, true, true, true, false, false, false, false, false, false, false, false, false, false, false, false, false, false, false, false, false, false, false, false, false, false] rfl rfl (by kernel_rfl) (fun _ _ _ h => h) (by rfl) ?_ hHeld ?_ ?_
                        rotate_left 2
                        · rintro w' ⟨s0, s1, s2, s3, s4, s5, s6⟩
                          go_simp
                          try with_reducible rfl
                        · simp only [Act.put, List.setIfInBounds_toArray, List.set_cons_zero, List.set_cons_succ]
                          rfl
                        refine rg_take (i := 7) (N := (some 83)) (v := ?_) (a' := ?_) #[true, true, true, true, true, true, true, true, false, false, false, false, false, false, false, false, false, false, false, false, false, false, false, false, false, false, false, false, false] rfl rfl (by kernel_rfl) (fun _ _ _ h => h) (by rfl) ?_ hHeld ?_ ?_
                        rotate_left 2
                        · rintro w' ⟨s0, s1, s2, s3, s4, s5, s6⟩
                          go_simp
                          try with_reducible rfl
                        · simp only [Act.put, List.setIfInBounds_toArray, List.set_cons_zero, List.set_cons_succ]
                          rfl
                        refine rg_take (i := 8) (N := (some 84)) (v := ?_) (a' := ?_) #[true, true, true, true, true, true, true, true, true, false, false, false, false, false, false, false, false, false, false, false, false, false, false, false, false, false, false, false, false] rfl rfl (by kernel_rfl) (fun _ _ _ h => h) (by rfl) ?_ hHeld ?_ ?_
                        rotate_left 2
                        · rintro w' ⟨s0, s1, s2, s3, s4, s5, s6⟩
                          go_simp
                          try with_reducible rfl
                        · simp only [Act.put, List.setIfInBounds_toArray, List.set_cons_zero, List.set_cons_succ]
                          rfl
                        refine rg_take (i := 9) (N := (some 85)) (v := ?_) (a' := ?_) #[true, true, true, true, true, true, true, true, true, true, false, false, false, false, false, false, false, false, false, false, false, false, false, false, false, false, false, false, false] rfl rfl (by kernel_rfl) (fun _ _ _ h => h) (by rfl) ?_ hHeld ?_ ?_
                        rotate_left 2
                        · rintro w' ⟨s0, s1, s2, s3, s4, s5, s6⟩
                          go_simp
                          try with_reducible rfl
                        · simp only [Act.put, List.setIfInBounds_toArray, List.set_cons_zero, List.set_cons_succ]
                          rfl
                        refine rg_take (i := 10) (N := (some 86)) (v := ?_) (a' := ?_) #[true, true, true, true, true, true, true, true, true, true, true, false, false, false, false, false, false, false, false, false, false, false, false, false, false, false, false, false, false] rfl rfl (by kernel_rfl) (fun _ _ _ h => h) (by rfl) ?_ hHeld ?_ ?_
                        rotate_left 2
                        · rintro w' ⟨s0, s1, s2, s3, s4, s5, s6⟩
                          go_simp
                          try with_reducible rfl
                        · simp only [Act.put, List.setIfInBounds_toArray, List.set_cons_zero, List.set_cons_succ]
                          rfl
                        refine rg_take (i := 11) (N := (some 87)) (v := ?_) (a' := ?_) #[true, true, true, true, true, true, true, true, true, true, true, true, false, false, false, false, false, false, false, false, false, false, false, false, false, false, false, false, false] rfl rfl (by kernel_rfl) (fun _ _ _ h => h) (by rfl) ?_ hHeld ?_ ?_
                        rotate_left 2
                        · rintro w' ⟨s0, s1, s2, s3, s4, s5, s6⟩
                          go_simp
                          try with_reducible rfl
                        · simp only [Act.put, List.setIfInBounds_toArray, List.set_cons_zero, List.set_cons_succ]
                          rfl
                        refine rg_take (i := 12) (N := (some 88)) (v := ?_) (a' := ?_) #[true, true, true, true, true, true, true, true, true, true, true, true, true, false, false, false, false, false, false, false, false, false, false, false, false, false, false, false, false] rfl rfl (by kernel_rfl) (fun _ _ _ h => h) (by rfl) ?_ hHeld ?_ ?_
                        rotate_left 2
                        · rintro w' ⟨s0, s1, s2, s3, s4, s5, s6⟩
                          go_simp
                          try with_reducible rfl
                        · simp only [Act.put, List.setIfInBounds_toArray, List.set_cons_zero, List.set_cons_succ]
                          rfl
                        refine rg_take (i := 13) (N := (some 89)) (v := ?_) (a' := ?_) #[true, true, true, true, true, true, true, true, true, true, true, true, true, true, false, false, false, false, false, false, false, false, false, false, false, false, false, false, false] rfl rfl (by kernel_rfl) (fun _ _ _ h => h) (by rfl) ?_ hHeld ?_ ?_
                        rotate_left 2
                        · rintro w' ⟨s0, s1, s2, s3, s4, s5, s6⟩
                          go_simp
                          try with_reducible rfl
                        · simp only [Act.put, List.setIfInBounds_toArray, List.set_cons_zero, List.set_cons_succ]
                          rfl
                        refine rg_take (i := 14) (N := (some 90)) (v := ?_) (a' := ?_) #[true, true, true, true, true, true, true, true, true, true, true, true, true, true, true, false, false, false, false, false, false, false, false, false, false, false, false, false, false] rfl rfl (by kernel_rfl) (fun _ _ _ h => h) (by rfl) ?_ hHeld ?_ ?_
                        rotate_left 2
                        · rintro w' ⟨s0, s1, s2, s3, s4, s5, s6⟩
                          go_simp
                          try with_reducible rfl
                        · simp only [Act.put, List.setIfInBounds_toArray, List.set_cons_zero, List.set_cons_succ]
                          rfl
                        refine rg_take (i := 15) (N := (some 91)) (v := ?_) (a' := ?_) #[true, true, true, true, true, true, true, true, true, true, true, true, true, true, true, true, false, false, false, false, false, false, false, false, false, false, false, false, false] rfl rfl (by kernel_rfl) (fun _ _ _ h => h) (by rfl) ?_ hHeld ?_ ?_
                        rotate_left 2
                        · rintro w' ⟨s0, s1, s2, s3, s4, s5, s6⟩
                          go_simp
                          try with_reducible rfl
                        · simp only [Act.put, List.setIfInBounds_toArray, List.set_cons_zero, List.set_cons_succ]
                          rfl
                        refine rg_take (i := 16) (N := (some 92)) (v := ?_) (a' := ?_) #[true, true, true, true, true, true, true, true, true, true, true, true, true, true, true, true, true, false, false, false, false, false, false, false, false, false, false, false, false] rfl rfl (by kernel_rfl) (fun _ _ _ h => h) (by rfl) ?_ hHeld ?_ ?_
                        rotate_left 2
                        · rintro w' ⟨s0, s1, s2, s3, s4, s5, s6⟩
                          go_simp
                          try with_reducible rfl
                        · simp only [Act.put, List.setIfInBounds_toArray, List.set_cons_zero, List.set_cons_succ]
                          rfl
                        refine rg_take (i := 18) (N := (some 94)) (v := ?_) (a' := ?_) #[true, true, true, true, true, true, true, true, true, true, true, true, true, true, true, true, true, false, true, false, false, false, false, false, false, false, false, false, false] rfl rfl (by kernel_rfl) (fun _ _ _ h => h) (by rfl) ?_ hHeld ?_ ?_
                        rotate_left 2
                        · rintro w' ⟨s0, s1, s2, s3, s4, s5, s6⟩
                          go_simp
                          try with_reducible rfl
                        · simp only [Act.put, List.setIfInBounds_toArray, List.set_cons_zero, List.set_cons_succ]
                          rfl
                        refine rg_take (i := 19) (N := (some 95)) (v := ?_) (a' := ?_) #[true, true, true, true, true, true, true, true, true, true, true, true, true, true, true, true, true, false, true, true, false, false, false, false, false, false, false, false, false] rfl rfl (by kernel_rfl) (fun _ _ _ h => h) (by rfl) ?_ hHeld ?_ ?_
                        rotate_left 2
                        · rintro w' ⟨s0, s1, s2, s3, s4, s5, s6⟩
                          go_simp
                          try with_reducible rfl
                        · simp only [Act.put, List.setIfInBounds_toArray, List.set_cons_zero, List.set_cons_succ]
                          rfl
                        refine rg_one (i := 17) #[true, true, true, true, true, true, true, true, true, true, true, true, true, true, true, true, true, true, true, true, false, false, false, false, false, false, false, false, false] rfl (by kernel_rfl) (by rfl) (fun K hK => ?_)
                        obtain ⟨s0, s1, s2, s3, s4, s5, s6⟩ := hHeld
                        repeat go_step
                        ((with_reducible refine (HWT.out _ s6).mono ?_); rintro e wa ⟨rfl, hba⟩)
                        try dsimp only
                        refine hK.out _ _ ?_ (fun hHeld => ?_)
                        · exact ⟨keep_cell hba s3 s0, keep_cell hba s4 s1, keep_cell hba s5 s2, keep_lt hba s3, keep_lt hba s4, keep_lt hba s5, below_next s6 hba⟩
                        clear hK K
                        clear s0 s1 s2 s3 s4 s5 s6
                        refine rg_take (i := 20) (N := (some 96)) (v := ?_) (a' := ?_) #[true, true, true, true, true, true, true, true, true, true, true, true, true, true, true, true, true, true, true, true, true, false, false, false, false, false, false, false, false] rfl rfl (by kernel_rfl) (fun _ _ _ h => h) (by rfl) ?_ hHeld ?_ ?_
                        rotate_left 2
                        · rintro w' ⟨s0, s1, s2, s3, s4, s5, s6⟩
                          go_simp
                          try with_reducible rfl
                        · simp only [Act.put, List.setIfInBounds_toArray, List.set_cons_zero, List.set_cons_succ]
                          rfl
                        refine rg_take (i := 21) (N := (some 97)) (v := ?_) (a' := ?_) #[true, true, true, true, true, true, true, true, true, true, true, true, true, true, true, true, true, true, true, true, true, true, false, false, false, false, false, false, false] rfl rfl (by kernel_rfl) (fun _ _ _ h => h) (by rfl) ?_ hHeld ?_ ?_
                        rotate_left 2
                        · rintro w' ⟨s0, s1, s2, s3, s4, s5, s6⟩
                          go_simp
                          try with_reducible rfl
                        · simp only [Act.put, List.setIfInBounds_toArray, List.set_cons_zero, List.set_cons_succ]
                          rfl
                        refine rg_take (i := 22) (N := (some 98)) (v := ?_) (a' := ?_) #[true, true, true, true, true, true, true, true, true, true, true, true, true, true, true, true, true, true, true, true, true, true, true, false, false, false, false, false, false] rfl rfl (by kernel_rfl) (fun _ _ _ h => h) (by rfl) ?_ hHeld ?_ ?_
                        rotate_left 2
                        · rintro w' ⟨s0, s1, s2, s3, s4, s5, s6⟩
                          go_simp
                          try with_reducible rfl
                        · simp only [Act.put, List.setIfInBounds_toArray, List.set_cons_zero, List.set_cons_succ]
                          rfl
                        refine rg_take (i := 23) (N := (some 99)) (v := ?_) (a' := ?_) #[true, true, true, true, true, true, true, true, true, true, true, true, true, true, true, true, true, true, true, true, true, true, true, true, false, false, false, false, false] rfl rfl (by kernel_rfl) (fun _ _ _ h => h) (by rfl) ?_ hHeld ?_ ?_
                        rotate_left 2
                        · rintro w' ⟨s0, s1, s2, s3, s4, s5, s6⟩
                          go_simp
                          try with_reducible rfl
                        · simp only [Act.put, List.setIfInBounds_toArray, List.set_cons_zero, List.set_cons_succ]
                          rfl
                        refine rg_take (i := 25) (N := (some 101)) (v := ?_) (a' := ?_) #[true, true, true, true, true, true, true, true, true, true, true, true, true, true, true, true, true, true, true, true, true, true, true, true, false, true, false, false, false] rfl rfl (by kernel_rfl) (fun _ _ _ h => h) (by rfl) ?_ hHeld ?_ ?_
                        rotate_left 2
                        · rintro w' ⟨s0, s1, s2, s3, s4, s5, s6⟩
                          go_simp
                          try with_reducible rfl
                        · simp only [Act.put, List.setIfInBounds_toArray, List.set_cons_zero, List.set_cons_succ]
                          rfl
                        refine rg_one (i := 24) #[true, true, true, true, true, true, true, true, true, true, true, true, true, true, true, true, true, true, true, true, true, true, true, true, true, true, false, false, false] rfl (by kernel_rfl) (by rfl) (fun K hK => ?_)
                        obtain ⟨s0, s1, s2, s3, s4, s5, s6⟩ := hHeld
                        repeat go_step
                        ((with_reducible refine (HWT.out _ s6).mono ?_); rintro e wb ⟨rfl, hbb⟩)
                        try dsimp only
                        refine hK.out _ _ ?_ (fun hHeld => ?_)
                        · exact ⟨keep_cell hbb s3 s0, keep_cell hbb s4 s1, keep_cell hbb s5 s2, keep_lt hbb s3, keep_lt hbb s4, keep_lt hbb s5, below_next s6 hbb⟩
                        clear hK K
                        clear s0 s1 s2 s3 s4 s5 s6
                        refine rg_one (i := 26) #[true, true, true, true, true, true, true, true, true, true, true, true, true, true, true, true, true, true, true, true, true, true, true, true, true, true, true, false, false] rfl (by kernel_rfl) (by rfl) (fun K hK => ?_)
                        obtain ⟨s0, s1, s2, s3, s4, s5, s6⟩ := hHeld
                        repeat go_step
                        ((with_reducible refine (HCW.out _ s6).mono ?_); rintro e wc ⟨rfl, hbc⟩)
                        try dsimp only
                        refine hK.out _ _ ?_ (fun hHeld => ?_)
                        · exact ⟨keep_cell hbc s3 s0, keep_cell hbc s4 s1, keep_cell hbc s5 s2, keep_lt hbc s3, keep_lt hbc s4, keep_lt hbc s5, below_next s6 hbc⟩
                        clear hK K
                        clear s0 s1 s2 s3 s4 s5 s6
                        refine rg_take (i := 27) (N := (some 103)) (v := ?_) (a' := ?_) #[true, true, true, true, true, true, true, true, true, true, true, true, true, true, true, true, true, true, true, true, true, true, true, true, true, true, true, true, false] rfl rfl (by kernel_rfl) (fun _ _ _ h => h) (by rfl) ?_ hHeld ?_ ?_
                        rotate_left 2
                        · rintro w' ⟨s0, s1, s2, s3, s4, s5, s6⟩
                          go_simp
                          try with_reducible rfl
                        · simp only [Act.put, List.setIfInBounds_toArray, List.set_cons_zero, List.set_cons_succ]
                          rfl
                        refine rg_take (i := 28) (N := (some 104)) (v := ?_) (a' := ?_) #[true, true, true, true, true, true, true, true, true, true, true, true, true, true, true, true, true, true, true, true, true, true, true, true, true, true, true, true, true] rfl rfl (by kernel_rfl) (fun _ _ _ h => h) (by rfl) ?_ hHeld ?_ ?_
                        rotate_left 2
                        · rintro w' ⟨s0, s1, s2, s3, s4, s5, s6⟩
                          go_simp
                          try with_reducible rfl
                        · simp only [Act.put, List.setIfInBounds_toArray, List.set_cons_zero, List.set_cons_succ]
                          rfl
                        refine rg_done (by kernel_rfl) ?_
                        obtain ⟨_, r1, _, _, r4, _, rb⟩ := hHeld
                        have HBZ := Lib.hid rb
                        clear rb hcI
                        have hwD := HWD.out
                        go_wp2_with (go_at_call 13; (with_reducible refine (HLT.out _ HBZ.out).mono ?_); rintro e wl ⟨rfl, hbl⟩; have r1 := keep_cell hbl r4 r1; have r4 := keep_lt hbl r4; have HBZ := Lib.hid (below_next HBZ.out hbl); clear hbl)
                        clear hwD
                        refine ⟨⟨k + 1, g6, R, l', by go_num, by omega, HM8.out.below HBZ.out, HG6.out, HL'.out, HRK.out, hlk', (by have h1 := HSW.out; rw [← HSS.out] at h1; exact h1), box_below HPX8.out HBZ.out, below_next HB8.out HBZ.out⟩, ?_⟩
                        simp [intOf]
                        omega
                · rcases HRC.out with ⟨hll2, hRl⟩ | ⟨_, hk3, hRl⟩ | ⟨_, _, hk67, _⟩
                  · have hq := hqt hll2
                    subst hE hq
                    clear hll2 hqt HQE
                    have hlt := fun W (hW : Below w8.heap.size w8 W) => late_any bm g6 N R W (HM8.out.below hW) (by have := HRL.out; omega)
                    rw [show (R.length : Int) - 1 = (D : Int) by omega] at hlt
                    have HLT := Lib.hid hlt
                    clear hlt hRl
                    go_wp2
                    have hcI : decide (pCap N < S) = false := decide_eq_false (Int.not_lt.2 HCI.out)
                    have hk4d : decide ((4 : Int) ≤ kind) = false := decide_eq_false (by omega)
                    refine rg_start (n := 29) (fun w' => w'.cell? ⟨w6.heap.size, 0, none⟩ = some (.int .i64 0) ∧ w'.cell? ⟨b, off + k * 6, none⟩ = some (.int .i64 kind) ∧ w'.cell? ⟨wp, 6, none⟩ = some (.int .i64 (pCap N)) ∧ w6.heap.size < w'.heap.size ∧ b < w'.heap.size ∧ wp < w'.heap.size ∧ Below w8.heap.size w8 w') #[false, false, false, false, false, false, false, false, false, false, false, false, false, false, false, false, false, false, false, false, false, false, false, false, false, false, false, false, false] (by kernel_rfl) rfl rfl ⟨v0, d0, v6, vl, dl, vp, (Below.refl _ w8).drew⟩ (fun hHeld => ?_)
                    refine rg_take (i := 0) (N := (some 76)) (v := ?_) (a' := ?_) #[true, false, false, false, false, false, false, false, false, false, false, false, false, false, false, false, false, false, false, false, false, false, false, false, false, false, false, false, false] rfl rfl (by kernel_rfl) (fun _ _ _ h => h) (by rfl) ?_ hHeld ?_ ?_
                    rotate_left 2
                    · rintro w' ⟨s0, s1, s2, s3, s4, s5, s6⟩
                      go_simp
                      try with_reducible rfl
                    · simp only [Act.put, List.setIfInBounds_toArray, List.set_cons_zero, List.set_cons_succ]
                      rfl
                    refine rg_take (i := 1) (N := (some 77)) (v := ?_) (a' := ?_) #[true, true, false, false, false, false, false, false, false, false, false, false, false, false, false, false, false, false, false, false, false, false, false, false, false, false, false, false, false] rfl rfl (by kernel_rfl) (fun _ _ _ h => h) (by rfl) ?_ hHeld ?_ ?_
                    rotate_left 2
                    · rintro w' ⟨s0, s1, s2, s3, s4, s5, s6⟩
                      go_simp
                      try with_reducible rfl
                    · simp only [Act.put, List.setIfInBounds_toArray, List.set_cons_zero, List.set_cons_succ]
                      rfl
                    refine rg_take (i := 2) (N := (some 78)) (v := ?_) (a' := ?_) #[true, true, true, false, false, false, false, false, false, false, false, false, false, false, false, false, false, false, false, false, false, false, false, false, false, false, false, false, false] rfl rfl (by kernel_rfl) (fun _ _ _ h => h) (by rfl) ?_ hHeld ?_ ?_
                    rotate_left 2
                    · rintro w' ⟨s0, s1, s2, s3, s4, s5, s6⟩
                      go_simp
                      try with_reducible rfl
                    · simp only [Act.put, List.setIfInBounds_toArray, List.set_cons_zero, List.set_cons_succ]
                      rfl
                    refine rg_take (i := 3) (N := (some 79)) (v := ?_) (a' := ?_) #[true, true, true, true, false, false, false, false, false, false, false, false, false, false, false, false, false, false, false, false, false, false, false, false, false, false, false, false, false] rfl rfl (by kernel_rfl) (fun _ _ _ h => h) (by rfl) ?_ hHeld ?_ ?_
                    rotate_left 2
                    · rintro w' ⟨s0, s1, s2, s3, s4, s5, s6⟩
                      go_simp
                      try with_reducible rfl
                    · simp only [Act.put, List.setIfInBounds_toArray, List.set_cons_zero, List.set_cons_succ]
                      rfl
                    refine rg_take (i := 4) (N := (some 80)) (v := ?_) (a' := ?_) #[true, true, true, true, true, false, false, false, false, false, false, false, false, false, false, false, false, false, false, false, false, false, false, false, false, false, false, false, false] rfl rfl (by kernel_rfl) (fun _ _ _ h => h) (by rfl) ?_ hHeld ?_ ?_
                    rotate_left 2
                    · rintro w' ⟨s0, s1, s2, s3, s4, s5, s6⟩
                      go_simp
                      try with_reducible rfl
                    · simp only [Act.put, List.setIfInBounds_toArray, List.set_cons_zero, List.set_cons_succ]
                      rfl
                    refine rg_take (i := 5) (N := (some 81)) (v := ?_) (a' := ?_) #[true, true, true, true, true, true, false, false, false, false, false, false, false, false, false, false, false, false, false, false, false, false, false, false, false, false, false, false, false] rfl rfl (by kernel_rfl) (fun _ _ _ h => h) (by rfl) ?_ hHeld ?_ ?_
                    rotate_left 2
                    · rintro w' ⟨s0, s1, s2, s3, s4, s5, s6⟩
                      go_simp
                      try with_reducible rfl
                    · simp only [Act.put, List.setIfInBounds_toArray, List.set_cons_zero, List.set_cons_succ]
                      rfl
                    refine rg_take (i := 6) (N := (some 82)) (v := ?_) (a' := ?_) #[true, true, true, true, true, true, true, false, false, false, false, false, false, false, false, false, false, false, false, false, false, false, false, false, false, false, false, false, false] rfl rfl (by kernel_rfl) (fun _ _ _ h => h) (by rfl) ?_ hHeld ?_ ?_
                    rotate_left 2
                    · rintro w' ⟨s0, s1, s2, s3, s4, s5, s6⟩
                      go_simp
                      try with_reducible rfl
                    · simp only [Act.put, List.setIfInBounds_toArray, List.set_cons_zero, List.set_cons_succ]
                      rfl
                    refine rg_take (i := 7) (N := (some 83)) (v := ?_) (a' := ?_) #[true, true, true, true, true, true, true, true, false, false, false, false, false, false, false, false, false, false, false, false, false, false, false, false, false, false, false, false, false] rfl rfl (by kernel_rfl) (fun _ _ _ h => h) (by rfl) ?_ hHeld ?_ ?_
                    rotate_left 2
                    · rintro w' ⟨s0, s1, s2, s3, s4, s5, s6⟩
                      go_simp
                      try with_reducible rfl
                    · simp only [Act.put, List.setIfInBounds_toArray, List.set_cons_zero, List.set_cons_succ]
                      rfl
                    refine rg_take (i := 8) (N := (some 84)) (v := ?_) (a' := ?_) #[true, true, true, true, true, true, true, true, true, false, false, false, false, false, false, false, false, false, false, false, false, false, false, false, false, false, false, false, false] rfl rfl (by kernel_rfl) (fun _ _ _ h => h) (by rfl) ?_ hHeld ?_ ?_
                    rotate_left 2
                    · rintro w' ⟨s0, s1, s2, s3, s4, s5, s6⟩
                      go_simp
                      try with_reducible rfl
                    · simp only [Act.put, List.setIfInBounds_toArray, List.set_cons_zero, List.set_cons_succ]
                      rfl
                    refine rg_take (i := 9) (N := (some 85)) (v := ?_) (a' := ?_) #[true, true, true, true, true, true, true, true, true, true, false, false, false, false, false, false, false, false, false, false, false, false, false, false, false, false, false, false, false] rfl rfl (by kernel_rfl) (fun _ _ _ h => h) (by rfl) ?_ hHeld ?_ ?_
                    rotate_left 2
                    · rintro w' ⟨s0, s1, s2, s3, s4, s5, s6⟩
                      go_simp
                      try with_reducible rfl
                    · simp only [Act.put, List.setIfInBounds_toArray, List.set_cons_zero, List.set_cons_succ]
                      rfl
                    refine rg_take (i := 10) (N := (some 86)) (v := ?_) (a' := ?_) #[true, true, true, true, true, true, true, true, true, true, true, false, false, false, false, false, false, false, false, false, false, false, false, false, false, false, false, false, false] rfl rfl (by kernel_rfl) (fun _ _ _ h => h) (by rfl) ?_ hHeld ?_ ?_
                    rotate_left 2
                    · rintro w' ⟨s0, s1, s2, s3, s4, s5, s6⟩
                      go_simp
                      try with_reducible rfl
                    · simp only [Act.put, List.setIfInBounds_toArray, List.set_cons_zero, List.set_cons_succ]
                      rfl
                    refine rg_take (i := 11) (N := (some 87)) (v := ?_) (a' := ?_) #[true, true, true, true, true, true, true, true, true, true, true, true, false, false, false, false, false, false, false, false, false, false, false, false, false, false, false, false, false] rfl rfl (by kernel_rfl) (fun _ _ _ h => h) (by rfl) ?_ hHeld ?_ ?_
                    rotate_left 2
                    · rintro w' ⟨s0, s1, s2, s3, s4, s5, s6⟩
                      go_simp
                      try with_reducible rfl
                    · simp only [Act.put, List.setIfInBounds_toArray, List.set_cons_zero, List.set_cons_succ]
                      rfl
                    refine rg_skip (i := 12) (N := (some 88)) (a' := ?_) #[true, true, true, true, true, true, true, true, true, true, true, true, true, false, false, false, false, false, false, false, false, false, false, false, false, false, false, false, false] rfl rfl (by kernel_rfl) (fun _ _ _ h => h) (by rfl) hHeld ?_ ?_
                    rotate_left
                    · simp only [Act.put, List.setIfInBounds_toArray, List.set_cons_zero, List.set_cons_succ]
                      rfl
                    refine rg_skip (i := 13) (N := (some 89)) (a' := ?_) #[true, true, true, true, true, true, true, true, true, true, true, true, true, true, false, false, false, false, false, false, false, false, false, false, false, false, false, false, false] rfl rfl (by kernel_rfl) (fun _ _ _ h => h) (by rfl) hHeld ?_ ?_
                    rotate_left
                    · simp only [Act.put, List.setIfInBounds_toArray, List.set_cons_zero, List.set_cons_succ]
                      rfl
                    refine rg_take (i := 14) (N := (some 90)) (v := ?_) (a' := ?_) #[true, true, true, true, true, true, true, true, true, true, true, true, true, true, true, false, false, false, false, false, false, false, false, false, false, false, false, false, false] rfl rfl (by kernel_rfl) (fun _ _ _ h => h) (by rfl) ?_ hHeld ?_ ?_
                    rotate_left 2
                    · rintro w' ⟨s0, s1, s2, s3, s4, s5, s6⟩
                      go_simp
                      try with_reducible rfl
                    · simp only [Act.put, List.setIfInBounds_toArray, List.set_cons_zero, List.set_cons_succ]
                      rfl
                    refine rg_take (i := 15) (N := (some 91)) (v := ?_) (a' := ?_) #[true, true, true, true, true, true, true, true, true, true, true, true, true, true, true, true, false, false, false, false, false, false, false, false, false, false, false, false, false] rfl rfl (by kernel_rfl) (fun _ _ _ h => h) (by rfl) ?_ hHeld ?_ ?_
                    rotate_left 2
                    · rintro w' ⟨s0, s1, s2, s3, s4, s5, s6⟩
                      go_simp
                      try with_reducible rfl
                    · simp only [Act.put, List.setIfInBounds_toArray, List.set_cons_zero, List.set_cons_succ]
                      rfl
                    refine rg_take (i := 16) (N := (some 92)) (v := ?_) (a' := ?_) #[true, true, true, true, true, true, true, true, true, true, true, true, true, true, true, true, true, false, false, false, false, false, false, false, false, false, false, false, false] rfl rfl (by kernel_rfl) (fun _ _ _ h => h) (by rfl) ?_ hHeld ?_ ?_
                    rotate_left 2
                    · rintro w' ⟨s0, s1, s2, s3, s4, s5, s6⟩
                      go_simp
                      try with_reducible rfl
                    · simp only [Act.put, List.setIfInBounds_toArray, List.set_cons_zero, List.set_cons_succ]
                      rfl
                    refine rg_take (i := 18) (N := (some 94)) (v := ?_) (a' := ?_) #[true, true, true, true, true, true, true, true, true, true, true, true, true, true, true, true, true, false, true, false, false, false, false, false, false, false, false, false, false] rfl rfl (by kernel_rfl) (fun _ _ _ h => h) (by rfl) ?_ hHeld ?_ ?_
                    rotate_left 2
                    · rintro w' ⟨s0, s1, s2, s3, s4, s5, s6⟩
                      go_simp
                      try with_reducible rfl
                    · simp only [Act.put, List.setIfInBounds_toArray, List.set_cons_zero, List.set_cons_succ]
                      rfl
                    refine rg_take (i := 19) (N := (some 95)) (v := ?_) (a' := ?_) #[true, true, true, true, true, true, true, true, true, true, true, true, true, true, true, true, true, false, true, true, false, false, false, false, false, false, false, false, false] rfl rfl (by kernel_rfl) (fun _ _ _ h => h) (by rfl) ?_ hHeld ?_ ?_
                    rotate_left 2
                    · rintro w' ⟨s0, s1, s2, s3, s4, s5, s6⟩
                      go_simp
                      try with_reducible rfl
                    · simp only [Act.put, List.setIfInBounds_toArray, List.set_cons_zero, List.set_cons_succ]
                      rfl
                    refine rg_one (i := 17) #[true, true, true, true, true, true, true, true, true, true, true, true, true, true, true, true, true, true, true, true, false, false, false, false, false, false, false, false, false] rfl (by kernel_rfl) (by rfl) (fun K hK => ?_)
                    obtain ⟨s0, s1, s2, s3, s4, s5, s6⟩ := hHeld
                    repeat go_step
                    ((with_reducible refine (HWT.out _ s6).mono ?_); rintro e wa ⟨rfl, hba⟩)
                    try dsimp only
                    refine hK.out _ _ ?_ (fun hHeld => ?_)
                    · exact ⟨keep_cell hba s3 s0, keep_cell hba s4 s1, keep_cell hba s5 s2, keep_lt hba s3, keep_lt hba s4, keep_lt hba s5, below_next s6 hba⟩
                    clear hK K
                    clear s0 s1 s2 s3 s4 s5 s6
                    refine rg_take (i := 20) (N := (some 96)) (v := ?_) (a' := ?_) #[true, true, true, true, true, true, true, true, true, true, true, true, true, true, true, true, true, true, true, true, true, false, false, false, false, false, false, false, false] rfl rfl (by kernel_rfl) (fun _ _ _ h => h) (by rfl) ?_ hHeld ?_ ?_
                    rotate_left 2
                    · rintro w' ⟨s0, s1, s2, s3, s4, s5, s6⟩
                      go_simp
                      try with_reducible rfl
                    · simp only [Act.put, List.setIfInBounds_toArray, List.set_cons_zero, List.set_cons_succ]
                      rfl
                    refine rg_take (i := 21) (N := (some 97)) (v := ?_) (a' := ?_) #[true, true, true, true, true, true, true, true, true, true, true, true, true, true, true, true, true, true, true, true, true, true, false, false, false, false, false, false, false] rfl rfl (by kernel_rfl) (fun _ _ _ h => h) (by rfl) ?_ hHeld ?_ ?_
                    rotate_left 2
                    · rintro w' ⟨s0, s1, s2, s3, s4, s5, s6⟩
                      go_simp
                      try with_reducible rfl
                    · simp only [Act.put, List.setIfInBounds_toArray, List.set_cons_zero, List.set_cons_succ]
                      rfl
                    refine rg_take (i := 22) (N := (some 98)) (v := ?_) (a' := ?_) #[true, true, true, true, true, true, true, true, true, true, true, true, true, true, true, true, true, true, true, true, true, true, true, false, false, false, false, false, false] rfl rfl (by kernel_rfl) (fun _ _ _ h => h) (by rfl) ?_ hHeld ?_ ?_
                    rotate_left 2
                    · rintro w' ⟨s0, s1, s2, s3, s4, s5, s6⟩
                      go_simp
                      try with_reducible rfl
                    · simp only [Act.put, List.setIfInBounds_toArray, List.set_cons_zero, List.set_cons_succ]
                      rfl
                    refine rg_take (i := 23) (N := (some 99)) (v := ?_) (a' := ?_) #[true, true, true, true, true, true, true, true, true, true, true, true, true, true, true, true, true, true, true, true, true, true, true, true, false, false, false, false, false] rfl rfl (by kernel_rfl) (fun _ _ _ h => h) (by rfl) ?_ hHeld ?_ ?_
                    rotate_left 2
                    · rintro w' ⟨s0, s1, s2, s3, s4, s5, s6⟩
                      go_simp
                      try with_reducible rfl
                    · simp only [Act.put, List.setIfInBounds_toArray, List.set_cons_zero, List.set_cons_succ]
                      rfl
                    refine rg_take (i := 25) (N := (some 101)) (v := ?_) (a' := ?_) #[true, true, true, true, true, true, true, true, true, true, true, true, true, true, true, true, true, true, true, true, true, true, true, true, false, true, false, false, false] rfl rfl (by kernel_rfl) (fun _ _ _ h => h) (by rfl) ?_ hHeld ?_ ?_
                    rotate_left 2
                    · rintro w' ⟨s0, s1, s2, s3, s4, s5, s6⟩
                      go_simp
                      try with_reducible rfl
                    · simp only [Act.put, List.setIfInBounds_toArray, List.set_cons_zero, List.set_cons_succ]
                      rfl
                    refine rg_one (i := 24) #[true, true, true, true, true, true, true, true, true, true, true, true, true, true, true, true, true, true, true, true, true, true, true, true, true, true, false, false, false] rfl (by kernel_rfl) (by rfl) (fun K hK => ?_)
                    obtain ⟨s0, s1, s2, s3, s4, s5, s6⟩ := hHeld
                    repeat go_step
                    ((with_reducible refine (HWT.out _ s6).mono ?_); rintro e wb ⟨rfl, hbb⟩)
                    try dsimp only
                    refine hK.out _ _ ?_ (fun hHeld => ?_)
                    · exact ⟨keep_cell hbb s3 s0, keep_cell hbb s4 s1, keep_cell hbb s5 s2, keep_lt hbb s3, keep_lt hbb s4, keep_lt hbb s5, below_next s6 hbb⟩
                    clear hK K
                    clear s0 s1 s2 s3 s4 s5 s6
                    refine rg_one (i := 26) #[true, true, true, true, true, true, true, true, true, true, true, true, true, true, true, true, true, true, true, true, true, true, true, true, true, true, true, false, false] rfl (by kernel_rfl) (by rfl) (fun K hK => ?_)
                    obtain ⟨s0, s1, s2, s3, s4, s5, s6⟩ := hHeld
                    repeat go_step
                    ((with_reducible refine (HCW.out _ s6).mono ?_); rintro e wc ⟨rfl, hbc⟩)
                    try dsimp only
                    refine hK.out _ _ ?_ (fun hHeld => ?_)
                    · exact ⟨keep_cell hbc s3 s0, keep_cell hbc s4 s1, keep_cell hbc s5 s2, keep_lt hbc s3, keep_lt hbc s4, keep_lt hbc s5, below_next s6 hbc⟩
                    clear hK K
                    clear s0 s1 s2 s3 s4 s5 s6
                    refine rg_take (i := 27) (N := (some 103)) (v := ?_) (a' := ?_) #[true, true, true, true, true, true, true, true, true, true, true, true, true, true, true, true, true, true, true, true, true, true, true, true, true, true, true, true, false] rfl rfl (by kernel_rfl) (fun _ _ _ h => h) (by rfl) ?_ hHeld ?_ ?_
                    rotate_left 2
                    · rintro w' ⟨s0, s1, s2, s3, s4, s5, s6⟩
                      go_simp
                      try with_reducible rfl
                    · simp only [Act.put, List.setIfInBounds_toArray, List.set_cons_zero, List.set_cons_succ]
                      rfl
                    refine rg_take (i := 28) (N := (some 104)) (v := ?_) (a' := ?_) #[true, true, true, true, true, true, true, true, true, true, true, true, true, true, true, true, true, true, true, true, true, true, true, true, true, true, true, true, true] rfl rfl (by kernel_rfl) (fun _ _ _ h => h) (by rfl) ?_ hHeld ?_ ?_
                    rotate_left 2
                    · rintro w' ⟨s0, s1, s2, s3, s4, s5, s6⟩
                      go_simp
                      try with_reducible rfl
                    · simp only [Act.put, List.setIfInBounds_toArray, List.set_cons_zero, List.set_cons_succ]
                      rfl
                    refine rg_done (by kernel_rfl) ?_
                    obtain ⟨_, r1, _, _, r4, _, rb⟩ := hHeld
                    have HBZ := Lib.hid rb
                    clear rb hcI
                    go_wp2_with (go_at_call 13; (with_reducible refine (HLT.out _ HBZ.out).mono ?_); rintro e wl ⟨rfl, hbl⟩; have r1 := keep_cell hbl r4 r1; have r4 := keep_lt hbl r4; have HBZ := Lib.hid (below_next HBZ.out hbl); clear hbl)
                    refine ⟨⟨k + 1, g6, R, l', by go_num, by omega, HM8.out.below HBZ.out, HG6.out, HL'.out, HRK.out, hlk', (by have h1 := HSW.out; rw [← HSS.out] at h1; exact h1), box_below HPX8.out HBZ.out, below_next HB8.out HBZ.out⟩, ?_⟩
                    simp [intOf]
                    omega
                  · subst hE
                    clear hqt HQE
                    cases q with
                    | true =>
                      have f0 : ((D : Int) + 1 != (D : Int)) = true := by simp; omega
                      have HWD := Lib.hid (show wrap64 ((D : Int) + 1) = (D : Int) + 1 from (wrap_succ D (Nat.le_trans hDk (Nat.le_trans hk hosl))).2)
                      have hlt := fun W (hW : Below w8.heap.size w8 W) => late_any bm g6 N R W (HM8.out.below hW) (by have := HRL.out; omega)
                      rw [show (R.length : Int) - 1 = (D : Int) + 1 by omega] at hlt
                      have HLT := Lib.hid hlt
                      clear hlt hRl
                      go_wp2
                      have hcI : decide (pCap N < S) = false := decide_eq_false (Int.not_lt.2 HCI.out)
                      have hk4d : decide ((4 : Int) ≤ kind) = false := decide_eq_false (by omega)
                      refine rg_start (n := 29) (fun w' => w'.cell? ⟨w6.heap.size, 0, none⟩ = some (.int .i64 0) ∧ w'.cell? ⟨b, off + k * 6, none⟩ = some (.int .i64 kind) ∧ w'.cell? ⟨wp, 6, none⟩ = some (.int .i64 (pCap N)) ∧ w6.heap.size < w'.heap.size ∧ b < w'.heap.size ∧ wp < w'.heap.size ∧ Below w8.heap.size w8 w') #[false, false, false, false, false, false, false, false, false, false, false, false, false, false, false, false, false, false, false, false, false, false, false, false, false, false, false, false, false] (by kernel_rfl) rfl rfl ⟨v0, d0, v6, vl, dl, vp, (Below.refl _ w8).drew⟩ (fun hHeld => ?_)
                      refine rg_take (i := 0) (N := (some 76)) (v := ?_) (a' := ?_) #[true, false, false, false, false, false, false, false, false, false, false, false, false, false, false, false, false, false, false, false, false, false, false, false, false, false, false, false, false] rfl rfl (by kernel_rfl) (fun _ _ _ h => h) (by rfl) ?_ hHeld ?_ ?_
                      rotate_left 2
                      · rintro w' ⟨s0, s1, s2, s3, s4, s5, s6⟩
                        go_simp
                        try with_reducible rfl
                      · simp only [Act.put, List.setIfInBounds_toArray, List.set_cons_zero, List.set_cons_succ]
                        rfl
                      refine rg_take (i := 1) (N := (some 77)) (v := ?_) (a' := ?_) #[true, true, false, false, false, false, false, false, false, false, false, false, false, false, false, false, false, false, false, false, false, false, false, false, false, false, false, false, false] rfl rfl (by kernel_rfl) (fun _ _ _ h => h) (by rfl) ?_ hHeld ?_ ?_
                      rotate_left 2
                      · rintro w' ⟨s0, s1, s2, s3, s4, s5, s6⟩
                        go_simp
                        try with_reducible rfl
                      · simp only [Act.put, List.setIfInBounds_toArray, List.set_cons_zero, List.set_cons_succ]
                        rfl
                      refine rg_take (i := 2) (N := (some 78)) (v := ?_) (a' := ?_) #[true, true, true, false, false, false, false, false, false, false, false, false, false, false, false, false, false, false, false, false, false, false, false, false, false, false, false, false, false] rfl rfl (by kernel_rfl) (fun _ _ _ h => h) (by rfl) ?_ hHeld ?_ ?_
                      rotate_left 2
                      · rintro w' ⟨s0, s1, s2, s3, s4, s5, s6⟩
                        go_simp
                        try with_reducible rfl
                      · simp only [Act.put, List.setIfInBounds_toArray, List.set_cons_zero, List.set_cons_succ]
                        rfl
                      refine rg_take (i := 3) (N := (some 79)) (v := ?_) (a' := ?_) #[true, true, true, true, false, false, false, false, false, false, false, false, false, false, false, false, false, false, false, false, false, false, false, false, false, false, false, false, false] rfl rfl (by kernel_rfl) (fun _ _ _ h => h) (by rfl) ?_ hHeld ?_ ?_
                      rotate_left 2
                      · rintro w' ⟨s0, s1, s2, s3, s4, s5, s6⟩
                        go_simp
                        try with_reducible rfl
                      · simp only [Act.put, List.setIfInBounds_toArray, List.set_cons_zero, List.set_cons_succ]
                        rfl
                      refine rg_take (i := 4) (N := (some 80)) (v := ?_) (a' := ?_) #[true, true, true, true, true, false, false, false, false, false, false, false, false, false, false, false, false, false, false, false, false, false, false, false, false, false, false, false, false] rfl rfl (by kernel_rfl) (fun _ _ _ h => h) (by rfl) ?_ hHeld ?_ ?_
                      rotate_left 2
                      · rintro w' ⟨s0, s1, s2, s3, s4, s5, s6⟩
                        go_simp
                        try with_reducible rfl
                      · simp only [Act.put, List.setIfInBounds_toArray, List.set_cons_zero, List.set_cons_succ]
                        rfl
                      refine rg_take (i := 5) (N := (some 81)) (v := ?_) (a' := ?_) #[true, true, true, true, true, true, false, false, false, false, false, false, false, false, false, false, false, false, false, false, false, false, false, false, false, false, false, false, false] rfl rfl (by kernel_rfl) (fun _ _ _ h => h) (by rfl) ?_ hHeld ?_ ?_
                      rotate_left 2
                      · rintro w' ⟨s0, s1, s2, s3, s4, s5, s6⟩
                        go_simp
                        try with_reducible rfl
                      · simp only [Act.put, List.setIfInBounds_toArray, List.set_cons_zero, List.set_cons_succ]
                        rfl
                      refine rg_take (i := 6) (N := (some 82)) (v := ?_) (a' := ?_) #[true, true, true, true, true, true, true, false, false, false, false, false, false, false, false, false, false, false, false, false, false, false, false, false, false, false, false, false, false] rfl rfl (by kernel_rfl) (fun _ _ _ h => h) (by rfl) ?_ hHeld ?_ ?_
                      rotate_left 2
                      · rintro w' ⟨s0, s1, s2, s3, s4, s5, s6⟩
                        go_simp
                        try with_reducible rfl
                      · simp only [Act.put, List.setIfInBounds_toArray, List.set_cons_zero, List.set_cons_succ]
                        rfl
                      refine rg_take (i := 7) (N := (some 83)) (v := ?_) (a' := ?_) #[true, true, true, true, true, true, true, true, false, false, false, false, false, false, false, false, false, false, false, false, false, false, false, false, false, false, false, false, false] rfl rfl (by kernel_rfl) (fun _ _ _ h => h) (by rfl) ?_ hHeld ?_ ?_
                      rotate_left 2
                      · rintro w' ⟨s0, s1, s2, s3, s4, s5, s6⟩
                        go_simp
                        try with_reducible rfl
                      · simp only [Act.put, List.setIfInBounds_toArray, List.set_cons_zero, List.set_cons_succ]
                        rfl
                      refine rg_take (i := 8) (N := (some 84)) (v := ?_) (a' := ?_) #[true, true, true, true, true, true, true, true, true, false, false, false, false, false, false, false, false, false, false, false, false, false, false, false, false, false, false, false, false] rfl rfl (by kernel_rfl) (fun _ _ _ h => h) (by rfl) ?_ hHeld ?_ ?_
                      rotate_left 2
                      · rintro w' ⟨s0, s1, s2, s3, s4, s5, s6⟩
                        go_simp
                        try with_reducible rfl
                      · simp only [Act.put, List.setIfInBounds_toArray, List.set_cons_zero, List.set_cons_succ]
                        rfl
                      refine rg_take (i := 9) (N := (some 85)) (v := ?_) (a' := ?_) #[true, true, true, true, true, true, true, true, true, true, false, false, false, false, false, false, false, false, false, false, false, false, false, false, false, false, false, false, false] rfl rfl (by kernel_rfl) (fun _ _ _ h => h) (by rfl) ?_ hHeld ?_ ?_
                      rotate_left 2
                      · rintro w' ⟨s0, s1, s2, s3, s4, s5, s6⟩
                        go_simp
                        try with_reducible rfl
                      · simp only [Act.put, List.setIfInBounds_toArray, List.set_cons_zero, List.set_cons_succ]
                        rfl
                      refine rg_take (i := 10) (N := (some 86)) (v := ?_) (a' := ?_) #[true, true, true, true, true, true, true, true, true, true, true, false, false, false, false, false, false, false, false, false, false, false, false, false, false, false, false, false, false] rfl rfl (by kernel_rfl) (fun _ _ _ h => h) (by rfl) ?_ hHeld ?_ ?_
                      rotate_left 2
                      · rintro w' ⟨s0, s1, s2, s3, s4, s5, s6⟩
                        go_simp
                        try with_reducible rfl
                      · simp only [Act.put, List.setIfInBounds_toArray, List.set_cons_zero, List.set_cons_succ]
                        rfl
                      refine rg_take (i := 11) (N := (some 87)) (v := ?_) (a' := ?_) #[true, true, true, true, true, true, true, true, true, true, true, true, false, false, false, false, false, false, false, false, false, false, false, false, false, false, false, false, false] rfl rfl (by kernel_rfl) (fun _ _ _ h => h) (by rfl) ?_ hHeld ?_ ?_
                      rotate_left 2
                      · rintro w' ⟨s0, s1, s2, s3, s4, s5, s6⟩
                        go_simp
                        try with_reducible rfl
                      · simp only [Act.put, List.setIfInBounds_toArray, List.set_cons_zero, List.set_cons_succ]
                        rfl
                      refine rg_skip (i := 12) (N := (some 88)) (a' := ?_) #[true, true, true, true, true, true, true, true, true, true, true, true, true, false, false, false, false, false, false, false, false, false, false, false, false, false, false, false, false] rfl rfl (by kernel_rfl) (fun _ _ _ h => h) (by rfl) hHeld ?_ ?_
                      rotate_left
                      · simp only [Act.put, List.setIfInBounds_toArray, List.set_cons_zero, List.set_cons_succ]
                        rfl
                      refine rg_skip (i := 13) (N := (some 89)) (a' := ?_) #[true, true, true, true, true, true, true, true, true, true, true, true, true, true, false, false, false, false, false, false, false, false, false, false, false, false, false, false, false] rfl rfl (by kernel_rfl) (fun _ _ _ h => h) (by rfl) hHeld ?_ ?_
                      rotate_left
                      · simp only [Act.put, List.setIfInBounds_toArray, List.set_cons_zero, List.set_cons_succ]
                        rfl
                      refine rg_take (i := 14) (N := (some 90)) (v := ?_) (a' := ?_) #[true, true, true, true, true, true, true, true, true, true, true, true, true, true, true, false, false, false, false, false, false, false, false, false, false, false, false, false, false] rfl rfl (by kernel_rfl) (fun _ _ _ h => h) (by rfl) ?_ hHeld ?_ ?_
                      rotate_left 2
                      · rintro w' ⟨s0, s1, s2, s3, s4, s5, s6⟩
                        go_simp
                        try with_reducible rfl
                      · simp only [Act.put, List.setIfInBounds_toArray, List.set_cons_zero, List.set_cons_succ]
                        rfl
                      refine rg_take (i := 15) (N := (some 91)) (v := ?_) (a' := ?_) #[true, true, true, true, true, true, true, true, true, true, true, true, true, true, true, true, false, false, false, false, false, false, false, false, false, false, false, false, false] rfl rfl (by kernel_rfl) (fun _ _ _ h => h) (by rfl) ?_ hHeld ?_ ?_
                      rotate_left 2
                      · rintro w' ⟨s0, s1, s2, s3, s4, s5, s6⟩
                        go_simp
                        try with_reducible rfl
                      · simp only [Act.put, List.setIfInBounds_toArray, List.set_cons_zero, List.set_cons_succ]
                        rfl
                      refine rg_take (i := 16) (N := (some 92)) (v := ?_) (a' := ?_) #[true, true, true, true, true, true, true, true, true, true, true, true, true, true, true, true, true, false, false, false, false, false, false, false, false, false, false, false, false] rfl rfl (by kernel_rfl) (fun _ _ _ h => h) (by rfl) ?_ hHeld ?_ ?_
                      rotate_left 2
                      · rintro w' ⟨s0, s1, s2, s3, s4, s5, s6⟩
                        go_simp
                        try with_reducible rfl
                      · simp only [Act.put, List.setIfInBounds_toArray, List.set_cons_zero, List.set_cons_succ]
                        rfl
                      refine rg_take (i := 18) (N := (some 94)) (v := ?_) (a' := ?_) #[true, true, true, true, true, true, true, true, true, true, true, true, true, true, true, true, true, false, true, false, false, false, false, false, false, false, false, false, false] rfl rfl (by kernel_rfl) (fun _ _ _ h => h) (by rfl) ?_ hHeld ?_ ?_
                      rotate_left 2
                      · rintro w' ⟨s0, s1, s2, s3, s4, s5, s6⟩
                        go_simp
                        try with_reducible rfl
                      · simp only [Act.put, List.setIfInBounds_toArray, List.set_cons_zero, List.set_cons_succ]
                        rfl
                      refine rg_take (i := 19) (N := (some 95)) (v := ?_) (a' := ?_) #[true, true, true, true, true, true, true, true, true, true, true, true, true, true, true, true, true, false, true, true, false, false, false, false, false, false, false, false, false] rfl rfl (by kernel_rfl) (fun _ _ _ h => h) (by rfl) ?_ hHeld ?_ ?_
                      rotate_left 2
                      · rintro w' ⟨s0, s1, s2, s3, s4, s5, s6⟩
                        go_simp
                        try with_reducible rfl
                      · simp only [Act.put, List.setIfInBounds_toArray, List.set_cons_zero, List.set_cons_succ]
                        rfl
                      refine rg_one (i := 17) #[true, true, true, true, true, true, true, true, true, true, true, true, true, true, true, true, true, true, true, true, false, false, false, false, false, false, false, false, false] rfl (by kernel_rfl) (by rfl) (fun K hK => ?_)
                      obtain ⟨s0, s1, s2, s3, s4, s5, s6⟩ := hHeld
                      repeat go_step
                      ((with_reducible refine (HWT.out _ s6).mono ?_); rintro e wa ⟨rfl, hba⟩)
                      try dsimp only
                      refine hK.out _ _ ?_ (fun hHeld => ?_)
                      · exact ⟨keep_cell hba s3 s0, keep_cell hba s4 s1, keep_cell hba s5 s2, keep_lt hba s3, keep_lt hba s4, keep_lt hba s5, below_next s6 hba⟩
                      clear hK K
                      clear s0 s1 s2 s3 s4 s5 s6
                      refine rg_take (i := 20) (N := (some 96)) (v := ?_) (a' := ?_) #[true, true, true, true, true, true, true, true, true, true, true, true, true, true, true, true, true, true, true, true, true, false, false, false, false, false, false, false, false] rfl rfl (by kernel_rfl) (fun _ _ _ h => h) (by rfl) ?_ hHeld ?_ ?_
                      rotate_left 2
                      · rintro w' ⟨s0, s1, s2, s3, s4, s5, s6⟩
                        go_simp
                        try with_reducible rfl
                      · simp only [Act.put, List.setIfInBounds_toArray, List.set_cons_zero, List.set_cons_succ]
                        rfl
                      refine rg_take (i := 21) (N := (some 97)) (v := ?_) (a' := ?_) #[true, true, true, true, true, true, true, true, true, true, true, true, true, true, true, true, true, true, true, true, true, true, false, false, false, false, false, false, false] rfl rfl (by kernel_rfl) (fun _ _ _ h => h) (by rfl) ?_ hHeld ?_ ?_
                      rotate_left 2
                      · rintro w' ⟨s0, s1, s2, s3, s4, s5, s6⟩
                        go_simp
                        try with_reducible rfl
                      · simp only [Act.put, List.setIfInBounds_toArray, List.set_cons_zero, List.set_cons_succ]
                        rfl
                      refine rg_take (i := 22) (N := (some 98)) (v := ?_) (a' := ?_) #[true, true, true, true, true, true, true, true, true, true, true, true, true, true, true, true, true, true, true, true, true, true, true, false, false, false, false, false, false] rfl rfl (by kernel_rfl) (fun _ _ _ h => h) (by rfl) ?_ hHeld ?_ ?_
                      rotate_left 2
                      · rintro w' ⟨s0, s1, s2, s3, s4, s5, s6⟩
                        go_simp
                        try with_reducible rfl
                      · simp only [Act.put, List.setIfInBounds_toArray, List.set_cons_zero, List.set_cons_succ]
                        rfl
                      refine rg_take (i := 23) (N := (some 99)) (v := ?_) (a' := ?_) #[true, true, true, true, true, true, true, true, true, true, true, true, true, true, true, true, true, true, true, true, true, true, true, true, false, false, false, false, false] rfl rfl (by kernel_rfl) (fun _ _ _ h => h) (by rfl) ?_ hHeld ?_ ?_
                      rotate_left 2
                      · rintro w' ⟨s0, s1, s2, s3, s4, s5, s6⟩
                        go_simp
                        try with_reducible rfl
                      · simp only [Act.put, List.setIfInBounds_toArray, List.set_cons_zero, List.set_cons_succ]
                        rfl
                      refine rg_take (i := 25) (N := (some 101)) (v := ?_) (a' := ?_) #[true, true, true, true, true, true, true, true, true, true, true, true, true, true, true, true, true, true, true, true, true, true, true, true, false, true, false, false, false] rfl rfl (by kernel_rfl) (fun _ _ _ h => h) (by rfl) ?_ hHeld ?_ ?_
                      rotate_left 2
                      · rintro w' ⟨s0, s1, s2, s3, s4, s5, s6⟩
                        go_simp
                        try with_reducible rfl
                      · simp only [Act.put, List.setIfInBounds_toArray, List.set_cons_zero, List.set_cons_succ]
                        rfl
                      refine rg_one (i := 24) #[true, true, true, true, true, true, true, true, true, true, true, true, true, true, true, true, true, true, true, true, true, true, true, true, true, true, false, false, false] rfl (by kernel_rfl) (by rfl) (fun K hK => ?_)
                      obtain ⟨s0, s1, s2, s3, s4, s5, s6⟩ := hHeld
                      repeat go_step
                      ((with_reducible refine (HWT.out _ s6).mono ?_); rintro e wb ⟨rfl, hbb⟩)
                      try dsimp only
                      refine hK.out _ _ ?_ (fun hHeld => ?_)
                      · exact ⟨keep_cell hbb s3 s0, keep_cell hbb s4 s1, keep_cell hbb s5 s2, keep_lt hbb s3, keep_lt hbb s4, keep_lt hbb s5, below_next s6 hbb⟩
                      clear hK K
                      clear s0 s1 s2 s3 s4 s5 s6
                      refine rg_one (i := 26) #[true, true, true, true, true, true, true, true, true, true, true, true, true, true, true, true, true, true, true, true, true, true, true, true, true, true, true, false, false] rfl (by kernel_rfl) (by rfl) (fun K hK => ?_)
                      obtain ⟨s0, s1, s2, s3, s4, s5, s6⟩ := hHeld
                      repeat go_step
                      ((with_reducible refine (HCW.out _ s6).mono ?_); rintro e wc ⟨rfl, hbc⟩)
                      try dsimp only
                      refine hK.out _ _ ?_ (fun hHeld => ?_)
                      · exact ⟨keep_cell hbc s3 s0, keep_cell hbc s4 s1, keep_cell hbc s5 s2, keep_lt hbc s3, keep_lt hbc s4, keep_lt hbc s5, below_next s6 hbc⟩
                      clear hK K
                      clear s0 s1 s2 s3 s4 s5 s6
                      refine rg_take (i := 27) (N := (some 103)) (v := ?_) (a' := ?_) #[true, true, true, true, true, true, true, true, true, true, true, true, true, true, true, true, true, true, true, true, true, true, true, true, true, true, true, true, false] rfl rfl (by kernel_rfl) (fun _ _ _ h => h) (by rfl) ?_ hHeld ?_ ?_
                      rotate_left 2
                      · rintro w' ⟨s0, s1, s2, s3, s4, s5, s6⟩
                        go_simp
                        try with_reducible rfl
                      · simp only [Act.put, List.setIfInBounds_toArray, List.set_cons_zero, List.set_cons_succ]
                        rfl
                      refine rg_take (i := 28) (N := (some 104)) (v := ?_) (a' := ?_) #[true, true, true, true, true, true, true, true, true, true, true, true, true, true, true, true, true, true, true, true, true, true, true, true, true, true, true, true, true] rfl rfl (by kernel_rfl) (fun _ _ _ h => h) (by rfl) ?_ hHeld ?_ ?_
                      rotate_left 2
                      · rintro w' ⟨s0, s1, s2, s3, s4, s5, s6⟩
                        go_simp
                        try with_reducible rfl
                      · simp only [Act.put, List.setIfInBounds_toArray, List.set_cons_zero, List.set_cons_succ]
                        rfl
                      refine rg_done (by kernel_rfl) ?_
                      obtain ⟨_, r1, _, _, r4, _, rb⟩ := hHeld
                      have HBZ := Lib.hid rb
                      clear rb hcI
                      have hwD := HWD.out
                      go_wp2_with (go_at_call 13; (with_reducible refine (HLT.out _ HBZ.out).mono ?_); rintro e wl ⟨rfl, hbl⟩; have r1 := keep_cell hbl r4 r1; have r4 := keep_lt hbl r4; have HBZ := Lib.hid (below_next HBZ.out hbl); clear hbl)
                      clear hwD
                      refine ⟨⟨k + 1, g6, R, l', by go_num, by omega, HM8.out.below HBZ.out, HG6.out, HL'.out, HRK.out, hlk', (by have h1 := HSW.out; rw [← HSS.out] at h1; exact h1), box_below HPX8.out HBZ.out, below_next HB8.out HBZ.out⟩, ?_⟩
                      simp [intOf]
                      omega
                    | false =>
                      have f0 : ((D : Int) + 1 != (D : Int)) = true := by simp; omega
                      have HWD := Lib.hid (show wrap64 ((D : Int) + 1) = (D : Int) + 1 from (wrap_succ D (Nat.le_trans hDk (Nat.le_trans hk hosl))).2)
                      have hlt := fun W (hW : Below w8.heap.size w8 W) => late_any bm g6 N R W (HM8.out.below hW) (by have := HRL.out; omega)
                      rw [show (R.length : Int) - 1 = (D : Int) + 1 by omega] at hlt
                      have HLT := Lib.hid hlt
                      clear hlt hRl
                      go_wp2
                      have hcI : decide (pCap N < S) = false := decide_eq_false (Int.not_lt.2 HCI.out)
                      have hk4d : decide ((4 : Int) ≤ kind) = false := decide_eq_false (by omega)
                      refine rg_start (n := 29) (fun w' => w'.cell? ⟨w6.heap.size, 0, none⟩ = some (.int .i64 0) ∧ w'.cell? ⟨b, off + k * 6, none⟩ = some (.int .i64 kind) ∧ w'.cell? ⟨wp, 6, none⟩ = some (.int .i64 (pCap N)) ∧ w6.heap.size < w'.heap.size ∧ b < w'.heap.size ∧ wp < w'.heap.size ∧ Below w8.heap.size w8 w') #[false, false, false, false, false, false, false, false, false, false, false, false, false, false, false, false, false, false, false, false, false, false, false, false, false, false, false, false, false] (by kernel_rfl) rfl rfl ⟨v0, d0, v6, vl, dl, vp, (Below.refl _ w8).drew⟩ (fun hHeld => ?_)
                      refine rg_take (i := 0) (N := (some 76)) (v := ?_) (a' := ?_) #[true, false, false, false, false, false, false, false, false, false, false, false, false, false, false, false, false, false, false, false, false, false, false, false, false, false, false, false, false] rfl rfl (by kernel_rfl) (fun _ _ _ h => h) (by rfl) ?_ hHeld ?_ ?_
                      rotate_left 2
                      · rintro w' ⟨s0, s1, s2, s3, s4, s5, s6⟩
                        go_simp
                        try with_reducible rfl
                      · simp only [Act.put, List.setIfInBounds_toArray, List.set_cons_zero, List.set_cons_succ]
                        rfl
                      refine rg_take (i := 1) (N := (some 77)) (v := ?_) (a' := ?_) #[true, true, false, false, false, false, false, false, false, false, false, false, false, false, false, false, false, false, false, false, false, false, false, false, false, false, false, false, false] rfl rfl (by kernel_rfl) (fun _ _ _ h => h) (by rfl) ?_ hHeld ?_ ?_
                      rotate_left 2
                      · rintro w' ⟨s0, s1, s2, s3, s4, s5, s6⟩
                        go_simp
                        try with_reducible rfl
                      · simp only [Act.put, List.setIfInBounds_toArray, List.set_cons_zero, List.set_cons_succ]
                        rfl
                      refine rg_take (i := 2) (N := (some 78)) (v := ?_) (a' := ?_) #[true, true, true, false, false, false, false, false, false, false, false, false, false, false, false, false, false, false, false, false, false, false, false, false, false, false, false, false, false] rfl rfl (by kernel_rfl) (fun _ _ _ h => h) (by rfl) ?_ hHeld ?_ ?_
                      rotate_left 2
                      · rintro w' ⟨s0, s1, s2, s3, s4, s5, s6⟩
                        go_simp
                        try with_reducible rfl
                      · simp only [Act.put, List.setIfInBounds_toArray, List.set_cons_zero, List.set_cons_succ]
                        rfl
                      refine rg_take (i := 3) (N := (some 79)) (v := ?_) (a' := ?_) #[true, true, true, true, false, false, false, false, false, false, false, false, false, false, false, false, false, false, false, false, false, false, false, false, false, false, false, false, false] rfl rfl (by kernel_rfl) (fun _ _ _ h => h) (by rfl) ?_ hHeld ?_ ?_
                      rotate_left 2
                      · rintro w' ⟨s0, s1, s2, s3, s4, s5, s6⟩
                        go_simp
                        try with_reducible rfl
                      · simp only [Act.put, List.setIfInBounds_toArray, List.set_cons_zero, List.set_cons_succ]
                        rfl
                      refine rg_take (i := 4) (N := (some 80)) (v := ?_) (a' := ?_) #[true, true, true, true, true, false, false, false, false, false, false, false, false, false, false, false, false, false, false, false, false, false, false, false, false, false, false, false, false] rfl rfl (by kernel_rfl) (fun _ _ _ h => h) (by rfl) ?_ hHeld ?_ ?_
                      rotate_left 2
                      · rintro w' ⟨s0, s1, s2, s3, s4, s5, s6⟩
                        go_simp
                        try with_reducible rfl
                      · simp only [Act.put, List.setIfInBounds_toArray, List.set_cons_zero, List.set_cons_succ]
                        rfl
                      refine rg_take (i := 5) (N := (some 81)) (v := ?_) (a' := ?_) #[true, true, true, true, true, true, false, false, false, false, false, false, false, false, false, false, false, false, false, false, false, false, false, false, false, false, false, false, false] rfl rfl (by kernel_rfl) (fun _ _ _ h => h) (by rfl) ?_ hHeld ?_ ?_
                      rotate_left 2
                      · rintro w' ⟨s0, s1, s2, s3, s4, s5, s6⟩
                        go_simp
                        try with_reducible rfl
                      · simp only [Act.put, List.setIfInBounds_toArray, List.set_cons_zero, List.set_cons_succ]
                        rfl
                      refine rg_take (i := 6) (N := (some 82)) (v := ?_) (a' := ?_) #[true, true, true, true, true, true, true, false, false, false, false, false, false, false, false, false, false, false, false, false, false, false, false, false, false, false, false, false, false] rfl rfl (by kernel_rfl) (fun _ _ _ h => h) (by rfl) ?_ hHeld ?_ ?_
                      rotate_left 2
                      · rintro w' ⟨s0, s1, s2, s3, s4, s5, s6⟩
                        go_simp
                        try with_reducible rfl
                      · simp only [Act.put, List.setIfInBounds_toArray, List.set_cons_zero, List.set_cons_succ]
                        rfl
                      refine rg_take (i := 7) (N := (some 83)) (v := ?_) (a' := ?_) #[true, true, true, true, true, true, true, true, false, false, false, false, false, false, false, false, false, false, false, false, false, false, false, false, false, false, false, false, false] rfl rfl (by kernel_rfl) (fun _ _ _ h => h) (by rfl) ?_ hHeld ?_ ?_
                      rotate_left 2
                      · rintro w' ⟨s0, s1, s2, s3, s4, s5, s6⟩
                        go_simp
                        try with_reducible rfl
                      · simp only [Act.put, List.setIfInBounds_toArray, List.set_cons_zero, List.set_cons_succ]
                        rfl
                      refine rg_take (i := 8) (N := (some 84)) (v := ?_) (a' := ?_) #[true, true, true, true, true, true, true, true, true, false, false, false, false, false, false, false, false, false, false, false, false, false, false, false, false, false, false, false, false] rfl rfl (by kernel_rfl) (fun _ _ _ h => h) (by rfl) ?_ hHeld ?_ ?_
                      rotate_left 2
                      · rintro w' ⟨s0, s1, s2, s3, s4, s5, s6⟩
                        go_simp
                        try with_reducible rfl
                      · simp only [Act.put, List.setIfInBounds_toArray, List.set_cons_zero, List.set_cons_succ]
                        rfl
                      refine rg_take (i := 9) (N := (some 85)) (v := ?_) (a' := ?_) #[true, true, true, true, true, true, true, true, true, true, false, false, false, false, false, false, false, false, false, false, false, false, false, false, false, false, false, false, false] rfl rfl (by kernel_rfl) (fun _ _ _ h => h) (by rfl) ?_ hHeld ?_ ?_
                      rotate_left 2
                      · rintro w' ⟨s0, s1, s2, s3, s4, s5, s6⟩
                        go_simp
                        try with_reducible rfl
                      · simp only [Act.put, List.setIfInBounds_toArray, List.set_cons_zero, List.set_cons_succ]
                        rfl
                      refine rg_take (i := 10) (N := (some 86)) (v := ?_) (a' := ?_) #[true, true, true, true, true, true, true, true, true, true, true, false, false, false, false, false, false, false, false, false, false, false, false, false, false, false, false, false, false] rfl rfl (by kernel_rfl) (fun _ _ _ h => h) (by rfl) ?_ hHeld ?_ ?_
                      rotate_left 2
                      · rintro w' ⟨s0, s1, s2, s3, s4, s5, s6⟩
                        go_simp
                        try with_reducible rfl
                      · simp only [Act.put, List.setIfInBounds_toArray, List.set_cons_zero, List.set_cons_succ]
                        rfl
                      refine rg_take (i := 11) (N := (some 87)) (v := ?_) (a' := ?_) #[true, true, true, true, true, true, true, true, true, true, true, true, false, false, false, false, false, false, false, false, false, false, false, false, false, false, false, false, false] rfl rfl (by kernel_rfl) (fun _ _ _ h => h) (by rfl) ?_ hHeld ?_ ?_
                      rotate_left 2
                      · rintro w' ⟨s0, s1, s2, s3, s4, s5, s6⟩
                        go_simp
                        try with_reducible rfl
                      · simp only [Act.put, List.setIfInBounds_toArray, List.set_cons_zero, List.set_cons_succ]
                        rfl
                      refine rg_skip (i := 12) (N := (some 88)) (a' := ?_) #[true, true, true, true, true, true, true, true, true, true, true, true, true, false, false, false, false, false, false, false, false, false, false, false, false, false, false, false, false] rfl rfl (by kernel_rfl) (fun _ _ _ h => h) (by rfl) hHeld ?_ ?_
                      rotate_left
                      · simp only [Act.put, List.setIfInBounds_toArray, List.set_cons_zero, List.set_cons_succ]
                        rfl
                      refine rg_skip (i := 13) (N := (some 89)) (a' := ?_) #[true, true, true, true, true, true, true, true, true, true, true, true, true, true, false, false, false, false, false, false, false, false, false, false, false, false, false, false, false] rfl rfl (by kernel_rfl) (fun _ _ _ h => h) (by rfl) hHeld ?_ ?_
                      rotate_left
                      · simp only [Act.put, List.setIfInBounds_toArray, List.set_cons_zero, List.set_cons_succ]
                        rfl
                      refine rg_take (i := 14) (N := (some 90)) (v := ?_) (a' := ?_) #[true, true, true, true, true, true, true, true, true, true, true, true, true, true, true, false, false, false, false, false, false, false, false, false, false, false, false, false, false] rfl rfl (by kernel_rfl) (fun _ _ _ h => h) (by rfl) ?_ hHeld ?_ ?_
                      rotate_left 2
                      · rintro w' ⟨s0, s1, s2, s3, s4, s5, s6⟩
                        go_simp
                        try with_reducible rfl
                      · simp only [Act.put, List.setIfInBounds_toArray, List.set_cons_zero, List.set_cons_succ]
                        rfl
                      refine rg_take (i := 15) (N := (some 91)) (v := ?_) (a' := ?_) #[true, true, true, true, true, true, true, true, true, true, true, true, true, true, true, true, false, false, false, false, false, false, false, false, false, false, false, false, false] rfl rfl (by kernel_rfl) (fun _ _ _ h => h) (by rfl) ?_ hHeld ?_ ?_
                      rotate_left 2
                      · rintro w' ⟨s0, s1, s2, s3, s4, s5, s6⟩
                        go_simp
                        try with_reducible rfl
                      · simp only [Act.put, List.setIfInBounds_toArray, List.set_cons_zero, List.set_cons_succ]
                        rfl
                      refine rg_take (i := 16) (N := (some 92)) (v := ?_) (a' := ?_) #[true, true, true, true, true, true, true, true, true, true, true, true, true, true, true, true, true, false, false, false, false, false, false, false, false, false, false, false, false] rfl rfl (by kernel_rfl) (fun _ _ _ h => h) (by rfl) ?_ hHeld ?_ ?_
                      rotate_left 2
                      · rintro w' ⟨s0, s1, s2, s3, s4, s5, s6⟩
                        go_simp
                        try with_reducible rfl
                      · simp only [Act.put, List.setIfInBounds_toArray, List.set_cons_zero, List.set_cons_succ]
                        rfl
                      refine rg_take (i := 18) (N := (some 94)) (v := ?_) (a' := ?_) #[true, true, true, true, true, true, true, true, true, true, true, true, true, true, true, true, true, false, true, false, false, false, false, false, false, false, false, false, false] rfl rfl (by kernel_rfl) (fun _ _ _ h => h) (by rfl) ?_ hHeld ?_ ?_
                      rotate_left 2
                      · rintro w' ⟨s0, s1, s2, s3, s4, s5, s6⟩
                        go_simp
                        try with_reducible rfl
                      · simp only [Act.put, List.setIfInBounds_toArray, List.set_cons_zero, List.set_cons_succ]
                        rfl
                      refine rg_take (i := 19) (N := (some 95)) (v := ?_) (a' := ?_) #[true, true, true, true, true, true, true, true, true, true, true, true, true, true, true, true, true, false, true, true, false, false, false, false, false, false, false, false, false] rfl rfl (by kernel_rfl) (fun _ _ _ h => h) (by rfl) ?_ hHeld ?_ ?_
                      rotate_left 2
                      · rintro w' ⟨s0, s1, s2, s3, s4, s5, s6⟩
                        go_simp
                        try with_reducible rfl
                      · simp only [Act.put, List.setIfInBounds_toArray, List.set_cons_zero, List.set_cons_succ]
                        rfl
                      refine rg_one (i := 17) #[true, true, true, true, true, true, true, true, true, true, true, true, true, true, true, true, true, true, true, true, false, false, false, false, false, false, false, false, false] rfl (by kernel_rfl) (by rfl) (fun K hK => ?_)
                      obtain ⟨s0, s1, s2, s3, s4, s5, s6⟩ := hHeld
                      repeat go_step
                      ((with_reducible refine (HWT.out _ s6).mono ?_); rintro e wa ⟨rfl, hba⟩)
                      try dsimp only
                      refine hK.out _ _ ?_ (fun hHeld => ?_)
                      · exact ⟨keep_cell hba s3 s0, keep_cell hba s4 s1, keep_cell hba s5 s2, keep_lt hba s3, keep_lt hba s4, keep_lt hba s5, below_next s6 hba⟩
                      clear hK K
                      clear s0 s1 s2 s3 s4 s5 s6
                      refine rg_take (i := 20) (N := (some 96)) (v := ?_) (a' := ?_) #[true, true, true, true, true, true, true, true, true, true, true, true, true, true, true, true, true, true, true, true, true, false, false, false, false, false, false, false, false] rfl rfl (by kernel_rfl) (fun _ _ _ h => h) (by rfl) ?_ hHeld ?_ ?_
                      rotate_left 2
                      · rintro w' ⟨s0, s1, s2, s3, s4, s5, s6⟩
                        go_simp
                        try with_reducible rfl
                      · simp only [Act.put, List.setIfInBounds_toArray, List.set_cons_zero, List.set_cons_succ]
                        rfl
                      refine rg_take (i := 21) (N := (some 97)) (v := ?_) (a' := ?_) #[true, true, true, true, true, true, true, true, true, true, true, true, true, true, true, true, true, true, true, true, true, true, false, false, false, false, false, false, false] rfl rfl (by kernel_rfl) (fun _ _ _ h => h) (by rfl) ?_ hHeld ?_ ?_
                      rotate_left 2
                      · rintro w' ⟨s0, s1, s2, s3, s4, s5, s6⟩
                        go_simp
                        try with_reducible rfl
                      · simp only [Act.put, List.setIfInBounds_toArray, List.set_cons_zero, List.set_cons_succ]
                        rfl
                      refine rg_take (i := 22) (N := (some 98)) (v := ?_) (a' := ?_) #[true, true, true, true, true, true, true, true, true, true, true, true, true, true, true, true, true, true, true, true, true, true, true, false, false, false, false, false, false] rfl rfl (by kernel_rfl) (fun _ _ _ h => h) (by rfl) ?_ hHeld ?_ ?_
                      rotate_left 2
                      · rintro w' ⟨s0, s1, s2, s3, s4, s5, s6⟩
                        go_simp
                        try with_reducible rfl
                      · simp only [Act.put, List.setIfInBounds_toArray, List.set_cons_zero, List.set_cons_succ]
                        rfl
                      refine rg_take (i := 23) (N := (some 99)) (v := ?_) (a' := ?_) #[true, true, true, true, true, true, true, true, true, true, true, true, true, true, true, true, true, true, true, true, true, true, true, true, false, false, false, false, false] rfl rfl (by kernel_rfl) (fun _ _ _ h => h) (by rfl) ?_ hHeld ?_ ?_
                      rotate_left 2
                      · rintro w' ⟨s0, s1, s2, s3, s4, s5, s6⟩
                        go_simp
                        try with_reducible rfl
                      · simp only [Act.put, List.setIfInBounds_toArray, List.set_cons_zero, List.set_cons_succ]
                        rfl
                      refine rg_take (i := 25) (N := (some 101)) (v := ?_) (a' := ?_) #[true, true, true, true, true, true, true, true, true, true, true, true, true, true, true, true, true, true, true, true, true, true, true, true, false, true, false, false, false] rfl rfl (by kernel_rfl) (fun _ _ _ h => h) (by rfl) ?_ hHeld ?_ ?_
                      rotate_left 2
                      · rintro w' ⟨s0, s1, s2, s3, s4, s5, s6⟩
                        go_simp
                        try with_reducible rfl
                      · simp only [Act.put, List.setIfInBounds_toArray, List.set_cons_zero, List.set_cons_succ]
                        rfl
                      refine rg_one (i := 24) #[true, true, true, true, true, true, true, true, true, true, true, true, true, true, true, true, true, true, true, true, true, true, true, true, true, true, false, false, false] rfl (by kernel_rfl) (by rfl) (fun K hK => ?_)
                      obtain ⟨s0, s1, s2, s3, s4, s5, s6⟩ := hHeld
                      repeat go_step
                      ((with_reducible refine (HWT.out _ s6).mono ?_); rintro e wb ⟨rfl, hbb⟩)
                      try dsimp only
                      refine hK.out _ _ ?_ (fun hHeld => ?_)
                      · exact ⟨keep_cell hbb s3 s0, keep_cell hbb s4 s1, keep_cell hbb s5 s2, keep_lt hbb s3, keep_lt hbb s4, keep_lt hbb s5, below_next s6 hbb⟩
                      clear hK K
                      clear s0 s1 s2 s3 s4 s5 s6
                      refine rg_one (i := 26) #[true, true, true, true, true, true, true, true, true, true, true, true, true, true, true, true, true, true, true, true, true, true, true, true, true, true, true, false, false] rfl (by kernel_rfl) (by rfl) (fun K hK => ?_)
                      obtain ⟨s0, s1, s2, s3, s4, s5, s6⟩ := hHeld
                      repeat go_step
                      ((with_reducible refine (HCW.out _ s6).mono ?_); rintro e wc ⟨rfl, hbc⟩)
                      try dsimp only
                      refine hK.out _ _ ?_ (fun hHeld => ?_)
                      · exact ⟨keep_cell hbc s3 s0, keep_cell hbc s4 s1, keep_cell hbc s5 s2, keep_lt hbc s3, keep_lt hbc s4, keep_lt hbc s5, below_next s6 hbc⟩
                      clear hK K
                      clear s0 s1 s2 s3 s4 s5 s6
                      refine rg_take (i := 27) (N := (some 103)) (v := ?_) (a' := ?_) #[true, true, true, true, true, true, true, true, true, true, true, true, true, true, true, true, true, true, true, true, true, true, true, true, true, true, true, true, false] rfl rfl (by kernel_rfl) (fun _ _ _ h => h) (by rfl) ?_ hHeld ?_ ?_
                      rotate_left 2
                      · rintro w' ⟨s0, s1, s2, s3, s4, s5, s6⟩
                        go_simp
                        try with_reducible rfl
                      · simp only [Act.put, List.setIfInBounds_toArray, List.set_cons_zero, List.set_cons_succ]
                        rfl
                      refine rg_take (i := 28) (N := (some 104)) (v := ?_) (a' := ?_) #[true, true, true, true, true, true, true, true, true, true, true, true, true, true, true, true, true, true, true, true, true, true, true, true, true, true, true, true, true] rfl rfl (by kernel_rfl) (fun _ _ _ h => h) (by rfl) ?_ hHeld ?_ ?_
                      rotate_left 2
                      · rintro w' ⟨s0, s1, s2, s3, s4, s5, s6⟩
                        go_simp
                        try with_reducible rfl
                      · simp only [Act.put, List.setIfInBounds_toArray, List.set_cons_zero, List.set_cons_succ]
                        rfl
                      refine rg_done (by kernel_rfl) ?_
                      obtain ⟨_, r1, _, _, r4, _, rb⟩ := hHeld
                      have HBZ := Lib.hid rb
                      clear rb hcI
                      have hwD := HWD.out
                      go_wp2_with (go_at_call 13; (with_reducible refine (HLT.out _ HBZ.out).mono ?_); rintro e wl ⟨rfl, hbl⟩; have r1 := keep_cell hbl r4 r1; have r4 := keep_lt hbl r4; have HBZ := Lib.hid (below_next HBZ.out hbl); clear hbl)
                      clear hwD
                      refine ⟨⟨k + 1, g6, R, l', by go_num, by omega, HM8.out.below HBZ.out, HG6.out, HL'.out, HRK.out, hlk', (by have h1 := HSW.out; rw [← HSS.out] at h1; exact h1), box_below HPX8.out HBZ.out, below_next HB8.out HBZ.out⟩, ?_⟩
                      simp [intOf]
                      omega
                  · omega
              · have hRl : l' = l ∧ R.length = D + 1 := by
                  rcases HRC.out with h | ⟨h, _⟩ | ⟨_, h, _⟩
                  · exact h
                  · exact absurd h hE
                  · exact absurd h hE
                obtain ⟨hll2, hRl⟩ := hRl
                have hq := hqt hll2
                subst hq
                have hEn := hE
                clear hll2 hqt HQE hEn
                have hE2 : (E != 0) = true := by simp [hE]
                have hlt := fun W (hW : Below w8.heap.size w8 W) => late_any bm g6 N R W (HM8.out.below hW) (by have := HRL.out; omega)
                rw [show (R.length : Int) - 1 = (D : Int) by omega] at hlt
                have HLT := Lib.hid hlt
                clear hlt hRl
                go_wp2
                have hcI : decide (pCap N < S) = false := decide_eq_false (Int.not_lt.2 HCI.out)
                refine rg_start (n := 29) (fun w' => w'.cell? ⟨w6.heap.size, 0, none⟩ = some (.int .i64 E) ∧ w'.cell? ⟨b, off + k * 6, none⟩ = some (.int .i64 kind) ∧ w'.cell? ⟨wp, 6, none⟩ = some (.int .i64 (pCap N)) ∧ w6.heap.size < w'.heap.size ∧ b < w'.heap.size ∧ wp < w'.heap.size ∧ Below w8.heap.size w8 w') #[false, false, false, false, false, false, false, false, false, false, false, false, false, false, false, false, false, false, false, false, false, false, false, false, false, false, false, false, false] (by kernel_rfl) rfl rfl ⟨v0, d0, v6, vl, dl, vp, (Below.refl _ w8).drew⟩ (fun hHeld => ?_)
                refine rg_take (i := 0) (N := (some 76)) (v := ?_) (a' := ?_) #[true, false, false, false, false, false, false, false, false, false, false, false, false, false, false, false, false, false, false, false, false, false, false, false, false, false, false, false, false] rfl rfl (by kernel_rfl) (fun _ _ _ h => h) (by rfl) ?_ hHeld ?_ ?_
                rotate_left 2
                · rintro w' ⟨s0, s1, s2, s3, s4, s5, s6⟩
                  go_simp
                  try with_reducible rfl
                · simp only [Act.put, List.setIfInBounds_toArray, List.set_cons_zero, List.set_cons_succ]
                  rfl
                refine rg_take (i := 1) (N := (some 77)) (v := ?_) (a' := ?_) #[true, true, false, false, false, false, false, false, false, false, false, false, false, false, false, false, false, false, false, false, false, false, false, false, false, false, false, false, false] rfl rfl (by kernel_rfl) (fun _ _ _ h => h) (by rfl) ?_ hHeld ?_ ?_
                rotate_left 2
                · rintro w' ⟨s0, s1, s2, s3, s4, s5, s6⟩
                  go_simp
                  try with_reducible rfl
                · simp only [Act.put, List.setIfInBounds_toArray, List.set_cons_zero, List.set_cons_succ]
                  rfl
                refine rg_take (i := 2) (N := (some 78)) (v := ?_) (a' := ?_) #[true, true, true, false, false, false, false, false, false, false, false, false, false, false, false, false, false, false, false, false, false, false, false, false, false, false, false, false, false] rfl rfl (by kernel_rfl) (fun _ _ _ h => h) (by rfl) ?_ hHeld ?_ ?_
                rotate_left 2
                · rintro w' ⟨s0, s1, s2, s3, s4, s5, s6⟩
                  go_simp
                  try with_reducible rfl
                · simp only [Act.put, List.setIfInBounds_toArray, List.set_cons_zero, List.set_cons_succ]
                  rfl
                refine rg_take (i := 3) (N := (some 79)) (v := ?_) (a' := ?_) #[true, true, true, true, false, false, false, false, false, false, false, false, false, false, false, false, false, false, false, false, false, false, false, false, false, false, false, false, false] rfl rfl (by kernel_rfl) (fun _ _ _ h => h) (by rfl) ?_ hHeld ?_ ?_
                rotate_left 2
                · rintro w' ⟨s0, s1, s2, s3, s4, s5, s6⟩
                  go_simp
                  try with_reducible rfl
                · simp only [Act.put, List.setIfInBounds_toArray, List.set_cons_zero, List.set_cons_succ]
                  rfl
                refine rg_skip (i := 4) (N := (some 80)) (a' := ?_) #[true, true, true, true, true, false, false, false, false, false, false, false, false, false, false, false, false, false, false, false, false, false, false, false, false, false, false, false, false] rfl rfl (by kernel_rfl) (fun _ _ _ h => h) (by rfl) hHeld ?_ ?_
                rotate_left
                · simp only [Act.put, List.setIfInBounds_toArray, List.set_cons_zero, List.set_cons_succ]
                  rfl
                refine rg_skip (i := 5) (N := (some 81)) (a' := ?_) #[true, true, true, true, true, true, false, false, false, false, false, false, false, false, false, false, false, false, false, false, false, false, false, false, false, false, false, false, false] rfl rfl (by kernel_rfl) (fun _ _ _ h => h) (by rfl) hHeld ?_ ?_
                rotate_left
                · simp only [Act.put, List.setIfInBounds_toArray, List.set_cons_zero, List.set_cons_succ]
                  rfl
                refine rg_skip (i := 6) (N := (some 82)) (a' := ?_) #[true, true, true, true, true, true, true, false, false, false, false, false, false, false, false, false, false, false, false, false, false, false, false, false, false, false, false, false, false] rfl rfl (by kernel_rfl) (fun _ _ _ h => h) (by rfl) hHeld ?_ ?_
                rotate_left
                · simp only [Act.put, List.setIfInBounds_toArray, List.set_cons_zero, List.set_cons_succ]
                  rfl
                refine rg_skip (i := 7) (N := (some 83)) (a' := ?_) #[true, true, true, true, true, true, true, true, false, false, false, false, false, false, false, false, false, false, false, false, false, false, false, false, false, false, false, false, false] rfl rfl (by kernel_rfl) (fun _ _ _ h => h) (by rfl) hHeld ?_ ?_
                rotate_left
                · simp only [Act.put, List.setIfInBounds_toArray, List.set_cons_zero, List.set_cons_succ]
                  rfl
                refine rg_skip (i := 8) (N := (some 84)) (a' := ?_) #[true, true, true, true, true, true, true, true, true, false, false, false, false, false, false, false, false, false, false, false, false, false, false, false, false, false, false, false, false] rfl rfl (by kernel_rfl) (fun _ _ _ h => h) (by rfl) hHeld ?_ ?_
                rotate_left
                · simp only [Act.put, List.setIfInBounds_toArray, List.set_cons_zero, List.set_cons_succ]
                  rfl
                refine rg_skip (i := 9) (N := (some 85)) (a' := ?_) #[true, true, true, true, true, true, true, true, true, true, false, false, false, false, false, false, false, false, false, false, false, false, false, false, false, false, false, false, false] rfl rfl (by kernel_rfl) (fun _ _ _ h => h) (by rfl) hHeld ?_ ?_
                rotate_left
                · simp only [Act.put, List.setIfInBounds_toArray, List.set_cons_zero, List.set_cons_succ]
                  rfl
                refine rg_take (i := 10) (N := (some 86)) (v := ?_) (a' := ?_) #[true, true, true, true, true, true, true, true, true, true, true, false, false, false, false, false, false, false, false, false, false, false, false, false, false, false, false, false, false] rfl rfl (by kernel_rfl) (fun _ _ _ h => h) (by rfl) ?_ hHeld ?_ ?_
                rotate_left 2
                · rintro w' ⟨s0, s1, s2, s3, s4, s5, s6⟩
                  go_simp
                  try with_reducible rfl
                · simp only [Act.put, List.setIfInBounds_toArray, List.set_cons_zero, List.set_cons_succ]
                  rfl
                refine rg_take (i := 11) (N := (some 87)) (v := ?_) (a' := ?_) #[true, true, true, true, true, true, true, true, true, true, true, true, false, false, false, false, false, false, false, false, false, false, false, false, false, false, false, false, false] rfl rfl (by kernel_rfl) (fun _ _ _ h => h) (by rfl) ?_ hHeld ?_ ?_
                rotate_left 2
                · rintro w' ⟨s0, s1, s2, s3, s4, s5, s6⟩
                  go_simp
                  try with_reducible rfl
                · simp only [Act.put, List.setIfInBounds_toArray, List.set_cons_zero, List.set_cons_succ]
                  rfl
                refine rg_take (i := 12) (N := (some 88)) (v := ?_) (a' := ?_) #[true, true, true, true, true, true, true, true, true, true, true, true, true, false, false, false, false, false, false, false, false, false, false, false, false, false, false, false, false] rfl rfl (by kernel_rfl) (fun _ _ _ h => h) (by rfl) ?_ hHeld ?_ ?_
                rotate_left 2
                · rintro w' ⟨s0, s1, s2, s3, s4, s5, s6⟩
                  go_simp
                  try with_reducible rfl
                · simp only [Act.put, List.setIfInBounds_toArray, List.set_cons_zero, List.set_cons_succ]
                  rfl
                refine rg_take (i := 13) (N := (some 89)) (v := ?_) (a' := ?_) #[true, true, true, true, true, true, true, true, true, true, true, true, true, true, false, false, false, false, false, false, false, false, false, false, false, false, false, false, false] rfl rfl (by kernel_rfl) (fun _ _ _ h => h) (by rfl) ?_ hHeld ?_ ?_
                rotate_left 2
                · rintro w' ⟨s0, s1, s2, s3, s4, s5, s6⟩
                  go_simp
                  try with_reducible rfl
                · simp only [Act.put, List.setIfInBounds_toArray, List.set_cons_zero, List.set_cons_succ]
                  rfl
                refine rg_take (i := 14) (N := (some 90)) (v := ?_) (a' := ?_) #[true, true, true, true, true, true, true, true, true, true, true, true, true, true, true, false, false, false, false, false, false, false, false, false, false, false, false, false, false] rfl rfl (by kernel_rfl) (fun _ _ _ h => h) (by rfl) ?_ hHeld ?_ ?_
                rotate_left 2
                · rintro w' ⟨s0, s1, s2, s3, s4, s5, s6⟩
                  go_simp
                  try with_reducible rfl
                · simp only [Act.put, List.setIfInBounds_toArray, List.set_cons_zero, List.set_cons_succ]
                  rfl
                refine rg_take (i := 15) (N := (some 91)) (v := ?_) (a' := ?_) #[true, true, true, true, true, true, true, true, true, true, true, true, true, true, true, true, false, false, false, false, false, false, false, false, false, false, false, false, false] rfl rfl (by kernel_rfl) (fun _ _ _ h => h) (by rfl) ?_ hHeld ?_ ?_
                rotate_left 2
                · rintro w' ⟨s0, s1, s2, s3, s4, s5, s6⟩
                  go_simp
                  try with_reducible rfl
                · simp only [Act.put, List.setIfInBounds_toArray, List.set_cons_zero, List.set_cons_succ]
                  rfl
                refine rg_take (i := 16) (N := (some 92)) (v := ?_) (a' := ?_) #[true, true, true, true, true, true, true, true, true, true, true, true, true, true, true, true, true, false, false, false, false, false, false, false, false, false, false, false, false] rfl rfl (by kernel_rfl) (fun _ _ _ h => h) (by rfl) ?_ hHeld ?_ ?_
                rotate_left 2
                · rintro w' ⟨s0, s1, s2, s3, s4, s5, s6⟩
                  go_simp
                  try with_reducible rfl
                · simp only [Act.put, List.setIfInBounds_toArray, List.set_cons_zero, List.set_cons_succ]
                  rfl
                refine rg_take (i := 18) (N := (some 94)) (v := ?_) (a' := ?_) #[true, true, true, true, true, true, true, true, true, true, true, true, true, true, true, true, true, false, true, false, false, false, false, false, false, false, false, false, false] rfl rfl (by kernel_rfl) (fun _ _ _ h => h) (by rfl) ?_ hHeld ?_ ?_
                rotate_left 2
                · rintro w' ⟨s0, s1, s2, s3, s4, s5, s6⟩
                  go_simp
                  try with_reducible rfl
                · simp only [Act.put, List.setIfInBounds_toArray, List.set_cons_zero, List.set_cons_succ]
                  rfl
                refine rg_take (i := 19) (N := (some 95)) (v := ?_) (a' := ?_) #[true, true, true, true, true, true, true, true, true, true, true, true, true, true, true, true, true, false, true, true, false, false, false, false, false, false, false, false, false] rfl rfl (by kernel_rfl) (fun _ _ _ h => h) (by rfl) ?_ hHeld ?_ ?_
                rotate_left 2
                · rintro w' ⟨s0, s1, s2, s3, s4, s5, s6⟩
                  go_simp
                  try with_reducible rfl
                · simp only [Act.put, List.setIfInBounds_toArray, List.set_cons_zero, List.set_cons_succ]
                  rfl
                refine rg_one (i := 17) #[true, true, true, true, true, true, true, true, true, true, true, true, true, true, true, true, true, true, true, true, false, false, false, false, false, false, false, false, false] rfl (by kernel_rfl) (by rfl) (fun K hK => ?_)
                obtain ⟨s0, s1, s2, s3, s4, s5, s6⟩ := hHeld
                repeat go_step
                ((with_reducible refine (HWT.out _ s6).mono ?_); rintro e wa ⟨rfl, hba⟩)
                try dsimp only
                refine hK.out _ _ ?_ (fun hHeld => ?_)
                · exact ⟨keep_cell hba s3 s0, keep_cell hba s4 s1, keep_cell hba s5 s2, keep_lt hba s3, keep_lt hba s4, keep_lt hba s5, below_next s6 hba⟩
                clear hK K
                clear s0 s1 s2 s3 s4 s5 s6
                refine rg_take (i := 20) (N := (some 96)) (v := ?_) (a' := ?_) #[true, true, true, true, true, true, true, true, true, true, true, true, true, true, true, true, true, true, true, true, true, false, false, false, false, false, false, false, false] rfl rfl (by kernel_rfl) (fun _ _ _ h => h) (by rfl) ?_ hHeld ?_ ?_
                rotate_left 2
                · rintro w' ⟨s0, s1, s2, s3, s4, s5, s6⟩
                  go_simp
                  try with_reducible rfl
                · simp only [Act.put, List.setIfInBounds_toArray, List.set_cons_zero, List.set_cons_succ]
                  rfl
                refine rg_take (i := 21) (N := (some 97)) (v := ?_) (a' := ?_) #[true, true, true, true, true, true, true, true, true, true, true, true, true, true, true, true, true, true, true, true, true, true, false, false, false, false, false, false, false] rfl rfl (by kernel_rfl) (fun _ _ _ h => h) (by rfl) ?_ hHeld ?_ ?_
                rotate_left 2
                · rintro w' ⟨s0, s1, s2, s3, s4, s5, s6⟩
                  go_simp
                  try with_reducible rfl
                · simp only [Act.put, List.setIfInBounds_toArray, List.set_cons_zero, List.set_cons_succ]
                  rfl
                refine rg_take (i := 22) (N := (some 98)) (v := ?_) (a' := ?_) #[true, true, true, true, true, true, true, true, true, true, true, true, true, true, true, true, true, true, true, true, true, true, true, false, false, false, false, false, false] rfl rfl (by kernel_rfl) (fun _ _ _ h => h) (by rfl) ?_ hHeld ?_ ?_
                rotate_left 2
                · rintro w' ⟨s0, s1, s2, s3, s4, s5, s6⟩
                  go_simp
                  try with_reducible rfl
                · simp only [Act.put, List.setIfInBounds_toArray, List.set_cons_zero, List.set_cons_succ]
                  rfl
                refine rg_take (i := 23) (N := (some 99)) (v := ?_) (a' := ?_) #[true, true, true, true, true, true, true, true, true, true, true, true, true, true, true, true, true, true, true, true, true, true, true, true, false, false, false, false, false] rfl rfl (by kernel_rfl) (fun _ _ _ h => h) (by rfl) ?_ hHeld ?_ ?_
                rotate_left 2
                · rintro w' ⟨s0, s1, s2, s3, s4, s5, s6⟩
                  go_simp
                  try with_reducible rfl
                · simp only [Act.put, List.setIfInBounds_toArray, List.set_cons_zero, List.set_cons_succ]
                  rfl
                refine rg_take (i := 25) (N := (some 101)) (v := ?_) (a' := ?_) #[true, true, true, true, true, true, true, true, true, true, true, true, true, true, true, true, true, true, true, true, true, true, true, true, false, true, false, false, false] rfl rfl (by kernel_rfl) (fun _ _ _ h => h) (by rfl) ?_ hHeld ?_ ?_
                rotate_left 2
                · rintro w' ⟨s0, s1, s2, s3, s4, s5, s6⟩
                  go_simp
                  try with_reducible rfl
                · simp only [Act.put, List.setIfInBounds_toArray, List.set_cons_zero, List.set_cons_succ]
                  rfl
                refine rg_one (i := 24) #[true, true, true, true, true, true, true, true, true, true, true, true, true, true, true, true, true, true, true, true, true, true, true, true, true, true, false, false, false] rfl (by kernel_rfl) (by rfl) (fun K hK => ?_)
                obtain ⟨s0, s1, s2, s3, s4, s5, s6⟩ := hHeld
                repeat go_step
                ((with_reducible refine (HWT.out _ s6).mono ?_); rintro e wb ⟨rfl, hbb⟩)
                try dsimp only
                refine hK.out _ _ ?_ (fun hHeld => ?_)
                · exact ⟨keep_cell hbb s3 s0, keep_cell hbb s4 s1, keep_cell hbb s5 s2, keep_lt hbb s3, keep_lt hbb s4, keep_lt hbb s5, below_next s6 hbb⟩
                clear hK K
                clear s0 s1 s2 s3 s4 s5 s6
                refine rg_one (i := 26) #[true, true, true, true, true, true, true, true, true, true, true, true, true, true, true, true, true, true, true, true, true, true, true, true, true, true, true, false, false] rfl (by kernel_rfl) (by rfl) (fun K hK => ?_)
                obtain ⟨s0, s1, s2, s3, s4, s5, s6⟩ := hHeld
                repeat go_step
                ((with_reducible refine (HCW.out _ s6).mono ?_); rintro e wc ⟨rfl, hbc⟩)
                try dsimp only
                refine hK.out _ _ ?_ (fun hHeld => ?_)
                · exact ⟨keep_cell hbc s3 s0, keep_cell hbc s4 s1, keep_cell hbc s5 s2, keep_lt hbc s3, keep_lt hbc s4, keep_lt hbc s5, below_next s6 hbc⟩
                clear hK K
                clear s0 s1 s2 s3 s4 s5 s6
                refine rg_take (i := 27) (N := (some 103)) (v := ?_) (a' := ?_) #[true, true, true, true, true, true, true, true, true, true, true, true, true, true, true, true, true, true, true, true, true, true, true, true, true, true, true, true, false] rfl rfl (by kernel_rfl) (fun _ _ _ h => h) (by rfl) ?_ hHeld ?_ ?_
                rotate_left 2
                · rintro w' ⟨s0, s1, s2, s3, s4, s5, s6⟩
                  go_simp
                  try with_reducible rfl
                · simp only [Act.put, List.setIfInBounds_toArray, List.set_cons_zero, List.set_cons_succ]
                  rfl
                refine rg_take (i := 28) (N := (some 104)) (v := ?_) (a' := ?_) #[true, true, true, true, true, true, true, true, true, true, true, true, true, true, true, true, true, true, true, true, true, true, true, true, true, true, true, true, true] rfl rfl (by kernel_rfl) (fun _ _ _ h => h) (by rfl) ?_ hHeld ?_ ?_
                rotate_left 2
                · rintro w' ⟨s0, s1, s2, s3, s4, s5, s6⟩
                  go_simp
                  try with_reducible rfl
                · simp only [Act.put, List.setIfInBounds_toArray, List.set_cons_zero, List.set_cons_succ]
                  rfl
                refine rg_done (by kernel_rfl) ?_
                obtain ⟨_, r1, _, _, r4, _, rb⟩ := hHeld
                have HBZ := Lib.hid rb
                clear rb hcI
                go_wp2_with (go_at_call 13; (with_reducible refine (HLT.out _ HBZ.out).mono ?_); rintro e wl ⟨rfl, hbl⟩; have r1 := keep_cell hbl r4 r1; have r4 := keep_lt hbl r4; have HBZ := Lib.hid (below_next HBZ.out hbl); clear hbl)
                refine ⟨⟨k + 1, g6, R, l', by go_num, by omega, HM8.out.below HBZ.out, HG6.out, HL'.out, HRK.out, hlk', (by have h1 := HSW.out; rw [← HSS.out] at h1; exact h1), box_below HPX8.out HBZ.out, below_next HB8.out HBZ.out⟩, ?_⟩
                simp [intOf]
                omega
      · obtain rfl : k = os.length := by omega
        have HB := Lib.hid hbel
        clear hbel hmo hlast hlsl hll hpx
        go_wp2
        go_ret
        exact ⟨rfl, HB.out⟩
end Go.Proofs.YtdfgdnaejnngoaaGreat
