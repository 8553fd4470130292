import Derived.Test.YtdfgdnaejnngoaaGreatJx11
import Derived.Test.YtdfgdnaejnngoaaGreatJx10
import Derived.Test.YtdfgdnaejnngoaaGreatRows
import Derived.Test.YtdfgdnaejnngoaaGreatJx1
import Derived.WalkKit
import Derived.ProofKit
import Derived.OpenShut
import Derived.ShutString
import Derived.ChangeOld
import Derived.Below
import Derived.Deep.Slices
import Derived.Deep.Fields
import Derived.ChangeSame
set_option linter.unusedVariables false
set_option linter.unusedSimpArgs false
namespace Go.Proofs.YtdfgdnaejnngoaaGreat
open Go.RowKit
/-! grangerlaw26.begun; a deed of the model, for the laws. -/
theorem results_cell3 {P : Program} {fn : Func} {tmps : Array Value} {a c : Tmp} {t : TypeId} {ad : Addr} {v x : Value} {w : World} (hf : fn.results = #[.tmp c, .cell a t]) (hp : tmps.getD a undef = .pointer (some ad)) (hl : (loadVar t ad).run P w = .ok v w) (hx : tmps.getD c undef = x) : (results fn tmps).run P w = .ok (.tuple #[x, v]) w := by
  unfold results
  rw [hf]
  have hp2 : tmps[a]?.getD undef = .pointer (some ad) := by simpa using hp
  have hx2 : tmps[c]?.getD undef = x := by simpa using hx
  simp [hp2, hl, hx2, asAddr]
theorem plan_size : (Tryz.prog.info? 26).map (·.size) = some 7 := by kernel_rfl
theorem plan_all (a b c d e f g : Int) : ([.int .i64 a, .int .i64 b, .int .i64 c, .int .i64 d, .int .i64 e, .int .i64 f, .int .i64 g] : List Value).all (·.oneCell') = true := rfl
abbrev ZBox (s : Nat) (w : World) : Prop := w.heap[s]? = some (.cells #[.int .i64 0, .int .i64 0, .int .i64 0, .int .i64 0, .int .i64 0, .int .i64 0, .int .i64 0] 26 (0, 0))
set_option maxHeartbeats 1000000 in
set_option maxRecDepth 100000 in
theorem begun_ok (N : Int) (w : World) (h1 : 64 ≤ N) (h2 : N ≤ 512) : Calls Tryz.prog 11 #[.int .i64 N] w fun e w' => ∃ bm g, e = .returned (.tuple #[.pointer (some ⟨bm, 0, none⟩), .agg (planA N)]) ∧ ModelAt w' bm g N [[]] ∧ w.heap.size ≤ bm ∧ w.heap.size ≤ g ∧ Below w.heap.size w w' := by
  have hc := fun W => capaOf_ok N W (by omega) (by omega)
  have hnw := fun W => new_ok N W h1 h2
  rw [planA_def] at hc hnw ⊢
  have HC := Lib.hid hc
  have HNW := Lib.hid hnw
  have HMS := Lib.hid plan_size
  clear hc hnw
  go_enter Tryz.func11, Tryz.ntmps11
  go_wp2_with (go_at_call 21; (with_reducible refine (HC.out _).mono ?_); rintro e w1 ⟨rfl, hb1⟩; have HBS := Lib.hid (show ZBox w.heap.size w1 from box_cells hb1); have HB1 := Lib.hid (below_next (below_alloc (Below.refl _ w)) hb1); clear hb1)
  have hs0 : w.heap.size < w1.heap.size := lt_of_row HBS.out
  have hbs : ZBox w.heap.size (w1.alloc (.cells #[.int .i64 N, .int .i64 (pLog N), .int .i64 (2 + pLog N), .int .i64 (pData N), .int .i64 (pHalf N), .int .i64 (pLeaves N), .int .i64 (pCap N)] 26)) := ((Fr.refl (fun _ => False) w1).alloc _).row id HBS.out
  have hbx : (w1.alloc (.cells #[.int .i64 N, .int .i64 (pLog N), .int .i64 (2 + pLog N), .int .i64 (pData N), .int .i64 (pHalf N), .int .i64 (pLeaves N), .int .i64 (pCap N)] 26)).heap[w1.heap.size]? = some (.cells #[.int .i64 N, .int .i64 (pLog N), .int .i64 (2 + pLog N), .int .i64 (pData N), .int .i64 (pHalf N), .int .i64 (pLeaves N), .int .i64 (pCap N)] 26 (0, 0)) := heap_alloc_new w1 _
  have hb0 := below_alloc (o := .cells #[.int .i64 N, .int .i64 (pLog N), .int .i64 (2 + pLog N), .int .i64 (pData N), .int .i64 (pHalf N), .int .i64 (pLeaves N), .int .i64 (pCap N)] 26) HB1.out
  generalize w1.alloc (.cells #[.int .i64 N, .int .i64 (pLog N), .int .i64 (2 + pLog N), .int .i64 (pData N), .int .i64 (pHalf N), .int .i64 (pLeaves N), .int .i64 (pCap N)] 26) = W0 at *
  obtain ⟨z0, z1, z2, z3, z4, z5, z6⟩ : W0.cell? ⟨w1.heap.size, 0, none⟩ = some (.int .i64 N) ∧ W0.cell? ⟨w1.heap.size, 1, none⟩ = some (.int .i64 (pLog N)) ∧ W0.cell? ⟨w1.heap.size, 2, none⟩ = some (.int .i64 (2 + pLog N)) ∧ W0.cell? ⟨w1.heap.size, 3, none⟩ = some (.int .i64 (pData N)) ∧ W0.cell? ⟨w1.heap.size, 4, none⟩ = some (.int .i64 (pHalf N)) ∧ W0.cell? ⟨w1.heap.size, 5, none⟩ = some (.int .i64 (pLeaves N)) ∧ W0.cell? ⟨w1.heap.size, 6, none⟩ = some (.int .i64 (pCap N)) := by refine ⟨?_, ?_, ?_, ?_, ?_, ?_, ?_⟩ <;> (rw [Lib.cell_of_heap hbx]; rfl)
  have hxl := lt_of_row hbx
  have HBS0 := Lib.hid hbs
  have HB0 := Lib.hid hb0
  clear hbx hbs hb0
  refine rg_start (n := 5) (fun w' => w'.cell? ⟨w1.heap.size, 0, none⟩ = some (.int .i64 N) ∧ w'.cell? ⟨w1.heap.size, 1, none⟩ = some (.int .i64 (pLog N)) ∧ w'.cell? ⟨w1.heap.size, 2, none⟩ = some (.int .i64 (2 + pLog N)) ∧ w'.cell? ⟨w1.heap.size, 3, none⟩ = some (.int .i64 (pData N)) ∧ w'.cell? ⟨w1.heap.size, 4, none⟩ = some (.int .i64 (pHalf N)) ∧ w'.cell? ⟨w1.heap.size, 5, none⟩ = some (.int .i64 (pLeaves N)) ∧ w'.cell? ⟨w1.heap.size, 6, none⟩ = some (.int .i64 (pCap N)) ∧ w1.heap.size < w'.heap.size) #[false, false, false, false, false] (by kernel_rfl) rfl rfl ⟨z0, z1, z2, z3, z4, z5, z6, hxl⟩ (fun hHeld => ?_)
  refine rg_take (i := 0) (N := (some 11)) (v := ?_) (a' := ?_) #[true, false, false, false, false] rfl rfl (by kernel_rfl) (fun _ _ _ h => h) (by rfl) ?_ hHeld ?_ ?_
  rotate_left 2
  · rintro w' ⟨s0, s1, s2, s3, s4, s5, s6, s7⟩
    go_simp
    try with_reducible rfl
  · simp only [Act.put, List.setIfInBounds_toArray, List.set_cons_zero, List.set_cons_succ]
    rfl
  refine rg_take (i := 2) (N := (some 13)) (v := ?_) (a' := ?_) #[true, false, true, false, false] rfl rfl (by kernel_rfl) (fun _ _ _ h => h) (by rfl) ?_ hHeld ?_ ?_
  rotate_left 2
  · rintro w' ⟨s0, s1, s2, s3, s4, s5, s6, s7⟩
    go_simp
    try with_reducible rfl
  · simp only [Act.put, List.setIfInBounds_toArray, List.set_cons_zero, List.set_cons_succ]
    rfl
  refine rg_one (i := 1) #[true, true, true, false, false] rfl (by kernel_rfl) (by rfl) (fun K hK => ?_)
  obtain ⟨s0, s1, s2, s3, s4, s5, s6, s7⟩ := hHeld
  repeat go_step
  ((with_reducible refine (HNW.out _).mono ?_); rintro e w2 ⟨bm, g, rfl, hm2, hbm2, hg2, hb2⟩; have hbs2 : ZBox w.heap.size w2 := box_below (w := W0.drew) HBS0.out hb2; have hb2w := below_next HB0.out.drew hb2; have hs2 := HB0.out.size)
  try dsimp only
  refine hK.out _ _ ?_ (fun hHeld => ?_)
  · exact ⟨keep_cell hb2 s7 s0, keep_cell hb2 s7 s1, keep_cell hb2 s7 s2, keep_cell hb2 s7 s3, keep_cell hb2 s7 s4, keep_cell hb2 s7 s5, keep_cell hb2 s7 s6, keep_lt hb2 s7⟩
  clear hK K
  clear s0 s1 s2 s3 s4 s5 s6 s7
  refine rg_take (i := 3) (N := (some 2)) (v := ?_) (a' := ?_) #[true, true, true, true, false] rfl rfl (by kernel_rfl) (fun _ _ _ h => h) (by rfl) ?_ hHeld ?_ ?_
  rotate_left 2
  · rintro w' ⟨s0, s1, s2, s3, s4, s5, s6, s7⟩
    go_simp
    try with_reducible rfl
  · simp only [Act.put, List.setIfInBounds_toArray, List.set_cons_zero, List.set_cons_succ]
    rfl
  refine rg_one (i := 4) #[true, true, true, true, true] rfl (by kernel_rfl) (by rfl) (fun K hK => ?_)
  obtain ⟨s0, s1, s2, s3, s4, s5, s6, s7⟩ := hHeld
  (refine oper_store_row 26 (Operand.tmp 3) (Operand.tmp 13) rfl w.heap.size _ [.int .i64 N, .int .i64 (pLog N), .int .i64 (2 + pLog N), .int .i64 (pData N), .int .i64 (pHalf N), .int .i64 (pLeaves N), .int .i64 (pCap N)] _ rfl rfl hbs2 rfl HMS.out (plan_all _ _ _ _ _ _ _) ?_; intro w3 hr3 hf3; simp only [Act.put])
  repeat go_step
  refine hK.out _ _ ?_ (fun hHeld => ?_)
  · exact ⟨hf3.cell s7 (by omega) s0, hf3.cell s7 (by omega) s1, hf3.cell s7 (by omega) s2, hf3.cell s7 (by omega) s3, hf3.cell s7 (by omega) s4, hf3.cell s7 (by omega) s5, hf3.cell s7 (by omega) s6, Nat.lt_of_lt_of_le s7 hf3.size⟩
  clear hK K
  clear s0 s1 s2 s3 s4 s5 s6 s7
  refine rg_done (by kernel_rfl) ?_
  have hm3 := model_other (cs := [.int .i64 0, .int .i64 0, .int .i64 0, .int .i64 0, .int .i64 0, .int .i64 0, .int .i64 0]) hm2 hbs2 (by decide) (by decide) (by decide) (fun i a b h1 h2 => by rcases i with _ | _ | _ | _ | _ | _ | _ | i <;> simp at h1) hf3
  have HM3 := Lib.hid hm3
  have HR3 := Lib.hid hr3
  have HB3 := Lib.hid (hb2w.trans (hf3.to_below hb2w.size (fun i hi e => by omega)))
  have HG2 := Lib.hid hg2
  have HBM2 := Lib.hid hbm2
  have HS2 := Lib.hid hs2
  clear hm2 hbs2 hb2 hb2w hr3 hf3 hm3 hHeld hg2 hbm2 hs2
  go_wp2
  refine bodyPost_ret (v := .tuple #[.pointer (some ⟨bm, 0, none⟩), .agg #[.int .i64 N, .int .i64 (pLog N), .int .i64 (2 + pLog N), .int .i64 (pData N), .int .i64 (pHalf N), .int .i64 (pLeaves N), .int .i64 (pCap N)]]) (results_cell3 (a := 3) (c := 2) (t := 26) (ad := ⟨w.heap.size, 0, none⟩) Tryz.results11 rfl (load_row _ HR3.out _ Tryz.underlying26 rfl HMS.out) rfl) rfl ⟨bm, g, rfl, HM3.out, Nat.le_trans HS2.out HBM2.out, Nat.le_trans HS2.out HG2.out, HB3.out⟩
theorem model_keeps {w w' : World} {bm g q : Nat} {N : Int} {ls : List (List Itm)} {cs : Array Value} {T : TypeId} (h : ModelAt w bm g N ls) (hq : w.heap[q]? = some (.cells cs T (0, 0))) (h1 : 102 ≠ T) (h2 : 98 ≠ T) (hf : Fr (fun k => k = bm ∨ k = g) w w') : w'.heap[q]? = some (.cells cs T (0, 0)) := by
  obtain ⟨off, n, cap, ps, hrow, hra, _⟩ := h.row
  obtain ⟨cur, hgr, _⟩ := hra.blk
  refine hf.row ?_ hq
  rintro (e | e)
  · exact kinds_ne hrow hq h1 e.symm
  · exact kinds_ne hgr hq h2 e.symm
/-- a deed: its error, whether it has something, the rows -/
theorem do_step (B bm g : Nat) (N : Int) (ls : List (List Itm)) (l : List Itm) (o : Ord) (w : World) (hB : B ≤ w.heap.size) (hbm : B ≤ bm) (hg : B ≤ g) (h : ModelAt w bm g N ls) (hl : ls[ls.length - 1]? = some l) (hn : ls.length ≤ 90000) (hln : l.length ≤ 60000) (h0 : 0 ≤ o.n) (h1 : o.n < 18446744073709551616) :
    Calls Tryz.prog 12 #[.pointer (some ⟨bm, 0, none⟩), o.v] w fun e w' => ∃ (val : ByteArray) (A : Option Addr) (k c : Nat) (x y : Int) (g' : Nat), e = .returned (.agg #[.int .i64 (errO (pCap N) l o), .bool (ansO (pCap N) l o).2.1, .string val, .slice A k c, .int .i64 x, .int .i64 y, .int .i64 0, .int .i64 0, .int .i64 0, .int .i64 0, .int .i64 0, .int .i64 0, .int .i64 0]) ∧ ModelAt w' bm g' N (rowsO (pCap N) ls l o) ∧ B ≤ g' ∧ Below B w w' ∧ Fr (fun k => k = bm ∨ k = g) w w' := by
  refine (mdlDo_any bm g N ls l o w h hl hn hln h0 h1).mono ?_
  rintro e w' ⟨A, k, c, rfl, _, g', hm, hg', hf⟩
  exact ⟨_, A, k, c, _, _, g', by rw [← ansO_err]; rfl, hm, by omega, hf.to_below hB (fun i hi e => by omega), hf⟩
end Go.Proofs.YtdfgdnaejnngoaaGreat
namespace Go.Proofs.YtdfgdnaejnngoaaGreat
open Go.RowKit
/-! grangerlaw26.awake. -/
theorem ro1 : rowsO 4084 ([[]] : List (List Itm)) ([] : List Itm) ⟨1, ⟨#[97]⟩, ⟨#[]⟩, 0, ⟨#[]⟩, ⟨#[]⟩⟩ = [[], [(⟨⟨#[97]⟩, ⟨#[]⟩⟩ : Itm)]] := by kernel_rfl
theorem ro2 : rowsO 4084 ([[], [(⟨⟨#[97]⟩, ⟨#[]⟩⟩ : Itm)]] : List (List Itm)) [(⟨⟨#[97]⟩, ⟨#[]⟩⟩ : Itm)] ⟨6, ⟨#[]⟩, ⟨#[]⟩, 0, ⟨#[]⟩, ⟨#[]⟩⟩ = [[(⟨⟨#[97]⟩, ⟨#[]⟩⟩ : Itm)]] := by kernel_rfl
theorem ro3 : rowsO 4084 ([[(⟨⟨#[97]⟩, ⟨#[]⟩⟩ : Itm)]] : List (List Itm)) [(⟨⟨#[97]⟩, ⟨#[]⟩⟩ : Itm)] ⟨1, ⟨#[98]⟩, ⟨#[]⟩, 0, ⟨#[]⟩, ⟨#[]⟩⟩ = [[(⟨⟨#[97]⟩, ⟨#[]⟩⟩ : Itm)], [(⟨⟨#[97]⟩, ⟨#[]⟩⟩ : Itm), (⟨⟨#[98]⟩, ⟨#[]⟩⟩ : Itm)]] := by
  have h1 : rowsO 4084 ([[(⟨⟨#[97]⟩, ⟨#[]⟩⟩ : Itm)]] : List (List Itm)) [(⟨⟨#[97]⟩, ⟨#[]⟩⟩ : Itm)] ⟨1, ⟨#[98]⟩, ⟨#[]⟩, 0, ⟨#[]⟩, ⟨#[]⟩⟩ = if (decide (errO 4084 [(⟨⟨#[97]⟩, ⟨#[]⟩⟩ : Itm)] ⟨1, ⟨#[98]⟩, ⟨#[]⟩, 0, ⟨#[]⟩, ⟨#[]⟩⟩ = 0) && true) = true then [[(⟨⟨#[97]⟩, ⟨#[]⟩⟩ : Itm)]] ++ [stepI [(⟨⟨#[97]⟩, ⟨#[]⟩⟩ : Itm)] ⟨1, ⟨#[98]⟩, ⟨#[]⟩, 0, ⟨#[]⟩, ⟨#[]⟩⟩] else [[(⟨⟨#[97]⟩, ⟨#[]⟩⟩ : Itm)]] := by kernel_rfl
  rw [h1, er2, st2]
  rfl
theorem ro4 : rowsO 4084 ([[(⟨⟨#[97]⟩, ⟨#[]⟩⟩ : Itm)], [(⟨⟨#[97]⟩, ⟨#[]⟩⟩ : Itm), (⟨⟨#[98]⟩, ⟨#[]⟩⟩ : Itm)]] : List (List Itm)) [(⟨⟨#[97]⟩, ⟨#[]⟩⟩ : Itm), (⟨⟨#[98]⟩, ⟨#[]⟩⟩ : Itm)] ⟨4, ⟨#[98]⟩, ⟨#[]⟩, 0, ⟨#[]⟩, ⟨#[]⟩⟩ = [[(⟨⟨#[97]⟩, ⟨#[]⟩⟩ : Itm)], [(⟨⟨#[97]⟩, ⟨#[]⟩⟩ : Itm), (⟨⟨#[98]⟩, ⟨#[]⟩⟩ : Itm)]] := by kernel_rfl
theorem erS : errO 4084 [(⟨⟨#[97]⟩, ⟨#[]⟩⟩ : Itm)] ⟨6, ⟨#[]⟩, ⟨#[]⟩, 0, ⟨#[]⟩, ⟨#[]⟩⟩ = 0 := by kernel_rfl
theorem erG : errO 4084 [(⟨⟨#[97]⟩, ⟨#[]⟩⟩ : Itm), (⟨⟨#[98]⟩, ⟨#[]⟩⟩ : Itm)] ⟨4, ⟨#[98]⟩, ⟨#[]⟩, 0, ⟨#[]⟩, ⟨#[]⟩⟩ = 0 := by kernel_rfl
theorem ha1 : (ansO 4084 ([] : List Itm) ⟨1, ⟨#[97]⟩, ⟨#[]⟩, 0, ⟨#[]⟩, ⟨#[]⟩⟩).2.1 = false := by kernel_rfl
theorem ha2 : (ansO 4084 [(⟨⟨#[97]⟩, ⟨#[]⟩⟩ : Itm)] ⟨6, ⟨#[]⟩, ⟨#[]⟩, 0, ⟨#[]⟩, ⟨#[]⟩⟩).2.1 = false := by kernel_rfl
theorem ha3 : (ansO 4084 [(⟨⟨#[97]⟩, ⟨#[]⟩⟩ : Itm)] ⟨1, ⟨#[98]⟩, ⟨#[]⟩, 0, ⟨#[]⟩, ⟨#[]⟩⟩).2.1 = false := by kernel_rfl
theorem ha4 : (ansO 4084 [(⟨⟨#[97]⟩, ⟨#[]⟩⟩ : Itm), (⟨⟨#[98]⟩, ⟨#[]⟩⟩ : Itm)] ⟨4, ⟨#[98]⟩, ⟨#[]⟩, 0, ⟨#[]⟩, ⟨#[]⟩⟩).2.1 = true := by kernel_rfl
theorem lo1 : lostB ([[(⟨⟨#[97]⟩, ⟨#[]⟩⟩ : Itm)], [(⟨⟨#[97]⟩, ⟨#[]⟩⟩ : Itm), (⟨⟨#[98]⟩, ⟨#[]⟩⟩ : Itm)]] : List (List Itm)) [(⟨⟨#[98]⟩, ⟨#[]⟩⟩ : Itm)] = false := by kernel_rfl
theorem lo2 : lostB ([[(⟨⟨#[97]⟩, ⟨#[]⟩⟩ : Itm)], [(⟨⟨#[97]⟩, ⟨#[]⟩⟩ : Itm), (⟨⟨#[98]⟩, ⟨#[]⟩⟩ : Itm)]] : List (List Itm)) [(⟨⟨#[97]⟩, ⟨#[]⟩⟩ : Itm)] = true := by kernel_rfl
theorem is1 : isoL [(⟨⟨#[97]⟩, ⟨#[]⟩⟩ : Itm)] = [(⟨⟨#[97]⟩, ⟨#[]⟩⟩ : Itm)] := by kernel_rfl
theorem sw3 : sumW [(⟨⟨#[97]⟩, ⟨#[]⟩⟩ : Itm), (⟨⟨#[98]⟩, ⟨#[]⟩⟩ : Itm)] = 6 := by kernel_rfl
set_option maxHeartbeats 4000000 in
set_option maxRecDepth 100000 in
theorem awake26_any (w : World) : Calls Tryz.prog 10 #[] w fun e w' => e = .returned (.bool true) ∧ Below w.heap.size w w' := by
  have hbg := fun W => begun_ok 64 W (by decide) (by decide)
  have p64 : planA 64 = #[.int .i64 64, .int .i64 8, .int .i64 10, .int .i64 54, .int .i64 26, .int .i64 19, .int .i64 4084] := by kernel_rfl
  rw [p64] at hbg
  have hnb := fun W => new_bad ⟨0, 0, 0, 0, 0, 0, 0⟩ W (by kernel_rfl)
  rw [Pl.v_def] at hnb
  dsimp only at hnb
  have hd1 : ∀ (bm g : Nat) (W : World), w.heap.size ≤ W.heap.size → w.heap.size ≤ bm → w.heap.size ≤ g → ModelAt W bm g 64 ([[]] : List (List Itm)) → Calls Tryz.prog 12 #[.pointer (some ⟨bm, 0, none⟩), .agg #[.int .i64 1, .string ⟨#[97]⟩, .string ⟨#[]⟩, .int .u64 0, .string ⟨#[]⟩, .string ⟨#[]⟩]] W fun e w' => ∃ (val : ByteArray) (A : Option Addr) (k c : Nat) (x y : Int) (g' : Nat), e = .returned (.agg #[.int .i64 0, .bool false, .string val, .slice A k c, .int .i64 x, .int .i64 y, .int .i64 0, .int .i64 0, .int .i64 0, .int .i64 0, .int .i64 0, .int .i64 0, .int .i64 0]) ∧ ModelAt w' bm g' 64 ([[], [(⟨⟨#[97]⟩, ⟨#[]⟩⟩ : Itm)]] : List (List Itm)) ∧ w.heap.size ≤ g' ∧ Below w.heap.size W w' ∧ Fr (fun k => k = bm ∨ k = g) W w' := fun bm g W hW hb hg hm => by
    have := do_step w.heap.size bm g 64 ([[]] : List (List Itm)) ([] : List Itm) ⟨1, ⟨#[97]⟩, ⟨#[]⟩, 0, ⟨#[]⟩, ⟨#[]⟩⟩ W hW hb hg hm rfl (by decide) (by decide) (by decide) (by decide)
    rw [cap64, er1, ro1, ha1] at this
    exact this
  have hd2 : ∀ (bm g : Nat) (W : World), w.heap.size ≤ W.heap.size → w.heap.size ≤ bm → w.heap.size ≤ g → ModelAt W bm g 64 ([[], [(⟨⟨#[97]⟩, ⟨#[]⟩⟩ : Itm)]] : List (List Itm)) → Calls Tryz.prog 12 #[.pointer (some ⟨bm, 0, none⟩), .agg #[.int .i64 6, .string ⟨#[]⟩, .string ⟨#[]⟩, .int .u64 0, .string ⟨#[]⟩, .string ⟨#[]⟩]] W fun e w' => ∃ (val : ByteArray) (A : Option Addr) (k c : Nat) (x y : Int) (g' : Nat), e = .returned (.agg #[.int .i64 0, .bool false, .string val, .slice A k c, .int .i64 x, .int .i64 y, .int .i64 0, .int .i64 0, .int .i64 0, .int .i64 0, .int .i64 0, .int .i64 0, .int .i64 0]) ∧ ModelAt w' bm g' 64 ([[(⟨⟨#[97]⟩, ⟨#[]⟩⟩ : Itm)]] : List (List Itm)) ∧ w.heap.size ≤ g' ∧ Below w.heap.size W w' ∧ Fr (fun k => k = bm ∨ k = g) W w' := fun bm g W hW hb hg hm => by
    have := do_step w.heap.size bm g 64 ([[], [(⟨⟨#[97]⟩, ⟨#[]⟩⟩ : Itm)]] : List (List Itm)) [(⟨⟨#[97]⟩, ⟨#[]⟩⟩ : Itm)] ⟨6, ⟨#[]⟩, ⟨#[]⟩, 0, ⟨#[]⟩, ⟨#[]⟩⟩ W hW hb hg hm rfl (by decide) (by decide) (by decide) (by decide)
    rw [cap64, erS, ro2, ha2] at this
    exact this
  have hd3 : ∀ (bm g : Nat) (W : World), w.heap.size ≤ W.heap.size → w.heap.size ≤ bm → w.heap.size ≤ g → ModelAt W bm g 64 ([[(⟨⟨#[97]⟩, ⟨#[]⟩⟩ : Itm)]] : List (List Itm)) → Calls Tryz.prog 12 #[.pointer (some ⟨bm, 0, none⟩), .agg #[.int .i64 1, .string ⟨#[98]⟩, .string ⟨#[]⟩, .int .u64 0, .string ⟨#[]⟩, .string ⟨#[]⟩]] W fun e w' => ∃ (val : ByteArray) (A : Option Addr) (k c : Nat) (x y : Int) (g' : Nat), e = .returned (.agg #[.int .i64 0, .bool false, .string val, .slice A k c, .int .i64 x, .int .i64 y, .int .i64 0, .int .i64 0, .int .i64 0, .int .i64 0, .int .i64 0, .int .i64 0, .int .i64 0]) ∧ ModelAt w' bm g' 64 ([[(⟨⟨#[97]⟩, ⟨#[]⟩⟩ : Itm)], [(⟨⟨#[97]⟩, ⟨#[]⟩⟩ : Itm), (⟨⟨#[98]⟩, ⟨#[]⟩⟩ : Itm)]] : List (List Itm)) ∧ w.heap.size ≤ g' ∧ Below w.heap.size W w' ∧ Fr (fun k => k = bm ∨ k = g) W w' := fun bm g W hW hb hg hm => by
    have := do_step w.heap.size bm g 64 ([[(⟨⟨#[97]⟩, ⟨#[]⟩⟩ : Itm)]] : List (List Itm)) [(⟨⟨#[97]⟩, ⟨#[]⟩⟩ : Itm)] ⟨1, ⟨#[98]⟩, ⟨#[]⟩, 0, ⟨#[]⟩, ⟨#[]⟩⟩ W hW hb hg hm rfl (by decide) (by decide) (by decide) (by decide)
    rw [cap64, er2, ro3, ha3] at this
    exact this
  have hd4 : ∀ (bm g : Nat) (W : World), w.heap.size ≤ W.heap.size → w.heap.size ≤ bm → w.heap.size ≤ g → ModelAt W bm g 64 ([[(⟨⟨#[97]⟩, ⟨#[]⟩⟩ : Itm)], [(⟨⟨#[97]⟩, ⟨#[]⟩⟩ : Itm), (⟨⟨#[98]⟩, ⟨#[]⟩⟩ : Itm)]] : List (List Itm)) → Calls Tryz.prog 12 #[.pointer (some ⟨bm, 0, none⟩), .agg #[.int .i64 4, .string ⟨#[98]⟩, .string ⟨#[]⟩, .int .u64 0, .string ⟨#[]⟩, .string ⟨#[]⟩]] W fun e w' => ∃ (val : ByteArray) (A : Option Addr) (k c : Nat) (x y : Int) (g' : Nat), e = .returned (.agg #[.int .i64 0, .bool true, .string val, .slice A k c, .int .i64 x, .int .i64 y, .int .i64 0, .int .i64 0, .int .i64 0, .int .i64 0, .int .i64 0, .int .i64 0, .int .i64 0]) ∧ ModelAt w' bm g' 64 ([[(⟨⟨#[97]⟩, ⟨#[]⟩⟩ : Itm)], [(⟨⟨#[97]⟩, ⟨#[]⟩⟩ : Itm), (⟨⟨#[98]⟩, ⟨#[]⟩⟩ : Itm)]] : List (List Itm)) ∧ w.heap.size ≤ g' ∧ Below w.heap.size W w' ∧ Fr (fun k => k = bm ∨ k = g) W w' := fun bm g W hW hb hg hm => by
    have := do_step w.heap.size bm g 64 ([[(⟨⟨#[97]⟩, ⟨#[]⟩⟩ : Itm)], [(⟨⟨#[97]⟩, ⟨#[]⟩⟩ : Itm), (⟨⟨#[98]⟩, ⟨#[]⟩⟩ : Itm)]] : List (List Itm)) [(⟨⟨#[97]⟩, ⟨#[]⟩⟩ : Itm), (⟨⟨#[98]⟩, ⟨#[]⟩⟩ : Itm)] ⟨4, ⟨#[98]⟩, ⟨#[]⟩, 0, ⟨#[]⟩, ⟨#[]⟩⟩ W hW hb hg hm rfl (by decide) (by decide) (by decide) (by decide)
    rw [cap64, erG, ro4, ha4] at this
    exact this
  have hl2 : ∀ bm g W, ModelAt W bm g 64 ([[(⟨⟨#[97]⟩, ⟨#[]⟩⟩ : Itm)], [(⟨⟨#[97]⟩, ⟨#[]⟩⟩ : Itm), (⟨⟨#[98]⟩, ⟨#[]⟩⟩ : Itm)]] : List (List Itm)) → Calls Tryz.prog 13 #[.pointer (some ⟨bm, 0, none⟩)] W fun e w' => e = .returned (.int .i64 1) ∧ Below W.heap.size W w' := fun bm g W hm => late_any bm g 64 _ W hm (by decide)
  have hl1 : ∀ bm g W, ModelAt W bm g 64 ([[(⟨⟨#[97]⟩, ⟨#[]⟩⟩ : Itm)]] : List (List Itm)) → Calls Tryz.prog 13 #[.pointer (some ⟨bm, 0, none⟩)] W fun e w' => e = .returned (.int .i64 0) ∧ Below W.heap.size W w' := fun bm g W hm => late_any bm g 64 _ W hm (by decide)
  have hwt : ∀ bm g W, ModelAt W bm g 64 ([[(⟨⟨#[97]⟩, ⟨#[]⟩⟩ : Itm)], [(⟨⟨#[97]⟩, ⟨#[]⟩⟩ : Itm), (⟨⟨#[98]⟩, ⟨#[]⟩⟩ : Itm)]] : List (List Itm)) → Calls Tryz.prog 17 #[.pointer (some ⟨bm, 0, none⟩)] W fun e w' => e = .returned (.int .i64 6) ∧ Below W.heap.size W w' := fun bm g W hm => by
    have := mweight_any bm g 64 _ [(⟨⟨#[97]⟩, ⟨#[]⟩⟩ : Itm), (⟨⟨#[98]⟩, ⟨#[]⟩⟩ : Itm)] W hm rfl (by decide)
    rw [sw3] at this
    exact this
  have hit : ∀ bm g W, ModelAt W bm g 64 ([[(⟨⟨#[97]⟩, ⟨#[]⟩⟩ : Itm)]] : List (List Itm)) → Calls Tryz.prog 15 #[.pointer (some ⟨bm, 0, none⟩)] W fun e w' => ∃ A c, e = .returned (.slice A 1 c) ∧ Below W.heap.size W w' := fun bm g W hm => by
    refine (mitems_any bm g 64 _ [(⟨⟨#[97]⟩, ⟨#[]⟩⟩ : Itm)] W hm rfl (by decide) (by decide)).mono ?_
    rintro e w' ⟨A, c, rfl, _, hb⟩
    exact ⟨A, c, rfl, hb⟩
  have hlb : ∀ (bm g : Nat) (W : World) (s : Nat), ModelAt W bm g 64 ([[(⟨⟨#[97]⟩, ⟨#[]⟩⟩ : Itm)], [(⟨⟨#[97]⟩, ⟨#[]⟩⟩ : Itm), (⟨⟨#[98]⟩, ⟨#[]⟩⟩ : Itm)]] : List (List Itm)) → W.heap[s]? = some (.cells #[.string ⟨#[98]⟩, .string ⟨#[]⟩] 41 (0, 0)) → Calls Tryz.prog 14 #[.pointer (some ⟨bm, 0, none⟩), .slice (some ⟨s, 0, none⟩) 1 1] W fun e w' => ∃ g', e = .returned (.bool false) ∧ ModelAt w' bm g' 64 ([[(⟨⟨#[97]⟩, ⟨#[]⟩⟩ : Itm)], [(⟨⟨#[97]⟩, ⟨#[]⟩⟩ : Itm), (⟨⟨#[98]⟩, ⟨#[]⟩⟩ : Itm)]] : List (List Itm)) ∧ (g' = g ∨ W.heap.size ≤ g') ∧ Fr (fun k => k = bm) W w' := fun bm g W s hm hs => by
    have := lost_any bm g 64 _ (some ⟨s, 0, none⟩) 1 [(⟨⟨#[98]⟩, ⟨#[]⟩⟩ : Itm)] W hm (Elems.of_block hs (fun r hr => by obtain ⟨v, _, rfl⟩ := List.mem_map.1 hr; rfl) rfl) (by decide) (by decide) (by decide)
    unfold LostRes at this
    rw [lo1, if_neg (by decide)] at this
    exact this
  have hla : ∀ (bm g : Nat) (W : World) (s : Nat), ModelAt W bm g 64 ([[(⟨⟨#[97]⟩, ⟨#[]⟩⟩ : Itm)], [(⟨⟨#[97]⟩, ⟨#[]⟩⟩ : Itm), (⟨⟨#[98]⟩, ⟨#[]⟩⟩ : Itm)]] : List (List Itm)) → W.heap[s]? = some (.cells #[.string ⟨#[97]⟩, .string ⟨#[]⟩] 41 (0, 0)) → Calls Tryz.prog 14 #[.pointer (some ⟨bm, 0, none⟩), .slice (some ⟨s, 0, none⟩) 1 1] W fun e w' => ∃ g', e = .returned (.bool true) ∧ ModelAt w' bm g' 64 ([[(⟨⟨#[97]⟩, ⟨#[]⟩⟩ : Itm)]] : List (List Itm)) ∧ (g' = g ∨ W.heap.size ≤ g') ∧ Fr (fun k => k = bm) W w' := fun bm g W s hm hs => by
    have := lost_any bm g 64 _ (some ⟨s, 0, none⟩) 1 [(⟨⟨#[97]⟩, ⟨#[]⟩⟩ : Itm)] W hm (Elems.of_block hs (fun r hr => by obtain ⟨v, _, rfl⟩ := List.mem_map.1 hr; rfl) rfl) (by decide) (by decide) (by decide)
    unfold LostRes at this
    rw [lo2, if_pos rfl, is1] at this
    exact this
  have HBG := Lib.hid hbg
  have HNB := Lib.hid hnb
  have HD1 := Lib.hid hd1
  have HD2 := Lib.hid hd2
  have HD3 := Lib.hid hd3
  have HD4 := Lib.hid hd4
  have HL2 := Lib.hid hl2
  have HL1 := Lib.hid hl1
  have HWT := Lib.hid hwt
  have HIT := Lib.hid hit
  have HLB := Lib.hid hlb
  have HLA := Lib.hid hla
  clear hbg hnb hd1 hd2 hd3 hd4 hl2 hl1 hwt hit hlb hla p64
  go_enter Tryz.func10, Tryz.ntmps10
  go_wp2_with (first
    | (go_at_call 15; (with_reducible refine (HIT.out bm g10 _ HM11.out).mono ?_); rintro e w12 ⟨A12, c12, rfl, hb12⟩; have HB12 := Lib.hid (below_next HB11.out hb12); clear hb12)
    | (go_at_call 13; (with_reducible refine (HL1.out bm g10 _ HM10.out).mono ?_); rintro e w11 ⟨rfl, hb11⟩; have HM11 := Lib.hid (HM10.out.below hb11); have HB11 := Lib.hid (below_next HB10.out hb11); clear hb11)
    | (go_at_call 14; (with_reducible refine (HLA.out bm g9 _ _ (HM9.out.below (below_alloc (Below.refl _ _))) (heap_alloc_new w9 _)).mono ?_); rintro e w10 ⟨g10, rfl, hm10, hg10, hf10⟩; have HM10 := Lib.hid hm10; have HB10 := Lib.hid ((below_alloc HB9.out).trans (hf10.to_below (below_alloc HB9.out).size (fun i hi e => by have := HBM.out; omega))); clear hm10 hg10 hf10)
    | (go_at_call 14; (with_reducible refine (HLB.out bm g6 _ _ (HM8.out.below (below_alloc (Below.refl _ _))) (heap_alloc_new w8 _)).mono ?_); rintro e w9 ⟨g9, rfl, hm9, hg9, hf9⟩; have HM9 := Lib.hid hm9; have HB9 := Lib.hid ((below_alloc HB8.out).trans (hf9.to_below (below_alloc HB8.out).size (fun i hi e => by have := HBM.out; omega))); clear hm9 hg9 hf9)
    | (go_at_call 17; (with_reducible refine (HWT.out bm g6 _ HM7.out).mono ?_); rintro e w8 ⟨rfl, hb8⟩; have HM8 := Lib.hid (HM7.out.below hb8); have HB8 := Lib.hid (below_next HB7.out hb8); clear hb8)
    | (go_at_call 13; (with_reducible refine (HL2.out bm g6 _ (HM6.out.below (below_alloc (Below.refl _ _)))).mono ?_); rintro e w7 ⟨rfl, hb7⟩; have HM7 := Lib.hid ((HM6.out.below (below_alloc (Below.refl _ _))).below hb7); have HB7 := Lib.hid (below_next (below_alloc HB6.out) hb7); clear hb7)
    | (go_at_call 12; (with_reducible refine (HD4.out bm g5 _ (below_alloc HB5.out).size HBM.out HG5.out (HM5.out.below (below_alloc (Below.refl _ _)))).mono ?_); rintro e w6 ⟨val6, A6, k6, c6, x6, y6, g6, rfl, hm6, hg6, hb6, hf6⟩; have hx6 : w6.heap[w3.heap.size]? = some (.cells #[.int .i64 0, .bool false, .string val3, .slice A3 k3 c3, .int .i64 x3, .int .i64 y3, .int .i64 0, .int .i64 0, .int .i64 0, .int .i64 0, .int .i64 0, .int .i64 0, .int .i64 0] 35 (0, 0)) := model_keeps (HM5.out.below (below_alloc (Below.refl _ _))) (((Fr.refl (fun _ => False) w5).alloc _).row id HX5.out) (by decide) (by decide) hf6; have hy6 : w6.heap[w5.heap.size]? = some (.cells #[.int .i64 0, .bool false, .string val5, .slice A5 k5 c5, .int .i64 x5, .int .i64 y5, .int .i64 0, .int .i64 0, .int .i64 0, .int .i64 0, .int .i64 0, .int .i64 0, .int .i64 0] 35 (0, 0)) := model_keeps (HM5.out.below (below_alloc (Below.refl _ _))) (heap_alloc_new w5 _) (by decide) (by decide) hf6; have u0 : w6.cell? ⟨w3.heap.size, 0, none⟩ = some (.int .i64 0) := (by rw [Lib.cell_of_heap hx6]; rfl); have u1 : w6.cell? ⟨w5.heap.size, 0, none⟩ = some (.int .i64 0) := (by rw [Lib.cell_of_heap hy6]; rfl); have hlx := lt_of_row hx6; have hly := lt_of_row hy6; have HM6 := Lib.hid hm6; have HG6 := Lib.hid hg6; have HB6 := Lib.hid ((below_alloc HB5.out).trans hb6); clear hx6 hy6 hm6 hg6 hb6 hf6)
    | (go_at_call 12; (with_reducible refine (HD3.out bm g4 _ HB4.out.size HBM.out HG4.out HM4.out).mono ?_); rintro e w5 ⟨val5, A5, k5, c5, x5, y5, g5, rfl, hm5, hg5, hb5, hf5⟩; have hx5 : w5.heap[w3.heap.size]? = some (.cells #[.int .i64 0, .bool false, .string val3, .slice A3 k3 c3, .int .i64 x3, .int .i64 y3, .int .i64 0, .int .i64 0, .int .i64 0, .int .i64 0, .int .i64 0, .int .i64 0, .int .i64 0] 35 (0, 0)) := model_keeps HM4.out HX4.out (by decide) (by decide) hf5; have HX5 := Lib.hid hx5; have HM5 := Lib.hid hm5; have HG5 := Lib.hid hg5; have HB5 := Lib.hid (HB4.out.trans hb5); clear hx5 hm5 hg5 hb5 hf5)
    | (go_at_call 12; (with_reducible refine (HD2.out bm g3 _ (below_alloc HB3.out).size HBM.out HG3.out (HM3.out.below (below_alloc (Below.refl _ _)))).mono ?_); rintro e w4 ⟨val4, A4, k4, c4, x4, y4, g4, rfl, hm4, hg4, hb4, hf4⟩; have hx4 : w4.heap[w3.heap.size]? = some (.cells #[.int .i64 0, .bool false, .string val3, .slice A3 k3 c3, .int .i64 x3, .int .i64 y3, .int .i64 0, .int .i64 0, .int .i64 0, .int .i64 0, .int .i64 0, .int .i64 0, .int .i64 0] 35 (0, 0)) := model_keeps (HM3.out.below (below_alloc (Below.refl _ _))) (heap_alloc_new w3 _) (by decide) (by decide) hf4; have HX4 := Lib.hid hx4; have HM4 := Lib.hid hm4; have HG4 := Lib.hid hg4; have HB4 := Lib.hid ((below_alloc HB3.out).trans hb4); clear hx4 hm4 hg4 hb4 hf4)
    | (go_at_call 12; (with_reducible refine (HD1.out bm g1 _ HB2.out.size HBM.out HG1.out HM2.out).mono ?_); rintro e w3 ⟨val3, A3, k3, c3, x3, y3, g3, rfl, hm3, hg3, hb3, hf3⟩; have HM3 := Lib.hid hm3; have HG3 := Lib.hid hg3; have HB3 := Lib.hid (HB2.out.trans hb3); clear hm3 hg3 hb3 hf3)
    | (go_at_call 42; (with_reducible refine (HNB.out _).mono ?_); rintro e w2 ⟨rfl, hb2⟩; have HM2 := Lib.hid ((HM1.out.below (below_alloc (Below.refl _ _))).below hb2); have HB2 := Lib.hid (below_next (below_alloc HB1.out) hb2); clear hb2)
    | (go_at_call 11; (with_reducible refine (HBG.out _).mono ?_); rintro e w1 ⟨bm, g1, rfl, hm1, hbm, hg1, hb1⟩; have HM1 := Lib.hid hm1; have HBM := Lib.hid hbm; have HG1 := Lib.hid hg1; have HB1 := Lib.hid hb1; clear hm1 hbm hg1 hb1))
  go_ret
  exact ⟨rfl, HB12.out⟩
end Go.Proofs.YtdfgdnaejnngoaaGreat
namespace Go.Proofs.YtdfgdnaejnngoaaGreat
open Go.RowKit
/-! What of nil is answered; grangerlaw26.ModelNil. -/
set_option maxHeartbeats 1000000 in
set_option maxRecDepth 100000 in
theorem do_nil (o : Ord) (w : World) : Calls Tryz.prog 12 #[.pointer none, o.v] w fun e w' => e = .returned (ansV 2 false ⟨#[]⟩ (.slice none 0 0) 0 0) ∧ Below w.heap.size w w' := by
  rw [Ord.v_def]
  obtain ⟨kind, key, val, n, lo, hi⟩ := o
  dsimp only
  have HMS := Lib.hid ans_size
  go_enter Tryz.func12, Tryz.ntmps12
  go_wp2_with (refine wpList_store_row rfl 35 (Operand.tmp 4) (Operand.tmp 10) rfl (w.heap.size + 1) _ (ansC 2 false ⟨#[]⟩ (.slice none 0 0) 0 0) _ rfl rfl (heap_new_at (by simp)) rfl HMS.out (ans_all _ _ _ _ _ _ _ _) ?_; intro w2 hr2 hf2; have HR2 := Lib.hid hr2; have HF2 := Lib.hid hf2; clear hr2 hf2)
  have hb := below_alloc (o := .cells #[.int .i64 0, .bool false, .string ⟨#[]⟩, .slice none 0 0, .int .i64 0, .int .i64 0, .int .i64 0, .int .i64 0, .int .i64 0, .int .i64 0, .int .i64 0, .int .i64 0, .int .i64 0] 35) (below_alloc (o := .cells #[.int .i64 kind, .string key, .string val, .int .u64 n, .string lo, .string hi] 39) (Below.refl _ w))
  refine bodyPost_ret (v := ansV 2 false ⟨#[]⟩ (.slice none 0 0) 0 0) (results_cell (a := 4) (t := 35) (ad := ⟨w.heap.size + 1, 0, none⟩) Tryz.results12 rfl (load_row _ HR2.out _ Tryz.underlying35 rfl HMS.out)) rfl ⟨rfl, hb.trans (HF2.out.to_below hb.size (fun i hi e => by omega))⟩
set_option maxRecDepth 100000 in
theorem see_nil (o : Ord) (a : An) (A : Option Addr) (c : Nat) (w : World) : Calls Tryz.prog 34 #[.pointer none, o.v, a.v A c] w fun e w' => e = .returned (.bool false) ∧ Below w.heap.size w w' := by
  rw [Ord.v_def, An.v_def]
  go_enter Tryz.func34, Tryz.ntmps34
  go_wp2
  go_ret
  exact ⟨rfl, (by repeat (first | assumption | exact Below.refl _ _ | (refine below_step (w := ?_) ?_ ?_ ?_; rotate_left 2; assumption) | refine Below.drew ?_ | refine below_drewN ?_ _ | refine Below.alloc ?_ ?_ _ | refine Below.setCell ?_ ?_ _ | (focus (simp; done)) | (focus (simp; omega)) | omega))⟩
set_option maxRecDepth 100000 in
theorem lost_nil (w : World) : Calls Tryz.prog 14 #[.pointer none, .slice none 0 0] w fun e w' => e = .returned (.bool false) ∧ Below w.heap.size w w' := by
  have hlf : ∀ W, Calls Tryz.prog 52 #[.slice none 0 0] W (OfRes W []) := fun W => leafOf_any none 0 [] W (by intro i r hr; simp at hr) (by simp)
  have HLF := Lib.hid hlf
  clear hlf
  go_enter Tryz.func14, Tryz.ntmps14
  go_wp2_with (go_at_call 52; (with_reducible refine (HLF.out _).mono ?_); rintro e w2 ⟨hb2, h2⟩; rcases h2 with ⟨h2, _⟩ | ⟨_, b2, A2, k2, rfl, hla2, hle2⟩; exact absurd rfl h2; have HB2 := Lib.hid hb2; clear hb2 hla2 hle2)
  go_ret
  exact ⟨rfl, HB2.out⟩
set_option maxHeartbeats 8000000 in
set_option maxRecDepth 100000 in
theorem nil_any (p : Pl) (o : Ord) (w : World) : Calls Tryz.prog 9 #[p.v, o.v] w fun e w' => e = .returned (.bool true) ∧ Below w.heap.size w w' := by
  have haw := fun W => awake26_any W
  have hlo := fun W => long_any o W
  obtain ⟨lb, hlb⟩ : ∃ lb, longB o = lb := ⟨_, rfl⟩
  rw [hlb] at hlo
  have hdn : ∀ W, Calls Tryz.prog 12 #[.pointer none, o.v] W fun e w' => e = .returned (.agg #[.int .i64 2, .bool false, .string ⟨#[]⟩, .slice none 0 0, .int .i64 0, .int .i64 0, .int .i64 0, .int .i64 0, .int .i64 0, .int .i64 0, .int .i64 0, .int .i64 0, .int .i64 0]) ∧ Below W.heap.size W w' := fun W => do_nil o W
  have hsn := fun W => see_nil o (⟨0, false, ⟨#[]⟩, [], ⟨0, 0, 0, 0, 0, 0, 0, 0, 0⟩⟩ : An) none 0 W
  have hln := fun W => lost_nil W
  have hin := fun W => mitems_nil W
  have hwn := fun W => mweight_nil W
  have hat := fun W => late_nil W
  have hsm := fun W => orderSame_any (⟨2, false, ⟨#[]⟩, [], ⟨0, 0, 0, 0, 0, 0, 0, 0, 0⟩⟩ : An) (⟨2, false, ⟨#[]⟩, [], ⟨0, 0, 0, 0, 0, 0, 0, 0, 0⟩⟩ : An) none none 0 0 W (by intro i r hr; simp at hr) (by intro i r hr; simp at hr) (by decide) (by decide)
  rw [An.v_def] at hsn hsm
  simp only [decide_true] at hsm
  dsimp only [List.length_nil] at hsn hsm
  have hgu : Tryz.prog.eqGuardType Tryz.prog.depth 26 = false := by kernel_rfl
  rw [Ord.v_def] at hlo hdn hsn ⊢
  rw [Pl.v_def]
  have hbad := fun (h : okPlan p = false) W => new_bad p W h
  have hgood : okPlan p = true → p = planP p.a0 ∧ 64 ≤ p.a0 ∧ p.a0 ≤ 512 := fun h => by
    unfold okPlan at h
    simp at h
    exact ⟨h.2.2.symm, h.1, h.2.1⟩
  have hcb := fun (h : p.a0 < 64 ∨ 512 < p.a0) W => capaOf_bad p.a0 W h
  simp only [plan0] at hcb
  have hco := fun (h1 : ¬ p.a0 < 64) (h2 : ¬ 512 < p.a0) W => capaOf_ok p.a0 W h1 h2
  simp only [planA_def] at hco
  have hnok := fun (h1 : 64 ≤ p.a0) (h2 : p.a0 ≤ 512) W => new_ok p.a0 W h1 h2
  have heqT : p = planP p.a0 → ∀ W, (binOp .eql 26 p.v (planP p.a0).v).run Tryz.prog W = .ok (.bool true) W := fun h W => by
    rw [eql_plan, decide_eq_true h]
  have heqF : ¬ p = planP p.a0 → ∀ W, (binOp .eql 26 p.v (planP p.a0).v).run Tryz.prog W = .ok (.bool false) W := fun h W => by
    rw [eql_plan, decide_eq_false h]
  have hne : okPlan p = false → ¬ (p.a0 < 64 ∨ 512 < p.a0) → ¬ p = planP p.a0 := fun h h2 e => by
    unfold okPlan at h
    rw [decide_eq_true e.symm, decide_eq_true (show 64 ≤ p.a0 by omega), decide_eq_true (show p.a0 ≤ 512 by omega)] at h
    cases h
  simp only [Pl.v_def] at heqT heqF hbad
  obtain ⟨ok, hok⟩ : ∃ ok, okPlan p = ok := ⟨_, rfl⟩
  rw [hok] at hbad hgood hne
  obtain ⟨x0, x1, x2, x3, x4, x5, x6⟩ := p
  obtain ⟨kind, key, val, n, lo, hi⟩ := o
  simp only [planP, planA_def] at heqT heqF hgood hne hco hnok hcb
  dsimp only at hbad hlo hdn hsn heqT heqF hgood hne hco hnok hcb ⊢
  have HAW := Lib.hid haw
  have HLO := Lib.hid hlo
  have HDN := Lib.hid hdn
  have HSN := Lib.hid hsn
  have HLN := Lib.hid hln
  have HIN := Lib.hid hin
  have HWN := Lib.hid hwn
  have HAT := Lib.hid hat
  have HSM := Lib.hid hsm
  have HBAD := Lib.hid hbad
  have HGOOD := Lib.hid hgood
  have HCB := Lib.hid hcb
  have HCO := Lib.hid hco
  have HNOK := Lib.hid hnok
  have HEQT := Lib.hid heqT
  have HEQF := Lib.hid heqF
  have HNE := Lib.hid hne
  have HPB : Hid (∀ W, Below ((w.alloc (.cells #[.int .i64 x0, .int .i64 x1, .int .i64 x2, .int .i64 x3, .int .i64 x4, .int .i64 x5, .int .i64 x6] 26)).alloc (.cells #[.int .i64 kind, .string key, .string val, .int .u64 n, .string lo, .string hi] 39)).heap.size ((w.alloc (.cells #[.int .i64 x0, .int .i64 x1, .int .i64 x2, .int .i64 x3, .int .i64 x4, .int .i64 x5, .int .i64 x6] 26)).alloc (.cells #[.int .i64 kind, .string key, .string val, .int .u64 n, .string lo, .string hi] 39)) W → W.heap[w.heap.size]? = some (.cells #[.int .i64 x0, .int .i64 x1, .int .i64 x2, .int .i64 x3, .int .i64 x4, .int .i64 x5, .int .i64 x6] 26 (0, 0))) := Lib.hid (fun W hW => box_below (((Fr.refl (fun _ => False) _).alloc _).row id (heap_alloc_new w _)) hW)
  have HOB : Hid (∀ W, Below ((w.alloc (.cells #[.int .i64 x0, .int .i64 x1, .int .i64 x2, .int .i64 x3, .int .i64 x4, .int .i64 x5, .int .i64 x6] 26)).alloc (.cells #[.int .i64 kind, .string key, .string val, .int .u64 n, .string lo, .string hi] 39)).heap.size ((w.alloc (.cells #[.int .i64 x0, .int .i64 x1, .int .i64 x2, .int .i64 x3, .int .i64 x4, .int .i64 x5, .int .i64 x6] 26)).alloc (.cells #[.int .i64 kind, .string key, .string val, .int .u64 n, .string lo, .string hi] 39)) W → W.heap[w.heap.size + 1]? = some (.cells #[.int .i64 kind, .string key, .string val, .int .u64 n, .string lo, .string hi] 39 (0, 0))) := Lib.hid (fun W hW => box_below (heap_new_at (by simp)) hW)
  have HW0 := Lib.hid (below_alloc (o := .cells #[.int .i64 kind, .string key, .string val, .int .u64 n, .string lo, .string hi] 39) (below_alloc (o := .cells #[.int .i64 x0, .int .i64 x1, .int .i64 x2, .int .i64 x3, .int .i64 x4, .int .i64 x5, .int .i64 x6] 26) (Below.refl _ w)))
  clear haw hlb hlo hdn hsn hln hin hwn hat hsm hbad hgood hcb hco hnok heqT heqF hne hok
  cases lb with
  | true =>
    go_enter Tryz.func9, Tryz.ntmps9
    go_wp2_with (first
      | (go_at_call 10; (with_reducible refine (HAW.out _).mono ?_); rintro e w1 ⟨rfl, hb1⟩; have HB1 := Lib.hid hb1; obtain ⟨d0, d1, d2, d3, d4, d5⟩ : w1.cell? ⟨w.heap.size + 1, 0, none⟩ = some (.int .i64 kind) ∧ w1.cell? ⟨w.heap.size + 1, 1, none⟩ = some (.string key) ∧ w1.cell? ⟨w.heap.size + 1, 2, none⟩ = some (.string val) ∧ w1.cell? ⟨w.heap.size + 1, 3, none⟩ = some (.int .u64 n) ∧ w1.cell? ⟨w.heap.size + 1, 4, none⟩ = some (.string lo) ∧ w1.cell? ⟨w.heap.size + 1, 5, none⟩ = some (.string hi) := (by have hh := HOB.out _ HB1.out; refine ⟨?_, ?_, ?_, ?_, ?_, ?_⟩ <;> (rw [Lib.cell_of_heap hh]; rfl)); have dl1 := lt_of_row (HOB.out _ HB1.out); clear hb1)
      | (go_at_call 16; (with_reducible refine (HLO.out _).mono ?_); rintro e w2 ⟨rfl, hb2⟩; have HB2 := Lib.hid (below_next HB1.out hb2); clear hb2))
    go_ret
    exact ⟨rfl, below_next HW0.out HB2.out⟩
  | false =>
    by_cases hr : x0 < 64 ∨ 512 < x0
    · have hokf : ok = false := by
        cases ok with
        | false => rfl
        | true => have := HGOOD.out rfl; omega
      have hnew := HBAD.out hokf
      have hcap := HCB.out hr
      have HNEW := Lib.hid hnew
      have HCAP := Lib.hid hcap
      clear hnew hcap hokf hr HNOK HEQT HEQF HCO
      go_enter Tryz.func9, Tryz.ntmps9
      go_wp2_with (first
        | (go_at_call 10; (with_reducible refine (HAW.out _).mono ?_); rintro e w1 ⟨rfl, hb1⟩; have HB1 := Lib.hid hb1; obtain ⟨d0, d1, d2, d3, d4, d5⟩ : w1.cell? ⟨w.heap.size + 1, 0, none⟩ = some (.int .i64 kind) ∧ w1.cell? ⟨w.heap.size + 1, 1, none⟩ = some (.string key) ∧ w1.cell? ⟨w.heap.size + 1, 2, none⟩ = some (.string val) ∧ w1.cell? ⟨w.heap.size + 1, 3, none⟩ = some (.int .u64 n) ∧ w1.cell? ⟨w.heap.size + 1, 4, none⟩ = some (.string lo) ∧ w1.cell? ⟨w.heap.size + 1, 5, none⟩ = some (.string hi) := (by have hh := HOB.out _ HB1.out; refine ⟨?_, ?_, ?_, ?_, ?_, ?_⟩ <;> (rw [Lib.cell_of_heap hh]; rfl)); have dl1 := lt_of_row (HOB.out _ HB1.out); clear hb1)
        | (go_at_call 16; (with_reducible refine (HLO.out _).mono ?_); rintro e w2 ⟨rfl, hb2⟩; have HB2 := Lib.hid (below_next HB1.out hb2); obtain ⟨p0, p1, p2, p3, p4, p5, p6⟩ : w2.cell? ⟨w.heap.size, 0, none⟩ = some (.int .i64 x0) ∧ w2.cell? ⟨w.heap.size, 1, none⟩ = some (.int .i64 x1) ∧ w2.cell? ⟨w.heap.size, 2, none⟩ = some (.int .i64 x2) ∧ w2.cell? ⟨w.heap.size, 3, none⟩ = some (.int .i64 x3) ∧ w2.cell? ⟨w.heap.size, 4, none⟩ = some (.int .i64 x4) ∧ w2.cell? ⟨w.heap.size, 5, none⟩ = some (.int .i64 x5) ∧ w2.cell? ⟨w.heap.size, 6, none⟩ = some (.int .i64 x6) := (by have hh := HPB.out _ HB2.out; refine ⟨?_, ?_, ?_, ?_, ?_, ?_, ?_⟩ <;> (rw [Lib.cell_of_heap hh]; rfl)); have pl2 := lt_of_row (HPB.out _ HB2.out); clear hb2)
        | (go_at_call 12; (with_reducible refine (HDN.out _).mono ?_); rintro e w5 ⟨rfl, hb5⟩; have HB5 := Lib.hid (below_next HB4.out hb5); clear hb5)
        | (go_at_call 35; (with_reducible refine (HSM.out _).mono ?_); rintro e w6 ⟨rfl, hb6⟩; have HB6 := Lib.hid (below_next HB5.out hb6); obtain ⟨f0, f1, f2, f3, f4, f5⟩ : w6.cell? ⟨w.heap.size + 1, 0, none⟩ = some (.int .i64 kind) ∧ w6.cell? ⟨w.heap.size + 1, 1, none⟩ = some (.string key) ∧ w6.cell? ⟨w.heap.size + 1, 2, none⟩ = some (.string val) ∧ w6.cell? ⟨w.heap.size + 1, 3, none⟩ = some (.int .u64 n) ∧ w6.cell? ⟨w.heap.size + 1, 4, none⟩ = some (.string lo) ∧ w6.cell? ⟨w.heap.size + 1, 5, none⟩ = some (.string hi) := (by have hh := HOB.out _ HB6.out; refine ⟨?_, ?_, ?_, ?_, ?_, ?_⟩ <;> (rw [Lib.cell_of_heap hh]; rfl)); have dl6 := lt_of_row (HOB.out _ HB6.out); clear hb6)
        | (go_at_call 34; (with_reducible refine (HSN.out _).mono ?_); rintro e w7 ⟨rfl, hb7⟩; have HB7 := Lib.hid (below_next HB6.out hb7); clear hb7)
        | (go_at_call 14; (with_reducible refine (HLN.out _).mono ?_); rintro e w8 ⟨rfl, hb8⟩; have HB8 := Lib.hid (below_next HB7.out hb8); clear hb8)
        | (go_at_call 15; (with_reducible refine (HIN.out _).mono ?_); rintro e w9 ⟨rfl, hb9⟩; have HB9 := Lib.hid (below_next HB8.out hb9); clear hb9)
        | (go_at_call 17; (with_reducible refine (HWN.out _).mono ?_); rintro e w10 ⟨rfl, hb10⟩; have HB10 := Lib.hid (below_next HB9.out hb10); clear hb10)
        | (go_at_call 13; (with_reducible refine (HAT.out _).mono ?_); rintro e w11 ⟨rfl, hb11⟩; have HB11 := Lib.hid (below_next HB10.out hb11); clear hb11)
        | (go_at_call 21; (with_reducible refine (HCAP.out _).mono ?_); rintro e w3 ⟨rfl, hb3⟩; have HB3 := Lib.hid (below_next HB2.out hb3); obtain ⟨q0, q1, q2, q3, q4, q5, q6⟩ : w3.cell? ⟨w.heap.size, 0, none⟩ = some (.int .i64 x0) ∧ w3.cell? ⟨w.heap.size, 1, none⟩ = some (.int .i64 x1) ∧ w3.cell? ⟨w.heap.size, 2, none⟩ = some (.int .i64 x2) ∧ w3.cell? ⟨w.heap.size, 3, none⟩ = some (.int .i64 x3) ∧ w3.cell? ⟨w.heap.size, 4, none⟩ = some (.int .i64 x4) ∧ w3.cell? ⟨w.heap.size, 5, none⟩ = some (.int .i64 x5) ∧ w3.cell? ⟨w.heap.size, 6, none⟩ = some (.int .i64 x6) := (by have hh := HPB.out _ HB3.out; refine ⟨?_, ?_, ?_, ?_, ?_, ?_, ?_⟩ <;> (rw [Lib.cell_of_heap hh]; rfl)); have pl3 := lt_of_row (HPB.out _ HB3.out); clear hb3)
        | (go_at_call 42; (with_reducible refine (HNEW.out _).mono ?_); rintro e w4 ⟨rfl, hb4⟩; have HB4 := Lib.hid (below_next (below_alloc HB3.out) hb4); obtain ⟨r0, r1, r2, r3, r4, r5, r6⟩ : w4.cell? ⟨w.heap.size, 0, none⟩ = some (.int .i64 x0) ∧ w4.cell? ⟨w.heap.size, 1, none⟩ = some (.int .i64 x1) ∧ w4.cell? ⟨w.heap.size, 2, none⟩ = some (.int .i64 x2) ∧ w4.cell? ⟨w.heap.size, 3, none⟩ = some (.int .i64 x3) ∧ w4.cell? ⟨w.heap.size, 4, none⟩ = some (.int .i64 x4) ∧ w4.cell? ⟨w.heap.size, 5, none⟩ = some (.int .i64 x5) ∧ w4.cell? ⟨w.heap.size, 6, none⟩ = some (.int .i64 x6) := (by have hh := HPB.out _ HB4.out; refine ⟨?_, ?_, ?_, ?_, ?_, ?_, ?_⟩ <;> (rw [Lib.cell_of_heap hh]; rfl)); obtain ⟨e0, e1, e2, e3, e4, e5⟩ : w4.cell? ⟨w.heap.size + 1, 0, none⟩ = some (.int .i64 kind) ∧ w4.cell? ⟨w.heap.size + 1, 1, none⟩ = some (.string key) ∧ w4.cell? ⟨w.heap.size + 1, 2, none⟩ = some (.string val) ∧ w4.cell? ⟨w.heap.size + 1, 3, none⟩ = some (.int .u64 n) ∧ w4.cell? ⟨w.heap.size + 1, 4, none⟩ = some (.string lo) ∧ w4.cell? ⟨w.heap.size + 1, 5, none⟩ = some (.string hi) := (by have hh := HOB.out _ HB4.out; refine ⟨?_, ?_, ?_, ?_, ?_, ?_⟩ <;> (rw [Lib.cell_of_heap hh]; rfl)); have dl4 := lt_of_row (HOB.out _ HB4.out); have pl4 := lt_of_row (HPB.out _ HB4.out); clear hb4))
      go_ret
      exact ⟨rfl, below_next HW0.out HB11.out⟩
    · have h1 : ¬ x0 < 64 := fun h => hr (.inl h)
      have h2 : ¬ 512 < x0 := fun h => hr (.inr h)
      have hcap := HCO.out h1 h2
      have HCAP := Lib.hid hcap
      cases ok with
      | true =>
        have hnew := HNOK.out (by omega) (by omega)
        obtain ⟨hpp, _, _⟩ := HGOOD.out rfl
        have heq := HEQT.out hpp
        simp only [Pl.mk.injEq] at hpp
        obtain ⟨_, q1, q2, q3, q4, q5, q6⟩ := hpp
        rw [← q2, ← q1, ← q3, ← q4, ← q5, ← q6] at hnew hcap heq
        have HNEW := Lib.hid hnew
        have HCAP := Lib.hid hcap
        have HEQ2 := Lib.hid heq
        clear hnew hcap hr h1 h2 q1 q2 q3 q4 q5 q6 HEQT HEQF HNE heq
        go_enter Tryz.func9, Tryz.ntmps9
        go_wp2_with (first
        | (go_at_call 10; (with_reducible refine (HAW.out _).mono ?_); rintro e w1 ⟨rfl, hb1⟩; have HB1 := Lib.hid hb1; obtain ⟨d0, d1, d2, d3, d4, d5⟩ : w1.cell? ⟨w.heap.size + 1, 0, none⟩ = some (.int .i64 kind) ∧ w1.cell? ⟨w.heap.size + 1, 1, none⟩ = some (.string key) ∧ w1.cell? ⟨w.heap.size + 1, 2, none⟩ = some (.string val) ∧ w1.cell? ⟨w.heap.size + 1, 3, none⟩ = some (.int .u64 n) ∧ w1.cell? ⟨w.heap.size + 1, 4, none⟩ = some (.string lo) ∧ w1.cell? ⟨w.heap.size + 1, 5, none⟩ = some (.string hi) := (by have hh := HOB.out _ HB1.out; refine ⟨?_, ?_, ?_, ?_, ?_, ?_⟩ <;> (rw [Lib.cell_of_heap hh]; rfl)); have dl1 := lt_of_row (HOB.out _ HB1.out); clear hb1)
        | (go_at_call 16; (with_reducible refine (HLO.out _).mono ?_); rintro e w2 ⟨rfl, hb2⟩; have HB2 := Lib.hid (below_next HB1.out hb2); obtain ⟨p0, p1, p2, p3, p4, p5, p6⟩ : w2.cell? ⟨w.heap.size, 0, none⟩ = some (.int .i64 x0) ∧ w2.cell? ⟨w.heap.size, 1, none⟩ = some (.int .i64 x1) ∧ w2.cell? ⟨w.heap.size, 2, none⟩ = some (.int .i64 x2) ∧ w2.cell? ⟨w.heap.size, 3, none⟩ = some (.int .i64 x3) ∧ w2.cell? ⟨w.heap.size, 4, none⟩ = some (.int .i64 x4) ∧ w2.cell? ⟨w.heap.size, 5, none⟩ = some (.int .i64 x5) ∧ w2.cell? ⟨w.heap.size, 6, none⟩ = some (.int .i64 x6) := (by have hh := HPB.out _ HB2.out; refine ⟨?_, ?_, ?_, ?_, ?_, ?_, ?_⟩ <;> (rw [Lib.cell_of_heap hh]; rfl)); have pl2 := lt_of_row (HPB.out _ HB2.out); clear hb2)
        | (go_at_call 12; (with_reducible refine (HDN.out _).mono ?_); rintro e w5 ⟨rfl, hb5⟩; have HB5 := Lib.hid (below_next HB4.out hb5); clear hb5)
        | (go_at_call 35; (with_reducible refine (HSM.out _).mono ?_); rintro e w6 ⟨rfl, hb6⟩; have HB6 := Lib.hid (below_next HB5.out hb6); obtain ⟨f0, f1, f2, f3, f4, f5⟩ : w6.cell? ⟨w.heap.size + 1, 0, none⟩ = some (.int .i64 kind) ∧ w6.cell? ⟨w.heap.size + 1, 1, none⟩ = some (.string key) ∧ w6.cell? ⟨w.heap.size + 1, 2, none⟩ = some (.string val) ∧ w6.cell? ⟨w.heap.size + 1, 3, none⟩ = some (.int .u64 n) ∧ w6.cell? ⟨w.heap.size + 1, 4, none⟩ = some (.string lo) ∧ w6.cell? ⟨w.heap.size + 1, 5, none⟩ = some (.string hi) := (by have hh := HOB.out _ HB6.out; refine ⟨?_, ?_, ?_, ?_, ?_, ?_⟩ <;> (rw [Lib.cell_of_heap hh]; rfl)); have dl6 := lt_of_row (HOB.out _ HB6.out); clear hb6)
        | (go_at_call 34; (with_reducible refine (HSN.out _).mono ?_); rintro e w7 ⟨rfl, hb7⟩; have HB7 := Lib.hid (below_next HB6.out hb7); clear hb7)
        | (go_at_call 14; (with_reducible refine (HLN.out _).mono ?_); rintro e w8 ⟨rfl, hb8⟩; have HB8 := Lib.hid (below_next HB7.out hb8); clear hb8)
        | (go_at_call 15; (with_reducible refine (HIN.out _).mono ?_); rintro e w9 ⟨rfl, hb9⟩; have HB9 := Lib.hid (below_next HB8.out hb9); clear hb9)
        | (go_at_call 17; (with_reducible refine (HWN.out _).mono ?_); rintro e w10 ⟨rfl, hb10⟩; have HB10 := Lib.hid (below_next HB9.out hb10); clear hb10)
        | (go_at_call 13; (with_reducible refine (HAT.out _).mono ?_); rintro e w11 ⟨rfl, hb11⟩; have HB11 := Lib.hid (below_next HB10.out hb11); clear hb11)
          | (go_at_call 21; (with_reducible refine (HCAP.out _).mono ?_); rintro e w3 ⟨rfl, hb3⟩; have HB3 := Lib.hid (below_next HB2.out hb3); obtain ⟨q0, q1, q2, q3, q4, q5, q6⟩ : w3.cell? ⟨w.heap.size, 0, none⟩ = some (.int .i64 x0) ∧ w3.cell? ⟨w.heap.size, 1, none⟩ = some (.int .i64 x1) ∧ w3.cell? ⟨w.heap.size, 2, none⟩ = some (.int .i64 x2) ∧ w3.cell? ⟨w.heap.size, 3, none⟩ = some (.int .i64 x3) ∧ w3.cell? ⟨w.heap.size, 4, none⟩ = some (.int .i64 x4) ∧ w3.cell? ⟨w.heap.size, 5, none⟩ = some (.int .i64 x5) ∧ w3.cell? ⟨w.heap.size, 6, none⟩ = some (.int .i64 x6) := (by have hh := HPB.out _ HB3.out; refine ⟨?_, ?_, ?_, ?_, ?_, ?_, ?_⟩ <;> (rw [Lib.cell_of_heap hh]; rfl)); have pl3 := lt_of_row (HPB.out _ HB3.out); clear hb3)
          | (go_at_call 42; (with_reducible refine (HNEW.out _).mono ?_); rintro e w4 ⟨bm, g, rfl, _, _, _, hb4⟩; have HB4 := Lib.hid (below_next (below_alloc HB3.out) hb4); have ql4 := lt_of_row (box_cells hb4); obtain ⟨r0, r1, r2, r3, r4, r5, r6⟩ : w4.cell? ⟨w.heap.size, 0, none⟩ = some (.int .i64 x0) ∧ w4.cell? ⟨w.heap.size, 1, none⟩ = some (.int .i64 x1) ∧ w4.cell? ⟨w.heap.size, 2, none⟩ = some (.int .i64 x2) ∧ w4.cell? ⟨w.heap.size, 3, none⟩ = some (.int .i64 x3) ∧ w4.cell? ⟨w.heap.size, 4, none⟩ = some (.int .i64 x4) ∧ w4.cell? ⟨w.heap.size, 5, none⟩ = some (.int .i64 x5) ∧ w4.cell? ⟨w.heap.size, 6, none⟩ = some (.int .i64 x6) := (by have hh := HPB.out _ HB4.out; refine ⟨?_, ?_, ?_, ?_, ?_, ?_, ?_⟩ <;> (rw [Lib.cell_of_heap hh]; rfl)); obtain ⟨s0, s1, s2, s3, s4, s5, s6⟩ : w4.cell? ⟨w3.heap.size, 0, none⟩ = some (.int .i64 x0) ∧ w4.cell? ⟨w3.heap.size, 1, none⟩ = some (.int .i64 x1) ∧ w4.cell? ⟨w3.heap.size, 2, none⟩ = some (.int .i64 x2) ∧ w4.cell? ⟨w3.heap.size, 3, none⟩ = some (.int .i64 x3) ∧ w4.cell? ⟨w3.heap.size, 4, none⟩ = some (.int .i64 x4) ∧ w4.cell? ⟨w3.heap.size, 5, none⟩ = some (.int .i64 x5) ∧ w4.cell? ⟨w3.heap.size, 6, none⟩ = some (.int .i64 x6) := (by have hh : w4.heap[w3.heap.size]? = some (.cells #[.int .i64 x0, .int .i64 x1, .int .i64 x2, .int .i64 x3, .int .i64 x4, .int .i64 x5, .int .i64 x6] 26 (0, 0)) := box_cells hb4; refine ⟨?_, ?_, ?_, ?_, ?_, ?_, ?_⟩ <;> (rw [Lib.cell_of_heap hh]; rfl)); obtain ⟨e0, e1, e2, e3, e4, e5⟩ : w4.cell? ⟨w.heap.size + 1, 0, none⟩ = some (.int .i64 kind) ∧ w4.cell? ⟨w.heap.size + 1, 1, none⟩ = some (.string key) ∧ w4.cell? ⟨w.heap.size + 1, 2, none⟩ = some (.string val) ∧ w4.cell? ⟨w.heap.size + 1, 3, none⟩ = some (.int .u64 n) ∧ w4.cell? ⟨w.heap.size + 1, 4, none⟩ = some (.string lo) ∧ w4.cell? ⟨w.heap.size + 1, 5, none⟩ = some (.string hi) := (by have hh := HOB.out _ HB4.out; refine ⟨?_, ?_, ?_, ?_, ?_, ?_⟩ <;> (rw [Lib.cell_of_heap hh]; rfl)); have dl4 := lt_of_row (HOB.out _ HB4.out); have pl4 := lt_of_row (HPB.out _ HB4.out); have heq := HEQ2.out; clear hb4))
        go_ret
        exact ⟨rfl, below_next HW0.out HB11.out⟩
      | false =>
        have hnew := HBAD.out rfl
        have heq := HEQF.out (HNE.out rfl hr)
        have HNEW := Lib.hid hnew
        have HEQ2 := Lib.hid heq
        clear hnew hcap hr h1 h2 HEQT HEQF HNE heq
        go_enter Tryz.func9, Tryz.ntmps9
        go_wp2_with (first
        | (go_at_call 10; (with_reducible refine (HAW.out _).mono ?_); rintro e w1 ⟨rfl, hb1⟩; have HB1 := Lib.hid hb1; obtain ⟨d0, d1, d2, d3, d4, d5⟩ : w1.cell? ⟨w.heap.size + 1, 0, none⟩ = some (.int .i64 kind) ∧ w1.cell? ⟨w.heap.size + 1, 1, none⟩ = some (.string key) ∧ w1.cell? ⟨w.heap.size + 1, 2, none⟩ = some (.string val) ∧ w1.cell? ⟨w.heap.size + 1, 3, none⟩ = some (.int .u64 n) ∧ w1.cell? ⟨w.heap.size + 1, 4, none⟩ = some (.string lo) ∧ w1.cell? ⟨w.heap.size + 1, 5, none⟩ = some (.string hi) := (by have hh := HOB.out _ HB1.out; refine ⟨?_, ?_, ?_, ?_, ?_, ?_⟩ <;> (rw [Lib.cell_of_heap hh]; rfl)); have dl1 := lt_of_row (HOB.out _ HB1.out); clear hb1)
        | (go_at_call 16; (with_reducible refine (HLO.out _).mono ?_); rintro e w2 ⟨rfl, hb2⟩; have HB2 := Lib.hid (below_next HB1.out hb2); obtain ⟨p0, p1, p2, p3, p4, p5, p6⟩ : w2.cell? ⟨w.heap.size, 0, none⟩ = some (.int .i64 x0) ∧ w2.cell? ⟨w.heap.size, 1, none⟩ = some (.int .i64 x1) ∧ w2.cell? ⟨w.heap.size, 2, none⟩ = some (.int .i64 x2) ∧ w2.cell? ⟨w.heap.size, 3, none⟩ = some (.int .i64 x3) ∧ w2.cell? ⟨w.heap.size, 4, none⟩ = some (.int .i64 x4) ∧ w2.cell? ⟨w.heap.size, 5, none⟩ = some (.int .i64 x5) ∧ w2.cell? ⟨w.heap.size, 6, none⟩ = some (.int .i64 x6) := (by have hh := HPB.out _ HB2.out; refine ⟨?_, ?_, ?_, ?_, ?_, ?_, ?_⟩ <;> (rw [Lib.cell_of_heap hh]; rfl)); have pl2 := lt_of_row (HPB.out _ HB2.out); clear hb2)
        | (go_at_call 12; (with_reducible refine (HDN.out _).mono ?_); rintro e w5 ⟨rfl, hb5⟩; have HB5 := Lib.hid (below_next HB4.out hb5); clear hb5)
        | (go_at_call 35; (with_reducible refine (HSM.out _).mono ?_); rintro e w6 ⟨rfl, hb6⟩; have HB6 := Lib.hid (below_next HB5.out hb6); obtain ⟨f0, f1, f2, f3, f4, f5⟩ : w6.cell? ⟨w.heap.size + 1, 0, none⟩ = some (.int .i64 kind) ∧ w6.cell? ⟨w.heap.size + 1, 1, none⟩ = some (.string key) ∧ w6.cell? ⟨w.heap.size + 1, 2, none⟩ = some (.string val) ∧ w6.cell? ⟨w.heap.size + 1, 3, none⟩ = some (.int .u64 n) ∧ w6.cell? ⟨w.heap.size + 1, 4, none⟩ = some (.string lo) ∧ w6.cell? ⟨w.heap.size + 1, 5, none⟩ = some (.string hi) := (by have hh := HOB.out _ HB6.out; refine ⟨?_, ?_, ?_, ?_, ?_, ?_⟩ <;> (rw [Lib.cell_of_heap hh]; rfl)); have dl6 := lt_of_row (HOB.out _ HB6.out); clear hb6)
        | (go_at_call 34; (with_reducible refine (HSN.out _).mono ?_); rintro e w7 ⟨rfl, hb7⟩; have HB7 := Lib.hid (below_next HB6.out hb7); clear hb7)
        | (go_at_call 14; (with_reducible refine (HLN.out _).mono ?_); rintro e w8 ⟨rfl, hb8⟩; have HB8 := Lib.hid (below_next HB7.out hb8); clear hb8)
        | (go_at_call 15; (with_reducible refine (HIN.out _).mono ?_); rintro e w9 ⟨rfl, hb9⟩; have HB9 := Lib.hid (below_next HB8.out hb9); clear hb9)
        | (go_at_call 17; (with_reducible refine (HWN.out _).mono ?_); rintro e w10 ⟨rfl, hb10⟩; have HB10 := Lib.hid (below_next HB9.out hb10); clear hb10)
        | (go_at_call 13; (with_reducible refine (HAT.out _).mono ?_); rintro e w11 ⟨rfl, hb11⟩; have HB11 := Lib.hid (below_next HB10.out hb11); clear hb11)
          | (go_at_call 21; (with_reducible refine (HCAP.out _).mono ?_); rintro e w3 ⟨rfl, hb3⟩; have HB3 := Lib.hid (below_next HB2.out hb3); obtain ⟨q0, q1, q2, q3, q4, q5, q6⟩ : w3.cell? ⟨w.heap.size, 0, none⟩ = some (.int .i64 x0) ∧ w3.cell? ⟨w.heap.size, 1, none⟩ = some (.int .i64 x1) ∧ w3.cell? ⟨w.heap.size, 2, none⟩ = some (.int .i64 x2) ∧ w3.cell? ⟨w.heap.size, 3, none⟩ = some (.int .i64 x3) ∧ w3.cell? ⟨w.heap.size, 4, none⟩ = some (.int .i64 x4) ∧ w3.cell? ⟨w.heap.size, 5, none⟩ = some (.int .i64 x5) ∧ w3.cell? ⟨w.heap.size, 6, none⟩ = some (.int .i64 x6) := (by have hh := HPB.out _ HB3.out; refine ⟨?_, ?_, ?_, ?_, ?_, ?_, ?_⟩ <;> (rw [Lib.cell_of_heap hh]; rfl)); have pl3 := lt_of_row (HPB.out _ HB3.out); clear hb3)
          | (go_at_call 42; (with_reducible refine (HNEW.out _).mono ?_); rintro e w4 ⟨rfl, hb4⟩; have HB4 := Lib.hid (below_next (below_alloc HB3.out) hb4); have ql4 := lt_of_row (box_cells hb4); obtain ⟨r0, r1, r2, r3, r4, r5, r6⟩ : w4.cell? ⟨w.heap.size, 0, none⟩ = some (.int .i64 x0) ∧ w4.cell? ⟨w.heap.size, 1, none⟩ = some (.int .i64 x1) ∧ w4.cell? ⟨w.heap.size, 2, none⟩ = some (.int .i64 x2) ∧ w4.cell? ⟨w.heap.size, 3, none⟩ = some (.int .i64 x3) ∧ w4.cell? ⟨w.heap.size, 4, none⟩ = some (.int .i64 x4) ∧ w4.cell? ⟨w.heap.size, 5, none⟩ = some (.int .i64 x5) ∧ w4.cell? ⟨w.heap.size, 6, none⟩ = some (.int .i64 x6) := (by have hh := HPB.out _ HB4.out; refine ⟨?_, ?_, ?_, ?_, ?_, ?_, ?_⟩ <;> (rw [Lib.cell_of_heap hh]; rfl)); obtain ⟨s0, s1, s2, s3, s4, s5, s6⟩ : w4.cell? ⟨w3.heap.size, 0, none⟩ = some (.int .i64 x0) ∧ w4.cell? ⟨w3.heap.size, 1, none⟩ = some (.int .i64 (pLog x0)) ∧ w4.cell? ⟨w3.heap.size, 2, none⟩ = some (.int .i64 (2 + pLog x0)) ∧ w4.cell? ⟨w3.heap.size, 3, none⟩ = some (.int .i64 (pData x0)) ∧ w4.cell? ⟨w3.heap.size, 4, none⟩ = some (.int .i64 (pHalf x0)) ∧ w4.cell? ⟨w3.heap.size, 5, none⟩ = some (.int .i64 (pLeaves x0)) ∧ w4.cell? ⟨w3.heap.size, 6, none⟩ = some (.int .i64 (pCap x0)) := (by have hh : w4.heap[w3.heap.size]? = some (.cells #[.int .i64 x0, .int .i64 (pLog x0), .int .i64 (2 + pLog x0), .int .i64 (pData x0), .int .i64 (pHalf x0), .int .i64 (pLeaves x0), .int .i64 (pCap x0)] 26 (0, 0)) := box_cells hb4; refine ⟨?_, ?_, ?_, ?_, ?_, ?_, ?_⟩ <;> (rw [Lib.cell_of_heap hh]; rfl)); obtain ⟨e0, e1, e2, e3, e4, e5⟩ : w4.cell? ⟨w.heap.size + 1, 0, none⟩ = some (.int .i64 kind) ∧ w4.cell? ⟨w.heap.size + 1, 1, none⟩ = some (.string key) ∧ w4.cell? ⟨w.heap.size + 1, 2, none⟩ = some (.string val) ∧ w4.cell? ⟨w.heap.size + 1, 3, none⟩ = some (.int .u64 n) ∧ w4.cell? ⟨w.heap.size + 1, 4, none⟩ = some (.string lo) ∧ w4.cell? ⟨w.heap.size + 1, 5, none⟩ = some (.string hi) := (by have hh := HOB.out _ HB4.out; refine ⟨?_, ?_, ?_, ?_, ?_, ?_⟩ <;> (rw [Lib.cell_of_heap hh]; rfl)); have dl4 := lt_of_row (HOB.out _ HB4.out); have pl4 := lt_of_row (HPB.out _ HB4.out); have heq := HEQ2.out; clear hb4))
        go_ret
        exact ⟨rfl, below_next HW0.out HB11.out⟩
end Go.Proofs.YtdfgdnaejnngoaaGreat
namespace Go.Proofs.YtdfgdnaejnngoaaGreat
open Go.RowKit
/-! model.asked, See. -/
theorem exec_range {ρ : Operand → Value} {o : Oper} {ty : TypeId} {x : Operand} {b oo : Nat} {cs : List Value} {w : World} {d : TypeDesc} (ho : o.op = .load ty x) (hx : ρ x = .pointer (some ⟨b, oo, none⟩)) (h : w.rangeAt b oo cs)
    (hu : Tryz.prog.underlying ty = some d) (hd : d.isRow = true) (hi : (Tryz.prog.info? ty).map (·.size) = some cs.length) : (execOp ρ o).run Tryz.prog w = .ok (.value (.agg cs.toArray)) w := by
  unfold execOp
  simp only [ho, hx, Instr.loadAt, Instr.sureAddr, Sem.run_bind, Sem.run_pure, Result.andThen_ok, run_loadVar_mid w b oo ty cs d h hu hd hi]
theorem row_part {w : World} {b : Nat} {pre cs post : List Value} {T : TypeId} {fz : Nat × Nat} (h : w.heap[b]? = some (.cells (pre ++ (cs ++ post)).toArray T fz)) : w.rangeAt b pre.length cs := fun j v hv => by
  rw [Lib.cell_of_heap h]
  simp only [List.getElem?_toArray]
  have hj := (List.getElem?_eq_some_iff.1 hv).1
  rw [List.getElem?_append_right (by omega), Nat.add_sub_cancel_left, List.getElem?_append_left hj]
  exact hv
def askedA (a : An) : An := ⟨a.err, a.has, a.val, a.its, ⟨a.st.a0, a.st.a1, 0, 0, 0, 0, 0, 0, 0⟩⟩
set_option maxHeartbeats 1000000 in
set_option maxRecDepth 100000 in
theorem asked_any (a : An) (A : Option Addr) (c : Nat) (w : World) : Calls Tryz.prog 62 #[a.v A c] w fun e w' => e = .returned ((askedA a).v A c) ∧ Below w.heap.size w w' := by
  rw [An.v_def, An.v_def]
  have HMS := Lib.hid ans_size
  go_enter Tryz.func62, Tryz.ntmps62
  go_wp2
  refine bodyPost_ret (v := (askedA a).v A c) (results_cell (a := 2) (t := 35) (ad := ⟨w.heap.size + 1, 0, none⟩) Tryz.results62 rfl (load_row (cs := (askedA a).cells A c) _ (heap_new_at (by simp)) _ Tryz.underlying35 rfl HMS.out)) rfl ⟨rfl, (by repeat (first | assumption | exact Below.refl _ _ | (refine below_step (w := ?_) ?_ ?_ ?_; rotate_left 2; assumption) | refine Below.drew ?_ | refine below_drewN ?_ _ | refine Below.alloc ?_ ?_ _ | refine Below.setCell ?_ ?_ _ | (focus (simp; done)) | (focus (simp; omega)) | omega))⟩
end Go.Proofs.YtdfgdnaejnngoaaGreat
namespace Go.Proofs.YtdfgdnaejnngoaaGreat
open Go.RowKit
/-! model.See. -/
def downA : An := ⟨4, false, ⟨#[]⟩, [], ⟨0, 0, 0, 0, 0, 0, 0, 0, 0⟩⟩
theorem rows_items_len {c : Int} {l : List Itm} {o : Ord} : (ansO c l o).2.2.2.1.length ≤ l.length := by
  unfold ansO
  split
  · cases msgO o with
    | some m => exact Nat.zero_le _
    | none =>
      dsimp only
      split
      · split <;> exact Nat.zero_le _
      · split
        · split
          · exact within_len _ _ _
          · exact Nat.zero_le _
        · split <;> exact Nat.zero_le _
  · exact Nat.zero_le _
/-- a deed, its answer whole -/
theorem do_whole (bm g : Nat) (N : Int) (ls : List (List Itm)) (l : List Itm) (o : Ord) (w : World) (h : ModelAt w bm g N ls) (hl : ls[ls.length - 1]? = some l) (hn : ls.length ≤ 90000) (hln : l.length ≤ 60000) (h0 : 0 ≤ o.n) (h1 : o.n < 18446744073709551616) :
    Calls Tryz.prog 12 #[.pointer (some ⟨bm, 0, none⟩), o.v] w fun e w' => ∃ (A : Option Addr) (c g' : Nat), e = .returned ((ansAn (ansO (pCap N) l o)).v A c) ∧ OwnsM w' w.heap.size (.slice A (ansO (pCap N) l o).2.2.2.1.length c) (ansO (pCap N) l o).2.2.2.1 ∧ ModelAt w' bm g' N (rowsO (pCap N) ls l o) ∧ (g' = g ∨ w.heap.size ≤ g') ∧ Fr (fun k => k = bm ∨ k = g) w w' := by
  refine (mdlDo_any bm g N ls l o w h hl hn hln h0 h1).mono ?_
  rintro e w' ⟨A, k, c, rfl, ho, g', hm, hg', hf⟩
  have hk := ho.len
  subst hk
  exact ⟨A, c, g', rfl, ho, hm, hg', hf⟩
def SeeRes (bm g : Nat) (N : Int) (b : Bool) (ls : List (List Itm)) (w : World) (e : Ending) (w' : World) : Prop := ∃ g', e = .returned (.bool b) ∧ ModelAt w' bm g' N ls ∧ (g' = g ∨ w.heap.size ≤ g') ∧ Fr (fun k => k = bm ∨ k = g) w w'
set_option maxHeartbeats 1000000 in
set_option maxRecDepth 100000 in
theorem see_down (bm g : Nat) (N : Int) (ls : List (List Itm)) (o : Ord) (a : An) (A : Option Addr) (c : Nat) (w : World) (h : ModelAt w bm g N ls) (ha : Elems w A 2 (a.its.map Itm.cells)) (n1 : a.its.length ≤ 80000) (hd : a = downA) :
    Calls Tryz.prog 34 #[.pointer (some ⟨bm, 0, none⟩), o.v, a.v A c] w (SeeRes bm g N true ls w) := by
  have hs := fun W (hW : Below w.heap.size w W) => orderSame_any a downA A none c 0 W (ha.below hW) (by intro i r hr; simp [downA] at hr) n1 (by decide)
  rw [decide_eq_true hd] at hs
  simp only [An.v_def] at hs
  rw [Ord.v_def, An.v_def]
  dsimp only [downA, List.length_nil] at hs
  have HS := Lib.hid hs
  have HMO := Lib.hid h
  clear h ha hs hd
  go_enter Tryz.func34, Tryz.ntmps34
  go_wp2_with (go_at_call 35; (with_reducible refine (HS.out _ (below_alloc (below_alloc (Below.refl _ w)))).mono ?_); rintro e w1 ⟨rfl, hb1⟩; have HB1 := Lib.hid (below_next (below_alloc (below_alloc (Below.refl _ w))) hb1); clear hb1)
  go_ret
  exact ⟨g, rfl, HMO.out.below HB1.out, .inl rfl, Fr.of_below HB1.out⟩
set_option maxHeartbeats 2000000 in
set_option maxRecDepth 100000 in
theorem see_else (bm g : Nat) (N : Int) (ls : List (List Itm)) (l : List Itm) (o : Ord) (a : An) (A : Option Addr) (c : Nat) (w : World) (h : ModelAt w bm g N ls) (hl : ls[ls.length - 1]? = some l) (hn : ls.length ≤ 90000) (hln : l.length ≤ 60000) (h0 : 0 ≤ o.n) (h1 : o.n < 18446744073709551616)
    (ha : Elems w A 2 (a.its.map Itm.cells)) (hap : a.its ≠ [] → ∀ ad, A = some ad → ad.block ≠ bm ∧ ad.block ≠ g) (n1 : a.its.length ≤ 80000) (hd : ¬ a = downA) :
    Calls Tryz.prog 34 #[.pointer (some ⟨bm, 0, none⟩), o.v, a.v A c] w (SeeRes bm g N (decide (askedA a = ansAn (ansO (pCap N) l o))) (rowsO (pCap N) ls l o) w) := by
  have hs := fun W (hW : Below w.heap.size w W) => orderSame_any a downA A none c 0 W (ha.below hW) (by intro i r hr; simp [downA] at hr) n1 (by decide)
  rw [decide_eq_false hd] at hs
  simp only [An.v_def] at hs
  dsimp only [downA, List.length_nil] at hs
  have hdo := fun W (hW : Below w.heap.size w W) => do_whole bm g N ls l o W (h.below hW) hl hn hln h0 h1
  have hrl := rows_items_len (c := pCap N) (l := l) (o := o)
  have hits : (ansO (pCap N) l o).2.2.2.1 = (ansAn (ansO (pCap N) l o)).its := rfl
  rw [hits] at hdo hrl
  generalize ansAn (ansO (pCap N) l o) = rr at *
  generalize rowsO (pCap N) ls l o = RR at *
  have hask := fun W => asked_any a A c W
  have hs2 := fun W A4 c4 (h1 : Elems W A 2 (a.its.map Itm.cells)) (h2 : Elems W A4 2 (rr.its.map Itm.cells)) => orderSame_any (askedA a) rr A A4 c c4 W h1 h2 n1 (by omega)
  generalize decide (askedA a = rr) = bb at *
  have hasel : ∀ W, Fr (fun k => k = bm ∨ k = g) w W → Elems W A 2 (a.its.map Itm.cells) := fun W hW => by
    by_cases e : a.its = []
    · rw [e]; intro i r hr; simp at hr
    · exact ha.fr hW (fun ad e2 => by obtain ⟨x1, x2⟩ := hap e ad e2; exact fun hh => hh.elim x1 x2)
  have hbm := h.lt
  have hgl := h.glt
  rw [Ord.v_def] at hdo ⊢
  simp only [An.v_def] at hdo hask hs2
  rw [An.v_def]
  dsimp only [askedA] at hask hs2
  obtain ⟨kind, key, val, n, lo, hi⟩ := o
  dsimp only at hdo ⊢
  have HS := Lib.hid hs
  have HDO := Lib.hid hdo
  have HAS := Lib.hid hask
  have HS2 := Lib.hid hs2
  have HEL := Lib.hid hasel
  have HAZ := Lib.hid ans_size
  have HOZ := Lib.hid ord_size
  clear h ha hs hd hdo hrl hits hask hs2 hasel hl hn hln h0 h1 hap
  go_enter Tryz.func34, Tryz.ntmps34
  go_wp2_with (go_at_call 35; (with_reducible refine (HS.out _ (below_alloc (below_alloc (Below.refl _ w)))).mono ?_); rintro e w1 ⟨rfl, hb1⟩; have HXO := Lib.hid (show w1.heap[w.heap.size]? = some (.cells #[.int .i64 kind, .string key, .string val, .int .u64 n, .string lo, .string hi] 39 (0, 0)) from box_below (((Fr.refl (fun _ => False) _).alloc _).row id (heap_alloc_new w _)) hb1); have HXA := Lib.hid (show w1.heap[w.heap.size + 1]? = some (.cells #[.int .i64 a.err, .bool a.has, .string a.val, .slice A a.its.length c, .int .i64 a.st.a0, .int .i64 a.st.a1, .int .i64 a.st.a2, .int .i64 a.st.a3, .int .i64 a.st.a4, .int .i64 a.st.a5, .int .i64 a.st.a6, .int .i64 a.st.a7, .int .i64 a.st.a8] 35 (0, 0)) from box_below (heap_new_at (by simp)) hb1); have HB1 := Lib.hid (below_next (below_alloc (below_alloc (Below.refl _ w))) hb1); clear hb1)
  have xo := HXO.out
  have xa := HXA.out
  have B0 := HB1.out.drew
  refine rg_start (n := 7) (fun w' => w'.heap[w.heap.size]? = some (.cells #[.int .i64 kind, .string key, .string val, .int .u64 n, .string lo, .string hi] 39 (0, 0)) ∧ w'.heap[w.heap.size + 1]? = some (.cells #[.int .i64 a.err, .bool a.has, .string a.val, .slice A a.its.length c, .int .i64 a.st.a0, .int .i64 a.st.a1, .int .i64 a.st.a2, .int .i64 a.st.a3, .int .i64 a.st.a4, .int .i64 a.st.a5, .int .i64 a.st.a6, .int .i64 a.st.a7, .int .i64 a.st.a8] 35 (0, 0)) ∧ Fr (fun k => k = bm ∨ k = g) w w') #[false, false, false, false, false, false, false] (by kernel_rfl) rfl rfl ⟨xo, xa, Fr.of_below B0⟩ (fun hHeld => ?_)
  refine rg_take (i := 0) (N := (some 12)) (v := ?_) (a' := ?_) #[true, false, false, false, false, false, false] rfl rfl (by kernel_rfl) (fun _ _ _ h => h) (by rfl) ?_ hHeld ?_ ?_
  rotate_left 2
  · rintro w' ⟨s0, s1, s2⟩
    (refine Eq.trans (b := Result.ok (Next.value (.agg #[.int .i64 a.err, .bool a.has, .string a.val, .slice A a.its.length c, .int .i64 a.st.a0, .int .i64 a.st.a1, .int .i64 a.st.a2, .int .i64 a.st.a3, .int .i64 a.st.a4, .int .i64 a.st.a5, .int .i64 a.st.a6, .int .i64 a.st.a7, .int .i64 a.st.a8])) w') ?_ ?_; exact exec_range (cs := a.cells A c) rfl rfl (row_range s1) Tryz.underlying35 rfl HAZ.out; with_reducible rfl)
  · simp only [Act.put, List.setIfInBounds_toArray, List.set_cons_zero, List.set_cons_succ]
    rfl
  refine rg_take (i := 2) (N := (some 14)) (v := ?_) (a' := ?_) #[true, false, true, false, false, false, false] rfl rfl (by kernel_rfl) (fun _ _ _ h => h) (by rfl) ?_ hHeld ?_ ?_
  rotate_left 2
  · rintro w' ⟨s0, s1, s2⟩
    go_simp
    try with_reducible rfl
  · simp only [Act.put, List.setIfInBounds_toArray, List.set_cons_zero, List.set_cons_succ]
    rfl
  refine rg_take (i := 3) (N := (some 15)) (v := ?_) (a' := ?_) #[true, false, true, true, false, false, false] rfl rfl (by kernel_rfl) (fun _ _ _ h => h) (by rfl) ?_ hHeld ?_ ?_
  rotate_left 2
  · rintro w' ⟨s0, s1, s2⟩
    (refine Eq.trans (b := Result.ok (Next.value (.agg #[.int .i64 kind, .string key, .string val, .int .u64 n, .string lo, .string hi])) w') ?_ ?_; exact exec_range (cs := [.int .i64 kind, .string key, .string val, .int .u64 n, .string lo, .string hi]) rfl rfl (row_range s0) Tryz.underlying39 rfl HOZ.out; with_reducible rfl)
  · simp only [Act.put, List.setIfInBounds_toArray, List.set_cons_zero, List.set_cons_succ]
    rfl
  refine rg_one (i := 1) #[true, true, true, true, false, false, false] rfl (by kernel_rfl) (by rfl) (fun K hK => ?_)
  obtain ⟨s0, s1, s2⟩ := hHeld
  repeat go_step
  ((with_reducible refine (HAS.out _).mono ?_); rintro e w2 ⟨rfl, hb2⟩; have hf2 := s2.trans (Fr.of_below (S := fun k => k = bm ∨ k = g) hb2) (fun i _ e => e))
  try dsimp only
  refine hK.out _ _ ?_ (fun hHeld => ?_)
  · exact ⟨box_below s0 hb2, box_below s1 hb2, hf2⟩
  clear hK K
  clear s0 s1 s2
  refine rg_one (i := 4) #[true, true, true, true, true, false, false] rfl (by kernel_rfl) (by rfl) (fun K hK => ?_)
  obtain ⟨s0, s1, s2⟩ := hHeld
  repeat go_step
  ((first | (with_reducible refine (HDO.out _ (below_next B0 hb2)).mono ?_) | (with_reducible refine (HDO.out _ B0).mono ?_)); rintro e w3 ⟨A4, c4, g3, rfl, ho3, hm3, hg3, hf3⟩; have hsz3 := s2.size; have hx3 : w3.heap[w.heap.size]? = some (.cells #[.int .i64 kind, .string key, .string val, .int .u64 n, .string lo, .string hi] 39 (0, 0)) := hf3.row (by omega) s0; have hy3 : w3.heap[w.heap.size + 1]? = some (.cells #[.int .i64 a.err, .bool a.has, .string a.val, .slice A a.its.length c, .int .i64 a.st.a0, .int .i64 a.st.a1, .int .i64 a.st.a2, .int .i64 a.st.a3, .int .i64 a.st.a4, .int .i64 a.st.a5, .int .i64 a.st.a6, .int .i64 a.st.a7, .int .i64 a.st.a8] 35 (0, 0)) := hf3.row (by omega) s1; have hf4 := s2.trans hf3 (fun i _ e => e))
  try dsimp only
  refine hK.out _ _ ?_ (fun hHeld => ?_)
  · exact ⟨hx3, hy3, hf4⟩
  clear hK K
  clear s0 s1 s2
  refine rg_one (i := 5) #[true, true, true, true, true, true, false] rfl (by kernel_rfl) (by rfl) (fun K hK => ?_)
  obtain ⟨s0, s1, s2⟩ := hHeld
  repeat go_step
  ((first | (with_reducible refine (HS2.out _ _ _ (HEL.out _ s2) (ho3.elems Itm.clen)).mono ?_) | (with_reducible refine (HS2.out _ _ _ (HEL.out _ s2) ((ho3.below hb2).elems Itm.clen)).mono ?_)); rintro e w5 ⟨rfl, hb5⟩; have hf5 := s2.trans (Fr.of_below (S := fun k => k = bm ∨ k = g) hb5) (fun i _ e => e))
  try dsimp only
  refine hK.out _ _ ?_ (fun hHeld => ?_)
  · exact ⟨box_below s0 hb5, box_below s1 hb5, hf5⟩
  clear hK K
  clear s0 s1 s2
  refine rg_take (i := 6) (N := (some 6)) (v := ?_) (a' := ?_) #[true, true, true, true, true, true, true] rfl rfl (by kernel_rfl) (fun _ _ _ h => h) (by rfl) ?_ hHeld ?_ ?_
  rotate_left 2
  · rintro w' ⟨s0, s1, s2⟩
    go_simp
    try with_reducible rfl
  · simp only [Act.put, List.setIfInBounds_toArray, List.set_cons_zero, List.set_cons_succ]
    rfl
  refine rg_done (by kernel_rfl) ?_
  go_wp2
  go_ret
  exact ⟨g3, rfl, by first | exact hm3.below hb5 | exact (hm3.below hb2).below hb5, by omega, hHeld.2.2⟩
end Go.Proofs.YtdfgdnaejnngoaaGreat
namespace Go.Proofs.YtdfgdnaejnngoaaGreat
open Go.RowKit
/-! ModelRefuses: the plain law; items compared. -/
theorem eql_itm (a b : Itm) (w : World) : (binOp .eql 41 a.v b.v).run Tryz.prog w = .ok (.bool (decide (a = b))) w := by
  have u9 := Tryz.underlying9
  have a9 := Tryz.isAgg9
  have z9 := Tryz.sizeOf9
  have hS : Tryz.prog.underlying 41 = some (.struct (Tryz.prog.fieldsOf 41)) := by kernel_rfl
  have hp : Tryz.prog.stoodInHeld 41 = false := by kernel_rfl
  rw [Itm.v_def, Itm.v_def]
  rw [run_eql_struct, show (10000 : Nat) = 9999 + 1 from rfl, run_equalIn_agg w 9999 41 _ _ hS hp]
  simp only [Program.fieldsOf, Tryz.underlying41]
  go_simp
  obtain ⟨key, val⟩ := a
  obtain ⟨key', val'⟩ := b
  by_cases h2 : key = key' <;> by_cases h3 : val = val' <;> simp [h2, h3, bytes_inj]
theorem msgO_kind {o : Ord} {m : Mg} (h : msgO o = some m) : o.kind < 4 := by
  unfold msgO at h
  split at h
  · omega
  · split at h
    · omega
    · split at h
      · omega
      · cases h
theorem refuse_law {c : Int} {ls : List (List Itm)} {l : List Itm} {o : Ord} (hr : Rises l) (hl : ls[ls.length - 1]? = some l) (hc : sumW l ≤ c) :
    ∃ l', (rowsO c ls l o)[(rowsO c ls l o).length - 1]? = some l' ∧ (rowsO c ls l o).length ≤ ls.length + 1 ∧ l'.length ≤ l.length + 1 ∧ sumW l' ≤ c ∧
      ((l' = l ∧ (rowsO c ls l o).length = ls.length) ∨ (errO c l o = 0 ∧ o.kind < 4 ∧ (rowsO c ls l o).length = ls.length + 1) ∨ (l' = l ∧ errO c l o = 0 ∧ (o.kind = 6 ∨ o.kind = 7) ∧ (rowsO c ls l o).length = 1)) := by
  have keep : rowsO c ls l o = ls → ∃ l', (rowsO c ls l o)[(rowsO c ls l o).length - 1]? = some l' ∧ (rowsO c ls l o).length ≤ ls.length + 1 ∧ l'.length ≤ l.length + 1 ∧ sumW l' ≤ c ∧
      ((l' = l ∧ (rowsO c ls l o).length = ls.length) ∨ (errO c l o = 0 ∧ o.kind < 4 ∧ (rowsO c ls l o).length = ls.length + 1) ∨ (l' = l ∧ errO c l o = 0 ∧ (o.kind = 6 ∨ o.kind = 7) ∧ (rowsO c ls l o).length = 1)) := by
    intro e
    rw [e]
    exact ⟨l, hl, by omega, by omega, hc, .inl ⟨rfl, rfl⟩⟩
  by_cases ho : isOrd o = true
  · cases hm : msgO o with
    | some m =>
      have hR : rowsO c ls l o = rowsU c ls l m := by unfold rowsO; rw [if_pos ho, hm]
      have hE : errO c l o = errU c l m := by unfold errO; rw [if_pos ho, hm]
      by_cases ha : addsU c l m = true
      · have hR2 : rowsO c ls l o = ls ++ [doL l m] := by rw [hR]; unfold rowsU; rw [if_pos ha]
        have ha2 := ha
        unfold addsU at ha2
        simp only [Bool.and_eq_true, decide_eq_true_eq] at ha2
        have he0 : errO c l o = 0 := hE.trans ha2.1
        obtain ⟨_, h2⟩ := errO_ok he0
        obtain ⟨_, _, h3⟩ := h2 m hm
        have hs : sumW (doL l m) ≤ c := h3 (by
          have := ha2.2
          by_cases hk : m.kind = 2
          · left
            intro hg
            rw [hk, hg] at this
            simp at this
          · exact .inr hk)
        have hpl : (doL l m).length ≤ l.length + 1 := put_len hr _ _
        rw [hR2]
        exact ⟨doL l m, by simp, by simp, hpl, hs, .inr (.inl ⟨he0, msgO_kind hm, by simp⟩)⟩
      · exact keep (by rw [hR]; unfold rowsU; rw [if_neg ha])
    | none =>
      by_cases hk : o.kind = 4 ∨ o.kind = 5 ∨ o.kind = 8
      · exact keep (by unfold rowsO; rw [if_pos ho, hm]; dsimp only; rw [if_pos hk])
      · have hR : rowsO c ls l o = [l] := by unfold rowsO; rw [if_pos ho, hm]; dsimp only; rw [if_neg hk]
        have hE : errO c l o = 0 := by
          unfold errO
          rw [if_pos ho, hm]
          dsimp only
          rw [if_neg (fun e => hk (.inl e)), if_neg (fun e => hk (.inr (.inl e)))]
        have hkk : o.kind = 6 ∨ o.kind = 7 := by
          have h1 : okKind o.kind = true := by unfold isOrd at ho; simp at ho; exact ho.1
          unfold okKind at h1
          simp at h1
          unfold msgO at hm
          have n1 : ¬ o.kind = 1 := fun e => by simp [e] at hm
          have n2 : ¬ o.kind = 2 := fun e => by simp [e] at hm
          have n3 : ¬ o.kind = 3 := fun e => by simp [e] at hm
          omega
        rw [hR]
        exact ⟨l, rfl, by simp, by omega, hc, .inr (.inr ⟨rfl, hE, hkk, rfl⟩)⟩
  · exact keep (by unfold rowsO; rw [if_neg ho])
end Go.Proofs.YtdfgdnaejnngoaaGreat
namespace Go.Proofs.YtdfgdnaejnngoaaGreat
open Go.RowKit
/-! grangerlaw33.PruneSame. -/
theorem at_mod (x : Int) (n : Nat) (hn : n ≤ 1000) : ∃ k : Nat, k ≤ n ∧ wrap64 ((IntKind.u64.wrap x).tmod ((n : Int) + 1)) = (k : Int) := by
  have h0 : 0 ≤ IntKind.u64.wrap x := by
    simp [IntKind.wrap, IntKind.bits, IntKind.signed]
    omega
  have e : (IntKind.u64.wrap x).tmod ((n : Int) + 1) = (IntKind.u64.wrap x) % ((n : Int) + 1) := Int.tmod_eq_emod_of_nonneg h0
  have h1 := Int.emod_nonneg (IntKind.u64.wrap x) (show ((n : Int) + 1) ≠ 0 by omega)
  have h2 := Int.emod_lt_of_pos (IntKind.u64.wrap x) (show (0 : Int) < (n : Int) + 1 by omega)
  rw [e]
  generalize IntKind.u64.wrap x % ((n : Int) + 1) = y at *
  obtain ⟨k, rfl⟩ := Int.eq_ofNat_of_zero_le h1
  refine ⟨k, by omega, ?_⟩
  unfold wrap64
  omega
theorem okN_prune {os : List Ord} (h : okN os) : okN (pruneL os) := fun o ho => h o ((prune_sub os).subset ho)
theorem okK_prune {os : List Ord} (h : okK os) : okK (pruneL os) := fun o ho => h o ((prune_sub os).subset ho)
set_option maxHeartbeats 4000000 in
set_option maxRecDepth 100000 in
theorem same_any (at_ : Int) (A : Option Addr) (cap : Nat) (os : List Ord) (w : World) (hel : Elems w A 6 (os.map Ord.cells)) (hn : okN os) :
    Calls Tryz.prog 6 #[.int .i64 at_, .slice A os.length cap] w fun e w' => e = .returned (.bool true) ∧ Below w.heap.size w w' := by
  have haw := fun W => awake33_any W
  have hgr := fun W (hW : Below w.heap.size w W) => great_any A cap os W (hel.below hW)
  obtain ⟨k, hk, hK⟩ := at_mod at_ 448 (by decide)
  rw [show (((448 : Nat) : Int) + 1) = 449 from rfl] at hK
  have hw1 : wrap64 (64 + (k : Int)) = 64 + (k : Int) := by unfold wrap64; omega
  have HAW := Lib.hid haw
  have HGR := Lib.hid hgr
  have HEL := Lib.hid hel
  have HN := Lib.hid hn
  clear haw hgr hel hn
  go_enter Tryz.func6, Tryz.ntmps6
  go_wp2_with (first
    | (go_at_call 19; (with_reducible refine (HAW.out _).mono ?_); rintro e w1 ⟨rfl, hb1⟩; have HB1 := Lib.hid hb1; clear hb1)
    | (go_at_call 20; (with_reducible refine (HGR.out _ HB1.out).mono ?_); rintro e w2 ⟨b2, rfl, hsm, hb2⟩; have HB2 := Lib.hid (below_next HB1.out hb2); have HSM := Lib.hid hsm; clear hsm hb2))
  · go_ret
    exact ⟨rfl, HB2.out⟩
  · have hbf : b2 = false := by assumption
    obtain ⟨hl150, hsmall⟩ := HSM.out hbf
    have hks : okK os := fun o ho => (hsmall o ho).1
    generalize hNN : (64 : Int) + (k : Int) = N at *
    have hc := fun W => capaOf_ok N W (by omega) (by omega)
    have hpr := fun W (hW : Below w.heap.size w W) => prune_any A cap os W (HEL.out.below hW) (by omega) hks
    have hplen := (prune_sub os).length_le
    have hle : ¬ (os.length : Int) < ((pruneL os).length : Int) := by omega
    have hal : ∀ W A' c', Elems W A' 6 ((pruneL os).map Ord.cells) → Calls Tryz.prog 23 #[.slice A' (pruneL os).length c'] W fun e w' => ∃ A2 c2, e = .returned (.slice A2 (pruneL os).length c2) ∧ Below W.heap.size W w' := fun W A' c' h => by
      refine (alive_any A' c' (pruneL os) W h (by omega) (okK_prune hks)).mono ?_
      rintro e w' ⟨A2, c2, rfl, _, hb⟩
      exact ⟨A2, c2, by rw [alive_len, prune_twice], hb⟩
    have hpl := fun W (hW : Below w.heap.size w W) => isPlain_ok N A cap os W (by omega) (by omega) (HEL.out.below hW) (by omega) HN.out
    rw [planA_def] at hc hpl
    cases hR : plainL (pCap N) [] os with
    | false =>
      rw [hR] at hpl
      generalize pruneL os = P at *
      have HC := Lib.hid hc
      have HPR := Lib.hid hpr
      have HAL := Lib.hid hal
      have HPL := Lib.hid hpl
      clear hc hpr hal hpl hR hks hsmall hbf hplen hNN hK
      go_wp2_with (first
        | (go_at_call 21; (with_reducible refine (HC.out _).mono ?_); rintro e w3 ⟨rfl, hb3⟩; have HB3 := Lib.hid (below_next HB2.out hb3); clear hb3)
        | (go_at_call 25; (with_reducible refine (HPR.out _ (below_alloc HB3.out)).mono ?_); rintro e w4 ⟨A4, c4, rfl, ho4, hb4⟩; have hp4 : w4.heap[w3.heap.size]? = some (.cells #[.int .i64 N, .int .i64 (pLog N), .int .i64 (2 + pLog N), .int .i64 (pData N), .int .i64 (pHalf N), .int .i64 (pLeaves N), .int .i64 (pCap N)] 26 (0, 0)) := box_below (heap_alloc_new w3 _) hb4; have HP4 := Lib.hid hp4; have HO4 := Lib.hid ho4; have HB4 := Lib.hid (below_next (below_alloc HB3.out) hb4); clear hp4 ho4 hb4)
        | (go_at_call 23; (with_reducible refine (HAL.out _ _ _ (HO4.out.elems ordLen)).mono ?_); rintro e w5 ⟨A5, c5, rfl, hb5⟩; have hp5 : w5.heap[w3.heap.size]? = some (.cells #[.int .i64 N, .int .i64 (pLog N), .int .i64 (2 + pLog N), .int .i64 (pData N), .int .i64 (pHalf N), .int .i64 (pLeaves N), .int .i64 (pCap N)] 26 (0, 0)) := box_below HP4.out hb5; have HP5 := Lib.hid hp5; clear hp5; have hel5 := (HO4.out.elems ordLen).below hb5; have HE5 := Lib.hid hel5; have HB5 := Lib.hid (below_next HB4.out hb5); clear hb5 hel5; obtain ⟨z0, z1, z2, z3, z4, z5, z6⟩ : w5.cell? ⟨w3.heap.size, 0, none⟩ = some (.int .i64 N) ∧ w5.cell? ⟨w3.heap.size, 1, none⟩ = some (.int .i64 (pLog N)) ∧ w5.cell? ⟨w3.heap.size, 2, none⟩ = some (.int .i64 (2 + pLog N)) ∧ w5.cell? ⟨w3.heap.size, 3, none⟩ = some (.int .i64 (pData N)) ∧ w5.cell? ⟨w3.heap.size, 4, none⟩ = some (.int .i64 (pHalf N)) ∧ w5.cell? ⟨w3.heap.size, 5, none⟩ = some (.int .i64 (pLeaves N)) ∧ w5.cell? ⟨w3.heap.size, 6, none⟩ = some (.int .i64 (pCap N)) := (by have hh := HP5.out; refine ⟨?_, ?_, ?_, ?_, ?_, ?_, ?_⟩ <;> (rw [Lib.cell_of_heap hh]; rfl)))
        | (go_at_call 26; (with_reducible refine (HPL.out _ HB5.out).mono ?_); rintro e w6 ⟨rfl, hb6⟩; have hp6 : w6.heap[w3.heap.size]? = some (.cells #[.int .i64 N, .int .i64 (pLog N), .int .i64 (2 + pLog N), .int .i64 (pData N), .int .i64 (pHalf N), .int .i64 (pLeaves N), .int .i64 (pCap N)] 26 (0, 0)) := box_below HP5.out hb6; have HP6 := Lib.hid hp6; clear hp6; have HE6 := Lib.hid (HE5.out.below hb6); have HB6 := Lib.hid (below_next HB5.out hb6); clear hb6; obtain ⟨y0, y1, y2, y3, y4, y5, y6⟩ : w6.cell? ⟨w3.heap.size, 0, none⟩ = some (.int .i64 N) ∧ w6.cell? ⟨w3.heap.size, 1, none⟩ = some (.int .i64 (pLog N)) ∧ w6.cell? ⟨w3.heap.size, 2, none⟩ = some (.int .i64 (2 + pLog N)) ∧ w6.cell? ⟨w3.heap.size, 3, none⟩ = some (.int .i64 (pData N)) ∧ w6.cell? ⟨w3.heap.size, 4, none⟩ = some (.int .i64 (pHalf N)) ∧ w6.cell? ⟨w3.heap.size, 5, none⟩ = some (.int .i64 (pLeaves N)) ∧ w6.cell? ⟨w3.heap.size, 6, none⟩ = some (.int .i64 (pCap N)) := (by have hh := HP6.out; refine ⟨?_, ?_, ?_, ?_, ?_, ?_, ?_⟩ <;> (rw [Lib.cell_of_heap hh]; rfl))))
      go_ret
      exact ⟨rfl, HB6.out⟩
    | true =>
      rw [hR] at hpl
      obtain ⟨hp1, hp2⟩ := prune_same (pCap N) os hR
      have hpl2 := fun W A' c' (h : Elems W A' 6 ((pruneL os).map Ord.cells)) => isPlain_ok N A' c' (pruneL os) W (by omega) (by omega) h (by omega) (okN_prune HN.out)
      rw [hp1, planA_def] at hpl2
      have hi1 := fun W A' c' (h : Elems W A' 6 ((pruneL os).map Ord.cells)) => pruneItems_any A' c' (pruneL os) W h (by omega) (okN_prune HN.out)
      rw [hp2] at hi1
      have hi2 := fun W (hW : Below w.heap.size w W) => pruneItems_any A cap os W (HEL.out.below hW) (by omega) HN.out
      have hil : (itemsO os).length ≤ 1000 := by
        have := items_len os (l := []) trivial
        unfold itemsO
        simp at this
        omega
      have hs := fun W A' c' A2 c2 h1 h2 => refSame_any A' A2 c' c2 (itemsO os) (itemsO os) W h1 h2 (by omega) (by omega)
      simp only [decide_true] at hs
      generalize itemsO os = I at *
      generalize pruneL os = P at *
      have HC := Lib.hid hc
      have HPR := Lib.hid hpr
      have HAL := Lib.hid hal
      have HPL := Lib.hid hpl
      have HPL2 := Lib.hid hpl2
      have HI1 := Lib.hid hi1
      have HI2 := Lib.hid hi2
      have HS := Lib.hid hs
      clear hc hpr hal hpl hpl2 hi1 hi2 hs hR hp1 hp2 hks hsmall hbf hplen hNN hK hil
      go_wp2_with (first
        | (go_at_call 21; (with_reducible refine (HC.out _).mono ?_); rintro e w3 ⟨rfl, hb3⟩; have HB3 := Lib.hid (below_next HB2.out hb3); clear hb3)
        | (go_at_call 25; (with_reducible refine (HPR.out _ (below_alloc HB3.out)).mono ?_); rintro e w4 ⟨A4, c4, rfl, ho4, hb4⟩; have hp4 : w4.heap[w3.heap.size]? = some (.cells #[.int .i64 N, .int .i64 (pLog N), .int .i64 (2 + pLog N), .int .i64 (pData N), .int .i64 (pHalf N), .int .i64 (pLeaves N), .int .i64 (pCap N)] 26 (0, 0)) := box_below (heap_alloc_new w3 _) hb4; have HP4 := Lib.hid hp4; have HO4 := Lib.hid ho4; have HB4 := Lib.hid (below_next (below_alloc HB3.out) hb4); clear hp4 ho4 hb4)
        | (go_at_call 23; (with_reducible refine (HAL.out _ _ _ (HO4.out.elems ordLen)).mono ?_); rintro e w5 ⟨A5, c5, rfl, hb5⟩; have hp5 : w5.heap[w3.heap.size]? = some (.cells #[.int .i64 N, .int .i64 (pLog N), .int .i64 (2 + pLog N), .int .i64 (pData N), .int .i64 (pHalf N), .int .i64 (pLeaves N), .int .i64 (pCap N)] 26 (0, 0)) := box_below HP4.out hb5; have HP5 := Lib.hid hp5; clear hp5; have hel5 := (HO4.out.elems ordLen).below hb5; have HE5 := Lib.hid hel5; have HB5 := Lib.hid (below_next HB4.out hb5); clear hb5 hel5; obtain ⟨z0, z1, z2, z3, z4, z5, z6⟩ : w5.cell? ⟨w3.heap.size, 0, none⟩ = some (.int .i64 N) ∧ w5.cell? ⟨w3.heap.size, 1, none⟩ = some (.int .i64 (pLog N)) ∧ w5.cell? ⟨w3.heap.size, 2, none⟩ = some (.int .i64 (2 + pLog N)) ∧ w5.cell? ⟨w3.heap.size, 3, none⟩ = some (.int .i64 (pData N)) ∧ w5.cell? ⟨w3.heap.size, 4, none⟩ = some (.int .i64 (pHalf N)) ∧ w5.cell? ⟨w3.heap.size, 5, none⟩ = some (.int .i64 (pLeaves N)) ∧ w5.cell? ⟨w3.heap.size, 6, none⟩ = some (.int .i64 (pCap N)) := (by have hh := HP5.out; refine ⟨?_, ?_, ?_, ?_, ?_, ?_, ?_⟩ <;> (rw [Lib.cell_of_heap hh]; rfl)))
        | (go_at_call 26; (with_reducible refine (HPL2.out _ _ _ HE6.out).mono ?_); rintro e w7 ⟨rfl, hb7⟩; have HE7 := Lib.hid (HE6.out.below hb7); have HB7 := Lib.hid (below_next HB6.out hb7); clear hb7)
        | (go_at_call 26; (with_reducible refine (HPL.out _ HB5.out).mono ?_); rintro e w6 ⟨rfl, hb6⟩; have hp6 : w6.heap[w3.heap.size]? = some (.cells #[.int .i64 N, .int .i64 (pLog N), .int .i64 (2 + pLog N), .int .i64 (pData N), .int .i64 (pHalf N), .int .i64 (pLeaves N), .int .i64 (pCap N)] 26 (0, 0)) := box_below HP5.out hb6; have HP6 := Lib.hid hp6; clear hp6; have HE6 := Lib.hid (HE5.out.below hb6); have HB6 := Lib.hid (below_next HB5.out hb6); clear hb6; obtain ⟨y0, y1, y2, y3, y4, y5, y6⟩ : w6.cell? ⟨w3.heap.size, 0, none⟩ = some (.int .i64 N) ∧ w6.cell? ⟨w3.heap.size, 1, none⟩ = some (.int .i64 (pLog N)) ∧ w6.cell? ⟨w3.heap.size, 2, none⟩ = some (.int .i64 (2 + pLog N)) ∧ w6.cell? ⟨w3.heap.size, 3, none⟩ = some (.int .i64 (pData N)) ∧ w6.cell? ⟨w3.heap.size, 4, none⟩ = some (.int .i64 (pHalf N)) ∧ w6.cell? ⟨w3.heap.size, 5, none⟩ = some (.int .i64 (pLeaves N)) ∧ w6.cell? ⟨w3.heap.size, 6, none⟩ = some (.int .i64 (pCap N)) := (by have hh := HP6.out; refine ⟨?_, ?_, ?_, ?_, ?_, ?_, ?_⟩ <;> (rw [Lib.cell_of_heap hh]; rfl)))
        | (go_at_call 29; (with_reducible refine (HI1.out _ _ _ HE7.out).mono ?_); rintro e w8 ⟨A8, c8, rfl, ho8, hb8⟩; have HO8 := Lib.hid ho8; have HB8 := Lib.hid (below_next HB7.out hb8); clear ho8 hb8)
        | (go_at_call 29; (with_reducible refine (HI2.out _ HB8.out).mono ?_); rintro e w9 ⟨A9, c9, rfl, ho9, hb9⟩; have HO9 := Lib.hid ho9; have HE8 := Lib.hid ((HO8.out.below hb9).elems Itm.clen); have HB9 := Lib.hid (below_next HB8.out hb9); clear ho9 hb9)
        | (go_at_call 28; (with_reducible refine (HS.out _ _ _ _ _ HE8.out (HO9.out.elems Itm.clen)).mono ?_); rintro e w10 ⟨rfl, hb10⟩; have HB10 := Lib.hid (below_next HB9.out hb10); clear hb10))
      go_ret
      exact ⟨rfl, HB10.out⟩
end Go.Proofs.YtdfgdnaejnngoaaGreat
namespace Go.Proofs.YtdfgdnaejnngoaaGreat
open Go.ChangeShapes Go.WideShapes Go.ChangeAt Go.RowKit Go.Deep
/-! What comes in: rows. -/

theorem own : ownKnob Tryz.prog.godebug = none := by kernel_rfl
theorem laidOut : laidOutB Tryz.prog = true := by kernel_rfl
theorem add_none (b off n : Nat) : (⟨b, off, none⟩ : Addr).add n = ⟨b, off + n, none⟩ := by unfold Addr.add; split <;> simp_all
theorem cell_lt {w : World} {a : Addr} {v : Value} (h : w.cell? a = some v) : a.block < w.heap.size := by
  rcases Nat.lt_or_ge a.block w.heap.size with hl | hl
  · exact hl
  · exfalso
    rw [World.cell?] at h
    simp [Array.getElem?_eq_none hl] at h
theorem list_of {α : Type} {P : Nat → α → Prop} : ∀ n : Nat, (∀ i, i < n → ∃ a, P i a) → ∃ l : List α, l.length = n ∧ ∀ i a, l[i]? = some a → P i a
  | 0, _ => ⟨[], rfl, fun i a h => by simp at h⟩
  | n + 1, h => by
    obtain ⟨l, hl, hp⟩ := list_of n (fun i hi => h i (by omega))
    obtain ⟨a, ha⟩ := h n (by omega)
    refine ⟨l ++ [a], by simp [hl], fun i b hb => ?_⟩
    rcases Nat.lt_or_ge i l.length with hi | hi
    · rw [List.getElem?_append_left hi] at hb
      exact hp i b hb
    · rw [List.getElem?_append_right hi] at hb
      have e : i - l.length = 0 := by
        have := (List.getElem?_eq_some_iff.1 hb).1
        simp at this
        omega
      rw [e] at hb
      simp at hb
      subst hb
      obtain rfl : i = n := by omega
      exact ha
section
variable {H : Type} {enc : TypeId × Value → H} {w : World} {base : Nat} {sp : Nat → Bool} {held : Bool}
set_option maxRecDepth 100000 in
/-- an argument that is a row -/
theorem rows_in {α : Type} {T e : TypeId} {k : Nat} (f : α → List Value) (Q : α → Prop) (hs : Tryz.prog.underlying T = some (.slice e)) (hk : Tryz.prog.cellsOf e = k) (h0 : 0 < k) (hlen : ∀ a, (f a).length = k)
    (hread : ∀ (fuel : Nat) (cs : List Value) (x : DataW H × List MemPlace), DataW.trod enc Tryz.prog w base sp held fuel e cs = some x → ∃ a, cs = f a ∧ Q a)
    {r : Reach} {b0 : Nat} {v : Value} {d : DataW H} {p : List MemPlace} (hv : Value.okWide Tryz.prog w r b0 T v) (h : DataW.Trod enc Tryz.prog w base sp held T v d p) :
    ∃ (A : Option Addr) (cap : Nat) (l : List α), v = .slice A l.length cap ∧ Elems w A k (l.map f) ∧ ∀ a ∈ l, Q a := by
  obtain ⟨A, len, cap, rfl⟩ := okWide_slice hs hv
  obtain ⟨fuel, hf⟩ := h
  rcases open_slice hs hf with ⟨hc, _⟩ | ⟨ad, len', cap', m, n, D, Pl, hc, _, hlc, _, hm, _, hat⟩
  · simp [Value.cells] at hc
    obtain ⟨rfl, rfl, rfl⟩ := hc
    exact ⟨none, 0, [], rfl, Elems.nil _ _ _, by simp⟩
  · simp [Value.cells] at hc
    obtain ⟨rfl, rfl, rfl⟩ := hc
    have hle : len ≤ m := by rw [hm]; split <;> omega
    obtain ⟨l, hl, hp⟩ := list_of (P := fun i (a : α) => (∀ j u, (f a)[j]? = some u → w.cell? (ad.add (i * k + j)) = some u) ∧ Q a) len (fun i hi => by
      obtain ⟨cs, hcs, htr⟩ := hat i (by omega)
      obtain ⟨a, rfl, hq⟩ := hread n cs _ htr
      obtain ⟨_, hcl, hcell⟩ := World.cells?_some hcs
      refine ⟨a, fun j u hu => ?_, hq⟩
      have hj := (List.getElem?_eq_some_iff.1 hu).1
      have := hcell j (by rw [← hcl]; exact hj)
      rw [add_add, hk] at this
      rw [this, hu])
    refine ⟨some ad, cap, l, by rw [hl], ?_, fun a ha => ?_⟩
    · intro i r hr
      rw [List.getElem?_map, Option.map_eq_some_iff] at hr
      obtain ⟨a, ha, rfl⟩ := hr
      have hi := (hp i a ha).1
      have hz := hi 0 _ (List.getElem?_eq_getElem (by rw [hlen]; exact h0))
      have hl0 : 0 < l.length := by have := (List.getElem?_eq_some_iff.1 ha).1; omega
      have hz0 := (hp 0 l[0] (List.getElem?_eq_getElem hl0)).1 0 _ (List.getElem?_eq_getElem (by rw [hlen]; exact h0))
      have hsp : ad.spot = none := by simpa [Addr.add] using World.cell?_spot hz0
      obtain ⟨b, off, spot⟩ := ad
      obtain rfl : spot = none := hsp
      refine ⟨b, off, rfl, ?_, fun j u hu => ?_⟩
      · have := cell_lt hz
        rw [add_none] at this
        exact this
      · have := hi j u hu
        rw [add_none, ← Nat.add_assoc] at this
        exact this
    · obtain ⟨i, hi⟩ := List.getElem?_of_mem ha
      exact (hp i a hi).2
end
end Go.Proofs.YtdfgdnaejnngoaaGreat
namespace Go.Proofs.YtdfgdnaejnngoaaGreat
open Go.ChangeShapes Go.WideShapes Go.ChangeAt Go.RowKit Go.Deep
/-! What comes in: orders. -/
def Ord.fits (o : Ord) : Prop := 0 ≤ o.n ∧ o.n.toNat < 18446744073709551616
theorem list_six {α : Type} {l : List α} (h : l.length = 6) : ∃ a b c d e f, l = [a, b, c, d, e, f] := by
  match l, h with
  | [a, b, c, d, e, f], _ => exact ⟨a, b, c, d, e, f, rfl⟩
theorem fits_of {n : Int} (h : (Lit.int .u64 n).wf = true) : 0 ≤ n ∧ n.toNat < 18446744073709551616 := by
  simp [Lit.wf, IntKind.min, IntKind.max, IntKind.signed, IntKind.bits] at h
  omega
theorem ord_type : ∃ fs : Array Field, Tryz.prog.underlying 39 = some (.struct fs) ∧ oneCellFields Tryz.prog fs = true ∧ fs.size = 6 ∧ fs[0]?.map (·.type) = some 3 ∧ fs[1]?.map (·.type) = some 9 ∧ fs[2]?.map (·.type) = some 9 ∧ fs[3]?.map (·.type) = some 37 ∧ fs[4]?.map (·.type) = some 9 ∧ fs[5]?.map (·.type) = some 9 :=
  ⟨_, Tryz.underlying39, by kernel_rfl, by kernel_rfl, by kernel_rfl, by kernel_rfl, by kernel_rfl, by kernel_rfl, by kernel_rfl, by kernel_rfl⟩
theorem ord_cells_of : Tryz.prog.cellsOf 39 = 6 := by kernel_rfl
section
variable {H : Type} {enc : TypeId × Value → H} {w : World} {base : Nat} {sp : Nat → Bool} {held : Bool}
/-- cells that read as an order are an order's -/
theorem ord_cells {fuel : Nat} {cs : List Value} {x : DataW H × List MemPlace} (h : DataW.trod enc Tryz.prog w base sp held fuel 39 cs = some x) : ∃ o : Ord, cs = o.cells ∧ o.fits := by
  obtain ⟨fs, hs, hone, hsz, t0, t1, t2, t3, t4, t5⟩ := ord_type
  obtain ⟨xs, n, _, _, hl, hx, hf⟩ := DataW.trod_struct hs h
  obtain ⟨c0, c1, c2, c3, c4, c5, rfl⟩ := list_six (hl.trans ord_cells_of)
  obtain ⟨x0, x1, x2, x3, x4, x5, rfl⟩ := list_six (hx.trans hsz)
  obtain ⟨g0, m0, u0⟩ := Option.map_eq_some_iff.1 t0
  obtain ⟨o0, k0⟩ := hone_of hone 0 g0 m0
  have f0 := hf 0 g0 m0
  rw [o0, k0, u0] at f0
  have f0 : DataW.trod enc Tryz.prog w base sp held n 3 [c0] = some x0 := f0
  obtain ⟨g1, m1, u1⟩ := Option.map_eq_some_iff.1 t1
  obtain ⟨o1, k1⟩ := hone_of hone 1 g1 m1
  have f1 := hf 1 g1 m1
  rw [o1, k1, u1] at f1
  have f1 : DataW.trod enc Tryz.prog w base sp held n 9 [c1] = some x1 := f1
  obtain ⟨g2, m2, u2⟩ := Option.map_eq_some_iff.1 t2
  obtain ⟨o2, k2⟩ := hone_of hone 2 g2 m2
  have f2 := hf 2 g2 m2
  rw [o2, k2, u2] at f2
  have f2 : DataW.trod enc Tryz.prog w base sp held n 9 [c2] = some x2 := f2
  obtain ⟨g3, m3, u3⟩ := Option.map_eq_some_iff.1 t3
  obtain ⟨o3, k3⟩ := hone_of hone 3 g3 m3
  have f3 := hf 3 g3 m3
  rw [o3, k3, u3] at f3
  have f3 : DataW.trod enc Tryz.prog w base sp held n 37 [c3] = some x3 := f3
  obtain ⟨g4, m4, u4⟩ := Option.map_eq_some_iff.1 t4
  obtain ⟨o4, k4⟩ := hone_of hone 4 g4 m4
  have f4 := hf 4 g4 m4
  rw [o4, k4, u4] at f4
  have f4 : DataW.trod enc Tryz.prog w base sp held n 9 [c4] = some x4 := f4
  obtain ⟨g5, m5, u5⟩ := Option.map_eq_some_iff.1 t5
  obtain ⟨o5, k5⟩ := hone_of hone 5 g5 m5
  have f5 := hf 5 g5 m5
  rw [o5, k5, u5] at f5
  have f5 : DataW.trod enc Tryz.prog w base sp held n 9 [c5] = some x5 := f5
  obtain ⟨k, h0, _, _⟩ := DataW.trod_int Tryz.underlying3 f0
  obtain ⟨s1, h1, _, _⟩ := DataW.trod_string Tryz.underlying9 f1
  obtain ⟨s2, h2, _, _⟩ := DataW.trod_string Tryz.underlying9 f2
  obtain ⟨n3, h3, _, hw⟩ := DataW.trod_int Tryz.underlying37 f3
  obtain ⟨s4, h4, _, _⟩ := DataW.trod_string Tryz.underlying9 f4
  obtain ⟨s5, h5, _, _⟩ := DataW.trod_string Tryz.underlying9 f5
  simp only [List.cons.injEq, and_true] at h0 h1 h2 h3 h4 h5
  subst h0 h1 h2 h3 h4 h5
  exact ⟨⟨k, s1, s2, n3, s4, s5⟩, by rw [Ord.cells_def], fits_of hw⟩
set_option maxRecDepth 100000 in
/-- an argument that is an order -/
theorem ord_in {r : Reach} {b0 : Nat} {v : Value} {d : DataW H} {p : List MemPlace} (hv : Value.okWide Tryz.prog w r b0 39 v) (h : DataW.Trod enc Tryz.prog w base sp held 39 v d p) : ∃ o : Ord, v = o.v ∧ o.fits := by
  obtain ⟨fs, hs, _⟩ := ord_type
  obtain ⟨cs, rfl, _⟩ := okWide_struct hs hv
  obtain ⟨fuel, hf⟩ := h
  obtain ⟨o, ho, hfit⟩ := ord_cells hf
  refine ⟨o, ?_, hfit⟩
  simp only [Value.cells] at ho
  obtain ⟨l⟩ := cs
  simp only at ho
  rw [ho, Ord.cells_def, Ord.v_def]
set_option maxRecDepth 100000 in
theorem ords_in {r : Reach} {b0 : Nat} {v : Value} {d : DataW H} {p : List MemPlace} (hv : Value.okWide Tryz.prog w r b0 47 v) (h : DataW.Trod enc Tryz.prog w base sp held 47 v d p) :
    ∃ (A : Option Addr) (cap : Nat) (l : List Ord), v = .slice A l.length cap ∧ Elems w A 6 (l.map Ord.cells) ∧ ∀ o ∈ l, o.fits :=
  rows_in Ord.cells Ord.fits Tryz.underlying47 (by kernel_rfl) (by decide) (fun _ => rfl) (fun _ _ _ h => ord_cells h) hv h
end
end Go.Proofs.YtdfgdnaejnngoaaGreat
