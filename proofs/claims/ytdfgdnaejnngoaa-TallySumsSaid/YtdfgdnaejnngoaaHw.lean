import Derived.Test.YtdfgdnaejnngoaaHp
import Derived.Test.YtdfgdnaejnngoaaOwn
import Derived.Test.YtdfgdnaejnngoaaOrd1
import Derived.RegionTactic
namespace Go.Proofs.Ytdfgdnaejnngoaa
open Go.RowKit
/-! container/heap over tally's ranks. -/

theorem inv_Less {w : World} {a : Addr} {s : Value} (h : w.cell? a = some s) (k : Nat) : (method (k + 1) 126 (.pointer (some a)) "Less").run Try.prog w = .ok (113, s) w := by
  have e : (method (k + 1) 126 (.pointer (some a)) "Less").run Try.prog w = (do let s ← load a; pure (113, s) : Sem (FuncId × Value)).run Try.prog w := by kernel_rfl
  rw [e]
  simp [h]
theorem ent_Less (args : Array Value) (w : World) : (callFunc 113 args).run Try.prog w = .ok (.enter 113 args) w := enters_of Try.func113 (by kernel_rfl) rfl args w
theorem inv_Swap {w : World} {a : Addr} {s : Value} (h : w.cell? a = some s) (k : Nat) : (method (k + 1) 126 (.pointer (some a)) "Swap").run Try.prog w = .ok (114, s) w := by
  have e : (method (k + 1) 126 (.pointer (some a)) "Swap").run Try.prog w = (do let s ← load a; pure (114, s) : Sem (FuncId × Value)).run Try.prog w := by kernel_rfl
  rw [e]
  simp [h]
theorem ent_Swap (args : Array Value) (w : World) : (callFunc 114 args).run Try.prog w = .ok (.enter 114 args) w := enters_of Try.func114 (by kernel_rfl) rfl args w
theorem inv_Len {w : World} {a : Addr} {s : Value} (h : w.cell? a = some s) (k : Nat) : (method (k + 1) 126 (.pointer (some a)) "Len").run Try.prog w = .ok (54, s) w := by
  have e : (method (k + 1) 126 (.pointer (some a)) "Len").run Try.prog w = (do let s ← load a; pure (54, s) : Sem (FuncId × Value)).run Try.prog w := by kernel_rfl
  rw [e]
  simp [h]
theorem ent_Len (args : Array Value) (w : World) : (callFunc 54 args).run Try.prog w = .ok (.enter 54 args) w := enters_of Try.func54 (by kernel_rfl) rfl args w
theorem inv_Pop {w : World} {a : Addr} (k : Nat) : (method (k + 1) 126 (.pointer (some a)) "Pop").run Try.prog w = .ok (115, .pointer (some a)) w := by kernel_rfl
theorem ent_Pop (args : Array Value) (w : World) : (callFunc 115 args).run Try.prog w = .ok (.enter 115 args) w := enters_of Try.func115 (by kernel_rfl) rfl args w
theorem Rk.clen (r : Rk) : r.cells.length = 2 := rfl
theorem rkLen_any (w : World) (A : Option Addr) (n cap : Nat) : Calls Try.prog 54 #[.slice A n cap] w fun e w' => e = .returned (.int .i64 n) ∧ w = w' := by
  go_enter Try.func54, Try.ntmps54
  go_wp2
  go_ret
  exact ⟨rfl, rfl⟩
theorem rkLess_any (w : World) (B n cap : Nat) (A : Option Addr) (l : List Rk) (i j : Nat) (x y : Rk) (h : OwnsG Rk.cells 2 124 w B (.slice A n cap) l) (hx : l[i]? = some x) (hy : l[j]? = some y) :
    Calls Try.prog 113 #[.slice A n cap, .int .i64 i, .int .i64 j] w fun e w' => e = .returned (.bool (Rk.lt x y)) ∧ Below w.heap.size w w' := by
  obtain ⟨g, rfl, hB, hg, hcap, cx⟩ := h.row Rk.clen hx
  obtain ⟨g', e', _, _, _, cy⟩ := h.row Rk.clen hy
  cases e'
  have x0 := cx 0 _ rfl
  have x1 := cx 1 _ rfl
  have y0 := cy 0 _ rfl
  have y1 := cy 1 _ rfl
  simp only [Nat.add_zero] at x0 y0
  have hi := (List.getElem?_eq_some_iff.1 hx).1
  have hj := (List.getElem?_eq_some_iff.1 hy).1
  have hn := h.len
  have hiI : (i : Int) < (n : Int) := by omega
  have hjI : (j : Int) < (n : Int) := by omega
  clear cx cy h hx hy hn hi hj
  obtain ⟨xk, xt⟩ := x
  obtain ⟨yk, yt⟩ := y
  dsimp only at x0 x1 y0 y1
  have HR := Lib.hid (show Rk.lt ⟨xk, xt⟩ ⟨yk, yt⟩ = (decide (yt < xt) || (decide (xt = yt) && decide (xk < yk))) from rfl)
  generalize Rk.lt ⟨xk, xt⟩ ⟨yk, yt⟩ = R at HR
  by_cases h1 : yt < xt
  · go_enter Try.func113, Try.ntmps113
    go_wp2
    go_quiet (fail)
    go_wp2
    go_ret
    exact ⟨ret_bool (by rw [HR.out]; simp [h1]), (by repeat (first | assumption | exact Below.refl _ _ | (refine below_step (w := ?_) ?_ ?_ ?_; rotate_left 2; assumption) | refine Below.drew ?_ | refine below_drewN ?_ _ | refine Below.alloc ?_ ?_ _ | refine Below.setCell ?_ ?_ _ | (focus (simp; done)) | (focus (simp; omega)) | omega))⟩
  · have d1 : decide (yt < xt) = false := by simp [h1]
    by_cases h2 : xt = yt
    · go_enter Try.func113, Try.ntmps113
      go_wp2
      go_quiet (fail)
      go_wp2
      go_ret
      exact ⟨ret_bool (by rw [HR.out]; simp [h2]), (by repeat (first | assumption | exact Below.refl _ _ | (refine below_step (w := ?_) ?_ ?_ ?_; rotate_left 2; assumption) | refine Below.drew ?_ | refine below_drewN ?_ _ | refine Below.alloc ?_ ?_ _ | refine Below.setCell ?_ ?_ _ | (focus (simp; done)) | (focus (simp; omega)) | omega))⟩
    · have d2 : (xt == yt) = false := by simp [h2]
      go_enter Try.func113, Try.ntmps113
      go_wp2
      go_quiet (fail)
      go_wp2
      go_ret
      exact ⟨ret_bool (by rw [HR.out]; simp [h1, h2]), (by repeat (first | assumption | exact Below.refl _ _ | (refine below_step (w := ?_) ?_ ?_ ?_; rotate_left 2; assumption) | refine Below.drew ?_ | refine below_drewN ?_ _ | refine Below.alloc ?_ ?_ _ | refine Below.setCell ?_ ?_ _ | (focus (simp; done)) | (focus (simp; omega)) | omega))⟩
theorem rkSwap_any (w : World) (B n cap : Nat) (A : Option Addr) (l : List Rk) (i j : Nat) (x y : Rk) (h : OwnsG Rk.cells 2 124 w B (.slice A n cap) l) (hx : l[i]? = some x) (hy : l[j]? = some y) :
    Calls Try.prog 114 #[.slice A n cap, .int .i64 i, .int .i64 j] w fun e w' => e = .returned (.tuple #[]) ∧ OwnsG Rk.cells 2 124 w' B (.slice A n cap) (swapL l i j) ∧ Fr (fun k => A = some ⟨k, 0, none⟩) w w' := by
  obtain ⟨g, rfl, hB, hg, hcap, cx⟩ := h.row Rk.clen hx
  obtain ⟨g', e', _, _, _, cy⟩ := h.row Rk.clen hy
  cases e'
  have x0 := cx 0 _ rfl
  have x1 := cx 1 _ rfl
  have y0 := cy 0 _ rfl
  have y1 := cy 1 _ rfl
  simp only [Nat.add_zero] at x0 y0
  have hi := (List.getElem?_eq_some_iff.1 hx).1
  have hj := (List.getElem?_eq_some_iff.1 hy).1
  have hn := h.len
  have hiI : (i : Int) < (n : Int) := by omega
  have hjI : (j : Int) < (n : Int) := by omega
  have f0 := h.unfrozen (i * 2)
  have f1 := h.unfrozen (i * 2 + 1)
  have f2 := h.unfrozen (j * 2)
  have f3 := h.unfrozen (j * 2 + 1)
  have H0 := Lib.hid h
  have HX := Lib.hid hx
  have HY := Lib.hid hy
  clear cx cy h hx hy hn hi hj
  obtain ⟨xk, xt⟩ := x
  obtain ⟨yk, yt⟩ := y
  dsimp only at x0 x1 y0 y1
  obtain ⟨v1, hv1⟩ := cell?_setCell_some (w := w) (p := ⟨g, i * 2, none⟩) (x := .int .i64 yk) (q := ⟨g, j * 2, none⟩) (v := .int .i64 yk) y0
  obtain ⟨v2, hv2⟩ := cell?_setCell_some (w := w) (p := ⟨g, i * 2, none⟩) (x := .int .i64 yk) (q := ⟨g, j * 2 + 1, none⟩) (v := .int .i64 yt) y1
  obtain ⟨v3, hv3⟩ := cell?_setCell_some (w := w.setCell ⟨g, i * 2, none⟩ (.int .i64 yk)) (p := ⟨g, i * 2 + 1, none⟩) (x := .int .i64 yt) (q := ⟨g, j * 2 + 1, none⟩) (v := v2) hv2
  go_enter Try.func114, Try.ntmps114
  go_wp2
  go_region
  go_end0
  have HX1 := HX.out
  have HY1 := HY.out
  have w1 := H0.out.write Rk.clen (List.getElem?_eq_some_iff.1 HX1).1 ⟨yk, yt⟩
  have w2 := w1.write (i := j) Rk.clen (by rw [List.length_set]; exact (List.getElem?_eq_some_iff.1 HY1).1) ⟨xk, xt⟩
  rw [← swapL_eq HX1 HY1] at w2
  refine ⟨rfl, w2, ?_⟩
  have f1 := wrW_fr (g := g) (Rk.cells ⟨yk, yt⟩) w (i * 2)
  have f2 := wrW_fr (g := g) (Rk.cells ⟨xk, xt⟩) (wrW w g (i * 2) (Rk.cells ⟨yk, yt⟩)) (j * 2)
  exact ((f1.trans f2 (fun _ _ h => h)).mono (fun k _ h => by subst h; rfl)).drew

/-- a heap of ranks: a variable, and its row -/
def RSt (w : World) (bh : Nat) (A : Option Addr) (m cap : Nat) (l : List Rk) : Prop := l.length = m ∧ w.heap[bh]? = some (.cells #[.slice A m cap] 122 (0, 0)) ∧ OwnsG Rk.cells 2 124 w (bh + 1) (.slice A m cap) l
theorem RSt.c0 {w : World} {bh m cap : Nat} {A : Option Addr} {l : List Rk} (h : RSt w bh A m cap l) : w.cell? ⟨bh, 0, none⟩ = some (.slice A m cap) := by rw [Lib.cell_of_heap h.2.1]; rfl
theorem RSt.f0 {w : World} {bh m cap : Nat} {A : Option Addr} {l : List Rk} (h : RSt w bh A m cap l) : w.frozen? ⟨bh, 0, none⟩ = false := Lib.frozen_of_heap h.2.1 0
theorem RSt.lt {w : World} {bh m cap : Nat} {A : Option Addr} {l : List Rk} (h : RSt w bh A m cap l) : bh < w.heap.size := lt_of_row h.2.1
theorem RSt.fr {S : Nat → Prop} {w w' : World} {bh m cap : Nat} {A : Option Addr} {l : List Rk} (h : RSt w bh A m cap l) (hf : Fr S w w') (h0 : ¬ S bh) (hs : ∀ k, bh + 1 ≤ k → ¬ S k) : RSt w' bh A m cap l := ⟨h.1, hf.row h0 h.2.1, h.2.2.fr hf hs⟩
theorem RSt.below {w w' : World} {bh m cap : Nat} {A : Option Addr} {l : List Rk} (h : RSt w bh A m cap l) (hf : Below w.heap.size w w') : RSt w' bh A m cap l := h.fr (Fr.of_below (S := fun _ => False) hf) id (fun _ _ h => h)

/-- what heap's calls write -/
def RS (bh : Nat) (A : Option Addr) (k : Nat) : Prop := k = bh ∨ A = some ⟨k, 0, none⟩
theorem Fr.tr {S : Nat → Prop} {a b c : World} (h : Fr S a b) (k : Fr S b c) : Fr S a c := h.trans k (fun _ _ h => h)
theorem RSt.lt2 {w : World} {bh m cap k : Nat} {A : Option Addr} {l : List Rk} (h : RSt w bh A m cap l) (hk : RS bh A k) : bh ≤ k ∧ k < w.heap.size := by
  rcases hk with rfl | rfl
  · exact ⟨Nat.le_refl _, h.lt⟩
  · rcases h.2.2.2 with ⟨he, _⟩ | ⟨g, cap', cur, he, hb, hg, _⟩
    · cases he
    · cases he
      exact ⟨by omega, lt_of_row hg⟩
theorem less_at (w : World) (bh m cap : Nat) (A : Option Addr) (l : List Rk) (a b : Int) (i j : Nat) (x y : Rk) (r : Bool) (h : RSt w bh A m cap l) (ha : a = (i : Int)) (hb : b = (j : Int)) (hx : l[i]? = some x) (hy : l[j]? = some y) (hr : Rk.lt x y = r) :
    Calls Try.prog 113 #[.slice A m cap, .int .i64 a, .int .i64 b] w fun e w' => e = .returned (.bool r) ∧ RSt w' bh A m cap l ∧ Fr (RS bh A) w w' := by
  subst ha hb hr
  exact (rkLess_any w _ _ _ _ l i j x y h.2.2 hx hy).mono fun e w' ⟨he, hb⟩ => ⟨he, h.below hb, Fr.of_below hb⟩
theorem swap_at (w : World) (bh m cap : Nat) (A : Option Addr) (l : List Rk) (a b : Int) (i j : Nat) (x y : Rk) (h : RSt w bh A m cap l) (ha : a = (i : Int)) (hb : b = (j : Int)) (hx : l[i]? = some x) (hy : l[j]? = some y) :
    Calls Try.prog 114 #[.slice A m cap, .int .i64 a, .int .i64 b] w fun e w' => e = .returned (.tuple #[]) ∧ RSt w' bh A m cap (swapL l i j) ∧ Fr (RS bh A) w w' := by
  subst ha hb
  refine (rkSwap_any w _ _ _ _ l i j x y h.2.2 hx hy).mono fun e w' ⟨he, ho, hf⟩ => ?_
  obtain ⟨g, rfl, hB, _⟩ := h.2.2.row Rk.clen hx
  exact ⟨he, ⟨(swapL_length l i j).trans h.1, (hf.block bh h.lt (fun e => by cases e; omega)).trans h.2.1, ho⟩, hf.mono (fun k _ h => .inr h)⟩

theorem get_lt {α : Type} {l : List α} {i : Nat} (h : i < l.length) : ∃ x, l[i]? = some x := ⟨l[i], List.getElem?_eq_getElem h⟩
theorem swap_tail {α : Type} {l l' : List α} {n i j : Nat} (hi : i < n) (hj : j < n) (h : ∀ k, n ≤ k → l'[k]? = l[k]?) : ∀ k, n ≤ k → (swapL l' i j)[k]? = l[k]? := by
  intro k hk
  rw [← h k hk]
  unfold swapL
  split
  · rw [List.getElem?_set, List.getElem?_set, if_neg (by omega), if_neg (by omega)]
  · rfl

set_option maxHeartbeats 1000000 in
set_option maxRecDepth 100000 in
theorem down_any (w : World) (bh m cap s n i0 : Nat) (A : Option Addr) (l : List Rk) (i0' n' : Int) (hi0' : i0' = (i0 : Int)) (hn' : n' = (n : Int)) (h : RSt w bh A m cap l) (hn : n ≤ m) (hl : m ≤ 1000) (hi : i0 ≤ 1000) (hs : s ≤ i0) (hb : HeapBut Rk.lt s n i0 l) :
    Calls Try.prog 79 #[.iface 126 (.pointer (some ⟨bh, 0, none⟩)), .int .i64 i0', .int .i64 n'] w fun e w' => ∃ b l', e = .returned (.bool b) ∧ RSt w' bh A m cap l' ∧ HeapFrom Rk.lt s n l' ∧ l'.Perm l ∧ (∀ k, n ≤ k → l'[k]? = l[k]?) ∧ Fr (RS bh A) w w' := by
  subst hi0' hn'
  have eL : ∀ (W : World) (k : Nat), W.cell? ⟨bh, 0, none⟩ = some (.slice A m cap) → (method (k + 1) 126 (.pointer (some ⟨bh, 0, none⟩)) "Less").run Try.prog W = .ok (113, .slice A m cap) W := fun W k h => inv_Less h k
  have nL := ent_Less
  have eS : ∀ (W : World) (k : Nat), W.cell? ⟨bh, 0, none⟩ = some (.slice A m cap) → (method (k + 1) 126 (.pointer (some ⟨bh, 0, none⟩)) "Swap").run Try.prog W = .ok (114, .slice A m cap) W := fun W k h => inv_Swap h k
  have nS := ent_Swap
  have H0 := Lib.hid h
  have HB := Lib.hid hb
  clear h hb
  go_enter Try.func79, Try.ntmps79
  go_wp2
  go_loopw [7] (fun i wr => ∃ (k : Nat) (l' : List Rk), i = .int .i64 k ∧ k ≤ 1000 ∧ s ≤ k ∧ RSt wr bh A m cap l' ∧ HeapBut Rk.lt s n k l' ∧ l'.Perm l ∧ (∀ k, n ≤ k → l'[k]? = l[k]?) ∧ Fr (RS bh A) w wr) (fun i _ => 1001 - (intOf i).toNat)
  case atStart => exact ⟨i0, l, rfl, hi, hs, H0.out, HB.out, List.Perm.refl _, fun _ _ => rfl, Fr.refl _ _⟩
  case round =>
    obtain ⟨k, l', rfl, hk, hsk, hst, hbut, hperm, htail, hbel⟩ := hrel
    have c0 := hst.c0
    have hlen := Lib.hid hst.1
    have HT := Lib.hid htail
    have HP := Lib.hid hperm
    have HB1 := Lib.hid hbut
    have HST := Lib.hid hst
    clear hst htail hperm hbut
    by_cases h1 : n ≤ 2 * k + 1
    · have h1I : (n : Int) ≤ 2 * (k : Int) + 1 := by omega
      go_wp2
      go_ret
      exact ⟨_, l', rfl, HST.out, HB1.out.leaf h1, HP.out, HT.out, hbel⟩
    · have h1I : 2 * (k : Int) + 1 < (n : Int) := by omega
      obtain ⟨x, hx⟩ := get_lt (l := l') (i := k) (by rw [hlen.out]; omega)
      obtain ⟨y, hy⟩ := get_lt (l := l') (i := 2 * k + 1) (by rw [hlen.out]; omega)
      have HX := Lib.hid hx
      have HY := Lib.hid hy
      clear hx hy
      by_cases h2 : 2 * k + 2 < n
      · have h2I : 2 * (k : Int) + 1 + 1 < (n : Int) := by omega
        obtain ⟨z, hz⟩ := get_lt (l := l') (i := 2 * k + 2) (by rw [hlen.out]; omega)
        have HZ := Lib.hid hz
        clear hz
        cases hzy : Rk.lt z y
        · have HZY := Lib.hid hzy
          clear hzy
          have HC := Lib.hid (Child.left h2 HY.out HZ.out HZY.out)
          cases hvx : Rk.lt y x
          · have HVX := Lib.hid hvx
            clear hvx
            go_wp2_with fail
            refine Calls.mono (less_at _ bh m cap A l' _ _ (2 * k + 2) (2 * k + 1) z y _ HST.out ?_ ?_ HZ.out HY.out HZY.out) ?_
            · omega
            · omega
            rintro e w1 ⟨rfl, hs1, hb1⟩
            have c1 := hs1.c0
            have HS1 := Lib.hid hs1
            clear hs1
            go_wp2_with fail
            refine Calls.mono (less_at _ bh m cap A l' _ _ (2 * k + 1) k y x _ HS1.out ?_ ?_ HY.out HX.out HVX.out) ?_
            · omega
            · omega
            rintro e w2 ⟨rfl, hs2, hb2⟩
            have HS2 := Lib.hid hs2
            clear hs2
            go_wp2
            go_ret
            exact ⟨_, l', rfl, HS2.out, HB1.out.done Rk.law HC.out HX.out HY.out HVX.out, HP.out, HT.out, (hbel.tr hb1).tr hb2⟩
          · have HVX := Lib.hid hvx
            clear hvx
            go_wp2_with fail
            refine Calls.mono (less_at _ bh m cap A l' _ _ (2 * k + 2) (2 * k + 1) z y _ HST.out ?_ ?_ HZ.out HY.out HZY.out) ?_
            · omega
            · omega
            rintro e w1 ⟨rfl, hs1, hb1⟩
            have c1 := hs1.c0
            have HS1 := Lib.hid hs1
            clear hs1
            go_wp2_with fail
            refine Calls.mono (less_at _ bh m cap A l' _ _ (2 * k + 1) k y x _ HS1.out ?_ ?_ HY.out HX.out HVX.out) ?_
            · omega
            · omega
            rintro e w2 ⟨rfl, hs2, hb2⟩
            have c2 := hs2.c0
            have HS2 := Lib.hid hs2
            clear hs2
            go_wp2_with fail
            refine Calls.mono (swap_at _ bh m cap A l' _ _ k (2 * k + 1) x y HS2.out ?_ ?_ HX.out HY.out) ?_
            · omega
            · omega
            rintro e w3 ⟨rfl, hs3, hb3⟩
            have HS3 := Lib.hid hs3
            clear hs3
            go_wp2
            go_roundw
            case rel => exact ⟨2 * k + 1, _, by go_num, by omega, by omega, HS3.out, HB1.out.step Rk.law HC.out hsk HX.out HY.out HVX.out, (swapL_perm _ _ _).trans HP.out, swap_tail (by omega) (by omega) HT.out, ((hbel.tr hb1).tr hb2).tr hb3⟩
            case measure => simp [intOf]; omega
        · have HZY := Lib.hid hzy
          clear hzy
          have HC := Lib.hid (Child.right Rk.law h2 HY.out HZ.out HZY.out)
          cases hvx : Rk.lt z x
          · have HVX := Lib.hid hvx
            clear hvx
            go_wp2_with fail
            refine Calls.mono (less_at _ bh m cap A l' _ _ (2 * k + 2) (2 * k + 1) z y _ HST.out ?_ ?_ HZ.out HY.out HZY.out) ?_
            · omega
            · omega
            rintro e w1 ⟨rfl, hs1, hb1⟩
            have c1 := hs1.c0
            have HS1 := Lib.hid hs1
            clear hs1
            go_wp2_with fail
            refine Calls.mono (less_at _ bh m cap A l' _ _ (2 * k + 2) k z x _ HS1.out ?_ ?_ HZ.out HX.out HVX.out) ?_
            · omega
            · omega
            rintro e w2 ⟨rfl, hs2, hb2⟩
            have HS2 := Lib.hid hs2
            clear hs2
            go_wp2
            go_ret
            exact ⟨_, l', rfl, HS2.out, HB1.out.done Rk.law HC.out HX.out HZ.out HVX.out, HP.out, HT.out, (hbel.tr hb1).tr hb2⟩
          · have HVX := Lib.hid hvx
            clear hvx
            go_wp2_with fail
            refine Calls.mono (less_at _ bh m cap A l' _ _ (2 * k + 2) (2 * k + 1) z y _ HST.out ?_ ?_ HZ.out HY.out HZY.out) ?_
            · omega
            · omega
            rintro e w1 ⟨rfl, hs1, hb1⟩
            have c1 := hs1.c0
            have HS1 := Lib.hid hs1
            clear hs1
            go_wp2_with fail
            refine Calls.mono (less_at _ bh m cap A l' _ _ (2 * k + 2) k z x _ HS1.out ?_ ?_ HZ.out HX.out HVX.out) ?_
            · omega
            · omega
            rintro e w2 ⟨rfl, hs2, hb2⟩
            have c2 := hs2.c0
            have HS2 := Lib.hid hs2
            clear hs2
            go_wp2_with fail
            refine Calls.mono (swap_at _ bh m cap A l' _ _ k (2 * k + 2) x z HS2.out ?_ ?_ HX.out HZ.out) ?_
            · omega
            · omega
            rintro e w3 ⟨rfl, hs3, hb3⟩
            have HS3 := Lib.hid hs3
            clear hs3
            go_wp2
            go_roundw
            case rel => exact ⟨2 * k + 2, _, by go_num, by omega, by omega, HS3.out, HB1.out.step Rk.law HC.out hsk HX.out HZ.out HVX.out, (swapL_perm _ _ _).trans HP.out, swap_tail (by omega) (by omega) HT.out, ((hbel.tr hb1).tr hb2).tr hb3⟩
            case measure => simp [intOf]; omega
      · have h2I : (n : Int) ≤ 2 * (k : Int) + 1 + 1 := by omega
        have HC := Lib.hid (Child.left_alone (lt := Rk.lt) (l := l') (show 2 * k + 1 < n by omega) (show n ≤ 2 * k + 2 by omega))
        cases hvx : Rk.lt y x
        · have HVX := Lib.hid hvx
          clear hvx
          go_wp2_with fail
          refine Calls.mono (less_at _ bh m cap A l' _ _ (2 * k + 1) k y x _ HST.out ?_ ?_ HY.out HX.out HVX.out) ?_
          · omega
          · omega
          rintro e w2 ⟨rfl, hs2, hb2⟩
          have HS2 := Lib.hid hs2
          clear hs2
          go_wp2
          go_ret
          exact ⟨_, l', rfl, HS2.out, HB1.out.done Rk.law HC.out HX.out HY.out HVX.out, HP.out, HT.out, hbel.tr hb2⟩
        · have HVX := Lib.hid hvx
          clear hvx
          go_wp2_with fail
          refine Calls.mono (less_at _ bh m cap A l' _ _ (2 * k + 1) k y x _ HST.out ?_ ?_ HY.out HX.out HVX.out) ?_
          · omega
          · omega
          rintro e w2 ⟨rfl, hs2, hb2⟩
          have c2 := hs2.c0
          have HS2 := Lib.hid hs2
          clear hs2
          go_wp2_with fail
          refine Calls.mono (swap_at _ bh m cap A l' _ _ k (2 * k + 1) x y HS2.out ?_ ?_ HX.out HY.out) ?_
          · omega
          · omega
          rintro e w3 ⟨rfl, hs3, hb3⟩
          have HS3 := Lib.hid hs3
          clear hs3
          go_wp2
          go_roundw
          case rel => exact ⟨2 * k + 1, _, by go_num, by omega, by omega, HS3.out, HB1.out.step Rk.law HC.out hsk HX.out HY.out HVX.out, (swapL_perm _ _ _).trans HP.out, swap_tail (by omega) (by omega) HT.out, (hbel.tr hb2).tr hb3⟩
          case measure => simp [intOf]; omega
end Go.Proofs.Ytdfgdnaejnngoaa
