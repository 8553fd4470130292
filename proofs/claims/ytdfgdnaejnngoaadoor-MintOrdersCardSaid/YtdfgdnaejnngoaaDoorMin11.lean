import Derived.Test.YtdfgdnaejnngoaaDoorMin10
import Derived.Test.YtdfgdnaejnngoaaDoorReg
namespace Go.Proofs.YtdfgdnaejnngoaaDoor
open Go.RowKit

/-- a deed's cells -/
def actCells (a : Int × Int) : List Value := [.int .i64 a.1, .int .i64 a.2]
def actFits (a : Int × Int) : Prop := -9223372036854775808 ≤ a.2 ∧ a.2 < 9223372036854775808
theorem Owns.row6 {w : World} {B : Nat} {A : Option Addr} {n cap : Nat} {l : List Ord} {e : TypeId} (h : Owns e w B (.slice A n cap) l) {j : Nat} {p : Ord} (hp : l[j]? = some p) : ∃ b, A = some ⟨b, 0, none⟩ ∧ B ≤ b ∧ b < w.heap.size ∧
    (w.cell? ⟨b, j * 6, none⟩ = some (.int .i64 p.kind) ∧ w.cell? ⟨b, j * 6 + 1, none⟩ = some (.string p.key) ∧ w.cell? ⟨b, j * 6 + 2, none⟩ = some (.string p.val) ∧ w.cell? ⟨b, j * 6 + 3, none⟩ = some (.int .u64 p.n) ∧ w.cell? ⟨b, j * 6 + 4, none⟩ = some (.string p.lo) ∧ w.cell? ⟨b, j * 6 + 5, none⟩ = some (.string p.hi)) := by
  have he := h.elems
  rcases h.2 with ⟨_, hn⟩ | ⟨g, cap', cur, e', hb, hgg, _⟩
  · have hj := (List.getElem?_eq_some_iff.1 hp).1
    omega
  · cases e'
    obtain ⟨b', off, e2, hl, hc⟩ := he j p.cells (by simp [hp])
    cases e2
    simp only [Nat.zero_add] at hc
    exact ⟨g, rfl, hb, hl, hc 0 _ rfl, hc 1 _ rfl, hc 2 _ rfl, hc 3 _ rfl, hc 4 _ rfl, hc 5 _ rfl⟩
theorem OwnsB.row1 {w : World} {B : Nat} {A : Option Addr} {n cap : Nat} {l : List Bool} (h : OwnsB w B (.slice A n cap) l) {j : Nat} {p : Bool} (hp : l[j]? = some p) : ∃ b, A = some ⟨b, 0, none⟩ ∧ B ≤ b ∧ b < w.heap.size ∧ w.cell? ⟨b, j, none⟩ = some (.bool p) := by
  have hj := (List.getElem?_eq_some_iff.1 hp).1
  rcases h.2 with ⟨_, hn⟩ | ⟨g, cap', cur, e', hb, hgg, _, _, _, htake⟩
  · omega
  · cases e'
    refine ⟨g, rfl, hb, (Array.getElem?_eq_some_iff.1 hgg).1, ?_⟩
    rw [Lib.cell_of_heap hgg]
    have h2 : (l.map Value.bool)[j]? = some (.bool p) := by simp [hp]
    rw [← htake, List.getElem?_take] at h2
    split at h2
    · simpa using h2
    · cases h2
theorem Owns.len {e : TypeId} {w : World} {B : Nat} {A : Option Addr} {n cap : Nat} {l : List Ord} (h : Owns e w B (.slice A n cap) l) : n = l.length := by
  rcases h.2 with ⟨e, hn⟩ | ⟨g, cap', cur, e', _⟩
  · cases e; exact hn.symm
  · cases e'; rfl
theorem ordersS_zero (x : Int) : (ordersS x 0).2 = x := by rw [ordersS]
theorem snd_of {α β : Type} {p : α × β} {a : α} {b : β} (h : p = (a, b)) : p.2 = b := by rw [h]
theorem ordersS_eq (x : Int) (j : Nat) : ordersS x (j + 1) = ((ordersS x j).1 ++ [(orderS (ordersS x j).2).1], (orderS (ordersS x j).2).2) := by rw [ordersS]
theorem ordersS_next (x : Int) (j : Nat) : (ordersS x (j + 1)).2 = (orderS (ordersS x j).2).2 := snd_of (ordersS_eq x j)
theorem keepS_zero (x : Int) : (keepS x 0).2 = x := by rw [keepS]
theorem keepS_eq (x : Int) (j : Nat) : keepS x (j + 1) = ((keepS x j).1 ++ [oddS (keepS x j).2], nS (keepS x j).2) := by rw [keepS]
theorem keepS_next (x : Int) (j : Nat) : (keepS x (j + 1)).2 = nS (keepS x j).2 := snd_of (keepS_eq x j)
theorem UAt.drew {w : World} {b : Nat} {x : Int} (h : UAt w b x) : UAt w.drew b x := h
theorem odd_tmod (x : Int) : oddS x = ((nZ (nS x)).tmod 2 == 1) := by rw [oddS]
theorem nx {w W W' : World} {b : Nat} (h : Below w.heap.size w W) (hf : Fr (fun j => j = b) W W') (h1 : w.heap.size ≤ b) : Below w.heap.size w W' := h.trans (hf.to_below h.size (fun i hi e => by omega))
theorem two_to_below {B bm bu : Nat} {w w' : World} (h : Fr (fun j => j = bm ∨ j = bu) w w') (hB : B ≤ w.heap.size) (h1 : B ≤ bm) (h2 : B ≤ bu) : Below B w w' := h.to_below hB (fun i hi e => by omega)
theorem fr_m {bm bu : Nat} {w w' w2 : World} (h : Fr (fun j => j = bm ∨ j = bu) w w') (k : Fr (fun j => j = bm) w' w2) : Fr (fun j => j = bm ∨ j = bu) w w2 := h.trans k (fun _ _ e => .inl e)
theorem fr_u {bm bu : Nat} {w w' w2 : World} (h : Fr (fun j => j = bm ∨ j = bu) w w') (k : Fr (fun j => j = bu) w' w2) : Fr (fun j => j = bm ∨ j = bu) w w2 := h.trans k (fun _ _ e => .inr e)
theorem fr_b {bm bu : Nat} {w w' w2 : World} (h : Fr (fun j => j = bm ∨ j = bu) w w') (k : Below w'.heap.size w' w2) : Fr (fun j => j = bm ∨ j = bu) w w2 := h.trans (Fr.of_below (S := fun _ => False) k) (fun _ _ e => e.elim)

set_option maxHeartbeats 4000000 in
set_option maxRecDepth 100000 in
theorem mint_exact (seed : Int) (A : Option Addr) (cap : Nat) (acts : List (Int × Int)) (w : World) (ht : Tab w.heap.size w) (he : Elems w A 2 (acts.map actCells)) (hfit : ∀ a ∈ acts, actFits a) :
    Calls Tryd.prog 3 #[.int .u64 seed, .slice A acts.length cap] w fun e w' => e = .returned (.bool true) ∧ Below w.heap.size w w' := by
  have hgr : Tryd.prog.eqGuardType Tryd.prog.depth 35 = false := by kernel_rfl
  have hgo : Tryd.prog.eqGuardType Tryd.prog.depth 37 = false := by kernel_rfl
  have heq0 : ∀ W : World, (binOp .eql 37 (.agg #[.int .i64 0, .string ⟨#[]⟩, .string ⟨#[]⟩, .int .u64 0, .string ⟨#[]⟩, .string ⟨#[]⟩]) (.agg #[.int .i64 0, .string ⟨#[]⟩, .string ⟨#[]⟩, .int .u64 0, .string ⟨#[]⟩, .string ⟨#[]⟩])).run Tryd.prog W = .ok (.bool true) W := fun W => (meql_ord (ord0 0) (ord0 0) W).trans (by simp)
  have hnil : ∀ W, Calls Tryd.prog 12 #[.pointer none] W fun e w' => e = .returned (.agg #[.int .i64 0, .string ⟨#[]⟩, .string ⟨#[]⟩, .int .u64 0, .string ⟨#[]⟩, .string ⟨#[]⟩]) ∧ Below W.heap.size W w' := fun W => mOrder_nil W
  have Hnil := Lib.hid hnil
  have Ht := Lib.hid ht
  have He := Lib.hid he
  have Hfit := Lib.hid hfit
  clear ht he hfit hnil
  go_enter Tryd.func3, Tryd.ntmps3
  go_wp2_with (first | (go_at_call 5; (with_reducible refine (awake_any _ Ht.out).mono ?_); rintro e w1 ⟨rfl, hb1⟩) | (go_at_call 6; (with_reducible refine (new_any _ _).mono ?_); rintro e w2 ⟨rfl, rfl⟩))
  have hm := (MAt.new w1 seed).below (Below.alloc (Below.refl _ _) (Nat.le_refl _) (.cells #[.int .u64 seed] 29))
  have hu : UAt ((w1.alloc (.cells #[.int .u64 seed] 52)).alloc (.cells #[.int .u64 seed] 29)) (w1.heap.size + 1) seed := heap_new_at (by simp)
  have hb := (below_alloc (o := .cells #[.int .u64 seed] 29) (below_alloc (o := .cells #[.int .u64 seed] 52) hb1))
  have hsz1 := hb1.size
  generalize hbm : w1.heap.size = bm at hm hu hsz1 ⊢
  generalize ((w1.alloc (.cells #[.int .u64 seed] 52)).alloc (.cells #[.int .u64 seed] 29)) = W0 at hm hu hb ⊢
  have hbu0 := hu.lt
  have HM0 := Lib.hid hm
  have HU0 := Lib.hid hu
  have HB0 := Lib.hid hb
  clear hm hu hb hb1 hbm
  go_loopw [7, 8, 9, 10, 11, 12, 13] (fun i _ _ _ _ _ _ wr => ∃ (k : Nat) (x : Int), k ≤ acts.length ∧ k ≤ 40 ∧ i = .int .i64 k ∧ MAt wr bm x ∧ UAt wr (bm + 1) x ∧ Below w.heap.size w wr) (fun i _ _ _ _ _ _ _ => 41 - (intOf i).toNat)
  case atStart => exact ⟨0, seed, Nat.zero_le _, by decide, rfl, HM0.out, HU0.out, HB0.out⟩
  case round =>
    obtain ⟨k, x, hk, hk40, rfl, hm, hu, hb⟩ := hrel
    have hbul := hu.lt
    by_cases hlt : k < acts.length
    · have hkI : (k : Int) < (acts.length : Int) := by omega
      by_cases h40 : k < 40
      · have h40I : (k : Int) < 40 := by omega
        obtain ⟨⟨kd, n⟩, hpk⟩ : ∃ s, acts[k]? = some s := ⟨acts[k], List.getElem?_eq_getElem hlt⟩
        obtain ⟨ba, oa, rfl, hbl, hc⟩ := He.out.below hb k (actCells (kd, n)) (by simp [hpk])
        have a0 := hc 0 _ rfl
        have a1 := hc 1 _ rfl
        simp only [Nat.add_zero] at a0
        have hfn := Hfit.out _ (List.mem_of_getElem? hpk)
        unfold actFits at hfn
        dsimp only at hfn
        have hT := Ht.out.on hb
        have HT := Lib.hid hT
        clear hc hpk hT
        by_cases h1 : kd = 1
        · subst h1
          have HN := Lib.hid (mNext_any bm x wr hm)
          have HV := Lib.hid (fun W h => uNext_any (bm + 1) x W h)
          generalize nZ (nS x) = z at HN HV
          generalize nS x = x1 at HN HV
          go_wp2_with (first | (go_at_call 7; (with_reducible refine HN.out.mono ?_); rintro e w2 ⟨rfl, hm2, hf2⟩; have hu2 := hu.fr hf2 (by omega)) | (go_at_call 8; (with_reducible refine (HV.out _ hu2).mono ?_); rintro e w3 ⟨rfl, hu3, hf3⟩))
          refine ⟨⟨k + 1, x1, by omega, by omega, by go_num, hm2.fr hf3 (by omega), hu3, nx (nx hb hf2 (by omega)) hf3 (by omega)⟩, ?_⟩
          simp [intOf]
          omega
        by_cases h2 : kd = 2
        · subst h2
          by_cases hn0 : 0 < n
          · have HN := Lib.hid (fun W h => mBelow_yes bm x n W h (by omega) (by omega))
            have HV := Lib.hid (uBelow_yes (bm + 1) x n wr hu (by omega) (by omega))
            generalize nZ (nS x) % n = z at HN HV
            generalize nS x = x1 at HN HV
            go_wp2_with (first | (go_at_call 9; (with_reducible refine HV.out.mono ?_); rintro e w2 ⟨rfl, hu2, hf2⟩; have hm2 := hm.fr hf2 (by omega)) | (go_at_call 10; (with_reducible refine (HN.out _ hm2).mono ?_); rintro e w3 ⟨rfl, hm3, hf3⟩))
            refine ⟨⟨k + 1, x1, by omega, by omega, by go_num, hm3, hu2.fr hf3 (by omega), nx (nx hb hf2 (by omega)) hf3 (by omega)⟩, ?_⟩
            simp [intOf]
            omega
          · have hn0I : n ≤ 0 := by omega
            have HN := Lib.hid (mBelow_no bm n wr (by omega))
            go_wp2_with (go_at_call 10; (with_reducible refine HN.out.mono ?_); rintro e w3 ⟨rfl, rfl⟩)
            refine ⟨⟨k + 1, x, by omega, by omega, by go_num, hm, hu, hb⟩, ?_⟩
            simp [intOf]
            omega
        by_cases h3 : kd = 3
        · subst h3
          have hN := mOrder_any bm w.heap.size x wr hm (by omega) HT.out
          have hV := fun W h => uOrder_any (bm + 1) x W h
          generalize orderS x = R at hN hV
          obtain ⟨⟨rk, rkey, rval, rn, rlo, rhi⟩, x1⟩ := R
          have hfo : ∀ W, Calls Tryd.prog 11 #[(.agg #[.int .i64 rk, .string rkey, .string rval, .int .u64 rn, .string rlo, .string rhi])] W fun e w' => e = .returned (.agg #[.int .i64 rk, .string rkey, .string rval, .int .u64 rn, .string rlo, .string rhi]) ∧ Below W.heap.size W w' := fun W => form_any ⟨rk, rkey, rval, rn, rlo, rhi⟩ W
          have hn0 : ∀ W : World, (binOp .neq 35 (.agg #[.int .i64 rk, .string rkey, .string rval, .int .u64 rn, .string rlo, .string rhi]) (.agg #[.int .i64 rk, .string rkey, .string rval, .int .u64 rn, .string rlo, .string rhi])).run Tryd.prog W = .ok (.bool false) W := fun W => (neq_ref ⟨rk, rkey, rval, rn, rlo, rhi⟩ ⟨rk, rkey, rval, rn, rlo, rhi⟩ W).trans (by simp)
          simp only [Ord.v_def] at hN hV
          have HN := Lib.hid hN
          have HV := Lib.hid hV
          have HF := Lib.hid hfo
          clear hN hV hfo
          go_wp2_with (first | (go_at_call 12; (with_reducible refine HN.out.mono ?_); rintro e w2 ⟨rfl, hm2, hf2⟩; have hu2 := hu.fr hf2 (by omega)) | (go_at_call 11; (with_reducible refine (HF.out _).mono ?_); rintro e w3 ⟨rfl, hb3⟩) | (go_at_call 13; (with_reducible refine (HV.out _ (hu2.below hb3)).mono ?_); rintro e w4 ⟨rfl, hu4, hf4⟩))
          refine ⟨⟨k + 1, x1, by omega, by omega, by go_num, (hm2.below hb3).fr hf4 (by omega), hu4, nx (below_next (nx hb hf2 (by omega)) hb3) hf4 (by omega)⟩, ?_⟩
          simp [intOf]
          omega
        by_cases h4 : kd = 4
        · subst h4
          have hN := mOrders_any n bm w.heap.size x wr hm (by omega) HT.out
          have hget := fun j hj => ordersS_get x (cntS n 400) j hj
          have hS0 := ordersS_zero x
          have hS1 := ordersS_next x
          have hcnt : n < 0 ∧ ((cntS n 400 : Nat) : Int) = 0 ∨ (0 ≤ n ∧ n ≤ 400) ∧ ((cntS n 400 : Nat) : Int) = n ∨ 400 < n ∧ ((cntS n 400 : Nat) : Int) = 400 := by unfold cntS; omega
          generalize cntS n 400 = N at hN hget hcnt
          have HN := Lib.hid hN
          have HG := Lib.hid hget
          have HS0 := Lib.hid hS0
          have HS1 := Lib.hid hS1
          clear hN hget hS0 hS1
          have hN400 : N ≤ 400 := by omega
          have hM : min (max n 0) 400 = (N : Int) := by omega
          clear hcnt
          go_wp2_with (go_at_call 14; (with_reducible refine HN.out.mono ?_); rintro e w2 ⟨⟨A2, c2, rfl, ho2⟩, hm2, hf2⟩)
          have hu2 := hu.fr hf2 (by omega)
          have hb2 := nx hb hf2 (by omega)
          generalize (ordersS x N).1 = l at ho2 HG
          have HU2 := Lib.hid hu2
          have HM2 := Lib.hid hm2
          have HO2 := Lib.hid ho2
          have SZ := Lib.hid hf2.size
          have HB2 := Lib.hid hb2
          clear hu2 hm2 ho2 hb2 hf2
          clear hM
          go_loopw [11] (fun i wr2 => ∃ j : Nat, j ≤ N ∧ i = .int .i64 j ∧ UAt wr2 (bm + 1) (ordersS x j).2 ∧ MAt wr2 bm (ordersS x N).2 ∧ Owns 37 wr2 wr.heap.size (.slice A2 N c2) l ∧ Below w.heap.size w wr2 ∧ wr.heap.size ≤ wr2.heap.size) (fun i _ => 401 - (intOf i).toNat)
          case atStart => exact ⟨0, Nat.zero_le _, rfl, by rw [HS0.out]; exact HU2.out, HM2.out, HO2.out, HB2.out, SZ.out⟩
          case round =>
            obtain ⟨j, hj, rfl, hu3, hm3, ho3, hb3, hsz3⟩ := hrel
            by_cases hjN : j < N
            · have hjI : (j : Int) < (N : Int) := by omega
              have hgj := HG.out j hjN
              have hnext := HS1.out j
              obtain ⟨g, rfl, hgB, hgl, q0, q1, q2, q3, q4, q5⟩ := ho3.row6 hgj
              have hV := fun W h => uOrder_any (bm + 1) (ordersS x j).2 W h
              generalize orderS (ordersS x j).2 = R at hV hnext q0 q1 q2 q3 q4 q5
              obtain ⟨⟨rk, rkey, rval, rn, rlo, rhi⟩, x1⟩ := R
              have hfo : ∀ W, Calls Tryd.prog 11 #[(.agg #[.int .i64 rk, .string rkey, .string rval, .int .u64 rn, .string rlo, .string rhi])] W fun e w' => e = .returned (.agg #[.int .i64 rk, .string rkey, .string rval, .int .u64 rn, .string rlo, .string rhi]) ∧ Below W.heap.size W w' := fun W => form_any ⟨rk, rkey, rval, rn, rlo, rhi⟩ W
              have hn0 : ∀ W : World, (binOp .neq 35 (.agg #[.int .i64 rk, .string rkey, .string rval, .int .u64 rn, .string rlo, .string rhi]) (.agg #[.int .i64 rk, .string rkey, .string rval, .int .u64 rn, .string rlo, .string rhi])).run Tryd.prog W = .ok (.bool false) W := fun W => (neq_ref ⟨rk, rkey, rval, rn, rlo, rhi⟩ ⟨rk, rkey, rval, rn, rlo, rhi⟩ W).trans (by simp)
              simp only [Ord.v_def] at hV
              dsimp only at hnext
              have HV := Lib.hid hV
              have HF := Lib.hid hfo
              have HX := Lib.hid hnext
              clear hV hfo hnext hgj
              go_wp2_with (first | (go_at_call 11; (with_reducible refine (HF.out _).mono ?_); rintro e w5 ⟨rfl, hb5⟩) | (go_at_call 13; (with_reducible refine (HV.out _ (hu3.below hb5)).mono ?_); rintro e w6 ⟨rfl, hu6, hf6⟩))
              refine ⟨⟨j + 1, by omega, by go_num, by rw [HX.out]; exact hu6, (hm3.below hb5).fr hf6 (by omega), (ho3.fr (Fr.of_below (S := fun _ => False) hb5) (fun _ _ h => h)).fr hf6 (fun i hi e => by omega), nx (below_next hb3 hb5) hf6 (by omega), by have := hb5.size; have := hf6.size; omega⟩, ?_⟩
              simp [intOf]
              omega
            · have hjI : (N : Int) ≤ (j : Int) := by omega
              obtain rfl : j = N := by omega
              go_wp2
              refine ⟨⟨k + 1, _, by omega, by omega, by go_num, hm3, hu3, hb3⟩, ?_⟩
              simp [intOf]
              omega
        have e1 : (kd == 1) = false := by simpa using h1
        have e2 : (kd == 2) = false := by simpa using h2
        have e3 : (kd == 3) = false := by simpa using h3
        have e4 : (kd == 4) = false := by simpa using h4
        have hN := mKeep_any n bm x wr hm
        have hget := fun j hj => keepS_get x (cntS n 2048) j hj
        have hS0 := keepS_zero x
        have hS1 := keepS_next x
        have hcnt : n < 0 ∧ ((cntS n 2048 : Nat) : Int) = 0 ∨ (0 ≤ n ∧ n ≤ 2048) ∧ ((cntS n 2048 : Nat) : Int) = n ∨ 2048 < n ∧ ((cntS n 2048 : Nat) : Int) = 2048 := by unfold cntS; omega
        generalize cntS n 2048 = N at hN hget hcnt
        have HN := Lib.hid hN
        have HG := Lib.hid hget
        have HS0 := Lib.hid hS0
        have HS1 := Lib.hid hS1
        clear hN hget hS0 hS1
        have hN2048 : N ≤ 2048 := by omega
        have hM : min (max n 0) 2048 = (N : Int) := by omega
        clear hcnt
        go_wp2_with (go_at_call 15; (with_reducible refine HN.out.mono ?_); rintro e w2 ⟨⟨A2, c2, rfl, ho2⟩, hm2, hf2⟩)
        have hu2 := hu.fr hf2 (by omega)
        have hb2 := nx hb hf2 (by omega)
        generalize (keepS x N).1 = l at ho2 HG
        have HU2 := Lib.hid hu2
        have HM2 := Lib.hid hm2
        have HO2 := Lib.hid ho2
        have SZ := Lib.hid hf2.size
        have HB2 := Lib.hid hb2
        clear hu2 hm2 ho2 hb2 hf2
        clear hM
        go_loopw [13] (fun i wr2 => ∃ j : Nat, j ≤ N ∧ i = .int .i64 j ∧ UAt wr2 (bm + 1) (keepS x j).2 ∧ MAt wr2 bm (keepS x N).2 ∧ OwnsB wr2 wr.heap.size (.slice A2 N c2) l ∧ Below w.heap.size w wr2 ∧ wr.heap.size ≤ wr2.heap.size) (fun i _ => 2049 - (intOf i).toNat)
        case atStart => exact ⟨0, Nat.zero_le _, rfl, by rw [HS0.out]; exact HU2.out, HM2.out, HO2.out, HB2.out, SZ.out⟩
        case round =>
          obtain ⟨j, hj, rfl, hu3, hm3, ho3, hb3, hsz3⟩ := hrel
          by_cases hjN : j < N
          · have hjI : (j : Int) < (N : Int) := by omega
            have hgj := HG.out j hjN
            have hnext := HS1.out j
            obtain ⟨g, rfl, hgB, hgl, q0⟩ := ho3.row1 hgj
            have hV := fun W h => uNext_any (bm + 1) (keepS x j).2 W h
            have hod := odd_tmod (keepS x j).2
            rw [hod] at q0
            generalize nZ (nS (keepS x j).2) = z at hV q0
            generalize nS (keepS x j).2 = x1 at hV hnext
            have HV := Lib.hid hV
            have HX := Lib.hid hnext
            clear hV hnext hgj hod
            go_wp2
            refine rg_start (n := 9) (fun w' => w'.cell? ⟨g, j, none⟩ = some (.bool (z.tmod 2 == 1))) #[false, false, false, false, false, false, false, false, false] (by kernel_rfl) rfl rfl q0 (fun hHeld => ?_)
            refine rg_take (i := 0) (N := (some 57)) (v := ?_) (a' := ?_) #[true, false, false, false, false, false, false, false, false] rfl rfl (by kernel_rfl) (fun _ _ _ h => h) (by rfl) ?_ hHeld ?_ ?_
            rotate_left 2
            · rintro w' s0
              go_simp
              try with_reducible rfl
            · simp only [Act.put, List.setIfInBounds_toArray, List.set_cons_zero, List.set_cons_succ]
              rfl
            refine rg_take (i := 1) (N := (some 58)) (v := ?_) (a' := ?_) #[true, true, false, false, false, false, false, false, false] rfl rfl (by kernel_rfl) (fun _ _ _ h => h) (by rfl) ?_ hHeld ?_ ?_
            rotate_left 2
            · rintro w' s0
              go_simp
              try with_reducible rfl
            · simp only [Act.put, List.setIfInBounds_toArray, List.set_cons_zero, List.set_cons_succ]
              rfl
            refine rg_take (i := 2) (N := (some 59)) (v := ?_) (a' := ?_) #[true, true, true, false, false, false, false, false, false] rfl rfl (by kernel_rfl) (fun _ _ _ h => h) (by rfl) ?_ hHeld ?_ ?_
            rotate_left 2
            · rintro w' s0
              go_simp
              try with_reducible rfl
            · simp only [Act.put, List.setIfInBounds_toArray, List.set_cons_zero, List.set_cons_succ]
              rfl
            refine rg_take (i := 3) (N := (some 60)) (v := ?_) (a' := ?_) #[true, true, true, true, false, false, false, false, false] rfl rfl (by kernel_rfl) (fun _ _ _ h => h) (by rfl) ?_ hHeld ?_ ?_
            rotate_left 2
            · rintro w' s0
              go_simp
              try with_reducible rfl
            · simp only [Act.put, List.setIfInBounds_toArray, List.set_cons_zero, List.set_cons_succ]
              rfl
            refine rg_take (i := 4) (N := (some 61)) (v := ?_) (a' := ?_) #[true, true, true, true, true, false, false, false, false] rfl rfl (by kernel_rfl) (fun _ _ _ h => h) (by rfl) ?_ hHeld ?_ ?_
            rotate_left 2
            · rintro w' s0
              go_simp
              try with_reducible rfl
            · simp only [Act.put, List.setIfInBounds_toArray, List.set_cons_zero, List.set_cons_succ]
              rfl
            refine rg_one (i := 5) #[true, true, true, true, true, true, false, false, false] rfl (by kernel_rfl) (by rfl) (fun K hK => ?_)
            have s0 := hHeld
            clear hHeld
            repeat go_step
            ((with_reducible refine (HV.out _ hu3.drew).mono ?_); rintro e w6 ⟨rfl, hu6, hf6⟩)
            try dsimp only
            refine hK.out _ _ ?_ (fun hHeld => ?_)
            · exact hf6.cell hgl (by omega) s0
            clear hK K
            clear s0
            refine rg_take (i := 6) (N := (some 63)) (v := ?_) (a' := ?_) #[true, true, true, true, true, true, true, false, false] rfl rfl (by kernel_rfl) (fun _ _ _ h => h) (by rfl) ?_ hHeld ?_ ?_
            rotate_left 2
            · rintro w' s0
              go_simp
              try with_reducible rfl
            · simp only [Act.put, List.setIfInBounds_toArray, List.set_cons_zero, List.set_cons_succ]
              rfl
            refine rg_take (i := 7) (N := (some 64)) (v := ?_) (a' := ?_) #[true, true, true, true, true, true, true, true, false] rfl rfl (by kernel_rfl) (fun _ _ _ h => h) (by rfl) ?_ hHeld ?_ ?_
            rotate_left 2
            · rintro w' s0
              go_simp
              try with_reducible rfl
            · simp only [Act.put, List.setIfInBounds_toArray, List.set_cons_zero, List.set_cons_succ]
              rfl
            refine rg_take (i := 8) (N := (some 65)) (v := ?_) (a' := ?_) #[true, true, true, true, true, true, true, true, true] rfl rfl (by kernel_rfl) (fun _ _ _ h => h) (by rfl) ?_ hHeld ?_ ?_
            rotate_left 2
            · rintro w' s0
              go_simp
              try with_reducible rfl
            · simp only [Act.put, List.setIfInBounds_toArray, List.set_cons_zero, List.set_cons_succ]
              rfl
            refine rg_done (by kernel_rfl) ?_
            all_goals go_wp2
            have hf7 := (Fr.refl (fun k => k = bm + 1) _).drew.trans hf6 (fun _ _ h => h)
            refine ⟨⟨j + 1, by omega, by go_num, by rw [HX.out]; exact hu6, hm3.fr hf7 (by omega), ho3.fr hf7 (fun i hi e => by omega), nx hb3 hf7 (by omega), by have := hf7.size; omega⟩, ?_⟩
            simp [intOf]
            omega
          · have hjI : (N : Int) ≤ (j : Int) := by omega
            obtain rfl : j = N := by omega
            go_wp2
            refine ⟨⟨k + 1, _, by omega, by omega, by go_num, hm3, hu3, hb3⟩, ?_⟩
            simp [intOf]
            omega
      · have h40I : (40 : Int) ≤ (k : Int) := by omega
        go_wp2_with (first | (go_at_call 7; (with_reducible refine (mNext_nil _).mono ?_); rintro e w2 ⟨rfl, rfl⟩) | (go_at_call 10; (with_reducible refine (mBelow_nil _ _).mono ?_); rintro e w2 ⟨rfl, rfl⟩) | (go_at_call 12; (with_reducible refine (Hnil.out _).mono ?_); rintro e w5 ⟨rfl, hb5⟩) | (go_at_call 14; (with_reducible refine (mOrders_nil _ _).mono ?_); rintro e w2 ⟨rfl, rfl⟩) | (go_at_call 15; (with_reducible refine (mKeep_nil _ _).mono ?_); rintro e w2 ⟨rfl, rfl⟩))
        go_ret
        exact ⟨rfl, below_next hb hb5⟩
    · have hkI : (acts.length : Int) ≤ (k : Int) := by omega
      go_wp2_with (first | (go_at_call 7; (with_reducible refine (mNext_nil _).mono ?_); rintro e w2 ⟨rfl, rfl⟩) | (go_at_call 10; (with_reducible refine (mBelow_nil _ _).mono ?_); rintro e w2 ⟨rfl, rfl⟩) | (go_at_call 12; (with_reducible refine (Hnil.out _).mono ?_); rintro e w5 ⟨rfl, hb5⟩) | (go_at_call 14; (with_reducible refine (mOrders_nil _ _).mono ?_); rintro e w2 ⟨rfl, rfl⟩) | (go_at_call 15; (with_reducible refine (mKeep_nil _ _).mono ?_); rintro e w2 ⟨rfl, rfl⟩))
      go_ret
      exact ⟨rfl, below_next hb hb5⟩

end Go.Proofs.YtdfgdnaejnngoaaDoor
