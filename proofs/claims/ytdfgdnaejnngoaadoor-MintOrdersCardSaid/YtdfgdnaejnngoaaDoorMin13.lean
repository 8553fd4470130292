import Derived.Test.YtdfgdnaejnngoaaDoorMin12
import Derived.Test.YtdfgdnaejnngoaaDoorMin11
namespace Go.Proofs.YtdfgdnaejnngoaaDoor
open Go.RowKit

theorem mneq_ord (a b : Ord) (w : World) : (binOp .neq 37 a.v b.v).run Tryd.prog w = .ok (.bool (!decide (a = b))) w := by
  have u3 := Tryd.underlying3
  have a3 := Tryd.isAgg3
  have z3 := Tryd.sizeOf3
  have u9 := Tryd.underlying9
  have a9 := Tryd.isAgg9
  have z9 := Tryd.sizeOf9
  have u22 := Tryd.underlying22
  have a22 := Tryd.isAgg22
  have z22 := Tryd.sizeOf22
  have hS : Tryd.prog.underlying 37 = some (.struct (Tryd.prog.fieldsOf 37)) := by kernel_rfl
  have hp : Tryd.prog.stoodInHeld 37 = false := by kernel_rfl
  rw [Ord.v_def, Ord.v_def]
  rw [run_neq_struct, show (10000 : Nat) = 9999 + 1 from rfl, run_equalIn_agg w 9999 37 _ _ hS hp]
  simp only [Program.fieldsOf, Tryd.underlying37]
  go_simp
  obtain ⟨k, key, val, n, lo, hi⟩ := a
  obtain ⟨k', key', val', n', lo', hi'⟩ := b
  by_cases h1 : k = k' <;> by_cases h2 : key = key' <;> by_cases h3 : val = val' <;> by_cases h4 : n = n' <;> by_cases h5 : lo = lo' <;> by_cases h6 : hi = hi' <;> simp [h1, h2, h3, h4, h5, h6, bytes_inj]

theorem or_keep {W0 W W' : World} {bb c : Nat} {rk rn : Int} {rkey rval rlo rhi : ByteArray} (h0 : Fr (fun k => k = bb) W0 W) (h1 : DAt W c ⟨rk, rkey, rval, rn, rlo, rhi⟩) (hf : Fr (fun k => k = bb) W W') (hc : c ≠ bb) :
    Fr (fun k => k = bb) W0 W' ∧ DAt W' c ⟨rk, rkey, rval, rn, rlo, rhi⟩ ∧ W'.cell? ⟨c, 0, none⟩ = some (.int .i64 rk) ∧ W'.cell? ⟨c, 1, none⟩ = some (.string rkey) ∧ W'.cell? ⟨c, 2, none⟩ = some (.string rval) ∧ W'.cell? ⟨c, 3, none⟩ = some (.int .u64 rn) ∧ W'.cell? ⟨c, 4, none⟩ = some (.string rlo) ∧ W'.cell? ⟨c, 5, none⟩ = some (.string rhi) := by
  have h1 := h1.fr hf hc
  exact ⟨h0.trans hf (fun _ _ h => h), h1, h1.c0, h1.c1, h1.c2, h1.c3, h1.c4, h1.c5⟩
theorem MAt.drew {w : World} {b : Nat} {x : Int} (h : MAt w b x) : MAt w.drew b x := h


set_option maxHeartbeats 4000000 in
set_option maxRecDepth 100000 in
theorem mint_orders (seed n : Int) (w : World) (ht : Tab w.heap.size w) : Calls Tryd.prog 4 #[.int .u64 seed, .int .i64 n] w fun e w' => e = .returned (.bool true) ∧ Below w.heap.size w w' := by
  have hgo : Tryd.prog.eqGuardType Tryd.prog.depth 37 = false := by kernel_rfl
  obtain ⟨r0, r1⟩ := wrap_range n
  have hq0 := Int.emod_nonneg (IntKind.u64.wrap n) (show (101 : Int) ≠ 0 by decide)
  have hq1 := Int.emod_lt_of_pos (IntKind.u64.wrap n) (show (0 : Int) < 101 by decide)
  have htm : (IntKind.u64.wrap n).tmod 101 = IntKind.u64.wrap n % 101 := Int.tmod_eq_emod_of_nonneg r0
  obtain ⟨K, hK⟩ := Int.eq_ofNat_of_zero_le hq0
  rw [hK] at htm hq1
  have hK1 : (K : Int) < 101 := hq1
  have hwk : wrap64 (K : Int) = K := by unfold wrap64; omega
  have hcn : cntS (K : Int) 400 = K := by unfold cntS; omega
  have Ht := Lib.hid ht
  clear ht hq0 hq1 r0 r1
  go_enter Tryd.func4, Tryd.ntmps4
  go_wp2_with (first | (go_at_call 5; (with_reducible refine (awake_any _ Ht.out).mono ?_); rintro e w1 ⟨rfl, hb1⟩) | (go_at_call 6; (with_reducible refine (new_any _ _).mono ?_); rintro e w2 ⟨rfl, rfl⟩))
  have hm := (MAt.new w1 seed).below (Below.alloc (Below.refl _ _) (Nat.le_refl _) (.cells #[.int .u64 seed] 52))
  have hu : MAt ((w1.alloc (.cells #[.int .u64 seed] 52)).alloc (.cells #[.int .u64 seed] 52)) (w1.heap.size + 1) seed := heap_new_at (by simp)
  have hb := (below_alloc (o := .cells #[.int .u64 seed] 52) (below_alloc (o := .cells #[.int .u64 seed] 52) hb1))
  have hsz1 := hb1.size
  generalize hbm : w1.heap.size = bm at hm hu hsz1 ⊢
  generalize ((w1.alloc (.cells #[.int .u64 seed] 52)).alloc (.cells #[.int .u64 seed] 52)) = W0 at hm hu hb ⊢
  have hbu0 := hu.lt
  have hN := mOrders_any (K : Int) bm w.heap.size seed W0 hm (by omega) (Ht.out.on hb)
  rw [hcn] at hN
  have hget := fun j hj => ordersS_get seed K j hj
  have HN := Lib.hid hN
  have HG := Lib.hid hget
  have HS0 := Lib.hid (ordersS_zero seed)
  have HS1 := Lib.hid (ordersS_next seed)
  have HU := Lib.hid hu
  have HB := Lib.hid hb
  clear hN hget hm hu hb hb1 hbm hcn
  go_wp2_with (go_at_call 14; (with_reducible refine HN.out.mono ?_); rintro e w2 ⟨⟨A2, c2, rfl, ho2⟩, hm2, hf2⟩)
  have hu2 := HU.out.fr hf2 (by omega)
  have hb2 := nx HB.out hf2 (by omega)
  generalize (ordersS seed K).1 = l at ho2 HG
  have HU2 := Lib.hid hu2
  have HM2 := Lib.hid hm2
  have HO2 := Lib.hid ho2
  have SZ := Lib.hid hf2.size
  have HB2 := Lib.hid hb2
  clear hu2 hm2 ho2 hb2 hf2
  go_loopw [9, 10] (fun i _ wr => ∃ j : Nat, j ≤ K ∧ i = .int .i64 j ∧ MAt wr (bm + 1) (ordersS seed j).2 ∧ MAt wr bm (ordersS seed K).2 ∧ Owns 37 wr W0.heap.size (.slice A2 K c2) l ∧ Below w.heap.size w wr ∧ W0.heap.size ≤ wr.heap.size) (fun i _ _ => 401 - (intOf i).toNat)
  case atStart => exact ⟨0, Nat.zero_le _, rfl, by rw [HS0.out]; exact HU2.out, HM2.out, HO2.out, HB2.out, SZ.out⟩
  case round =>
    obtain ⟨j, hj, rfl, hmb, hma, ho3, hb3, hsz3⟩ := hrel
    by_cases hjN : j < K
    · have hjI : (j : Int) < (K : Int) := by omega
      have hgj := HG.out j hjN
      have hnext := HS1.out j
      obtain ⟨g, rfl, hgB, hgl, q0, q1, q2, q3, q4, q5⟩ := ho3.row6 hgj
      have hO := fun W h ht => mOrder_any (bm + 1) w.heap.size (ordersS seed j).2 W h (by omega) ht
      have hgood := orderS_good (ordersS seed j).2
      generalize orderS (ordersS seed j).2 = R at hO hnext hgood q0 q1 q2 q3 q4 q5
      obtain ⟨⟨rk, rkey, rval, rn, rlo, rhi⟩, x1⟩ := R
      obtain ⟨g1, g2, g3, g4, g5, g6⟩ := hgood
      dsimp only at g2 g3 g4 g5 g6
      have hn0 : ∀ W : World, (binOp .neq 37 (.agg #[.int .i64 rk, .string rkey, .string rval, .int .u64 rn, .string rlo, .string rhi]) (.agg #[.int .i64 rk, .string rkey, .string rval, .int .u64 rn, .string rlo, .string rhi])).run Tryd.prog W = .ok (.bool false) W := fun W => (mneq_ord ⟨rk, rkey, rval, rn, rlo, rhi⟩ ⟨rk, rkey, rval, rn, rlo, rhi⟩ W).trans (by simp)
      have his : ∀ W, Calls Tryd.prog 16 #[(.agg #[.int .i64 rk, .string rkey, .string rval, .int .u64 rn, .string rlo, .string rhi])] W fun e w' => e = .returned (.bool true) ∧ Below W.heap.size W w' := fun W => by have h := is_any ⟨rk, rkey, rval, rn, rlo, rhi⟩ W; rw [g1] at h; exact h
      have hval := fun W => isVal_any rval W (by omega)
      have hrg := fun W => rangeIs_any rlo rhi W (by omega) (by omega) g6
      have hkey := fun (hle : rk ≤ 4) W => keyIs_any rkey W (by have := g3 hle; omega) (by have := g3 hle; omega)
      simp only [Ord.v_def] at hO
      dsimp only at hnext
      have HO := Lib.hid hO
      have HX := Lib.hid hnext
      have His := Lib.hid his
      have Hval := Lib.hid hval
      have Hrg := Lib.hid hrg
      clear hO hnext hgj his hval hrg g1 g2 g3 g4 g5 g6
      by_cases hle : rk ≤ 4
      · have Hkey := Lib.hid (hkey hle)
        clear hkey
        · skip
          go_wp2
          have hd := DAt.new wr ⟨rk, rkey, rval, rn, rlo, rhi⟩
          have hfa := (Fr.refl (fun k => k = bm + 1) wr).alloc (.cells #[.int .i64 rk, .string rkey, .string rval, .int .u64 rn, .string rlo, .string rhi] 37)
          have d0 := hd.c0; have d1 := hd.c1; have d2 := hd.c2; have d3 := hd.c3; have d4 := hd.c4; have d5 := hd.c5
          have HM := Lib.hid (hmb.fr ((Fr.refl (fun _ => False) wr).alloc (.cells #[.int .i64 rk, .string rkey, .string rval, .int .u64 rn, .string rlo, .string rhi] 37)) id).drew
          have HTW := Lib.hid (Ht.out.on ((below_alloc (o := (.cells #[.int .i64 rk, .string rkey, .string rval, .int .u64 rn, .string rlo, .string rhi] 37)) hb3).drew))
          refine rg_start (n := 35) (fun w' => Fr (fun k => k = bm + 1) wr w' ∧ DAt w' wr.heap.size ⟨rk, rkey, rval, rn, rlo, rhi⟩ ∧ w'.cell? ⟨wr.heap.size, 0, none⟩ = some (.int .i64 rk) ∧ w'.cell? ⟨wr.heap.size, 1, none⟩ = some (.string rkey) ∧ w'.cell? ⟨wr.heap.size, 2, none⟩ = some (.string rval) ∧ w'.cell? ⟨wr.heap.size, 3, none⟩ = some (.int .u64 rn) ∧ w'.cell? ⟨wr.heap.size, 4, none⟩ = some (.string rlo) ∧ w'.cell? ⟨wr.heap.size, 5, none⟩ = some (.string rhi)) #[false, false, false, false, false, false, false, false, false, false, false, false, false, false, false, false, false, false, false, false, false, false, false, false, false, false, false, false, false, false, false, false, false, false, false] (by kernel_rfl) rfl rfl ⟨hfa.drew, hd, d0, d1, d2, d3, d4, d5⟩ (fun hHeld => ?_)
          refine rg_take (i := 0) (N := (some 37)) (v := ?_) (a' := ?_) #[true, false, false, false, false, false, false, false, false, false, false, false, false, false, false, false, false, false, false, false, false, false, false, false, false, false, false, false, false, false, false, false, false, false, false] rfl rfl (by kernel_rfl) (fun _ _ _ h => h) (by rfl) ?_ hHeld ?_ ?_
          rotate_left 2
          · rintro w' ⟨s0, s1, s2, s3, s4, s5, s6, s7⟩
            go_simp
            try with_reducible rfl
          · simp only [Act.put, List.setIfInBounds_toArray, List.set_cons_zero, List.set_cons_succ]
            rfl
          refine rg_take (i := 2) (N := (some 39)) (v := ?_) (a' := ?_) #[true, false, true, false, false, false, false, false, false, false, false, false, false, false, false, false, false, false, false, false, false, false, false, false, false, false, false, false, false, false, false, false, false, false, false] rfl rfl (by kernel_rfl) (fun _ _ _ h => h) (by rfl) ?_ hHeld ?_ ?_
          rotate_left 2
          · rintro w' ⟨s0, s1, s2, s3, s4, s5, s6, s7⟩
            go_simp
            try with_reducible rfl
          · simp only [Act.put, List.setIfInBounds_toArray, List.set_cons_zero, List.set_cons_succ]
            rfl
          refine rg_one (i := 1) #[true, true, true, false, false, false, false, false, false, false, false, false, false, false, false, false, false, false, false, false, false, false, false, false, false, false, false, false, false, false, false, false, false, false, false] rfl (by kernel_rfl) (by rfl) (fun K hK => ?_)
          obtain ⟨s0, s1, s2, s3, s4, s5, s6, s7⟩ := hHeld
          repeat go_step
          ((with_reducible refine (HO.out _ HM.out HTW.out).mono ?_); rintro e w9 ⟨rfl, hm9, hf9⟩)
          try dsimp only
          refine hK.out _ _ ?_ (fun hHeld => ?_)
          · exact or_keep s0 s1 hf9 (by omega)
          clear hK K
          clear s0 s1 s2 s3 s4 s5 s6 s7
          refine rg_take (i := 3) (N := (some 40)) (v := ?_) (a' := ?_) #[true, true, true, true, false, false, false, false, false, false, false, false, false, false, false, false, false, false, false, false, false, false, false, false, false, false, false, false, false, false, false, false, false, false, false] rfl rfl (by kernel_rfl) (fun _ _ _ h => h) (by rfl) ?_ hHeld ?_ ?_
          rotate_left 2
          · rintro w' ⟨s0, s1, s2, s3, s4, s5, s6, s7⟩
            go_simp
            try with_reducible rfl
          · simp only [Act.put, List.setIfInBounds_toArray, List.set_cons_zero, List.set_cons_succ]
            rfl
          refine rg_take (i := 4) (N := (some 41)) (v := ?_) (a' := ?_) #[true, true, true, true, true, false, false, false, false, false, false, false, false, false, false, false, false, false, false, false, false, false, false, false, false, false, false, false, false, false, false, false, false, false, false] rfl rfl (by kernel_rfl) (fun _ _ _ h => h) (by rfl) ?_ hHeld ?_ ?_
          rotate_left 2
          · rintro w' ⟨s0, s1, s2, s3, s4, s5, s6, s7⟩
            go_simp
            try with_reducible rfl
          · simp only [Act.put, List.setIfInBounds_toArray, List.set_cons_zero, List.set_cons_succ]
            rfl
          refine rg_take (i := 5) (N := (some 42)) (v := ?_) (a' := ?_) #[true, true, true, true, true, true, false, false, false, false, false, false, false, false, false, false, false, false, false, false, false, false, false, false, false, false, false, false, false, false, false, false, false, false, false] rfl rfl (by kernel_rfl) (fun _ _ _ h => h) (by rfl) ?_ hHeld ?_ ?_
          rotate_left 2
          · rintro w' ⟨s0, s1, s2, s3, s4, s5, s6, s7⟩
            go_simp
            try with_reducible rfl
          · simp only [Act.put, List.setIfInBounds_toArray, List.set_cons_zero, List.set_cons_succ]
            rfl
          refine rg_one (i := 6) #[true, true, true, true, true, true, true, false, false, false, false, false, false, false, false, false, false, false, false, false, false, false, false, false, false, false, false, false, false, false, false, false, false, false, false] rfl (by kernel_rfl) (by rfl) (fun K hK => ?_)
          obtain ⟨s0, s1, s2, s3, s4, s5, s6, s7⟩ := hHeld
          repeat go_step
          ((with_reducible refine (His.out _).mono ?_); rintro e w10 ⟨rfl, hb10⟩)
          try dsimp only
          refine hK.out _ _ ?_ (fun hHeld => ?_)
          · exact or_keep s0 s1 (Fr.of_below hb10) (by omega)
          clear hK K
          clear s0 s1 s2 s3 s4 s5 s6 s7
          refine rg_take (i := 7) (N := (some 44)) (v := ?_) (a' := ?_) #[true, true, true, true, true, true, true, true, false, false, false, false, false, false, false, false, false, false, false, false, false, false, false, false, false, false, false, false, false, false, false, false, false, false, false] rfl rfl (by kernel_rfl) (fun _ _ _ h => h) (by rfl) ?_ hHeld ?_ ?_
          rotate_left 2
          · rintro w' ⟨s0, s1, s2, s3, s4, s5, s6, s7⟩
            go_simp
            try with_reducible rfl
          · simp only [Act.put, List.setIfInBounds_toArray, List.set_cons_zero, List.set_cons_succ]
            rfl
          refine rg_take (i := 8) (N := (some 45)) (v := ?_) (a' := ?_) #[true, true, true, true, true, true, true, true, true, false, false, false, false, false, false, false, false, false, false, false, false, false, false, false, false, false, false, false, false, false, false, false, false, false, false] rfl rfl (by kernel_rfl) (fun _ _ _ h => h) (by rfl) ?_ hHeld ?_ ?_
          rotate_left 2
          · rintro w' ⟨s0, s1, s2, s3, s4, s5, s6, s7⟩
            go_simp
            try with_reducible rfl
          · simp only [Act.put, List.setIfInBounds_toArray, List.set_cons_zero, List.set_cons_succ]
            rfl
          refine rg_take (i := 9) (N := (some 46)) (v := ?_) (a' := ?_) #[true, true, true, true, true, true, true, true, true, true, false, false, false, false, false, false, false, false, false, false, false, false, false, false, false, false, false, false, false, false, false, false, false, false, false] rfl rfl (by kernel_rfl) (fun _ _ _ h => h) (by rfl) ?_ hHeld ?_ ?_
          rotate_left 2
          · rintro w' ⟨s0, s1, s2, s3, s4, s5, s6, s7⟩
            go_simp
            try with_reducible rfl
          · simp only [Act.put, List.setIfInBounds_toArray, List.set_cons_zero, List.set_cons_succ]
            rfl
          refine rg_take (i := 10) (N := (some 47)) (v := ?_) (a' := ?_) #[true, true, true, true, true, true, true, true, true, true, true, false, false, false, false, false, false, false, false, false, false, false, false, false, false, false, false, false, false, false, false, false, false, false, false] rfl rfl (by kernel_rfl) (fun _ _ _ h => h) (by rfl) ?_ hHeld ?_ ?_
          rotate_left 2
          · rintro w' ⟨s0, s1, s2, s3, s4, s5, s6, s7⟩
            go_simp
            try with_reducible rfl
          · simp only [Act.put, List.setIfInBounds_toArray, List.set_cons_zero, List.set_cons_succ]
            rfl
          refine rg_take (i := 11) (N := (some 48)) (v := ?_) (a' := ?_) #[true, true, true, true, true, true, true, true, true, true, true, true, false, false, false, false, false, false, false, false, false, false, false, false, false, false, false, false, false, false, false, false, false, false, false] rfl rfl (by kernel_rfl) (fun _ _ _ h => h) (by rfl) ?_ hHeld ?_ ?_
          rotate_left 2
          · rintro w' ⟨s0, s1, s2, s3, s4, s5, s6, s7⟩
            go_simp
            try with_reducible rfl
          · simp only [Act.put, List.setIfInBounds_toArray, List.set_cons_zero, List.set_cons_succ]
            rfl
          refine rg_one (i := 12) #[true, true, true, true, true, true, true, true, true, true, true, true, true, false, false, false, false, false, false, false, false, false, false, false, false, false, false, false, false, false, false, false, false, false, false] rfl (by kernel_rfl) (by rfl) (fun K hK => ?_)
          obtain ⟨s0, s1, s2, s3, s4, s5, s6, s7⟩ := hHeld
          repeat go_step
          ((with_reducible refine (Hval.out _).mono ?_); rintro e w11 ⟨rfl, rfl⟩)
          try dsimp only
          refine hK.out _ _ ?_ (fun hHeld => ?_)
          · exact ⟨s0, s1, s2, s3, s4, s5, s6, s7⟩
          clear hK K
          clear s0 s1 s2 s3 s4 s5 s6 s7
          refine rg_take (i := 13) (N := (some 50)) (v := ?_) (a' := ?_) #[true, true, true, true, true, true, true, true, true, true, true, true, true, true, false, false, false, false, false, false, false, false, false, false, false, false, false, false, false, false, false, false, false, false, false] rfl rfl (by kernel_rfl) (fun _ _ _ h => h) (by rfl) ?_ hHeld ?_ ?_
          rotate_left 2
          · rintro w' ⟨s0, s1, s2, s3, s4, s5, s6, s7⟩
            go_simp
            try with_reducible rfl
          · simp only [Act.put, List.setIfInBounds_toArray, List.set_cons_zero, List.set_cons_succ]
            rfl
          refine rg_take (i := 14) (N := (some 51)) (v := ?_) (a' := ?_) #[true, true, true, true, true, true, true, true, true, true, true, true, true, true, true, false, false, false, false, false, false, false, false, false, false, false, false, false, false, false, false, false, false, false, false] rfl rfl (by kernel_rfl) (fun _ _ _ h => h) (by rfl) ?_ hHeld ?_ ?_
          rotate_left 2
          · rintro w' ⟨s0, s1, s2, s3, s4, s5, s6, s7⟩
            go_simp
            try with_reducible rfl
          · simp only [Act.put, List.setIfInBounds_toArray, List.set_cons_zero, List.set_cons_succ]
            rfl
          refine rg_take (i := 15) (N := (some 52)) (v := ?_) (a' := ?_) #[true, true, true, true, true, true, true, true, true, true, true, true, true, true, true, true, false, false, false, false, false, false, false, false, false, false, false, false, false, false, false, false, false, false, false] rfl rfl (by kernel_rfl) (fun _ _ _ h => h) (by rfl) ?_ hHeld ?_ ?_
          rotate_left 2
          · rintro w' ⟨s0, s1, s2, s3, s4, s5, s6, s7⟩
            go_simp
            try with_reducible rfl
          · simp only [Act.put, List.setIfInBounds_toArray, List.set_cons_zero, List.set_cons_succ]
            rfl
          refine rg_take (i := 16) (N := (some 53)) (v := ?_) (a' := ?_) #[true, true, true, true, true, true, true, true, true, true, true, true, true, true, true, true, true, false, false, false, false, false, false, false, false, false, false, false, false, false, false, false, false, false, false] rfl rfl (by kernel_rfl) (fun _ _ _ h => h) (by rfl) ?_ hHeld ?_ ?_
          rotate_left 2
          · rintro w' ⟨s0, s1, s2, s3, s4, s5, s6, s7⟩
            go_simp
            try with_reducible rfl
          · simp only [Act.put, List.setIfInBounds_toArray, List.set_cons_zero, List.set_cons_succ]
            rfl
          refine rg_take (i := 17) (N := (some 54)) (v := ?_) (a' := ?_) #[true, true, true, true, true, true, true, true, true, true, true, true, true, true, true, true, true, true, false, false, false, false, false, false, false, false, false, false, false, false, false, false, false, false, false] rfl rfl (by kernel_rfl) (fun _ _ _ h => h) (by rfl) ?_ hHeld ?_ ?_
          rotate_left 2
          · rintro w' ⟨s0, s1, s2, s3, s4, s5, s6, s7⟩
            go_simp
            try with_reducible rfl
          · simp only [Act.put, List.setIfInBounds_toArray, List.set_cons_zero, List.set_cons_succ]
            rfl
          refine rg_take (i := 18) (N := (some 55)) (v := ?_) (a' := ?_) #[true, true, true, true, true, true, true, true, true, true, true, true, true, true, true, true, true, true, true, false, false, false, false, false, false, false, false, false, false, false, false, false, false, false, false] rfl rfl (by kernel_rfl) (fun _ _ _ h => h) (by rfl) ?_ hHeld ?_ ?_
          rotate_left 2
          · rintro w' ⟨s0, s1, s2, s3, s4, s5, s6, s7⟩
            go_simp
            try with_reducible rfl
          · simp only [Act.put, List.setIfInBounds_toArray, List.set_cons_zero, List.set_cons_succ]
            rfl
          refine rg_take (i := 19) (N := (some 56)) (v := ?_) (a' := ?_) #[true, true, true, true, true, true, true, true, true, true, true, true, true, true, true, true, true, true, true, true, false, false, false, false, false, false, false, false, false, false, false, false, false, false, false] rfl rfl (by kernel_rfl) (fun _ _ _ h => h) (by rfl) ?_ hHeld ?_ ?_
          rotate_left 2
          · rintro w' ⟨s0, s1, s2, s3, s4, s5, s6, s7⟩
            go_simp
            try with_reducible rfl
          · simp only [Act.put, List.setIfInBounds_toArray, List.set_cons_zero, List.set_cons_succ]
            rfl
          refine rg_take (i := 20) (N := (some 57)) (v := ?_) (a' := ?_) #[true, true, true, true, true, true, true, true, true, true, true, true, true, true, true, true, true, true, true, true, true, false, false, false, false, false, false, false, false, false, false, false, false, false, false] rfl rfl (by kernel_rfl) (fun _ _ _ h => h) (by rfl) ?_ hHeld ?_ ?_
          rotate_left 2
          · rintro w' ⟨s0, s1, s2, s3, s4, s5, s6, s7⟩
            go_simp
            try with_reducible rfl
          · simp only [Act.put, List.setIfInBounds_toArray, List.set_cons_zero, List.set_cons_succ]
            rfl
          refine rg_take (i := 21) (N := (some 58)) (v := ?_) (a' := ?_) #[true, true, true, true, true, true, true, true, true, true, true, true, true, true, true, true, true, true, true, true, true, true, false, false, false, false, false, false, false, false, false, false, false, false, false] rfl rfl (by kernel_rfl) (fun _ _ _ h => h) (by rfl) ?_ hHeld ?_ ?_
          rotate_left 2
          · rintro w' ⟨s0, s1, s2, s3, s4, s5, s6, s7⟩
            go_simp
            try with_reducible rfl
          · simp only [Act.put, List.setIfInBounds_toArray, List.set_cons_zero, List.set_cons_succ]
            rfl
          refine rg_one (i := 22) #[true, true, true, true, true, true, true, true, true, true, true, true, true, true, true, true, true, true, true, true, true, true, true, false, false, false, false, false, false, false, false, false, false, false, false] rfl (by kernel_rfl) (by rfl) (fun K hK => ?_)
          obtain ⟨s0, s1, s2, s3, s4, s5, s6, s7⟩ := hHeld
          repeat go_step
          ((with_reducible refine (Hkey.out _).mono ?_); rintro e w12 ⟨rfl, rfl⟩)
          try dsimp only
          refine hK.out _ _ ?_ (fun hHeld => ?_)
          · exact ⟨s0, s1, s2, s3, s4, s5, s6, s7⟩
          clear hK K
          clear s0 s1 s2 s3 s4 s5 s6 s7
          refine rg_take (i := 23) (N := (some 60)) (v := ?_) (a' := ?_) #[true, true, true, true, true, true, true, true, true, true, true, true, true, true, true, true, true, true, true, true, true, true, true, true, false, false, false, false, false, false, false, false, false, false, false] rfl rfl (by kernel_rfl) (fun _ _ _ h => h) (by rfl) ?_ hHeld ?_ ?_
          rotate_left 2
          · rintro w' ⟨s0, s1, s2, s3, s4, s5, s6, s7⟩
            go_simp
            try with_reducible rfl
          · simp only [Act.put, List.setIfInBounds_toArray, List.set_cons_zero, List.set_cons_succ]
            rfl
          refine rg_take (i := 24) (N := (some 61)) (v := ?_) (a' := ?_) #[true, true, true, true, true, true, true, true, true, true, true, true, true, true, true, true, true, true, true, true, true, true, true, true, true, false, false, false, false, false, false, false, false, false, false] rfl rfl (by kernel_rfl) (fun _ _ _ h => h) (by rfl) ?_ hHeld ?_ ?_
          rotate_left 2
          · rintro w' ⟨s0, s1, s2, s3, s4, s5, s6, s7⟩
            go_simp
            try with_reducible rfl
          · simp only [Act.put, List.setIfInBounds_toArray, List.set_cons_zero, List.set_cons_succ]
            rfl
          refine rg_take (i := 25) (N := (some 62)) (v := ?_) (a' := ?_) #[true, true, true, true, true, true, true, true, true, true, true, true, true, true, true, true, true, true, true, true, true, true, true, true, true, true, false, false, false, false, false, false, false, false, false] rfl rfl (by kernel_rfl) (fun _ _ _ h => h) (by rfl) ?_ hHeld ?_ ?_
          rotate_left 2
          · rintro w' ⟨s0, s1, s2, s3, s4, s5, s6, s7⟩
            go_simp
            try with_reducible rfl
          · simp only [Act.put, List.setIfInBounds_toArray, List.set_cons_zero, List.set_cons_succ]
            rfl
          refine rg_take (i := 26) (N := (some 63)) (v := ?_) (a' := ?_) #[true, true, true, true, true, true, true, true, true, true, true, true, true, true, true, true, true, true, true, true, true, true, true, true, true, true, true, false, false, false, false, false, false, false, false] rfl rfl (by kernel_rfl) (fun _ _ _ h => h) (by rfl) ?_ hHeld ?_ ?_
          rotate_left 2
          · rintro w' ⟨s0, s1, s2, s3, s4, s5, s6, s7⟩
            go_simp
            try with_reducible rfl
          · simp only [Act.put, List.setIfInBounds_toArray, List.set_cons_zero, List.set_cons_succ]
            rfl
          refine rg_take (i := 27) (N := (some 64)) (v := ?_) (a' := ?_) #[true, true, true, true, true, true, true, true, true, true, true, true, true, true, true, true, true, true, true, true, true, true, true, true, true, true, true, true, false, false, false, false, false, false, false] rfl rfl (by kernel_rfl) (fun _ _ _ h => h) (by rfl) ?_ hHeld ?_ ?_
          rotate_left 2
          · rintro w' ⟨s0, s1, s2, s3, s4, s5, s6, s7⟩
            go_simp
            try with_reducible rfl
          · simp only [Act.put, List.setIfInBounds_toArray, List.set_cons_zero, List.set_cons_succ]
            rfl
          refine rg_take (i := 28) (N := (some 65)) (v := ?_) (a' := ?_) #[true, true, true, true, true, true, true, true, true, true, true, true, true, true, true, true, true, true, true, true, true, true, true, true, true, true, true, true, true, false, false, false, false, false, false] rfl rfl (by kernel_rfl) (fun _ _ _ h => h) (by rfl) ?_ hHeld ?_ ?_
          rotate_left 2
          · rintro w' ⟨s0, s1, s2, s3, s4, s5, s6, s7⟩
            go_simp
            try with_reducible rfl
          · simp only [Act.put, List.setIfInBounds_toArray, List.set_cons_zero, List.set_cons_succ]
            rfl
          refine rg_take (i := 29) (N := (some 66)) (v := ?_) (a' := ?_) #[true, true, true, true, true, true, true, true, true, true, true, true, true, true, true, true, true, true, true, true, true, true, true, true, true, true, true, true, true, true, false, false, false, false, false] rfl rfl (by kernel_rfl) (fun _ _ _ h => h) (by rfl) ?_ hHeld ?_ ?_
          rotate_left 2
          · rintro w' ⟨s0, s1, s2, s3, s4, s5, s6, s7⟩
            go_simp
            try with_reducible rfl
          · simp only [Act.put, List.setIfInBounds_toArray, List.set_cons_zero, List.set_cons_succ]
            rfl
          refine rg_take (i := 30) (N := (some 67)) (v := ?_) (a' := ?_) #[true, true, true, true, true, true, true, true, true, true, true, true, true, true, true, true, true, true, true, true, true, true, true, true, true, true, true, true, true, true, true, false, false, false, false] rfl rfl (by kernel_rfl) (fun _ _ _ h => h) (by rfl) ?_ hHeld ?_ ?_
          rotate_left 2
          · rintro w' ⟨s0, s1, s2, s3, s4, s5, s6, s7⟩
            go_simp
            try with_reducible rfl
          · simp only [Act.put, List.setIfInBounds_toArray, List.set_cons_zero, List.set_cons_succ]
            rfl
          refine rg_take (i := 31) (N := (some 68)) (v := ?_) (a' := ?_) #[true, true, true, true, true, true, true, true, true, true, true, true, true, true, true, true, true, true, true, true, true, true, true, true, true, true, true, true, true, true, true, true, false, false, false] rfl rfl (by kernel_rfl) (fun _ _ _ h => h) (by rfl) ?_ hHeld ?_ ?_
          rotate_left 2
          · rintro w' ⟨s0, s1, s2, s3, s4, s5, s6, s7⟩
            go_simp
            try with_reducible rfl
          · simp only [Act.put, List.setIfInBounds_toArray, List.set_cons_zero, List.set_cons_succ]
            rfl
          refine rg_one (i := 32) #[true, true, true, true, true, true, true, true, true, true, true, true, true, true, true, true, true, true, true, true, true, true, true, true, true, true, true, true, true, true, true, true, true, false, false] rfl (by kernel_rfl) (by rfl) (fun K hK => ?_)
          obtain ⟨s0, s1, s2, s3, s4, s5, s6, s7⟩ := hHeld
          repeat go_step
          ((with_reducible refine (Hrg.out _).mono ?_); rintro e w13 ⟨rfl, hb13⟩)
          try dsimp only
          refine hK.out _ _ ?_ (fun hHeld => ?_)
          · exact or_keep s0 s1 (Fr.of_below hb13) (by omega)
          clear hK K
          clear s0 s1 s2 s3 s4 s5 s6 s7
          refine rg_take (i := 33) (N := (some 70)) (v := ?_) (a' := ?_) #[true, true, true, true, true, true, true, true, true, true, true, true, true, true, true, true, true, true, true, true, true, true, true, true, true, true, true, true, true, true, true, true, true, true, false] rfl rfl (by kernel_rfl) (fun _ _ _ h => h) (by rfl) ?_ hHeld ?_ ?_
          rotate_left 2
          · rintro w' ⟨s0, s1, s2, s3, s4, s5, s6, s7⟩
            go_simp
            try with_reducible rfl
          · simp only [Act.put, List.setIfInBounds_toArray, List.set_cons_zero, List.set_cons_succ]
            rfl
          refine rg_take (i := 34) (N := (some 71)) (v := ?_) (a' := ?_) #[true, true, true, true, true, true, true, true, true, true, true, true, true, true, true, true, true, true, true, true, true, true, true, true, true, true, true, true, true, true, true, true, true, true, true] rfl rfl (by kernel_rfl) (fun _ _ _ h => h) (by rfl) ?_ hHeld ?_ ?_
          rotate_left 2
          · rintro w' ⟨s0, s1, s2, s3, s4, s5, s6, s7⟩
            go_simp
            try with_reducible rfl
          · simp only [Act.put, List.setIfInBounds_toArray, List.set_cons_zero, List.set_cons_succ]
            rfl
          refine rg_done (by kernel_rfl) ?_
          obtain ⟨h0, _⟩ := hHeld
          all_goals go_wp2
          refine ⟨⟨j + 1, by omega, by go_num, by rw [HX.out]; exact (hm9.below hb10).below hb13, hma.fr h0 (by omega), ho3.fr h0 (fun i hi e => by omega), nx hb3 h0 (by omega), by have := h0.size; omega⟩, ?_⟩
          simp [intOf]
          omega
      · have hdk : decide (rk ≤ 4) = false := decide_eq_false hle
        clear hkey
        · skip
          go_wp2
          have hd := DAt.new wr ⟨rk, rkey, rval, rn, rlo, rhi⟩
          have hfa := (Fr.refl (fun k => k = bm + 1) wr).alloc (.cells #[.int .i64 rk, .string rkey, .string rval, .int .u64 rn, .string rlo, .string rhi] 37)
          have d0 := hd.c0; have d1 := hd.c1; have d2 := hd.c2; have d3 := hd.c3; have d4 := hd.c4; have d5 := hd.c5
          have HM := Lib.hid (hmb.fr ((Fr.refl (fun _ => False) wr).alloc (.cells #[.int .i64 rk, .string rkey, .string rval, .int .u64 rn, .string rlo, .string rhi] 37)) id).drew
          have HTW := Lib.hid (Ht.out.on ((below_alloc (o := (.cells #[.int .i64 rk, .string rkey, .string rval, .int .u64 rn, .string rlo, .string rhi] 37)) hb3).drew))
          refine rg_start (n := 35) (fun w' => Fr (fun k => k = bm + 1) wr w' ∧ DAt w' wr.heap.size ⟨rk, rkey, rval, rn, rlo, rhi⟩ ∧ w'.cell? ⟨wr.heap.size, 0, none⟩ = some (.int .i64 rk) ∧ w'.cell? ⟨wr.heap.size, 1, none⟩ = some (.string rkey) ∧ w'.cell? ⟨wr.heap.size, 2, none⟩ = some (.string rval) ∧ w'.cell? ⟨wr.heap.size, 3, none⟩ = some (.int .u64 rn) ∧ w'.cell? ⟨wr.heap.size, 4, none⟩ = some (.string rlo) ∧ w'.cell? ⟨wr.heap.size, 5, none⟩ = some (.string rhi)) #[false, false, false, false, false, false, false, false, false, false, false, false, false, false, false, false, false, false, false, false, false, false, false, false, false, false, false, false, false, false, false, false, false, false, false] (by kernel_rfl) rfl rfl ⟨hfa.drew, hd, d0, d1, d2, d3, d4, d5⟩ (fun hHeld => ?_)
          refine rg_take (i := 0) (N := (some 37)) (v := ?_) (a' := ?_) #[true, false, false, false, false, false, false, false, false, false, false, false, false, false, false, false, false, false, false, false, false, false, false, false, false, false, false, false, false, false, false, false, false, false, false] rfl rfl (by kernel_rfl) (fun _ _ _ h => h) (by rfl) ?_ hHeld ?_ ?_
          rotate_left 2
          · rintro w' ⟨s0, s1, s2, s3, s4, s5, s6, s7⟩
            go_simp
            try with_reducible rfl
          · simp only [Act.put, List.setIfInBounds_toArray, List.set_cons_zero, List.set_cons_succ]
            rfl
          refine rg_take (i := 2) (N := (some 39)) (v := ?_) (a' := ?_) #[true, false, true, false, false, false, false, false, false, false, false, false, false, false, false, false, false, false, false, false, false, false, false, false, false, false, false, false, false, false, false, false, false, false, false] rfl rfl (by kernel_rfl) (fun _ _ _ h => h) (by rfl) ?_ hHeld ?_ ?_
          rotate_left 2
          · rintro w' ⟨s0, s1, s2, s3, s4, s5, s6, s7⟩
            go_simp
            try with_reducible rfl
          · simp only [Act.put, List.setIfInBounds_toArray, List.set_cons_zero, List.set_cons_succ]
            rfl
          refine rg_one (i := 1) #[true, true, true, false, false, false, false, false, false, false, false, false, false, false, false, false, false, false, false, false, false, false, false, false, false, false, false, false, false, false, false, false, false, false, false] rfl (by kernel_rfl) (by rfl) (fun K hK => ?_)
          obtain ⟨s0, s1, s2, s3, s4, s5, s6, s7⟩ := hHeld
          repeat go_step
          ((with_reducible refine (HO.out _ HM.out HTW.out).mono ?_); rintro e w9 ⟨rfl, hm9, hf9⟩)
          try dsimp only
          refine hK.out _ _ ?_ (fun hHeld => ?_)
          · exact or_keep s0 s1 hf9 (by omega)
          clear hK K
          clear s0 s1 s2 s3 s4 s5 s6 s7
          refine rg_take (i := 3) (N := (some 40)) (v := ?_) (a' := ?_) #[true, true, true, true, false, false, false, false, false, false, false, false, false, false, false, false, false, false, false, false, false, false, false, false, false, false, false, false, false, false, false, false, false, false, false] rfl rfl (by kernel_rfl) (fun _ _ _ h => h) (by rfl) ?_ hHeld ?_ ?_
          rotate_left 2
          · rintro w' ⟨s0, s1, s2, s3, s4, s5, s6, s7⟩
            go_simp
            try with_reducible rfl
          · simp only [Act.put, List.setIfInBounds_toArray, List.set_cons_zero, List.set_cons_succ]
            rfl
          refine rg_take (i := 4) (N := (some 41)) (v := ?_) (a' := ?_) #[true, true, true, true, true, false, false, false, false, false, false, false, false, false, false, false, false, false, false, false, false, false, false, false, false, false, false, false, false, false, false, false, false, false, false] rfl rfl (by kernel_rfl) (fun _ _ _ h => h) (by rfl) ?_ hHeld ?_ ?_
          rotate_left 2
          · rintro w' ⟨s0, s1, s2, s3, s4, s5, s6, s7⟩
            go_simp
            try with_reducible rfl
          · simp only [Act.put, List.setIfInBounds_toArray, List.set_cons_zero, List.set_cons_succ]
            rfl
          refine rg_take (i := 5) (N := (some 42)) (v := ?_) (a' := ?_) #[true, true, true, true, true, true, false, false, false, false, false, false, false, false, false, false, false, false, false, false, false, false, false, false, false, false, false, false, false, false, false, false, false, false, false] rfl rfl (by kernel_rfl) (fun _ _ _ h => h) (by rfl) ?_ hHeld ?_ ?_
          rotate_left 2
          · rintro w' ⟨s0, s1, s2, s3, s4, s5, s6, s7⟩
            go_simp
            try with_reducible rfl
          · simp only [Act.put, List.setIfInBounds_toArray, List.set_cons_zero, List.set_cons_succ]
            rfl
          refine rg_one (i := 6) #[true, true, true, true, true, true, true, false, false, false, false, false, false, false, false, false, false, false, false, false, false, false, false, false, false, false, false, false, false, false, false, false, false, false, false] rfl (by kernel_rfl) (by rfl) (fun K hK => ?_)
          obtain ⟨s0, s1, s2, s3, s4, s5, s6, s7⟩ := hHeld
          repeat go_step
          ((with_reducible refine (His.out _).mono ?_); rintro e w10 ⟨rfl, hb10⟩)
          try dsimp only
          refine hK.out _ _ ?_ (fun hHeld => ?_)
          · exact or_keep s0 s1 (Fr.of_below hb10) (by omega)
          clear hK K
          clear s0 s1 s2 s3 s4 s5 s6 s7
          refine rg_take (i := 7) (N := (some 44)) (v := ?_) (a' := ?_) #[true, true, true, true, true, true, true, true, false, false, false, false, false, false, false, false, false, false, false, false, false, false, false, false, false, false, false, false, false, false, false, false, false, false, false] rfl rfl (by kernel_rfl) (fun _ _ _ h => h) (by rfl) ?_ hHeld ?_ ?_
          rotate_left 2
          · rintro w' ⟨s0, s1, s2, s3, s4, s5, s6, s7⟩
            go_simp
            try with_reducible rfl
          · simp only [Act.put, List.setIfInBounds_toArray, List.set_cons_zero, List.set_cons_succ]
            rfl
          refine rg_take (i := 8) (N := (some 45)) (v := ?_) (a' := ?_) #[true, true, true, true, true, true, true, true, true, false, false, false, false, false, false, false, false, false, false, false, false, false, false, false, false, false, false, false, false, false, false, false, false, false, false] rfl rfl (by kernel_rfl) (fun _ _ _ h => h) (by rfl) ?_ hHeld ?_ ?_
          rotate_left 2
          · rintro w' ⟨s0, s1, s2, s3, s4, s5, s6, s7⟩
            go_simp
            try with_reducible rfl
          · simp only [Act.put, List.setIfInBounds_toArray, List.set_cons_zero, List.set_cons_succ]
            rfl
          refine rg_take (i := 9) (N := (some 46)) (v := ?_) (a' := ?_) #[true, true, true, true, true, true, true, true, true, true, false, false, false, false, false, false, false, false, false, false, false, false, false, false, false, false, false, false, false, false, false, false, false, false, false] rfl rfl (by kernel_rfl) (fun _ _ _ h => h) (by rfl) ?_ hHeld ?_ ?_
          rotate_left 2
          · rintro w' ⟨s0, s1, s2, s3, s4, s5, s6, s7⟩
            go_simp
            try with_reducible rfl
          · simp only [Act.put, List.setIfInBounds_toArray, List.set_cons_zero, List.set_cons_succ]
            rfl
          refine rg_take (i := 10) (N := (some 47)) (v := ?_) (a' := ?_) #[true, true, true, true, true, true, true, true, true, true, true, false, false, false, false, false, false, false, false, false, false, false, false, false, false, false, false, false, false, false, false, false, false, false, false] rfl rfl (by kernel_rfl) (fun _ _ _ h => h) (by rfl) ?_ hHeld ?_ ?_
          rotate_left 2
          · rintro w' ⟨s0, s1, s2, s3, s4, s5, s6, s7⟩
            go_simp
            try with_reducible rfl
          · simp only [Act.put, List.setIfInBounds_toArray, List.set_cons_zero, List.set_cons_succ]
            rfl
          refine rg_take (i := 11) (N := (some 48)) (v := ?_) (a' := ?_) #[true, true, true, true, true, true, true, true, true, true, true, true, false, false, false, false, false, false, false, false, false, false, false, false, false, false, false, false, false, false, false, false, false, false, false] rfl rfl (by kernel_rfl) (fun _ _ _ h => h) (by rfl) ?_ hHeld ?_ ?_
          rotate_left 2
          · rintro w' ⟨s0, s1, s2, s3, s4, s5, s6, s7⟩
            go_simp
            try with_reducible rfl
          · simp only [Act.put, List.setIfInBounds_toArray, List.set_cons_zero, List.set_cons_succ]
            rfl
          refine rg_one (i := 12) #[true, true, true, true, true, true, true, true, true, true, true, true, true, false, false, false, false, false, false, false, false, false, false, false, false, false, false, false, false, false, false, false, false, false, false] rfl (by kernel_rfl) (by rfl) (fun K hK => ?_)
          obtain ⟨s0, s1, s2, s3, s4, s5, s6, s7⟩ := hHeld
          repeat go_step
          ((with_reducible refine (Hval.out _).mono ?_); rintro e w11 ⟨rfl, rfl⟩)
          try dsimp only
          refine hK.out _ _ ?_ (fun hHeld => ?_)
          · exact ⟨s0, s1, s2, s3, s4, s5, s6, s7⟩
          clear hK K
          clear s0 s1 s2 s3 s4 s5 s6 s7
          refine rg_take (i := 13) (N := (some 50)) (v := ?_) (a' := ?_) #[true, true, true, true, true, true, true, true, true, true, true, true, true, true, false, false, false, false, false, false, false, false, false, false, false, false, false, false, false, false, false, false, false, false, false] rfl rfl (by kernel_rfl) (fun _ _ _ h => h) (by rfl) ?_ hHeld ?_ ?_
          rotate_left 2
          · rintro w' ⟨s0, s1, s2, s3, s4, s5, s6, s7⟩
            go_simp
            try with_reducible rfl
          · simp only [Act.put, List.setIfInBounds_toArray, List.set_cons_zero, List.set_cons_succ]
            rfl
          refine rg_take (i := 14) (N := (some 51)) (v := ?_) (a' := ?_) #[true, true, true, true, true, true, true, true, true, true, true, true, true, true, true, false, false, false, false, false, false, false, false, false, false, false, false, false, false, false, false, false, false, false, false] rfl rfl (by kernel_rfl) (fun _ _ _ h => h) (by rfl) ?_ hHeld ?_ ?_
          rotate_left 2
          · rintro w' ⟨s0, s1, s2, s3, s4, s5, s6, s7⟩
            go_simp
            try with_reducible rfl
          · simp only [Act.put, List.setIfInBounds_toArray, List.set_cons_zero, List.set_cons_succ]
            rfl
          refine rg_take (i := 15) (N := (some 52)) (v := ?_) (a' := ?_) #[true, true, true, true, true, true, true, true, true, true, true, true, true, true, true, true, false, false, false, false, false, false, false, false, false, false, false, false, false, false, false, false, false, false, false] rfl rfl (by kernel_rfl) (fun _ _ _ h => h) (by rfl) ?_ hHeld ?_ ?_
          rotate_left 2
          · rintro w' ⟨s0, s1, s2, s3, s4, s5, s6, s7⟩
            go_simp
            try with_reducible rfl
          · simp only [Act.put, List.setIfInBounds_toArray, List.set_cons_zero, List.set_cons_succ]
            rfl
          refine rg_take (i := 16) (N := (some 53)) (v := ?_) (a' := ?_) #[true, true, true, true, true, true, true, true, true, true, true, true, true, true, true, true, true, false, false, false, false, false, false, false, false, false, false, false, false, false, false, false, false, false, false] rfl rfl (by kernel_rfl) (fun _ _ _ h => h) (by rfl) ?_ hHeld ?_ ?_
          rotate_left 2
          · rintro w' ⟨s0, s1, s2, s3, s4, s5, s6, s7⟩
            go_simp
            try with_reducible rfl
          · simp only [Act.put, List.setIfInBounds_toArray, List.set_cons_zero, List.set_cons_succ]
            rfl
          refine rg_take (i := 17) (N := (some 54)) (v := ?_) (a' := ?_) #[true, true, true, true, true, true, true, true, true, true, true, true, true, true, true, true, true, true, false, false, false, false, false, false, false, false, false, false, false, false, false, false, false, false, false] rfl rfl (by kernel_rfl) (fun _ _ _ h => h) (by rfl) ?_ hHeld ?_ ?_
          rotate_left 2
          · rintro w' ⟨s0, s1, s2, s3, s4, s5, s6, s7⟩
            go_simp
            try with_reducible rfl
          · simp only [Act.put, List.setIfInBounds_toArray, List.set_cons_zero, List.set_cons_succ]
            rfl
          refine rg_take (i := 18) (N := (some 55)) (v := ?_) (a' := ?_) #[true, true, true, true, true, true, true, true, true, true, true, true, true, true, true, true, true, true, true, false, false, false, false, false, false, false, false, false, false, false, false, false, false, false, false] rfl rfl (by kernel_rfl) (fun _ _ _ h => h) (by rfl) ?_ hHeld ?_ ?_
          rotate_left 2
          · rintro w' ⟨s0, s1, s2, s3, s4, s5, s6, s7⟩
            go_simp
            try with_reducible rfl
          · simp only [Act.put, List.setIfInBounds_toArray, List.set_cons_zero, List.set_cons_succ]
            rfl
          refine rg_take (i := 19) (N := (some 56)) (v := ?_) (a' := ?_) #[true, true, true, true, true, true, true, true, true, true, true, true, true, true, true, true, true, true, true, true, false, false, false, false, false, false, false, false, false, false, false, false, false, false, false] rfl rfl (by kernel_rfl) (fun _ _ _ h => h) (by rfl) ?_ hHeld ?_ ?_
          rotate_left 2
          · rintro w' ⟨s0, s1, s2, s3, s4, s5, s6, s7⟩
            go_simp
            try with_reducible rfl
          · simp only [Act.put, List.setIfInBounds_toArray, List.set_cons_zero, List.set_cons_succ]
            rfl
          refine rg_skip (i := 20) (N := (some 57)) (a' := ?_) #[true, true, true, true, true, true, true, true, true, true, true, true, true, true, true, true, true, true, true, true, true, false, false, false, false, false, false, false, false, false, false, false, false, false, false] rfl rfl (by kernel_rfl) (fun _ _ _ h => h) (by rfl) hHeld ?_ ?_
          rotate_left
          · simp only [Act.put, List.setIfInBounds_toArray, List.set_cons_zero, List.set_cons_succ]
            rfl
          refine rg_skip (i := 21) (N := (some 58)) (a' := ?_) #[true, true, true, true, true, true, true, true, true, true, true, true, true, true, true, true, true, true, true, true, true, true, false, false, false, false, false, false, false, false, false, false, false, false, false] rfl rfl (by kernel_rfl) (fun _ _ _ h => h) (by rfl) hHeld ?_ ?_
          rotate_left
          · simp only [Act.put, List.setIfInBounds_toArray, List.set_cons_zero, List.set_cons_succ]
            rfl
          refine rg_skip (i := 22) (N := (some 59)) (a' := ?_) #[true, true, true, true, true, true, true, true, true, true, true, true, true, true, true, true, true, true, true, true, true, true, true, false, false, false, false, false, false, false, false, false, false, false, false] rfl rfl (by kernel_rfl) (fun _ _ _ h => h) (by rfl) hHeld ?_ ?_
          rotate_left
          · simp only [Act.put, List.setIfInBounds_toArray, List.set_cons_zero, List.set_cons_succ]
            rfl
          refine rg_skip (i := 23) (N := (some 60)) (a' := ?_) #[true, true, true, true, true, true, true, true, true, true, true, true, true, true, true, true, true, true, true, true, true, true, true, true, false, false, false, false, false, false, false, false, false, false, false] rfl rfl (by kernel_rfl) (fun _ _ _ h => h) (by rfl) hHeld ?_ ?_
          rotate_left
          · simp only [Act.put, List.setIfInBounds_toArray, List.set_cons_zero, List.set_cons_succ]
            rfl
          refine rg_take (i := 24) (N := (some 61)) (v := ?_) (a' := ?_) #[true, true, true, true, true, true, true, true, true, true, true, true, true, true, true, true, true, true, true, true, true, true, true, true, true, false, false, false, false, false, false, false, false, false, false] rfl rfl (by kernel_rfl) (fun _ _ _ h => h) (by rfl) ?_ hHeld ?_ ?_
          rotate_left 2
          · rintro w' ⟨s0, s1, s2, s3, s4, s5, s6, s7⟩
            go_simp
            try with_reducible rfl
          · simp only [Act.put, List.setIfInBounds_toArray, List.set_cons_zero, List.set_cons_succ]
            rfl
          refine rg_take (i := 25) (N := (some 62)) (v := ?_) (a' := ?_) #[true, true, true, true, true, true, true, true, true, true, true, true, true, true, true, true, true, true, true, true, true, true, true, true, true, true, false, false, false, false, false, false, false, false, false] rfl rfl (by kernel_rfl) (fun _ _ _ h => h) (by rfl) ?_ hHeld ?_ ?_
          rotate_left 2
          · rintro w' ⟨s0, s1, s2, s3, s4, s5, s6, s7⟩
            go_simp
            try with_reducible rfl
          · simp only [Act.put, List.setIfInBounds_toArray, List.set_cons_zero, List.set_cons_succ]
            rfl
          refine rg_take (i := 26) (N := (some 63)) (v := ?_) (a' := ?_) #[true, true, true, true, true, true, true, true, true, true, true, true, true, true, true, true, true, true, true, true, true, true, true, true, true, true, true, false, false, false, false, false, false, false, false] rfl rfl (by kernel_rfl) (fun _ _ _ h => h) (by rfl) ?_ hHeld ?_ ?_
          rotate_left 2
          · rintro w' ⟨s0, s1, s2, s3, s4, s5, s6, s7⟩
            go_simp
            try with_reducible rfl
          · simp only [Act.put, List.setIfInBounds_toArray, List.set_cons_zero, List.set_cons_succ]
            rfl
          refine rg_take (i := 27) (N := (some 64)) (v := ?_) (a' := ?_) #[true, true, true, true, true, true, true, true, true, true, true, true, true, true, true, true, true, true, true, true, true, true, true, true, true, true, true, true, false, false, false, false, false, false, false] rfl rfl (by kernel_rfl) (fun _ _ _ h => h) (by rfl) ?_ hHeld ?_ ?_
          rotate_left 2
          · rintro w' ⟨s0, s1, s2, s3, s4, s5, s6, s7⟩
            go_simp
            try with_reducible rfl
          · simp only [Act.put, List.setIfInBounds_toArray, List.set_cons_zero, List.set_cons_succ]
            rfl
          refine rg_take (i := 28) (N := (some 65)) (v := ?_) (a' := ?_) #[true, true, true, true, true, true, true, true, true, true, true, true, true, true, true, true, true, true, true, true, true, true, true, true, true, true, true, true, true, false, false, false, false, false, false] rfl rfl (by kernel_rfl) (fun _ _ _ h => h) (by rfl) ?_ hHeld ?_ ?_
          rotate_left 2
          · rintro w' ⟨s0, s1, s2, s3, s4, s5, s6, s7⟩
            go_simp
            try with_reducible rfl
          · simp only [Act.put, List.setIfInBounds_toArray, List.set_cons_zero, List.set_cons_succ]
            rfl
          refine rg_take (i := 29) (N := (some 66)) (v := ?_) (a' := ?_) #[true, true, true, true, true, true, true, true, true, true, true, true, true, true, true, true, true, true, true, true, true, true, true, true, true, true, true, true, true, true, false, false, false, false, false] rfl rfl (by kernel_rfl) (fun _ _ _ h => h) (by rfl) ?_ hHeld ?_ ?_
          rotate_left 2
          · rintro w' ⟨s0, s1, s2, s3, s4, s5, s6, s7⟩
            go_simp
            try with_reducible rfl
          · simp only [Act.put, List.setIfInBounds_toArray, List.set_cons_zero, List.set_cons_succ]
            rfl
          refine rg_take (i := 30) (N := (some 67)) (v := ?_) (a' := ?_) #[true, true, true, true, true, true, true, true, true, true, true, true, true, true, true, true, true, true, true, true, true, true, true, true, true, true, true, true, true, true, true, false, false, false, false] rfl rfl (by kernel_rfl) (fun _ _ _ h => h) (by rfl) ?_ hHeld ?_ ?_
          rotate_left 2
          · rintro w' ⟨s0, s1, s2, s3, s4, s5, s6, s7⟩
            go_simp
            try with_reducible rfl
          · simp only [Act.put, List.setIfInBounds_toArray, List.set_cons_zero, List.set_cons_succ]
            rfl
          refine rg_take (i := 31) (N := (some 68)) (v := ?_) (a' := ?_) #[true, true, true, true, true, true, true, true, true, true, true, true, true, true, true, true, true, true, true, true, true, true, true, true, true, true, true, true, true, true, true, true, false, false, false] rfl rfl (by kernel_rfl) (fun _ _ _ h => h) (by rfl) ?_ hHeld ?_ ?_
          rotate_left 2
          · rintro w' ⟨s0, s1, s2, s3, s4, s5, s6, s7⟩
            go_simp
            try with_reducible rfl
          · simp only [Act.put, List.setIfInBounds_toArray, List.set_cons_zero, List.set_cons_succ]
            rfl
          refine rg_one (i := 32) #[true, true, true, true, true, true, true, true, true, true, true, true, true, true, true, true, true, true, true, true, true, true, true, true, true, true, true, true, true, true, true, true, true, false, false] rfl (by kernel_rfl) (by rfl) (fun K hK => ?_)
          obtain ⟨s0, s1, s2, s3, s4, s5, s6, s7⟩ := hHeld
          repeat go_step
          ((with_reducible refine (Hrg.out _).mono ?_); rintro e w13 ⟨rfl, hb13⟩)
          try dsimp only
          refine hK.out _ _ ?_ (fun hHeld => ?_)
          · exact or_keep s0 s1 (Fr.of_below hb13) (by omega)
          clear hK K
          clear s0 s1 s2 s3 s4 s5 s6 s7
          refine rg_take (i := 33) (N := (some 70)) (v := ?_) (a' := ?_) #[true, true, true, true, true, true, true, true, true, true, true, true, true, true, true, true, true, true, true, true, true, true, true, true, true, true, true, true, true, true, true, true, true, true, false] rfl rfl (by kernel_rfl) (fun _ _ _ h => h) (by rfl) ?_ hHeld ?_ ?_
          rotate_left 2
          · rintro w' ⟨s0, s1, s2, s3, s4, s5, s6, s7⟩
            go_simp
            try with_reducible rfl
          · simp only [Act.put, List.setIfInBounds_toArray, List.set_cons_zero, List.set_cons_succ]
            rfl
          refine rg_take (i := 34) (N := (some 71)) (v := ?_) (a' := ?_) #[true, true, true, true, true, true, true, true, true, true, true, true, true, true, true, true, true, true, true, true, true, true, true, true, true, true, true, true, true, true, true, true, true, true, true] rfl rfl (by kernel_rfl) (fun _ _ _ h => h) (by rfl) ?_ hHeld ?_ ?_
          rotate_left 2
          · rintro w' ⟨s0, s1, s2, s3, s4, s5, s6, s7⟩
            go_simp
            try with_reducible rfl
          · simp only [Act.put, List.setIfInBounds_toArray, List.set_cons_zero, List.set_cons_succ]
            rfl
          refine rg_done (by kernel_rfl) ?_
          obtain ⟨h0, _⟩ := hHeld
          all_goals go_wp2
          refine ⟨⟨j + 1, by omega, by go_num, by rw [HX.out]; exact (hm9.below hb10).below hb13, hma.fr h0 (by omega), ho3.fr h0 (fun i hi e => by omega), nx hb3 h0 (by omega), by have := h0.size; omega⟩, ?_⟩
          simp [intOf]
          omega
    · have hjI : (K : Int) ≤ (j : Int) := by omega
      obtain rfl : j = K := by omega
      have HA := Lib.hid (mNext_any bm _ wr hma)
      have HV := Lib.hid (fun W h => mNext_any (bm + 1) (ordersS seed j).2 W h)
      generalize nZ (nS (ordersS seed j).2) = z at HA HV
      generalize nS (ordersS seed j).2 = x1 at HA HV
      go_wp2_with (first | (go_at_call 7; (with_reducible refine HA.out.mono ?_); rintro e w5 ⟨rfl, hm5, hf5⟩; have hu5 := hmb.fr hf5 (by omega)) | (go_at_call 7; (with_reducible refine (HV.out _ hu5).mono ?_); rintro e w6 ⟨rfl, hm6, hf6⟩))
      go_ret
      exact ⟨by simp, nx (nx hb3 hf5 (by omega)) hf6 (by omega)⟩
end Go.Proofs.YtdfgdnaejnngoaaDoor
