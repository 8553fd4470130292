import Derived.Test.YtdfgdnaejnngoaaTi
namespace Go.Proofs.Ytdfgdnaejnngoaa
open Go.RowKit
/-! TallyExact. -/
theorem rangeAt_fr {S : Nat → Prop} {w w1 : World} {b o : Nat} {cs : List Value} (h : w.rangeAt b o cs) (hf : Fr S w w1) (hb : b < w.heap.size) (hs : ¬ S b) : w1.rangeAt b o cs := fun j u hj => hf.cell hb hs (h j u hj)
theorem zeroV : nv 25 (fun _ => 0) = nv 25 (sumE []) := rfl
set_option maxHeartbeats 4000000 in
set_option maxRecDepth 100000 in
theorem exact_any (A : Option Addr) (cap : Nat) (l : List Ev) (w : World) (hel : Elems w A 22 (l.map Ev.cells)) : Calls Try.prog 6 #[.slice A l.length cap] w
    fun e' w' => e' = .returned (.bool true) ∧ Below w.heap.size w w' := by
  have haw := fun W => awake_any W
  have HAW := Lib.hid haw
  have HE := Lib.hid hel
  clear haw hel
  by_cases h100 : 100 < l.length
  · have h100I : (100 : Int) < (l.length : Int) := by omega
    go_enter Try.func6, Try.ntmps6
    go_wp2_with (go_at_call 20; (with_reducible refine (HAW.out _).mono ?_); rintro e w1 ⟨rfl, hb1⟩)
    go_ret
    exact ⟨rfl, hb1⟩
  have h100I : (l.length : Int) ≤ 100 := by omega
  go_enter Try.func6, Try.ntmps6
  go_wp2_with (go_at_call 20; (with_reducible refine (HAW.out _).mono ?_); rintro e w1 ⟨rfl, hb1⟩)
  go_loopw [4] (fun i wr => ∃ k : Nat, i = .int .i64 k ∧ k ≤ l.length ∧ VAt 57 25 wr w1.heap.size (sumE (l.take k)) ∧ (∀ e ∈ l.take k, e.good) ∧ Below w.heap.size w wr) (fun i _ => l.length + 1 - (intOf i).toNat)
  case atStart => exact ⟨0, rfl, Nat.zero_le _, heap_new_at rfl, by simp, below_alloc hb1⟩
  case round =>
    obtain ⟨k, rfl, hk, hva, hgd, hbel⟩ := hrel
    by_cases hkl : k < l.length
    · have hkI : (k : Int) < (l.length : Int) := by omega
      obtain ⟨e, he⟩ := get_lt hkl
      obtain ⟨b, off, rfl, hblt, hcells⟩ := HE.out k e.cells (by simp [he])
      have hR : wr.rangeAt b (off + k * 22) e.cells := fun j u hj => (hbel.cell (p := ⟨b, _, none⟩) hblt).trans (hcells j u hj)
      have hsm := sumE_small (l.take k) hgd (by simp [List.length_take]; omega)
      have hsee := fun W h hg => rsee_any w1.heap.size _ e W h hsm hg
      have hlg := fun W => long_any e W
      have hst := ev_store e
      have hgl := fun h => isLongE_good (e := e) h
      have hnx := sumE_take l k e he
      have hr2 : (wr.alloc (.cells e.cells.toArray 67)).rangeAt wr.heap.size 0 e.cells := fun j u hj => by rw [Nat.zero_add]; exact box_cells wr _ _ j u (by simpa using hj)
      have hw1 := hb1.size
      have hlt1 := hva.lt
      have hcl := Ev.clen e
      rw [Ev.v_eq] at hlg
      have hlit : e.cells = [.int .i64 e.kind, .int .i64 e.o.kind, .string e.o.key, .string e.o.val, .int .u64 e.o.n, .string e.o.lo, .string e.o.hi, .int .i64 e.n, e.keep, .int .i64 e.err, .bool e.has, .string e.val, .slice e.iA e.il e.ic, .int .i64 (e.st 0), .int .i64 (e.st 1), .int .i64 (e.st 2), .int .i64 (e.st 3), .int .i64 (e.st 4), .int .i64 (e.st 5), .int .i64 (e.st 6), .int .i64 (e.st 7), .int .i64 (e.st 8)] := rfl
      have hcc : ∀ W : World, W.rangeAt wr.heap.size 0 e.cells → W.cell? ⟨wr.heap.size, 0, none⟩ = some (.int .i64 e.kind) ∧ W.cell? ⟨wr.heap.size, 1, none⟩ = some (.int .i64 e.o.kind) ∧ W.cell? ⟨wr.heap.size, 2, none⟩ = some (.string e.o.key) ∧ W.cell? ⟨wr.heap.size, 3, none⟩ = some (.string e.o.val) ∧ W.cell? ⟨wr.heap.size, 4, none⟩ = some (.int .u64 e.o.n) ∧ W.cell? ⟨wr.heap.size, 5, none⟩ = some (.string e.o.lo) ∧ W.cell? ⟨wr.heap.size, 6, none⟩ = some (.string e.o.hi) ∧ W.cell? ⟨wr.heap.size, 9, none⟩ = some (.int .i64 e.err) ∧ W.cell? ⟨wr.heap.size, 10, none⟩ = some (.bool e.has) ∧ W.cell? ⟨wr.heap.size, 12, none⟩ = some (.slice e.iA e.il e.ic) := fun W h => by
        have q := fun j u hj => h j u hj
        simp only [Nat.zero_add] at q
        exact ⟨q 0 _ rfl, q 1 _ rfl, q 2 _ rfl, q 3 _ rfl, q 4 _ rfl, q 5 _ rfl, q 6 _ rfl, q 9 _ rfl, q 10 _ rfl, q 12 _ rfl⟩
      have hform := fun W => form_any e.o W
      rw [Ord.v_def] at hform hsee
      obtain ⟨kind, ⟨ok, okey, oval, on, olo, ohi⟩, n, kA, kl, kc, err, has, val, iA, il, ic, st⟩ := e
      dsimp only at hcc hform hsee hlg hgl hnx hR hst hr2 hcl
      generalize Ev.cells _ = cs at hR hlg hr2 hcl hst hcc
      generalize isLongE _ = lg at hlg hgl
      generalize hIn : inc _ = In at hsee hnx
      generalize sumE (l.take k) = v at hva hsee hnx
      have HR := Lib.hid hR
      have HS := Lib.hid hsee
      have HN := Lib.hid hnx
      have HR2 := Lib.hid hr2
      have HVA := Lib.hid hva
      have HLG := Lib.hid hlg
      have HGL := Lib.hid hgl
      have HCC := Lib.hid hcc
      have HF := Lib.hid hform
      have HGD := Lib.hid hgd
      have HEE := Lib.hid he
      clear hR hsee hnx hr2 hva hlg hgl hcc hform hlit hgd he hIn
      cases lg
      · have HG1 := Lib.hid (HGL.out rfl)
        go_wp2_with (first | (refine wpList_load_mid rfl 67 (Operand.tmp 26) rfl b (off + k * 22) rfl cs _ HR.out Try.underlying67 rfl (by rw [hcl]; kernel_rfl) ?_) | (refine wpList_load_mid rfl 67 (Operand.tmp 5) rfl wr.heap.size 0 rfl cs _ HR2.out Try.underlying67 rfl (by rw [hcl]; kernel_rfl) ?_) | (go_at_call 21; (with_reducible refine (HLG.out _).mono ?_); rintro e w2 ⟨rfl, hb2⟩))
        have hf2 : Fr (fun _ => False) wr w2 := ((Fr.refl _ wr).alloc _).tr' hb2
        have hva2 := HVA.out.fr hf2 id
        have hsz2 : wr.heap.size < w2.heap.size := by have := hb2.size; simp at this; omega
        have hr2 := rangeAt_fr HR2.out (Fr.of_below (S := fun _ => False) hb2) (by simp) id
        have hbel2 := hbel.trans (hf2.to_below hbel.size (fun _ _ => id))
        have HV2 := Lib.hid hva2
        clear hva2 hf2 hb2
        refine rg_start (n := 19) (fun w' => w'.rangeAt wr.heap.size 0 cs ∧ Below w.heap.size w w' ∧ wr.heap.size < w'.heap.size) #[false, false, false, false, false, false, false, false, false, false, false, false, false, false, false, false, false, false, false] (by kernel_rfl) rfl rfl ⟨hr2, hbel2.drew, hsz2⟩ (fun hHeld => ?_)
        refine rg_take (i := 0) (N := (some 30)) (v := ?_) (a' := ?_) #[true, false, false, false, false, false, false, false, false, false, false, false, false, false, false, false, false, false, false] rfl rfl (by kernel_rfl) (fun _ _ _ h => h) (by rfl) ?_ hHeld ?_ ?_
        rotate_left 2
        · rintro w' ⟨s0, s1, s2⟩
          go_simp
          try with_reducible rfl
        · simp only [Act.put, List.setIfInBounds_toArray, List.set_cons_zero, List.set_cons_succ]
          rfl
        refine rg_take (i := 1) (N := (some 31)) (v := ?_) (a' := ?_) #[true, true, false, false, false, false, false, false, false, false, false, false, false, false, false, false, false, false, false] rfl rfl (by kernel_rfl) (fun _ _ _ h => h) (by rfl) ?_ hHeld ?_ ?_
        rotate_left 2
        · rintro w' ⟨s0, s1, s2⟩
          go_simp
          try with_reducible rfl
        · simp only [Act.put, List.setIfInBounds_toArray, List.set_cons_zero, List.set_cons_succ]
          rfl
        refine rg_take (i := 2) (N := (some 32)) (v := ?_) (a' := ?_) #[true, true, true, false, false, false, false, false, false, false, false, false, false, false, false, false, false, false, false] rfl rfl (by kernel_rfl) (fun _ _ _ h => h) (by rfl) ?_ hHeld ?_ ?_
        rotate_left 2
        · rintro w' ⟨s0, s1, s2⟩
          go_simp
          try with_reducible rfl
        · simp only [Act.put, List.setIfInBounds_toArray, List.set_cons_zero, List.set_cons_succ]
          rfl
        refine rg_take (i := 3) (N := (some 33)) (v := ?_) (a' := ?_) #[true, true, true, true, false, false, false, false, false, false, false, false, false, false, false, false, false, false, false] rfl rfl (by kernel_rfl) (fun _ _ _ h => h) (by rfl) ?_ hHeld ?_ ?_
        rotate_left 2
        · rintro w' ⟨s0, s1, s2⟩
          (obtain ⟨d0, d1, d2, d3, d4, d5, d6, d9, d10, d12⟩ := HCC.out _ s0; go_simp; try with_reducible rfl)
        · simp only [Act.put, List.setIfInBounds_toArray, List.set_cons_zero, List.set_cons_succ]
          rfl
        refine rg_take (i := 4) (N := (some 34)) (v := ?_) (a' := ?_) #[true, true, true, true, true, false, false, false, false, false, false, false, false, false, false, false, false, false, false] rfl rfl (by kernel_rfl) (fun _ _ _ h => h) (by rfl) ?_ hHeld ?_ ?_
        rotate_left 2
        · rintro w' ⟨s0, s1, s2⟩
          go_simp
          try with_reducible rfl
        · simp only [Act.put, List.setIfInBounds_toArray, List.set_cons_zero, List.set_cons_succ]
          rfl
        refine rg_take (i := 5) (N := (some 35)) (v := ?_) (a' := ?_) #[true, true, true, true, true, true, false, false, false, false, false, false, false, false, false, false, false, false, false] rfl rfl (by kernel_rfl) (fun _ _ _ h => h) (by rfl) ?_ hHeld ?_ ?_
        rotate_left 2
        · rintro w' ⟨s0, s1, s2⟩
          go_simp
          try with_reducible rfl
        · simp only [Act.put, List.setIfInBounds_toArray, List.set_cons_zero, List.set_cons_succ]
          rfl
        refine rg_take (i := 6) (N := (some 36)) (v := ?_) (a' := ?_) #[true, true, true, true, true, true, true, false, false, false, false, false, false, false, false, false, false, false, false] rfl rfl (by kernel_rfl) (fun _ _ _ h => h) (by rfl) ?_ hHeld ?_ ?_
        rotate_left 2
        · rintro w' ⟨s0, s1, s2⟩
          (obtain ⟨d0, d1, d2, d3, d4, d5, d6, d9, d10, d12⟩ := HCC.out _ s0; go_simp; try with_reducible rfl)
        · simp only [Act.put, List.setIfInBounds_toArray, List.set_cons_zero, List.set_cons_succ]
          rfl
        refine rg_take (i := 8) (N := (some 38)) (v := ?_) (a' := ?_) #[true, true, true, true, true, true, true, false, true, false, false, false, false, false, false, false, false, false, false] rfl rfl (by kernel_rfl) (fun _ _ _ h => h) (by rfl) ?_ hHeld ?_ ?_
        rotate_left 2
        · rintro w' ⟨s0, s1, s2⟩
          go_simp
          try with_reducible rfl
        · simp only [Act.put, List.setIfInBounds_toArray, List.set_cons_zero, List.set_cons_succ]
          rfl
        refine rg_take (i := 9) (N := (some 39)) (v := ?_) (a' := ?_) #[true, true, true, true, true, true, true, false, true, true, false, false, false, false, false, false, false, false, false] rfl rfl (by kernel_rfl) (fun _ _ _ h => h) (by rfl) ?_ hHeld ?_ ?_
        rotate_left 2
        · rintro w' ⟨s0, s1, s2⟩
          go_simp
          try with_reducible rfl
        · simp only [Act.put, List.setIfInBounds_toArray, List.set_cons_zero, List.set_cons_succ]
          rfl
        refine rg_take (i := 10) (N := (some 40)) (v := ?_) (a' := ?_) #[true, true, true, true, true, true, true, false, true, true, true, false, false, false, false, false, false, false, false] rfl rfl (by kernel_rfl) (fun _ _ _ h => h) (by rfl) ?_ hHeld ?_ ?_
        rotate_left 2
        · rintro w' ⟨s0, s1, s2⟩
          (obtain ⟨d0, d1, d2, d3, d4, d5, d6, d9, d10, d12⟩ := HCC.out _ s0; go_simp; try with_reducible rfl)
        · simp only [Act.put, List.setIfInBounds_toArray, List.set_cons_zero, List.set_cons_succ]
          rfl
        refine rg_take (i := 11) (N := (some 41)) (v := ?_) (a' := ?_) #[true, true, true, true, true, true, true, false, true, true, true, true, false, false, false, false, false, false, false] rfl rfl (by kernel_rfl) (fun _ _ _ h => h) (by rfl) ?_ hHeld ?_ ?_
        rotate_left 2
        · rintro w' ⟨s0, s1, s2⟩
          go_simp
          try with_reducible rfl
        · simp only [Act.put, List.setIfInBounds_toArray, List.set_cons_zero, List.set_cons_succ]
          rfl
        refine rg_take (i := 12) (N := (some 42)) (v := ?_) (a' := ?_) #[true, true, true, true, true, true, true, false, true, true, true, true, true, false, false, false, false, false, false] rfl rfl (by kernel_rfl) (fun _ _ _ h => h) (by rfl) ?_ hHeld ?_ ?_
        rotate_left 2
        · rintro w' ⟨s0, s1, s2⟩
          go_simp
          try with_reducible rfl
        · simp only [Act.put, List.setIfInBounds_toArray, List.set_cons_zero, List.set_cons_succ]
          rfl
        refine rg_take (i := 13) (N := (some 43)) (v := ?_) (a' := ?_) #[true, true, true, true, true, true, true, false, true, true, true, true, true, true, false, false, false, false, false] rfl rfl (by kernel_rfl) (fun _ _ _ h => h) (by rfl) ?_ hHeld ?_ ?_
        rotate_left 2
        · rintro w' ⟨s0, s1, s2⟩
          (obtain ⟨d0, d1, d2, d3, d4, d5, d6, d9, d10, d12⟩ := HCC.out _ s0; go_simp; try with_reducible rfl)
        · simp only [Act.put, List.setIfInBounds_toArray, List.set_cons_zero, List.set_cons_succ]
          rfl
        refine rg_take (i := 14) (N := (some 44)) (v := ?_) (a' := ?_) #[true, true, true, true, true, true, true, false, true, true, true, true, true, true, true, false, false, false, false] rfl rfl (by kernel_rfl) (fun _ _ _ h => h) (by rfl) ?_ hHeld ?_ ?_
        rotate_left 2
        · rintro w' ⟨s0, s1, s2⟩
          go_simp
          try with_reducible rfl
        · simp only [Act.put, List.setIfInBounds_toArray, List.set_cons_zero, List.set_cons_succ]
          rfl
        refine rg_take (i := 15) (N := (some 45)) (v := ?_) (a' := ?_) #[true, true, true, true, true, true, true, false, true, true, true, true, true, true, true, true, false, false, false] rfl rfl (by kernel_rfl) (fun _ _ _ h => h) (by rfl) ?_ hHeld ?_ ?_
        rotate_left 2
        · rintro w' ⟨s0, s1, s2⟩
          go_simp
          try with_reducible rfl
        · simp only [Act.put, List.setIfInBounds_toArray, List.set_cons_zero, List.set_cons_succ]
          rfl
        refine rg_take (i := 16) (N := (some 46)) (v := ?_) (a' := ?_) #[true, true, true, true, true, true, true, false, true, true, true, true, true, true, true, true, true, false, false] rfl rfl (by kernel_rfl) (fun _ _ _ h => h) (by rfl) ?_ hHeld ?_ ?_
        rotate_left 2
        · rintro w' ⟨s0, s1, s2⟩
          (obtain ⟨d0, d1, d2, d3, d4, d5, d6, d9, d10, d12⟩ := HCC.out _ s0; go_simp; try with_reducible rfl)
        · simp only [Act.put, List.setIfInBounds_toArray, List.set_cons_zero, List.set_cons_succ]
          rfl
        refine rg_take (i := 17) (N := (some 47)) (v := ?_) (a' := ?_) #[true, true, true, true, true, true, true, false, true, true, true, true, true, true, true, true, true, true, false] rfl rfl (by kernel_rfl) (fun _ _ _ h => h) (by rfl) ?_ hHeld ?_ ?_
        rotate_left 2
        · rintro w' ⟨s0, s1, s2⟩
          go_simp
          try with_reducible rfl
        · simp only [Act.put, List.setIfInBounds_toArray, List.set_cons_zero, List.set_cons_succ]
          rfl
        refine rg_one (i := 7) #[true, true, true, true, true, true, true, true, true, true, true, true, true, true, true, true, true, true, false] rfl (by kernel_rfl) (by rfl) (fun K hK => ?_)
        obtain ⟨s0, s1, s2⟩ := hHeld
        repeat go_step
        ((with_reducible refine (HF.out _).mono ?_); rintro e w3 ⟨rfl, hb3⟩; have HV3 := Lib.hid (HV2.out.drew.below hb3))
        try dsimp only
        refine hK.out _ _ ?_ (fun hHeld => ?_)
        · exact ⟨rangeAt_fr s0 (Fr.of_below (S := fun _ => False) hb3) s2 id, below_next s1 hb3, Nat.lt_of_lt_of_le s2 hb3.size⟩
        clear hK K
        clear s0 s1 s2
        refine rg_one (i := 18) #[true, true, true, true, true, true, true, true, true, true, true, true, true, true, true, true, true, true, true] rfl (by kernel_rfl) (by rfl) (fun K hK => ?_)
        obtain ⟨s0, s1, s2⟩ := hHeld
        repeat go_step
        ((with_reducible refine (HS.out _ HV3.out HG1.out).mono ?_); rintro e w4 ⟨rfl, hv4, hf4⟩)
        try dsimp only
        refine hK.out _ _ ?_ (fun hHeld => ?_)
        · exact ⟨rangeAt_fr s0 hf4 s2 (by omega), s1.trans (hf4.to_below s1.size (fun i hi e => by omega)), Nat.lt_of_lt_of_le s2 hf4.size⟩
        clear hK K
        clear s0 s1 s2
        refine rg_done (by kernel_rfl) ?_
        obtain ⟨t0, t1, t2⟩ := hHeld
        have hv5 := hv4.eq (fun i => (HN.out i).symm)
        have HV5 := Lib.hid hv5
        clear hv4 hf4 hv5 t0
        go_wp2
        refine ⟨⟨k + 1, by go_num, by omega, HV5.out, fun x hx => ?_, t1⟩, ?_⟩
        · rw [List.take_add_one, HEE.out, Option.toList_some, List.mem_append, List.mem_singleton] at hx
          rcases hx with hx | rfl
          · exact HGD.out x hx
          · exact HG1.out
        · simp [intOf]
          omega
      · go_wp2_with (first | (refine wpList_load_mid rfl 67 (Operand.tmp 26) rfl b (off + k * 22) rfl cs _ HR.out Try.underlying67 rfl (by rw [hcl]; kernel_rfl) ?_) | (refine wpList_load_mid rfl 67 (Operand.tmp 5) rfl wr.heap.size 0 rfl cs _ HR2.out Try.underlying67 rfl (by rw [hcl]; kernel_rfl) ?_) | (go_at_call 21; (with_reducible refine (HLG.out _).mono ?_); rintro e w2 ⟨rfl, hb2⟩))
        go_ret
        exact ⟨rfl, below_next (below_alloc hbel) hb2⟩
    · obtain rfl : k = l.length := by omega
      rw [List.take_length] at hva hgd
      have hof := fun W h => of_any A cap l W h hgd (by omega)
      have hst := fun W zs hz => any_store 71 (sumE l) W zs tally_size hz
      have hnew := fun W => VAt.new (T := 71) (n := 25) W (sumE l)
      have hrg : ∀ i, 0 ≤ sumE l i ∧ sumE l i ≤ 72057594037927936 := fun i => by
        have := sumE_range l hgd i
        omega
      have hel2 := HE.out.below hbel
      have hlt := hva.lt
      have hw1 := hb1.size
      have hsz := nv_size 25 (sumE l)
      have heq := fun W => eql_tally (sumE l) W
      generalize sumE l = V at hof hst hnew hrg hva hsz heq
      have HOF := Lib.hid hof
      have HNEW := Lib.hid hnew
      have HRG := Lib.hid hrg
      have HVA := Lib.hid hva
      have HEQ := Lib.hid heq
      clear hof hnew hrg hva heq hgd
      go_wp2_with (go_at_call 24; (with_reducible refine (HOF.out _ hel2).mono ?_); rintro e w2 ⟨rfl, hb2⟩; have HVT := Lib.hid (HNEW.out w2); have HVU := Lib.hid ((HVA.out.below hb2).fr ((Fr.refl (fun _ => False) w2).alloc (.cells (nv 25 V) 71)) id))
      have hbel2 := below_alloc (o := .cells (nv 25 V) 71) (below_next hbel hb2)
      have hub : w1.heap.size < w2.heap.size := Nat.lt_of_lt_of_le hlt hb2.size
      clear hb2
      generalize w2.alloc (.cells (nv 25 V) 71) = W at *
      go_loop [7, 9] (fun x i => ∃ k : Nat, i = .int .i64 k ∧ k ≤ 9 ∧ x = .int .i64 (sumV V 0 k)) (fun _ i => 9 + 1 - (intOf i).toNat)
      case atStart => exact ⟨0, rfl, Nat.zero_le _, rfl⟩
      case round =>
        obtain ⟨k, rfl, hk, rfl⟩ := hrel
        by_cases hkn : k < 9
        · have hkI : (k : Int) < 9 := by omega
          have ck := HVU.out.cell (i := 0 + k) (by omega)
          rw [Nat.zero_add] at ck
          have hs := sumV_range V 0 _ HRG.out k
          have hv1 := HRG.out (0 + k)
          have hstep : sumV V 0 (k + 1) = sumV V 0 k + V (0 + k) := rfl
          rw [Nat.zero_add] at hv1 hstep
          generalize sumV V 0 k = s at hs hstep ⊢
          have HS := Lib.hid hstep
          have hs2 : s ≤ 7205759403792793600 := by
            have : (k : Int) * 72057594037927936 ≤ 100 * 72057594037927936 := Int.mul_le_mul_of_nonneg_right (by omega) (by omega)
            omega
          obtain ⟨hs0, _⟩ := hs
          obtain ⟨hv0, hv2⟩ := hv1
          clear hstep
          go_wp2
          refine ⟨⟨k + 1, by go_num, by omega, by rw [HS.out]⟩, ?_⟩
          simp [intOf]
          omega
        · obtain rfl : k = 9 := by omega
          go_wp2
          go_loop [8, 10] (fun x i => ∃ k : Nat, i = .int .i64 k ∧ k ≤ 12 ∧ x = .int .i64 (sumV V 9 k)) (fun _ i => 12 + 1 - (intOf i).toNat)
          case atStart => exact ⟨0, rfl, Nat.zero_le _, rfl⟩
          case round =>
            obtain ⟨k, rfl, hk, rfl⟩ := hrel
            by_cases hkn : k < 12
            · have hkI : (k : Int) < 12 := by omega
              have ck := HVU.out.cell (i := 9 + k) (by omega)
              skip
              have hs := sumV_range V 9 _ HRG.out k
              have hv1 := HRG.out (9 + k)
              have hstep : sumV V 9 (k + 1) = sumV V 9 k + V (9 + k) := rfl
              skip
              generalize sumV V 9 k = s at hs hstep ⊢
              have HS := Lib.hid hstep
              have hs2 : s ≤ 7205759403792793600 := by
                have : (k : Int) * 72057594037927936 ≤ 100 * 72057594037927936 := Int.mul_le_mul_of_nonneg_right (by omega) (by omega)
                omega
              obtain ⟨hs0, _⟩ := hs
              obtain ⟨hv0, hv2⟩ := hv1
              clear hstep
              go_wp2
              refine ⟨⟨k + 1, by go_num, by omega, by rw [HS.out]⟩, ?_⟩
              simp [intOf]
              omega
            · obtain rfl : k = 12 := by omega
              go_wp2
              have hgu : Try.prog.eqGuardType Try.prog.depth 71 = false := by kernel_rfl
              refine rg_start (n := 54) (fun w' => VAt 71 25 w' w2.heap.size V ∧ VAt 57 25 w' w1.heap.size V ∧ Below w.heap.size w w') #[false, false, false, false, false, false, false, false, false, false, false, false, false, false, false, false, false, false, false, false, false, false, false, false, false, false, false, false, false, false, false, false, false, false, false, false, false, false, false, false, false, false, false, false, false, false, false, false, false, false, false, false, false, false] (by kernel_rfl) rfl rfl ⟨HVT.out.drew, HVU.out.drew, hbel2.drew⟩ (fun hHeld => ?_)
              refine rg_take (i := 0) (N := (some 75)) (v := ?_) (a' := ?_) #[true, false, false, false, false, false, false, false, false, false, false, false, false, false, false, false, false, false, false, false, false, false, false, false, false, false, false, false, false, false, false, false, false, false, false, false, false, false, false, false, false, false, false, false, false, false, false, false, false, false, false, false, false, false] rfl rfl (by kernel_rfl) (fun _ _ _ h => h) (by rfl) ?_ hHeld ?_ ?_
              rotate_left 2
              · rintro w' ⟨s0, s1, s2⟩
                (refine Eq.trans (b := Result.ok (Next.value (.agg (nv 25 V))) w') ?_ ?_; exact exec_loadn (n := 25) (k := 25) rfl rfl s0 (by omega) Try.underlying71 rfl tally_size; with_reducible rfl)
              · simp only [Act.put, List.setIfInBounds_toArray, List.set_cons_zero, List.set_cons_succ]
                rfl
              refine rg_take (i := 1) (N := (some 76)) (v := ?_) (a' := ?_) #[true, true, false, false, false, false, false, false, false, false, false, false, false, false, false, false, false, false, false, false, false, false, false, false, false, false, false, false, false, false, false, false, false, false, false, false, false, false, false, false, false, false, false, false, false, false, false, false, false, false, false, false, false, false] rfl rfl (by kernel_rfl) (fun _ _ _ h => h) (by rfl) ?_ hHeld ?_ ?_
              rotate_left 2
              · rintro w' ⟨s0, s1, s2⟩
                go_simp
                try with_reducible rfl
              · simp only [Act.put, List.setIfInBounds_toArray, List.set_cons_zero, List.set_cons_succ]
                rfl
              refine rg_take (i := 2) (N := (some 77)) (v := ?_) (a' := ?_) #[true, true, true, false, false, false, false, false, false, false, false, false, false, false, false, false, false, false, false, false, false, false, false, false, false, false, false, false, false, false, false, false, false, false, false, false, false, false, false, false, false, false, false, false, false, false, false, false, false, false, false, false, false, false] rfl rfl (by kernel_rfl) (fun _ _ _ h => h) (by rfl) ?_ hHeld ?_ ?_
              rotate_left 2
              · rintro w' ⟨s0, s1, s2⟩
                go_simp
                try with_reducible rfl
              · simp only [Act.put, List.setIfInBounds_toArray, List.set_cons_zero, List.set_cons_succ]
                rfl
              refine rg_take (i := 3) (N := (some 78)) (v := ?_) (a' := ?_) #[true, true, true, true, false, false, false, false, false, false, false, false, false, false, false, false, false, false, false, false, false, false, false, false, false, false, false, false, false, false, false, false, false, false, false, false, false, false, false, false, false, false, false, false, false, false, false, false, false, false, false, false, false, false] rfl rfl (by kernel_rfl) (fun _ _ _ h => h) (by rfl) ?_ hHeld ?_ ?_
              rotate_left 2
              · rintro w' ⟨s0, s1, s2⟩
                go_simp
                try with_reducible rfl
              · simp only [Act.put, List.setIfInBounds_toArray, List.set_cons_zero, List.set_cons_succ]
                rfl
              refine rg_take (i := 4) (N := (some 79)) (v := ?_) (a' := ?_) #[true, true, true, true, true, false, false, false, false, false, false, false, false, false, false, false, false, false, false, false, false, false, false, false, false, false, false, false, false, false, false, false, false, false, false, false, false, false, false, false, false, false, false, false, false, false, false, false, false, false, false, false, false, false] rfl rfl (by kernel_rfl) (fun _ _ _ h => h) (by rfl) ?_ hHeld ?_ ?_
              rotate_left 2
              · rintro w' ⟨s0, s1, s2⟩
                (refine Eq.trans (b := Result.ok (Next.value (.agg (nv 9 V))) w') ?_ ?_; exact exec_loadn (n := 25) (k := 9) rfl rfl s1 (by omega) Try.underlying53 rfl arr9_size; with_reducible rfl)
              · simp only [Act.put, List.setIfInBounds_toArray, List.set_cons_zero, List.set_cons_succ]
                rfl
              refine rg_take (i := 5) (N := (some 80)) (v := ?_) (a' := ?_) #[true, true, true, true, true, true, false, false, false, false, false, false, false, false, false, false, false, false, false, false, false, false, false, false, false, false, false, false, false, false, false, false, false, false, false, false, false, false, false, false, false, false, false, false, false, false, false, false, false, false, false, false, false, false] rfl rfl (by kernel_rfl) (fun _ _ _ h => h) (by rfl) ?_ hHeld ?_ ?_
              rotate_left 2
              · rintro w' ⟨s0, s1, s2⟩
                go_simp
                try with_reducible rfl
              · simp only [Act.put, List.setIfInBounds_toArray, List.set_cons_zero, List.set_cons_succ]
                rfl
              refine rg_take (i := 6) (N := (some 81)) (v := ?_) (a' := ?_) #[true, true, true, true, true, true, true, false, false, false, false, false, false, false, false, false, false, false, false, false, false, false, false, false, false, false, false, false, false, false, false, false, false, false, false, false, false, false, false, false, false, false, false, false, false, false, false, false, false, false, false, false, false, false] rfl rfl (by kernel_rfl) (fun _ _ _ h => h) (by rfl) ?_ hHeld ?_ ?_
              rotate_left 2
              · rintro w' ⟨s0, s1, s2⟩
                go_simp
                try with_reducible rfl
              · simp only [Act.put, List.setIfInBounds_toArray, List.set_cons_zero, List.set_cons_succ]
                rfl
              refine rg_take (i := 7) (N := (some 82)) (v := ?_) (a' := ?_) #[true, true, true, true, true, true, true, true, false, false, false, false, false, false, false, false, false, false, false, false, false, false, false, false, false, false, false, false, false, false, false, false, false, false, false, false, false, false, false, false, false, false, false, false, false, false, false, false, false, false, false, false, false, false] rfl rfl (by kernel_rfl) (fun _ _ _ h => h) (by rfl) ?_ hHeld ?_ ?_
              rotate_left 2
              · rintro w' ⟨s0, s1, s2⟩
                go_simp
                try with_reducible rfl
              · simp only [Act.put, List.setIfInBounds_toArray, List.set_cons_zero, List.set_cons_succ]
                rfl
              refine rg_take (i := 8) (N := (some 83)) (v := ?_) (a' := ?_) #[true, true, true, true, true, true, true, true, true, false, false, false, false, false, false, false, false, false, false, false, false, false, false, false, false, false, false, false, false, false, false, false, false, false, false, false, false, false, false, false, false, false, false, false, false, false, false, false, false, false, false, false, false, false] rfl rfl (by kernel_rfl) (fun _ _ _ h => h) (by rfl) ?_ hHeld ?_ ?_
              rotate_left 2
              · rintro w' ⟨s0, s1, s2⟩
                (refine Eq.trans (b := Result.ok (Next.value (.agg (nvo 9 12 V))) w') ?_ ?_; exact exec_load (n := 25) (oo := 9) (k := 12) rfl rfl s1 (by omega) Try.underlying54 rfl arr12_size; with_reducible rfl)
              · simp only [Act.put, List.setIfInBounds_toArray, List.set_cons_zero, List.set_cons_succ]
                rfl
              refine rg_take (i := 9) (N := (some 84)) (v := ?_) (a' := ?_) #[true, true, true, true, true, true, true, true, true, true, false, false, false, false, false, false, false, false, false, false, false, false, false, false, false, false, false, false, false, false, false, false, false, false, false, false, false, false, false, false, false, false, false, false, false, false, false, false, false, false, false, false, false, false] rfl rfl (by kernel_rfl) (fun _ _ _ h => h) (by rfl) ?_ hHeld ?_ ?_
              rotate_left 2
              · rintro w' ⟨s0, s1, s2⟩
                go_simp
                try with_reducible rfl
              · simp only [Act.put, List.setIfInBounds_toArray, List.set_cons_zero, List.set_cons_succ]
                rfl
              refine rg_take (i := 10) (N := (some 85)) (v := ?_) (a' := ?_) #[true, true, true, true, true, true, true, true, true, true, true, false, false, false, false, false, false, false, false, false, false, false, false, false, false, false, false, false, false, false, false, false, false, false, false, false, false, false, false, false, false, false, false, false, false, false, false, false, false, false, false, false, false, false] rfl rfl (by kernel_rfl) (fun _ _ _ h => h) (by rfl) ?_ hHeld ?_ ?_
              rotate_left 2
              · rintro w' ⟨s0, s1, s2⟩
                go_simp
                try with_reducible rfl
              · simp only [Act.put, List.setIfInBounds_toArray, List.set_cons_zero, List.set_cons_succ]
                rfl
              refine rg_take (i := 11) (N := (some 86)) (v := ?_) (a' := ?_) #[true, true, true, true, true, true, true, true, true, true, true, true, false, false, false, false, false, false, false, false, false, false, false, false, false, false, false, false, false, false, false, false, false, false, false, false, false, false, false, false, false, false, false, false, false, false, false, false, false, false, false, false, false, false] rfl rfl (by kernel_rfl) (fun _ _ _ h => h) (by rfl) ?_ hHeld ?_ ?_
              rotate_left 2
              · rintro w' ⟨s0, s1, s2⟩
                go_simp
                try with_reducible rfl
              · simp only [Act.put, List.setIfInBounds_toArray, List.set_cons_zero, List.set_cons_succ]
                rfl
              refine rg_take (i := 12) (N := (some 87)) (v := ?_) (a' := ?_) #[true, true, true, true, true, true, true, true, true, true, true, true, true, false, false, false, false, false, false, false, false, false, false, false, false, false, false, false, false, false, false, false, false, false, false, false, false, false, false, false, false, false, false, false, false, false, false, false, false, false, false, false, false, false] rfl rfl (by kernel_rfl) (fun _ _ _ h => h) (by rfl) ?_ hHeld ?_ ?_
              rotate_left 2
              · rintro w' ⟨s0, s1, s2⟩
                go_simp
                try with_reducible rfl
              · simp only [Act.put, List.setIfInBounds_toArray, List.set_cons_zero, List.set_cons_succ]
                rfl
              refine rg_take (i := 13) (N := (some 88)) (v := ?_) (a' := ?_) #[true, true, true, true, true, true, true, true, true, true, true, true, true, true, false, false, false, false, false, false, false, false, false, false, false, false, false, false, false, false, false, false, false, false, false, false, false, false, false, false, false, false, false, false, false, false, false, false, false, false, false, false, false, false] rfl rfl (by kernel_rfl) (fun _ _ _ h => h) (by rfl) ?_ hHeld ?_ ?_
              rotate_left 2
              · rintro w' ⟨s0, s1, s2⟩
                (have c := s1.cell (i := 21) (by omega); go_simp; try with_reducible rfl)
              · simp only [Act.put, List.setIfInBounds_toArray, List.set_cons_zero, List.set_cons_succ]
                rfl
              refine rg_take (i := 14) (N := (some 89)) (v := ?_) (a' := ?_) #[true, true, true, true, true, true, true, true, true, true, true, true, true, true, true, false, false, false, false, false, false, false, false, false, false, false, false, false, false, false, false, false, false, false, false, false, false, false, false, false, false, false, false, false, false, false, false, false, false, false, false, false, false, false] rfl rfl (by kernel_rfl) (fun _ _ _ h => h) (by rfl) ?_ hHeld ?_ ?_
              rotate_left 2
              · rintro w' ⟨s0, s1, s2⟩
                go_simp
                try with_reducible rfl
              · simp only [Act.put, List.setIfInBounds_toArray, List.set_cons_zero, List.set_cons_succ]
                rfl
              refine rg_take (i := 15) (N := (some 90)) (v := ?_) (a' := ?_) #[true, true, true, true, true, true, true, true, true, true, true, true, true, true, true, true, false, false, false, false, false, false, false, false, false, false, false, false, false, false, false, false, false, false, false, false, false, false, false, false, false, false, false, false, false, false, false, false, false, false, false, false, false, false] rfl rfl (by kernel_rfl) (fun _ _ _ h => h) (by rfl) ?_ hHeld ?_ ?_
              rotate_left 2
              · rintro w' ⟨s0, s1, s2⟩
                go_simp
                try with_reducible rfl
              · simp only [Act.put, List.setIfInBounds_toArray, List.set_cons_zero, List.set_cons_succ]
                rfl
              refine rg_take (i := 16) (N := (some 91)) (v := ?_) (a' := ?_) #[true, true, true, true, true, true, true, true, true, true, true, true, true, true, true, true, true, false, false, false, false, false, false, false, false, false, false, false, false, false, false, false, false, false, false, false, false, false, false, false, false, false, false, false, false, false, false, false, false, false, false, false, false, false] rfl rfl (by kernel_rfl) (fun _ _ _ h => h) (by rfl) ?_ hHeld ?_ ?_
              rotate_left 2
              · rintro w' ⟨s0, s1, s2⟩
                go_simp
                try with_reducible rfl
              · simp only [Act.put, List.setIfInBounds_toArray, List.set_cons_zero, List.set_cons_succ]
                rfl
              refine rg_take (i := 17) (N := (some 92)) (v := ?_) (a' := ?_) #[true, true, true, true, true, true, true, true, true, true, true, true, true, true, true, true, true, true, false, false, false, false, false, false, false, false, false, false, false, false, false, false, false, false, false, false, false, false, false, false, false, false, false, false, false, false, false, false, false, false, false, false, false, false] rfl rfl (by kernel_rfl) (fun _ _ _ h => h) (by rfl) ?_ hHeld ?_ ?_
              rotate_left 2
              · rintro w' ⟨s0, s1, s2⟩
                go_simp
                try with_reducible rfl
              · simp only [Act.put, List.setIfInBounds_toArray, List.set_cons_zero, List.set_cons_succ]
                rfl
              refine rg_take (i := 18) (N := (some 93)) (v := ?_) (a' := ?_) #[true, true, true, true, true, true, true, true, true, true, true, true, true, true, true, true, true, true, true, false, false, false, false, false, false, false, false, false, false, false, false, false, false, false, false, false, false, false, false, false, false, false, false, false, false, false, false, false, false, false, false, false, false, false] rfl rfl (by kernel_rfl) (fun _ _ _ h => h) (by rfl) ?_ hHeld ?_ ?_
              rotate_left 2
              · rintro w' ⟨s0, s1, s2⟩
                (have c := s1.cell (i := 22) (by omega); go_simp; try with_reducible rfl)
              · simp only [Act.put, List.setIfInBounds_toArray, List.set_cons_zero, List.set_cons_succ]
                rfl
              refine rg_take (i := 19) (N := (some 94)) (v := ?_) (a' := ?_) #[true, true, true, true, true, true, true, true, true, true, true, true, true, true, true, true, true, true, true, true, false, false, false, false, false, false, false, false, false, false, false, false, false, false, false, false, false, false, false, false, false, false, false, false, false, false, false, false, false, false, false, false, false, false] rfl rfl (by kernel_rfl) (fun _ _ _ h => h) (by rfl) ?_ hHeld ?_ ?_
              rotate_left 2
              · rintro w' ⟨s0, s1, s2⟩
                go_simp
                try with_reducible rfl
              · simp only [Act.put, List.setIfInBounds_toArray, List.set_cons_zero, List.set_cons_succ]
                rfl
              refine rg_take (i := 20) (N := (some 95)) (v := ?_) (a' := ?_) #[true, true, true, true, true, true, true, true, true, true, true, true, true, true, true, true, true, true, true, true, true, false, false, false, false, false, false, false, false, false, false, false, false, false, false, false, false, false, false, false, false, false, false, false, false, false, false, false, false, false, false, false, false, false] rfl rfl (by kernel_rfl) (fun _ _ _ h => h) (by rfl) ?_ hHeld ?_ ?_
              rotate_left 2
              · rintro w' ⟨s0, s1, s2⟩
                go_simp
                try with_reducible rfl
              · simp only [Act.put, List.setIfInBounds_toArray, List.set_cons_zero, List.set_cons_succ]
                rfl
              refine rg_take (i := 21) (N := (some 96)) (v := ?_) (a' := ?_) #[true, true, true, true, true, true, true, true, true, true, true, true, true, true, true, true, true, true, true, true, true, true, false, false, false, false, false, false, false, false, false, false, false, false, false, false, false, false, false, false, false, false, false, false, false, false, false, false, false, false, false, false, false, false] rfl rfl (by kernel_rfl) (fun _ _ _ h => h) (by rfl) ?_ hHeld ?_ ?_
              rotate_left 2
              · rintro w' ⟨s0, s1, s2⟩
                go_simp
                try with_reducible rfl
              · simp only [Act.put, List.setIfInBounds_toArray, List.set_cons_zero, List.set_cons_succ]
                rfl
              refine rg_take (i := 22) (N := (some 97)) (v := ?_) (a' := ?_) #[true, true, true, true, true, true, true, true, true, true, true, true, true, true, true, true, true, true, true, true, true, true, true, false, false, false, false, false, false, false, false, false, false, false, false, false, false, false, false, false, false, false, false, false, false, false, false, false, false, false, false, false, false, false] rfl rfl (by kernel_rfl) (fun _ _ _ h => h) (by rfl) ?_ hHeld ?_ ?_
              rotate_left 2
              · rintro w' ⟨s0, s1, s2⟩
                go_simp
                try with_reducible rfl
              · simp only [Act.put, List.setIfInBounds_toArray, List.set_cons_zero, List.set_cons_succ]
                rfl
              refine rg_take (i := 23) (N := (some 98)) (v := ?_) (a' := ?_) #[true, true, true, true, true, true, true, true, true, true, true, true, true, true, true, true, true, true, true, true, true, true, true, true, false, false, false, false, false, false, false, false, false, false, false, false, false, false, false, false, false, false, false, false, false, false, false, false, false, false, false, false, false, false] rfl rfl (by kernel_rfl) (fun _ _ _ h => h) (by rfl) ?_ hHeld ?_ ?_
              rotate_left 2
              · rintro w' ⟨s0, s1, s2⟩
                (have c := s1.cell (i := 23) (by omega); go_simp; try with_reducible rfl)
              · simp only [Act.put, List.setIfInBounds_toArray, List.set_cons_zero, List.set_cons_succ]
                rfl
              refine rg_take (i := 24) (N := (some 99)) (v := ?_) (a' := ?_) #[true, true, true, true, true, true, true, true, true, true, true, true, true, true, true, true, true, true, true, true, true, true, true, true, true, false, false, false, false, false, false, false, false, false, false, false, false, false, false, false, false, false, false, false, false, false, false, false, false, false, false, false, false, false] rfl rfl (by kernel_rfl) (fun _ _ _ h => h) (by rfl) ?_ hHeld ?_ ?_
              rotate_left 2
              · rintro w' ⟨s0, s1, s2⟩
                go_simp
                try with_reducible rfl
              · simp only [Act.put, List.setIfInBounds_toArray, List.set_cons_zero, List.set_cons_succ]
                rfl
              refine rg_take (i := 25) (N := (some 100)) (v := ?_) (a' := ?_) #[true, true, true, true, true, true, true, true, true, true, true, true, true, true, true, true, true, true, true, true, true, true, true, true, true, true, false, false, false, false, false, false, false, false, false, false, false, false, false, false, false, false, false, false, false, false, false, false, false, false, false, false, false, false] rfl rfl (by kernel_rfl) (fun _ _ _ h => h) (by rfl) ?_ hHeld ?_ ?_
              rotate_left 2
              · rintro w' ⟨s0, s1, s2⟩
                go_simp
                try with_reducible rfl
              · simp only [Act.put, List.setIfInBounds_toArray, List.set_cons_zero, List.set_cons_succ]
                rfl
              refine rg_take (i := 26) (N := (some 101)) (v := ?_) (a' := ?_) #[true, true, true, true, true, true, true, true, true, true, true, true, true, true, true, true, true, true, true, true, true, true, true, true, true, true, true, false, false, false, false, false, false, false, false, false, false, false, false, false, false, false, false, false, false, false, false, false, false, false, false, false, false, false] rfl rfl (by kernel_rfl) (fun _ _ _ h => h) (by rfl) ?_ hHeld ?_ ?_
              rotate_left 2
              · rintro w' ⟨s0, s1, s2⟩
                go_simp
                try with_reducible rfl
              · simp only [Act.put, List.setIfInBounds_toArray, List.set_cons_zero, List.set_cons_succ]
                rfl
              refine rg_take (i := 27) (N := (some 102)) (v := ?_) (a' := ?_) #[true, true, true, true, true, true, true, true, true, true, true, true, true, true, true, true, true, true, true, true, true, true, true, true, true, true, true, true, false, false, false, false, false, false, false, false, false, false, false, false, false, false, false, false, false, false, false, false, false, false, false, false, false, false] rfl rfl (by kernel_rfl) (fun _ _ _ h => h) (by rfl) ?_ hHeld ?_ ?_
              rotate_left 2
              · rintro w' ⟨s0, s1, s2⟩
                go_simp
                try with_reducible rfl
              · simp only [Act.put, List.setIfInBounds_toArray, List.set_cons_zero, List.set_cons_succ]
                rfl
              refine rg_take (i := 28) (N := (some 103)) (v := ?_) (a' := ?_) #[true, true, true, true, true, true, true, true, true, true, true, true, true, true, true, true, true, true, true, true, true, true, true, true, true, true, true, true, true, false, false, false, false, false, false, false, false, false, false, false, false, false, false, false, false, false, false, false, false, false, false, false, false, false] rfl rfl (by kernel_rfl) (fun _ _ _ h => h) (by rfl) ?_ hHeld ?_ ?_
              rotate_left 2
              · rintro w' ⟨s0, s1, s2⟩
                (have c := s1.cell (i := 24) (by omega); go_simp; try with_reducible rfl)
              · simp only [Act.put, List.setIfInBounds_toArray, List.set_cons_zero, List.set_cons_succ]
                rfl
              refine rg_take (i := 29) (N := (some 104)) (v := ?_) (a' := ?_) #[true, true, true, true, true, true, true, true, true, true, true, true, true, true, true, true, true, true, true, true, true, true, true, true, true, true, true, true, true, true, false, false, false, false, false, false, false, false, false, false, false, false, false, false, false, false, false, false, false, false, false, false, false, false] rfl rfl (by kernel_rfl) (fun _ _ _ h => h) (by rfl) ?_ hHeld ?_ ?_
              rotate_left 2
              · rintro w' ⟨s0, s1, s2⟩
                (refine Eq.trans (b := Result.ok (Next.value (.agg (nv 25 V))) w') ?_ ?_; kernel_rfl; with_reducible rfl)
              · simp only [Act.put, List.setIfInBounds_toArray, List.set_cons_zero, List.set_cons_succ]
                rfl
              refine rg_take (i := 30) (N := (some 105)) (v := ?_) (a' := ?_) #[true, true, true, true, true, true, true, true, true, true, true, true, true, true, true, true, true, true, true, true, true, true, true, true, true, true, true, true, true, true, true, false, false, false, false, false, false, false, false, false, false, false, false, false, false, false, false, false, false, false, false, false, false, false] rfl rfl (by kernel_rfl) (fun _ _ _ h => h) (by rfl) ?_ hHeld ?_ ?_
              rotate_left 2
              · rintro w' ⟨s0, s1, s2⟩
                (have heq := HEQ.out; go_simp; try with_reducible rfl)
              · simp only [Act.put, List.setIfInBounds_toArray, List.set_cons_zero, List.set_cons_succ]
                rfl
              refine rg_take (i := 31) (N := (some 106)) (v := ?_) (a' := ?_) #[true, true, true, true, true, true, true, true, true, true, true, true, true, true, true, true, true, true, true, true, true, true, true, true, true, true, true, true, true, true, true, true, false, false, false, false, false, false, false, false, false, false, false, false, false, false, false, false, false, false, false, false, false, false] rfl rfl (by kernel_rfl) (fun _ _ _ h => h) (by rfl) ?_ hHeld ?_ ?_
              rotate_left 2
              · rintro w' ⟨s0, s1, s2⟩
                go_simp
                try with_reducible rfl
              · simp only [Act.put, List.setIfInBounds_toArray, List.set_cons_zero, List.set_cons_succ]
                rfl
              refine rg_take (i := 32) (N := (some 107)) (v := ?_) (a' := ?_) #[true, true, true, true, true, true, true, true, true, true, true, true, true, true, true, true, true, true, true, true, true, true, true, true, true, true, true, true, true, true, true, true, true, false, false, false, false, false, false, false, false, false, false, false, false, false, false, false, false, false, false, false, false, false] rfl rfl (by kernel_rfl) (fun _ _ _ h => h) (by rfl) ?_ hHeld ?_ ?_
              rotate_left 2
              · rintro w' ⟨s0, s1, s2⟩
                (refine Eq.trans (b := Result.ok (Next.value (.agg (nv 25 V))) w') ?_ ?_; exact exec_loadn (n := 25) (k := 25) rfl rfl s0 (by omega) Try.underlying71 rfl tally_size; with_reducible rfl)
              · simp only [Act.put, List.setIfInBounds_toArray, List.set_cons_zero, List.set_cons_succ]
                rfl
              refine rg_take (i := 34) (N := (some 109)) (v := ?_) (a' := ?_) #[true, true, true, true, true, true, true, true, true, true, true, true, true, true, true, true, true, true, true, true, true, true, true, true, true, true, true, true, true, true, true, true, true, false, true, false, false, false, false, false, false, false, false, false, false, false, false, false, false, false, false, false, false, false] rfl rfl (by kernel_rfl) (fun _ _ _ h => h) (by rfl) ?_ hHeld ?_ ?_
              rotate_left 2
              · rintro w' ⟨s0, s1, s2⟩
                go_simp
                try with_reducible rfl
              · simp only [Act.put, List.setIfInBounds_toArray, List.set_cons_zero, List.set_cons_succ]
                rfl
              refine rg_one (i := 33) #[true, true, true, true, true, true, true, true, true, true, true, true, true, true, true, true, true, true, true, true, true, true, true, true, true, true, true, true, true, true, true, true, true, true, true, false, false, false, false, false, false, false, false, false, false, false, false, false, false, false, false, false, false, false] rfl (by kernel_rfl) (by rfl) (fun K hK => ?_)
              obtain ⟨s0, s1, s2⟩ := hHeld
              repeat go_step
              ((with_reducible refine (tTotal_any V _ HRG.out).mono ?_); rintro e w3 ⟨rfl, hb3⟩)
              try dsimp only
              refine hK.out _ _ ?_ (fun hHeld => ?_)
              · exact ⟨s0.below hb3, s1.below hb3, below_next s2 hb3⟩
              clear hK K
              clear s0 s1 s2
              refine rg_take (i := 35) (N := (some 110)) (v := ?_) (a' := ?_) #[true, true, true, true, true, true, true, true, true, true, true, true, true, true, true, true, true, true, true, true, true, true, true, true, true, true, true, true, true, true, true, true, true, true, true, true, false, false, false, false, false, false, false, false, false, false, false, false, false, false, false, false, false, false] rfl rfl (by kernel_rfl) (fun _ _ _ h => h) (by rfl) ?_ hHeld ?_ ?_
              rotate_left 2
              · rintro w' ⟨s0, s1, s2⟩
                go_simp
                try with_reducible rfl
              · simp only [Act.put, List.setIfInBounds_toArray, List.set_cons_zero, List.set_cons_succ]
                rfl
              refine rg_take (i := 36) (N := (some 111)) (v := ?_) (a' := ?_) #[true, true, true, true, true, true, true, true, true, true, true, true, true, true, true, true, true, true, true, true, true, true, true, true, true, true, true, true, true, true, true, true, true, true, true, true, true, false, false, false, false, false, false, false, false, false, false, false, false, false, false, false, false, false] rfl rfl (by kernel_rfl) (fun _ _ _ h => h) (by rfl) ?_ hHeld ?_ ?_
              rotate_left 2
              · rintro w' ⟨s0, s1, s2⟩
                go_simp
                try with_reducible rfl
              · simp only [Act.put, List.setIfInBounds_toArray, List.set_cons_zero, List.set_cons_succ]
                rfl
              refine rg_take (i := 37) (N := (some 112)) (v := ?_) (a' := ?_) #[true, true, true, true, true, true, true, true, true, true, true, true, true, true, true, true, true, true, true, true, true, true, true, true, true, true, true, true, true, true, true, true, true, true, true, true, true, true, false, false, false, false, false, false, false, false, false, false, false, false, false, false, false, false] rfl rfl (by kernel_rfl) (fun _ _ _ h => h) (by rfl) ?_ hHeld ?_ ?_
              rotate_left 2
              · rintro w' ⟨s0, s1, s2⟩
                go_simp
                try with_reducible rfl
              · simp only [Act.put, List.setIfInBounds_toArray, List.set_cons_zero, List.set_cons_succ]
                rfl
              refine rg_take (i := 38) (N := (some 113)) (v := ?_) (a' := ?_) #[true, true, true, true, true, true, true, true, true, true, true, true, true, true, true, true, true, true, true, true, true, true, true, true, true, true, true, true, true, true, true, true, true, true, true, true, true, true, true, false, false, false, false, false, false, false, false, false, false, false, false, false, false, false] rfl rfl (by kernel_rfl) (fun _ _ _ h => h) (by rfl) ?_ hHeld ?_ ?_
              rotate_left 2
              · rintro w' ⟨s0, s1, s2⟩
                (refine Eq.trans (b := Result.ok (Next.value (.agg (nv 25 V))) w') ?_ ?_; exact exec_loadn (n := 25) (k := 25) rfl rfl s0 (by omega) Try.underlying71 rfl tally_size; with_reducible rfl)
              · simp only [Act.put, List.setIfInBounds_toArray, List.set_cons_zero, List.set_cons_succ]
                rfl
              refine rg_take (i := 40) (N := (some 115)) (v := ?_) (a' := ?_) #[true, true, true, true, true, true, true, true, true, true, true, true, true, true, true, true, true, true, true, true, true, true, true, true, true, true, true, true, true, true, true, true, true, true, true, true, true, true, true, false, true, false, false, false, false, false, false, false, false, false, false, false, false, false] rfl rfl (by kernel_rfl) (fun _ _ _ h => h) (by rfl) ?_ hHeld ?_ ?_
              rotate_left 2
              · rintro w' ⟨s0, s1, s2⟩
                go_simp
                try with_reducible rfl
              · simp only [Act.put, List.setIfInBounds_toArray, List.set_cons_zero, List.set_cons_succ]
                rfl
              refine rg_one (i := 39) #[true, true, true, true, true, true, true, true, true, true, true, true, true, true, true, true, true, true, true, true, true, true, true, true, true, true, true, true, true, true, true, true, true, true, true, true, true, true, true, true, true, false, false, false, false, false, false, false, false, false, false, false, false, false] rfl (by kernel_rfl) (by rfl) (fun K hK => ?_)
              obtain ⟨s0, s1, s2⟩ := hHeld
              repeat go_step
              ((with_reducible refine (tErrors_any V _ HRG.out).mono ?_); rintro e w4 ⟨rfl, hb4⟩)
              try dsimp only
              refine hK.out _ _ ?_ (fun hHeld => ?_)
              · exact ⟨s0.below hb4, s1.below hb4, below_next s2 hb4⟩
              clear hK K
              clear s0 s1 s2
              refine rg_take (i := 41) (N := (some 116)) (v := ?_) (a' := ?_) #[true, true, true, true, true, true, true, true, true, true, true, true, true, true, true, true, true, true, true, true, true, true, true, true, true, true, true, true, true, true, true, true, true, true, true, true, true, true, true, true, true, true, false, false, false, false, false, false, false, false, false, false, false, false] rfl rfl (by kernel_rfl) (fun _ _ _ h => h) (by rfl) ?_ hHeld ?_ ?_
              rotate_left 2
              · rintro w' ⟨s0, s1, s2⟩
                go_simp
                try with_reducible rfl
              · simp only [Act.put, List.setIfInBounds_toArray, List.set_cons_zero, List.set_cons_succ]
                rfl
              refine rg_take (i := 42) (N := (some 117)) (v := ?_) (a' := ?_) #[true, true, true, true, true, true, true, true, true, true, true, true, true, true, true, true, true, true, true, true, true, true, true, true, true, true, true, true, true, true, true, true, true, true, true, true, true, true, true, true, true, true, true, false, false, false, false, false, false, false, false, false, false, false] rfl rfl (by kernel_rfl) (fun _ _ _ h => h) (by rfl) ?_ hHeld ?_ ?_
              rotate_left 2
              · rintro w' ⟨s0, s1, s2⟩
                go_simp
                try with_reducible rfl
              · simp only [Act.put, List.setIfInBounds_toArray, List.set_cons_zero, List.set_cons_succ]
                rfl
              refine rg_take (i := 43) (N := (some 118)) (v := ?_) (a' := ?_) #[true, true, true, true, true, true, true, true, true, true, true, true, true, true, true, true, true, true, true, true, true, true, true, true, true, true, true, true, true, true, true, true, true, true, true, true, true, true, true, true, true, true, true, true, false, false, false, false, false, false, false, false, false, false] rfl rfl (by kernel_rfl) (fun _ _ _ h => h) (by rfl) ?_ hHeld ?_ ?_
              rotate_left 2
              · rintro w' ⟨s0, s1, s2⟩
                go_simp
                try with_reducible rfl
              · simp only [Act.put, List.setIfInBounds_toArray, List.set_cons_zero, List.set_cons_succ]
                rfl
              refine rg_take (i := 44) (N := (some 119)) (v := ?_) (a' := ?_) #[true, true, true, true, true, true, true, true, true, true, true, true, true, true, true, true, true, true, true, true, true, true, true, true, true, true, true, true, true, true, true, true, true, true, true, true, true, true, true, true, true, true, true, true, true, false, false, false, false, false, false, false, false, false] rfl rfl (by kernel_rfl) (fun _ _ _ h => h) (by rfl) ?_ hHeld ?_ ?_
              rotate_left 2
              · rintro w' ⟨s0, s1, s2⟩
                (refine Eq.trans (b := Result.ok (Next.value (.agg (nv 25 V))) w') ?_ ?_; exact exec_loadn (n := 25) (k := 25) rfl rfl s0 (by omega) Try.underlying71 rfl tally_size; with_reducible rfl)
              · simp only [Act.put, List.setIfInBounds_toArray, List.set_cons_zero, List.set_cons_succ]
                rfl
              refine rg_take (i := 46) (N := (some 121)) (v := ?_) (a' := ?_) #[true, true, true, true, true, true, true, true, true, true, true, true, true, true, true, true, true, true, true, true, true, true, true, true, true, true, true, true, true, true, true, true, true, true, true, true, true, true, true, true, true, true, true, true, true, false, true, false, false, false, false, false, false, false] rfl rfl (by kernel_rfl) (fun _ _ _ h => h) (by rfl) ?_ hHeld ?_ ?_
              rotate_left 2
              · rintro w' ⟨s0, s1, s2⟩
                go_simp
                try with_reducible rfl
              · simp only [Act.put, List.setIfInBounds_toArray, List.set_cons_zero, List.set_cons_succ]
                rfl
              refine rg_take (i := 47) (N := (some 122)) (v := ?_) (a' := ?_) #[true, true, true, true, true, true, true, true, true, true, true, true, true, true, true, true, true, true, true, true, true, true, true, true, true, true, true, true, true, true, true, true, true, true, true, true, true, true, true, true, true, true, true, true, true, false, true, true, false, false, false, false, false, false] rfl rfl (by kernel_rfl) (fun _ _ _ h => h) (by rfl) ?_ hHeld ?_ ?_
              rotate_left 2
              · rintro w' ⟨s0, s1, s2⟩
                go_simp
                try with_reducible rfl
              · simp only [Act.put, List.setIfInBounds_toArray, List.set_cons_zero, List.set_cons_succ]
                rfl
              refine rg_take (i := 48) (N := (some 123)) (v := ?_) (a' := ?_) #[true, true, true, true, true, true, true, true, true, true, true, true, true, true, true, true, true, true, true, true, true, true, true, true, true, true, true, true, true, true, true, true, true, true, true, true, true, true, true, true, true, true, true, true, true, false, true, true, true, false, false, false, false, false] rfl rfl (by kernel_rfl) (fun _ _ _ h => h) (by rfl) ?_ hHeld ?_ ?_
              rotate_left 2
              · rintro w' ⟨s0, s1, s2⟩
                go_simp
                try with_reducible rfl
              · simp only [Act.put, List.setIfInBounds_toArray, List.set_cons_zero, List.set_cons_succ]
                rfl
              refine rg_take (i := 49) (N := (some 124)) (v := ?_) (a' := ?_) #[true, true, true, true, true, true, true, true, true, true, true, true, true, true, true, true, true, true, true, true, true, true, true, true, true, true, true, true, true, true, true, true, true, true, true, true, true, true, true, true, true, true, true, true, true, false, true, true, true, true, false, false, false, false] rfl rfl (by kernel_rfl) (fun _ _ _ h => h) (by rfl) ?_ hHeld ?_ ?_
              rotate_left 2
              · rintro w' ⟨s0, s1, s2⟩
                (refine Eq.trans (b := Result.ok (Next.value (.agg (nv 9 V))) w') ?_ ?_; exact exec_loadn (n := 25) (k := 9) rfl rfl s1 (by omega) Try.underlying53 rfl arr9_size; with_reducible rfl)
              · simp only [Act.put, List.setIfInBounds_toArray, List.set_cons_zero, List.set_cons_succ]
                rfl
              refine rg_one (i := 45) #[true, true, true, true, true, true, true, true, true, true, true, true, true, true, true, true, true, true, true, true, true, true, true, true, true, true, true, true, true, true, true, true, true, true, true, true, true, true, true, true, true, true, true, true, true, true, true, true, true, true, false, false, false, false] rfl (by kernel_rfl) (by rfl) (fun K hK => ?_)
              obtain ⟨s0, s1, s2⟩ := hHeld
              repeat go_step
              ((with_reducible refine (tBz_any V _).mono ?_); rintro e w5 ⟨v5, rfl, ho5, hb5⟩; obtain ⟨A5, cap5, rfl⟩ := ho5.slice; have HO5 := Lib.hid ho5; clear ho5)
              try dsimp only
              refine hK.out _ _ ?_ (fun hHeld => ?_)
              · exact ⟨s0.below hb5, s1.below hb5, below_next s2 hb5⟩
              clear hK K
              clear s0 s1 s2
              refine rg_one (i := 50) #[true, true, true, true, true, true, true, true, true, true, true, true, true, true, true, true, true, true, true, true, true, true, true, true, true, true, true, true, true, true, true, true, true, true, true, true, true, true, true, true, true, true, true, true, true, true, true, true, true, true, true, false, false, false] rfl (by kernel_rfl) (by rfl) (fun K hK => ?_)
              obtain ⟨s0, s1, s2⟩ := hHeld
              repeat go_step
              ((with_reducible refine (refBz_any V _).mono ?_); rintro e w6 ⟨v6, rfl, ho6, hb6⟩; obtain ⟨A6, cap6, rfl⟩ := ho6.slice; have HO6 := Lib.hid ho6; clear ho6; have HO7 := Lib.hid (HO5.out.below hb6))
              try dsimp only
              refine hK.out _ _ ?_ (fun hHeld => ?_)
              · exact ⟨s0.below hb6, s1.below hb6, below_next s2 hb6⟩
              clear hK K
              clear s0 s1 s2
              refine rg_one (i := 51) #[true, true, true, true, true, true, true, true, true, true, true, true, true, true, true, true, true, true, true, true, true, true, true, true, true, true, true, true, true, true, true, true, true, true, true, true, true, true, true, true, true, true, true, true, true, true, true, true, true, true, true, true, false, false] rfl (by kernel_rfl) (by rfl) (fun K hK => ?_)
              obtain ⟨s0, s1, s2⟩ := hHeld
              repeat go_step
              ((with_reducible refine (ints_any _ _ _ _ (bz V) _ (OwnsI.el HO7.out) (OwnsI.el HO6.out) (by have := bz_length V; omega)).mono ?_); rintro e w7 ⟨rfl, hb7⟩)
              try dsimp only
              refine hK.out _ _ ?_ (fun hHeld => ?_)
              · exact ⟨s0.below hb7, s1.below hb7, below_next s2 hb7⟩
              clear hK K
              clear s0 s1 s2
              refine rg_take (i := 52) (N := (some 127)) (v := ?_) (a' := ?_) #[true, true, true, true, true, true, true, true, true, true, true, true, true, true, true, true, true, true, true, true, true, true, true, true, true, true, true, true, true, true, true, true, true, true, true, true, true, true, true, true, true, true, true, true, true, true, true, true, true, true, true, true, true, false] rfl rfl (by kernel_rfl) (fun _ _ _ h => h) (by rfl) ?_ hHeld ?_ ?_
              rotate_left 2
              · rintro w' ⟨s0, s1, s2⟩
                go_simp
                try with_reducible rfl
              · simp only [Act.put, List.setIfInBounds_toArray, List.set_cons_zero, List.set_cons_succ]
                rfl
              refine rg_take (i := 53) (N := (some 2)) (v := ?_) (a' := ?_) #[true, true, true, true, true, true, true, true, true, true, true, true, true, true, true, true, true, true, true, true, true, true, true, true, true, true, true, true, true, true, true, true, true, true, true, true, true, true, true, true, true, true, true, true, true, true, true, true, true, true, true, true, true, true] rfl rfl (by kernel_rfl) (fun _ _ _ h => h) (by rfl) ?_ hHeld ?_ ?_
              rotate_left 2
              · rintro w' ⟨s0, s1, s2⟩
                go_simp
                try with_reducible rfl
              · simp only [Act.put, List.setIfInBounds_toArray, List.set_cons_zero, List.set_cons_succ]
                rfl
              refine rg_done (by kernel_rfl) ?_
              go_wp2
              go_ret
              exact ⟨rfl, hHeld.2.2⟩
end Go.Proofs.Ytdfgdnaejnngoaa
