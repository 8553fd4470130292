import Derived.Test.YtdfgdnaejnngoaaDoorMin9
namespace Go.Proofs.YtdfgdnaejnngoaaDoor
open Go.RowKit

theorem meql_ord (a b : Ord) (w : World) : (binOp .eql 37 a.v b.v).run Tryd.prog w = .ok (.bool (decide (a = b))) w := by
  have u3 := Tryd.underlying3
  have a3 := Tryd.isAgg3
  have z3 := Tryd.sizeOf3
  have u9 := Tryd.underlying9
  have a9 := Tryd.isAgg9
  have z9 := Tryd.sizeOf9
  have u22 := Tryd.underlying22
  have a22 := Tryd.isAgg22
  have z22 := Tryd.sizeOf22
  have hS : Tryd.prog.underlying 37 = some (.struct (Tryd.prog.fieldsOf 37)) := by kernel_rfl
  have hp : Tryd.prog.stoodInHeld 37 = false := by kernel_rfl
  rw [Ord.v_def, Ord.v_def]
  rw [run_eql_struct, show (10000 : Nat) = 9999 + 1 from rfl, run_equalIn_agg w 9999 37 _ _ hS hp]
  simp only [Program.fieldsOf, Tryd.underlying37]
  go_simp
  obtain ⟨k, key, val, n, lo, hi⟩ := a
  obtain ⟨k', key', val', n', lo', hi'⟩ := b
  by_cases h1 : k = k' <;> by_cases h2 : key = key' <;> by_cases h3 : val = val' <;> by_cases h4 : n = n' <;> by_cases h5 : lo = lo' <;> by_cases h6 : hi = hi' <;> simp [h1, h2, h3, h4, h5, h6, bytes_inj]
theorem neq_ref (a b : Ord) (w : World) : (binOp .neq 35 a.v b.v).run Tryd.prog w = .ok (.bool (!decide (a = b))) w := by
  have u3 := Tryd.underlying3
  have a3 := Tryd.isAgg3
  have z3 := Tryd.sizeOf3
  have u9 := Tryd.underlying9
  have a9 := Tryd.isAgg9
  have z9 := Tryd.sizeOf9
  have u22 := Tryd.underlying22
  have a22 := Tryd.isAgg22
  have z22 := Tryd.sizeOf22
  have hS : Tryd.prog.underlying 35 = some (.struct (Tryd.prog.fieldsOf 35)) := by kernel_rfl
  have hp : Tryd.prog.stoodInHeld 35 = false := by kernel_rfl
  rw [Ord.v_def, Ord.v_def]
  rw [run_neq_struct, show (10000 : Nat) = 9999 + 1 from rfl, run_equalIn_agg w 9999 35 _ _ hS hp]
  simp only [Program.fieldsOf, Tryd.underlying35]
  go_simp
  obtain ⟨k, key, val, n, lo, hi⟩ := a
  obtain ⟨k', key', val', n', lo', hi'⟩ := b
  by_cases h1 : k = k' <;> by_cases h2 : key = key' <;> by_cases h3 : val = val' <;> by_cases h4 : n = n' <;> by_cases h5 : lo = lo' <;> by_cases h6 : hi = hi' <;> simp [h1, h2, h3, h4, h5, h6, bytes_inj]
theorem form_any (o : Ord) (w : World) : Calls Tryd.prog 11 #[o.v] w fun e w' => e = .returned o.v ∧ Below w.heap.size w w' := by
  obtain ⟨k, key, val, n, lo, hi⟩ := o
  rw [Ord.v_def]
  dsimp only
  go_enter Tryd.func11, Tryd.ntmps11
  go_wp2
  (try simp only [Exit.inBlock, Exit.then])
  refine bodyPost_ret (v := .agg #[.int .i64 k, .string key, .string val, .int .u64 n, .string lo, .string hi]) (by simp [results, Tryd.results11, go_sem]) rfl ⟨rfl, (by repeat (first | assumption | exact Below.refl _ _ | (refine below_step (w := ?_) ?_ ?_ ?_; rotate_left 2; assumption) | refine Below.drew ?_ | refine below_drewN ?_ _ | refine Below.alloc ?_ ?_ _ | refine Below.setCell ?_ ?_ _ | (focus (simp; done)) | (focus (simp; omega)) | omega))⟩


theorem mOrders_any (n : Int) (b B : Nat) (x : Int) (w : World) (h : MAt w b x) (hB : B ≤ b) (ht : Tab B w) : Calls Tryd.prog 14 #[.pointer (some ⟨b, 0, none⟩), .int .i64 n] w
    fun e w' => (∃ A cap, e = .returned (.slice A (cntS n 400) cap) ∧ Owns 37 w' w.heap.size (.slice A (cntS n 400) cap) (ordersS x (cntS n 400)).1) ∧ MAt w' b (ordersS x (cntS n 400)).2 ∧ Fr (fun k => k = b) w w' := by
  have ht : Calls Tryd.prog 24 #[.int .i64 n, .int .i64 400, .func (.func 12) #[.pointer (some ⟨b, 0, none⟩)] #[]] w
    fun e w' => (∃ A cap, e = .returned (.slice A (cntS n 400) cap) ∧ Owns 37 w' w.heap.size (.slice A (cntS n 400) cap) (ordersS x (cntS n 400)).1) ∧ MAt w' b (ordersS x (cntS n 400)).2 ∧ Fr (fun k => k = b) w w' := by
    refine (times_ord n b B x w h hB ht).mono ?_
    rintro e w' ⟨v, rfl, ho, hm, hf⟩
    obtain ⟨A, cap, rfl⟩ := ho.slice
    rw [ordersS_length] at ho ⊢
    exact ⟨⟨A, cap, rfl, ho⟩, hm, hf⟩
  generalize cntS n 400 = N at ht ⊢
  have Ht := Lib.hid ht
  clear ht h
  go_enter Tryd.func14, Tryd.ntmps14
  go_wp2_with (go_at_call 24; (with_reducible refine Ht.out.mono ?_); rintro e w1 ⟨⟨A, cap, rfl, ho⟩, hm, hf⟩)
  go_ret
  exact ⟨⟨A, cap, rfl, ho⟩, hm, hf⟩
theorem mKeep_any (n : Int) (b : Nat) (x : Int) (w : World) (h : MAt w b x) : Calls Tryd.prog 15 #[.pointer (some ⟨b, 0, none⟩), .int .i64 n] w
    fun e w' => (∃ A cap, e = .returned (.slice A (cntS n 2048) cap) ∧ OwnsB w' w.heap.size (.slice A (cntS n 2048) cap) (keepS x (cntS n 2048)).1) ∧ MAt w' b (keepS x (cntS n 2048)).2 ∧ Fr (fun k => k = b) w w' := by
  have ht : Calls Tryd.prog 25 #[.int .i64 n, .int .i64 2048, .func (.func 26) #[.pointer (some ⟨b, 0, none⟩)] #[]] w
    fun e w' => (∃ A cap, e = .returned (.slice A (cntS n 2048) cap) ∧ OwnsB w' w.heap.size (.slice A (cntS n 2048) cap) (keepS x (cntS n 2048)).1) ∧ MAt w' b (keepS x (cntS n 2048)).2 ∧ Fr (fun k => k = b) w w' := by
    refine (times_bool n b x w h).mono ?_
    rintro e w' ⟨v, rfl, ho, hm, hf⟩
    have hl := keepS_length x (cntS n 2048)
    have : ∃ A cap, v = .slice A (cntS n 2048) cap := by
      rcases ho.2 with ⟨rfl, hn⟩ | ⟨g, cap, cur, rfl, _⟩
      · exact ⟨none, 0, by rw [← hl, hn]⟩
      · exact ⟨_, _, by rw [hl]⟩
    obtain ⟨A, cap, rfl⟩ := this
    exact ⟨⟨A, cap, rfl, ho⟩, hm, hf⟩
  generalize cntS n 2048 = N at ht ⊢
  have Ht := Lib.hid ht
  clear ht h
  go_enter Tryd.func15, Tryd.ntmps15
  go_wp2_with (go_at_call 25; (with_reducible refine Ht.out.mono ?_); rintro e w1 ⟨⟨A, cap, rfl, ho⟩, hm, hf⟩)
  go_ret
  exact ⟨⟨A, cap, rfl, ho⟩, hm, hf⟩
theorem mOrders_nil (n : Int) (w : World) : Calls Tryd.prog 14 #[.pointer none, .int .i64 n] w fun e w' => e = .returned (.slice none 0 0) ∧ w = w' := by
  go_enter Tryd.func14, Tryd.ntmps14
  go_wp2
  go_ret
  exact ⟨rfl, rfl⟩
theorem mKeep_nil (n : Int) (w : World) : Calls Tryd.prog 15 #[.pointer none, .int .i64 n] w fun e w' => e = .returned (.slice none 0 0) ∧ w = w' := by
  go_enter Tryd.func15, Tryd.ntmps15
  go_wp2
  go_ret
  exact ⟨rfl, rfl⟩
theorem ordersS_get (x : Int) : ∀ (k j : Nat), j < k → (ordersS x k).1[j]? = some (orderS (ordersS x j).2).1
  | 0, j, h => by omega
  | k + 1, j, h => by
    rw [ordersS]
    have hl := ordersS_length x k
    by_cases hj : j < k
    · rw [List.getElem?_append_left (by omega)]
      exact ordersS_get x k j hj
    · obtain rfl : j = k := by omega
      rw [List.getElem?_append_right (by omega), hl, Nat.sub_self]
      rfl
theorem keepS_get (x : Int) : ∀ (k j : Nat), j < k → (keepS x k).1[j]? = some (oddS (keepS x j).2)
  | 0, j, h => by omega
  | k + 1, j, h => by
    rw [keepS]
    have hl := keepS_length x k
    by_cases hj : j < k
    · rw [List.getElem?_append_left (by omega)]
      exact keepS_get x k j hj
    · obtain rfl : j = k := by omega
      rw [List.getElem?_append_right (by omega), hl, Nat.sub_self]
      rfl
set_option maxHeartbeats 800000 in
set_option maxRecDepth 100000 in
theorem awake_any (w : World) (ht : Tab w.heap.size w) : Calls Tryd.prog 5 #[] w fun e w' => e = .returned (.bool true) ∧ Below w.heap.size w w' := by
  have hm := MAt.new w 0
  have hn := fun W h => mNext_any w.heap.size 0 W h
  have h1 := fun x W h => mBelow_yes w.heap.size x 1 W h (by decide) (by decide)
  have h0 := fun W => mBelow_no w.heap.size 0 W (by decide)
  have ho := fun x W h ht => mOrders_any 3 w.heap.size w.heap.size x W h (Nat.le_refl _) ht
  have hk := fun x W h => mKeep_any 2 w.heap.size x W h
  rw [show nZ (nS 0) = 16294208416658607535 from by kernel_rfl] at hn
  rw [show cntS 3 400 = 3 from rfl] at ho
  rw [show cntS 2 2048 = 2 from rfl] at hk
  have e1 : ∀ z : Int, z % 1 = 0 := fun z => Int.emod_one z
  simp only [e1] at h1
  have Hm := Lib.hid hm
  have Hn := Lib.hid hn
  have H1 := Lib.hid h1
  have H0 := Lib.hid h0
  have Ho := Lib.hid ho
  have Hk := Lib.hid hk
  have Ht := Lib.hid ht
  clear hm hn h1 h0 ho hk ht e1
  have hf0 := (Fr.refl (fun k => k = w.heap.size) w).alloc (.cells #[.int .u64 0] 52)
  go_enter Tryd.func5, Tryd.ntmps5
  go_wp2_with (first | (go_at_call 6; (with_reducible refine (new_any _ _).mono ?_); rintro e w1 ⟨rfl, rfl⟩) | (go_at_call 7; (with_reducible refine (Hn.out _ Hm.out).mono ?_); rintro e w2 ⟨rfl, hm2, hf2⟩) | (go_at_call 10; (with_reducible refine (H0.out _).mono ?_); rintro e w3 ⟨rfl, rfl⟩) | (go_at_call 10; (with_reducible refine (H1.out _ _ hm2).mono ?_); rintro e w4 ⟨rfl, hm4, hf4⟩; have hf := (hf0.trans hf2 (fun _ _ h => h)).trans hf4 (fun _ _ h => h)) | (go_at_call 14; (with_reducible refine (Ho.out _ _ hm4 (Ht.out.fr hf (Nat.le_refl _) (fun i e => by omega))).mono ?_); rintro e w5 ⟨⟨A5, c5, rfl, ho5⟩, hm5, hf5⟩; clear ho5; have hf := hf.trans hf5 (fun _ _ h => h)) | (go_at_call 15; (with_reducible refine (Hk.out _ _ hm5).mono ?_); rintro e w6 ⟨⟨A6, c6, rfl, ho6⟩, hm6, hf6⟩; clear ho6; have hf := hf.trans hf6 (fun _ _ h => h)))
  go_ret
  exact ⟨rfl, hf.to_below (Nat.le_refl _) (fun i hi e => by omega)⟩
end Go.Proofs.YtdfgdnaejnngoaaDoor
