import Derived.Test.YtdfgdnaejnngoaaTe
namespace Go.Proofs.Ytdfgdnaejnngoaa
open Go.RowKit
/-! The document's See. -/
theorem one_box {w w1 : World} {c1 : Array Value} {t1 : TypeId} (hb : Below (w.alloc (.cells c1 t1)).heap.size (w.alloc (.cells c1 t1)) w1) :
    w.heap.size < w1.heap.size ∧ (∀ j u, c1[j]? = some u → w1.cell? ⟨w.heap.size, j, none⟩ = some u) ∧ Fr (fun _ => False) w w1 := by
  have hs := hb.size
  simp at hs
  refine ⟨by omega, fun j u hj => ?_, ((Fr.refl _ w).alloc _).tr' hb⟩
  rw [hb.cell (p := ⟨w.heap.size, j, none⟩) (by simp), Lib.cell_of_heap (heap_alloc_new w _)]
  exact hj

set_option maxHeartbeats 1000000 in
set_option maxRecDepth 100000 in
theorem rsee_ask (b : Nat) (v : Nat → Int) (o : Ord) (err : Int) (has : Bool) (il : Nat) (w : World) (h : VAt 57 25 w b v) (h0 : ∀ i, i < 25 → 0 ≤ v i) (h1 : ∀ i, i < 25 → v i ≤ 1152921504606846970) (hl1 : o.key.size ≤ 1000) (hl2 : o.val.size ≤ 1000) (hl3 : il ≤ 1000) :
    Calls Try.prog 22 #[.pointer (some ⟨b, 0, none⟩), .int .i64 1, .agg #[.int .i64 o.kind, .string o.key, .string o.val, .int .u64 o.n, .string o.lo, .string o.hi], .int .i64 err, .bool has, .int .i64 il] w
    fun e w' => e = .returned (.tuple #[]) ∧ VAt 57 25 w' b (fun i => v i + incA o err has il i) ∧ Fr (fun k => k = b) w w' := by
  have his : ∀ W, Calls Try.prog 14 #[.agg #[.int .i64 o.kind, .string o.key, .string o.val, .int .u64 o.n, .string o.lo, .string o.hi]] W fun e w' => e = .returned (.bool (isOrd o)) ∧ Below W.heap.size W w' := fun W => refIs_any o W
  have hkk : isOrd o = true → o.kind = (kOf o : Nat) := fun h => by
    have := isOrd_kind h
    unfold kOf
    rw [if_pos h]
    omega
  have hkn : isOrd o = false → kOf o = 0 := fun h => by unfold kOf; rw [if_neg (by simp [h])]
  have hk9 := kOf_lt o
  have hf12 := fOf_lt err
  have hff : (err < 0 ∨ 11 < err) ∧ fOf err = 0 ∨ err = 0 ∨ (1 ≤ err ∧ err ≤ 11) ∧ err = (fOf err : Nat) := by unfold fOf; split <;> omega
  have hinc : ∀ i, incA o err has il i = (if i = kOf o then 1 else 0) + (if err ≠ 0 then (if i = 9 + fOf err then 1 else 0) else if kOf o = 1 then (if i = 21 then (o.key.size : Int) + o.val.size else 0) else if kOf o = 4 then (if i = 22 ∧ has then 1 else 0) else if kOf o = 5 then (if i = 22 then (il : Int) else 0) else 0) := fun i => rfl
  obtain ⟨ok, okey, oval, on, olo, ohi⟩ := o
  dsimp only at *
  generalize isOrd ⟨ok, okey, oval, on, olo, ohi⟩ = R at his hkk hkn
  generalize kOf ⟨ok, okey, oval, on, olo, ohi⟩ = k at hkk hkn hk9 hinc
  generalize incA ⟨ok, okey, oval, on, olo, ohi⟩ err has il = I at hinc ⊢
  generalize fOf err = ff at hf12 hff hinc
  have hbl := h.lt
  have HI := Lib.hid hinc
  have HIS := Lib.hid his
  have h0k := h0 k (by omega)
  have h1k := h1 k (by omega)
  have hV0 := h0 21 (by omega)
  have hV1 := h1 21 (by omega)
  have hW0 := h0 22 (by omega)
  have hW1 := h1 22 (by omega)
  have hF0 := h0 (9 + ff) (by omega)
  have hF1 := h1 (9 + ff) (by omega)
  have H0 := Lib.hid h
  clear h hinc his h0 h1
  cases R
  · obtain rfl := hkn rfl
    clear hkk hkn
    go_enter Try.func22, Try.ntmps22
    go_wp2_with (go_at_call 14; (with_reducible refine (HIS.out _).mono ?_); rintro e w1 ⟨rfl, hb1⟩; obtain ⟨hsz, q1, hf1⟩ := one_box hb1; have p0 : w1.cell? ⟨w.heap.size, 0, none⟩ = some (.int .i64 ok) := q1 0 _ rfl; have p1 : w1.cell? ⟨w.heap.size, 1, none⟩ = some (.string okey) := q1 1 _ rfl; have p2 : w1.cell? ⟨w.heap.size, 2, none⟩ = some (.string oval) := q1 2 _ rfl; clear q1)
    have hva1 := H0.out.fr hf1 id
    have ck := hva1.cell (i := 0) (by omega)
    have fk := hva1.f 0
    go_region
    have hva2 : VAt 57 25 (w1.setCell ⟨b, 0, none⟩ (.int .i64 (v 0 + 1))).drew b (updI v 0 (v 0 + 1)) := hva1.set 0 _
    have hf2 : Fr (fun i => i = b) w1 (w1.setCell ⟨b, 0, none⟩ (.int .i64 (v 0 + 1))).drew := ((Fr.refl (fun i => i = b) w1).setCell (p := ⟨b, 0, none⟩) (fun _ => rfl) _).drew
    have p0 := hf2.cell (by omega) (by omega) p0
    have p1 := hf2.cell (by omega) (by omega) p1
    have p2 := hf2.cell (by omega) (by omega) p2
    have hf3 : Fr (fun i => i = b) w _ := (hf1.mono (fun _ _ h => h.elim)).tr hf2
    clear hf1 hf2 hva1 ck fk
    generalize (w1.setCell ⟨b, 0, none⟩ (.int .i64 (v 0 + 1))).drew = w2 at *
    have HV2 := Lib.hid hva2
    clear hva2
    by_cases he : err = 0
    · subst he
      go_wp2
      first | go_end0 | refine bodyPost_ret (v := .tuple #[]) (by simp [results, Try.results22]) rfl ?_
      refine ⟨rfl, HV2.out.eq fun i => ?_, hf3⟩
      rw [HI.out]
      unfold updI
      by_cases h2 : i = 0
      · subst h2
        simp
      · simp [h2]
    · have he1 : (err != 0) = true := by simpa using he
      have cf : w2.cell? ⟨b, 9 + ff, none⟩ = some (.int .i64 (v (9 + ff))) := by
        have := HV2.out.cell (i := 9 + ff) (by omega)
        rwa [show updI v 0 (v 0 + 1) (9 + ff) = v (9 + ff) from if_neg (by omega)] at this
      have fcf := HV2.out.f (9 + ff)
      have fin : ∀ i, updI (updI v 0 (v 0 + 1)) (9 + ff) (v (9 + ff) + 1) i = v i + I i := fun i => by
        rw [HI.out, if_pos he]
        unfold updI
        by_cases h1 : i = 9 + ff
        · subst h1
          simp [show ¬ (9 + ff = 0) by omega]
        · by_cases h2 : i = 0
          · subst h2
            simp [h1]
          · simp [h1, h2]
      have FIN := Lib.hid fin
      clear fin
      rcases hff with ⟨hb, hff⟩ | hff | ⟨⟨hb1', hb2'⟩, hff⟩
      · have HFF := Lib.hid hff
        subst hff
        simp only [Nat.add_zero] at hF0 hF1 cf fcf
        have FIN2 : ∀ i, updI (updI v 0 (v 0 + 1)) 9 (v 9 + 1) i = v i + I i := FIN.out
        have FIN2 := Lib.hid FIN2
        rcases hb with hb | hb
        · go_wp2
          go_region
          go_wp2
          first | go_end0 | refine bodyPost_ret (v := .tuple #[]) (by simp [results, Try.results22]) rfl ?_
          exact ⟨rfl, (HV2.out.set 9 _).eq FIN2.out, hf3.tr (((Fr.refl (fun i => i = b) _).setCell (p := ⟨b, 9, none⟩) (fun _ => rfl) _).drew)⟩
        · go_wp2
          go_region
          go_wp2
          first | go_end0 | refine bodyPost_ret (v := .tuple #[]) (by simp [results, Try.results22]) rfl ?_
          exact ⟨rfl, (HV2.out.set 9 _).eq FIN2.out, hf3.tr (((Fr.refl (fun i => i = b) _).setCell (p := ⟨b, 9, none⟩) (fun _ => rfl) _).drew)⟩
      · exact absurd hff he
      · subst hff
        go_wp2
        go_region
        go_wp2
        first | go_end0 | refine bodyPost_ret (v := .tuple #[]) (by simp [results, Try.results22]) rfl ?_
        exact ⟨rfl, (HV2.out.set (9 + ff) _).eq FIN.out, hf3.tr (((Fr.refl (fun i => i = b) _).setCell (p := ⟨b, 9 + ff, none⟩) (fun _ => rfl) _).drew)⟩
  · have hok := hkk rfl
    subst hok
    clear hkk hkn
    go_enter Try.func22, Try.ntmps22
    go_wp2_with (go_at_call 14; (with_reducible refine (HIS.out _).mono ?_); rintro e w1 ⟨rfl, hb1⟩; obtain ⟨hsz, q1, hf1⟩ := one_box hb1; have p0 : w1.cell? ⟨w.heap.size, 0, none⟩ = some (.int .i64 (k : Nat)) := q1 0 _ rfl; have p1 : w1.cell? ⟨w.heap.size, 1, none⟩ = some (.string okey) := q1 1 _ rfl; have p2 : w1.cell? ⟨w.heap.size, 2, none⟩ = some (.string oval) := q1 2 _ rfl; clear q1)
    have hva1 := H0.out.fr hf1 id
    have ck := hva1.cell (i := k) (by omega)
    have fk := hva1.f k
    go_region
    have hva2 : VAt 57 25 (w1.setCell ⟨b, k, none⟩ (.int .i64 (v k + 1))).drew b (updI v k (v k + 1)) := hva1.set k _
    have hf2 : Fr (fun i => i = b) w1 (w1.setCell ⟨b, k, none⟩ (.int .i64 (v k + 1))).drew := ((Fr.refl (fun i => i = b) w1).setCell (p := ⟨b, k, none⟩) (fun _ => rfl) _).drew
    have p0 := hf2.cell (by omega) (by omega) p0
    have p1 := hf2.cell (by omega) (by omega) p1
    have p2 := hf2.cell (by omega) (by omega) p2
    have hf3 : Fr (fun i => i = b) w _ := (hf1.mono (fun _ _ h => h.elim)).tr hf2
    clear hf1 hf2 hva1 ck fk
    generalize (w1.setCell ⟨b, k, none⟩ (.int .i64 (v k + 1))).drew = w2 at *
    have HV2 := Lib.hid hva2
    clear hva2
    by_cases he : err = 0
    · subst he
      by_cases h1 : k = 1
      · subst h1
        have c21 : w2.cell? ⟨b, 21, none⟩ = some (.int .i64 (v 21)) := by
          have := HV2.out.cell (i := 21) (by omega)
          rwa [show updI v 1 (v 1 + 1) 21 = v 21 from if_neg (by omega)] at this
        have f21 := HV2.out.f 21
        go_wp2
        go_region
        go_wp2
        first | go_end0 | refine bodyPost_ret (v := .tuple #[]) (by simp [results, Try.results22]) rfl ?_
        refine ⟨rfl, (HV2.out.set 21 (v 21 + (okey.size : Int) + oval.size)).eq fun i => ?_, hf3.tr ((Fr.refl (fun i => i = b) _).setCell (p := ⟨b, 21, none⟩) (fun _ => rfl) _).drew⟩
        rw [HI.out]
        unfold updI
        by_cases h2 : i = 21
        · subst h2
          simp
          omega
        · by_cases h3 : i = 1
          · subst h3
            simp
          · simp [h2, h3]
      have e1 : ((k : Int) == 1) = false := by simp; omega
      by_cases h4 : k = 4
      · subst h4
        cases has
        · go_wp2
          first | go_end0 | refine bodyPost_ret (v := .tuple #[]) (by simp [results, Try.results22]) rfl ?_
          refine ⟨rfl, HV2.out.eq fun i => ?_, hf3⟩
          rw [HI.out]
          unfold updI
          by_cases h3 : i = 4
          · subst h3
            simp
          · simp [h3]
        · have c22 : w2.cell? ⟨b, 22, none⟩ = some (.int .i64 (v 22)) := by
            have := HV2.out.cell (i := 22) (by omega)
            rwa [show updI v 4 (v 4 + 1) 22 = v 22 from if_neg (by omega)] at this
          have f22 := HV2.out.f 22
          go_wp2
          go_region
          go_wp2
          first | go_end0 | refine bodyPost_ret (v := .tuple #[]) (by simp [results, Try.results22]) rfl ?_
          refine ⟨rfl, (HV2.out.set 22 (v 22 + 1)).eq fun i => ?_, hf3.tr ((Fr.refl (fun i => i = b) _).setCell (p := ⟨b, 22, none⟩) (fun _ => rfl) _).drew⟩
          rw [HI.out]
          unfold updI
          by_cases h2 : i = 22
          · subst h2
            simp
          · by_cases h3 : i = 4
            · subst h3
              simp
            · simp [h2, h3]
      have e4 : ((k : Int) == 4) = false := by simp; omega
      by_cases h5 : k = 5
      · subst h5
        have c22 : w2.cell? ⟨b, 22, none⟩ = some (.int .i64 (v 22)) := by
          have := HV2.out.cell (i := 22) (by omega)
          rwa [show updI v 5 (v 5 + 1) 22 = v 22 from if_neg (by omega)] at this
        have f22 := HV2.out.f 22
        go_wp2
        go_region
        go_wp2
        first | go_end0 | refine bodyPost_ret (v := .tuple #[]) (by simp [results, Try.results22]) rfl ?_
        refine ⟨rfl, (HV2.out.set 22 (v 22 + (il : Int))).eq fun i => ?_, hf3.tr ((Fr.refl (fun i => i = b) _).setCell (p := ⟨b, 22, none⟩) (fun _ => rfl) _).drew⟩
        rw [HI.out]
        unfold updI
        by_cases h2 : i = 22
        · subst h2
          simp
        · by_cases h3 : i = 5
          · subst h3
            simp
          · simp [h2, h3]
      have e5 : ((k : Int) == 5) = false := by simp; omega
      go_wp2
      first | go_end0 | refine bodyPost_ret (v := .tuple #[]) (by simp [results, Try.results22]) rfl ?_
      refine ⟨rfl, HV2.out.eq fun i => ?_, hf3⟩
      rw [HI.out]
      unfold updI
      by_cases h3 : i = k
      · subst h3
        simp [h1, h4, h5]
      · simp [h3, h1, h4, h5]
    · have he1 : (err != 0) = true := by simpa using he
      have cf : w2.cell? ⟨b, 9 + ff, none⟩ = some (.int .i64 (v (9 + ff))) := by
        have := HV2.out.cell (i := 9 + ff) (by omega)
        rwa [show updI v k (v k + 1) (9 + ff) = v (9 + ff) from if_neg (by omega)] at this
      have fcf := HV2.out.f (9 + ff)
      have fin : ∀ i, updI (updI v k (v k + 1)) (9 + ff) (v (9 + ff) + 1) i = v i + I i := fun i => by
        rw [HI.out, if_pos he]
        unfold updI
        by_cases h1 : i = 9 + ff
        · subst h1
          simp [show ¬ (9 + ff = k) by omega]
        · by_cases h2 : i = k
          · subst h2
            simp [h1]
          · simp [h1, h2]
      have FIN := Lib.hid fin
      clear fin
      rcases hff with ⟨hb, hff⟩ | hff | ⟨⟨hb1', hb2'⟩, hff⟩
      · have HFF := Lib.hid hff
        subst hff
        simp only [Nat.add_zero] at hF0 hF1 cf fcf
        have FIN2 : ∀ i, updI (updI v k (v k + 1)) 9 (v 9 + 1) i = v i + I i := FIN.out
        have FIN2 := Lib.hid FIN2
        rcases hb with hb | hb
        · go_wp2
          go_region
          go_wp2
          first | go_end0 | refine bodyPost_ret (v := .tuple #[]) (by simp [results, Try.results22]) rfl ?_
          exact ⟨rfl, (HV2.out.set 9 _).eq FIN2.out, hf3.tr (((Fr.refl (fun i => i = b) _).setCell (p := ⟨b, 9, none⟩) (fun _ => rfl) _).drew)⟩
        · go_wp2
          go_region
          go_wp2
          first | go_end0 | refine bodyPost_ret (v := .tuple #[]) (by simp [results, Try.results22]) rfl ?_
          exact ⟨rfl, (HV2.out.set 9 _).eq FIN2.out, hf3.tr (((Fr.refl (fun i => i = b) _).setCell (p := ⟨b, 9, none⟩) (fun _ => rfl) _).drew)⟩
      · exact absurd hff he
      · subst hff
        go_wp2
        go_region
        go_wp2
        first | go_end0 | refine bodyPost_ret (v := .tuple #[]) (by simp [results, Try.results22]) rfl ?_
        exact ⟨rfl, (HV2.out.set (9 + ff) _).eq FIN.out, hf3.tr (((Fr.refl (fun i => i = b) _).setCell (p := ⟨b, 9 + ff, none⟩) (fun _ => rfl) _).drew)⟩

set_option maxHeartbeats 1000000 in
set_option maxRecDepth 100000 in
theorem rsee_2 (b : Nat) (v : Nat → Int) (x : Value) (c0 c1 c2 c3 c4 c5 : Value) (err : Int) (il : Nat) (has : Bool) (w : World) (hx : x = .agg #[c0, c1, c2, c3, c4, c5]) (h : VAt 57 25 w b v) (hs0 : 0 ≤ v 23) (hs1 : v 23 ≤ 1152921504606846970) :
    Calls Try.prog 22 #[.pointer (some ⟨b, 0, none⟩), .int .i64 2, x, .int .i64 err, .bool has, .int .i64 il] w
    fun e w' => e = .returned (.tuple #[]) ∧ VAt 57 25 w' b (updI v 23 (v 23 + if err = 0 then 1 else 0)) ∧ Fr (fun k => k = b) w w' := by
  subst hx
  have hbl := h.lt
  by_cases he : err = 0
  · subst he
    rw [if_pos rfl]
    have ck := h.cell (i := 23) (by omega)
    have fk := h.f 23
    have H0 := Lib.hid h
    clear h
    go_enter Try.func22, Try.ntmps22
    go_wp2
    go_region
    go_wp2
    first | go_end0 | refine bodyPost_ret (v := .tuple #[]) (by simp [results, Try.results22]) rfl ?_
    have hf := (Fr.refl (fun i => i = b) w).alloc (.cells #[c0, c1, c2, c3, c4, c5] 27)
    exact ⟨rfl, ((H0.out.set 23 _).fr ((Fr.refl (fun _ => False) _).alloc _) id).drew, (((Fr.refl (fun i => i = b) w).setCell (p := ⟨b, 23, none⟩) (fun _ => rfl) _).alloc _).drew⟩
  · have e1 : (err == 0) = false := by simpa using he
    have fin : ∀ i, v i = updI v 23 (v 23 + if err = 0 then 1 else 0) i := fun i => by
      unfold updI
      rw [if_neg he]
      split
      · rename_i h2
        rw [h2]
        omega
      · rfl
    generalize updI v 23 (v 23 + if err = 0 then 1 else 0) = V at fin ⊢
    have FIN := Lib.hid fin
    have H0 := Lib.hid h
    clear h fin
    go_enter Try.func22, Try.ntmps22
    go_wp2
    first | go_end0 | refine bodyPost_ret (v := .tuple #[]) (by simp [results, Try.results22]) rfl ?_
    exact ⟨rfl, (H0.out.fr ((Fr.refl (fun _ => False) _).alloc _) id).eq FIN.out, (Fr.refl (fun i => i = b) w).alloc _⟩
set_option maxHeartbeats 1000000 in
set_option maxRecDepth 100000 in
theorem rsee_3 (b : Nat) (v : Nat → Int) (x : Value) (c0 c1 c2 c3 c4 c5 : Value) (err : Int) (il : Nat) (has : Bool) (w : World) (hx : x = .agg #[c0, c1, c2, c3, c4, c5]) (h : VAt 57 25 w b v) (hs0 : 0 ≤ v 23) (hs1 : v 23 ≤ 1152921504606846970) :
    Calls Try.prog 22 #[.pointer (some ⟨b, 0, none⟩), .int .i64 3, x, .int .i64 err, .bool has, .int .i64 il] w
    fun e w' => e = .returned (.tuple #[]) ∧ VAt 57 25 w' b (updI v 23 (v 23 + if err = 0 then 1 else 0)) ∧ Fr (fun k => k = b) w w' := by
  subst hx
  have hbl := h.lt
  by_cases he : err = 0
  · subst he
    rw [if_pos rfl]
    have ck := h.cell (i := 23) (by omega)
    have fk := h.f 23
    have H0 := Lib.hid h
    clear h
    go_enter Try.func22, Try.ntmps22
    go_wp2
    go_region
    go_wp2
    first | go_end0 | refine bodyPost_ret (v := .tuple #[]) (by simp [results, Try.results22]) rfl ?_
    have hf := (Fr.refl (fun i => i = b) w).alloc (.cells #[c0, c1, c2, c3, c4, c5] 27)
    exact ⟨rfl, ((H0.out.set 23 _).fr ((Fr.refl (fun _ => False) _).alloc _) id).drew, (((Fr.refl (fun i => i = b) w).setCell (p := ⟨b, 23, none⟩) (fun _ => rfl) _).alloc _).drew⟩
  · have e1 : (err == 0) = false := by simpa using he
    have fin : ∀ i, v i = updI v 23 (v 23 + if err = 0 then 1 else 0) i := fun i => by
      unfold updI
      rw [if_neg he]
      split
      · rename_i h2
        rw [h2]
        omega
      · rfl
    generalize updI v 23 (v 23 + if err = 0 then 1 else 0) = V at fin ⊢
    have FIN := Lib.hid fin
    have H0 := Lib.hid h
    clear h fin
    go_enter Try.func22, Try.ntmps22
    go_wp2
    first | go_end0 | refine bodyPost_ret (v := .tuple #[]) (by simp [results, Try.results22]) rfl ?_
    exact ⟨rfl, (H0.out.fr ((Fr.refl (fun _ => False) _).alloc _) id).eq FIN.out, (Fr.refl (fun i => i = b) w).alloc _⟩
set_option maxHeartbeats 1000000 in
set_option maxRecDepth 100000 in
theorem rsee_4 (b : Nat) (v : Nat → Int) (x : Value) (c0 c1 c2 c3 c4 c5 : Value) (err : Int) (il : Nat) (has : Bool) (w : World) (hx : x = .agg #[c0, c1, c2, c3, c4, c5]) (h : VAt 57 25 w b v) (hs0 : 0 ≤ v 24) (hs1 : v 24 ≤ 1152921504606846970) :
    Calls Try.prog 22 #[.pointer (some ⟨b, 0, none⟩), .int .i64 4, x, .int .i64 err, .bool has, .int .i64 il] w
    fun e w' => e = .returned (.tuple #[]) ∧ VAt 57 25 w' b (updI v 24 (v 24 + if err = 0 then 1 else 0)) ∧ Fr (fun k => k = b) w w' := by
  subst hx
  have hbl := h.lt
  by_cases he : err = 0
  · subst he
    rw [if_pos rfl]
    have ck := h.cell (i := 24) (by omega)
    have fk := h.f 24
    have H0 := Lib.hid h
    clear h
    go_enter Try.func22, Try.ntmps22
    go_wp2
    go_region
    go_wp2
    first | go_end0 | refine bodyPost_ret (v := .tuple #[]) (by simp [results, Try.results22]) rfl ?_
    have hf := (Fr.refl (fun i => i = b) w).alloc (.cells #[c0, c1, c2, c3, c4, c5] 27)
    exact ⟨rfl, ((H0.out.set 24 _).fr ((Fr.refl (fun _ => False) _).alloc _) id).drew, (((Fr.refl (fun i => i = b) w).setCell (p := ⟨b, 24, none⟩) (fun _ => rfl) _).alloc _).drew⟩
  · have e1 : (err == 0) = false := by simpa using he
    have fin : ∀ i, v i = updI v 24 (v 24 + if err = 0 then 1 else 0) i := fun i => by
      unfold updI
      rw [if_neg he]
      split
      · rename_i h2
        rw [h2]
        omega
      · rfl
    generalize updI v 24 (v 24 + if err = 0 then 1 else 0) = V at fin ⊢
    have FIN := Lib.hid fin
    have H0 := Lib.hid h
    clear h fin
    go_enter Try.func22, Try.ntmps22
    go_wp2
    first | go_end0 | refine bodyPost_ret (v := .tuple #[]) (by simp [results, Try.results22]) rfl ?_
    exact ⟨rfl, (H0.out.fr ((Fr.refl (fun _ => False) _).alloc _) id).eq FIN.out, (Fr.refl (fun i => i = b) w).alloc _⟩
set_option maxHeartbeats 1000000 in
set_option maxRecDepth 100000 in
theorem rsee_5 (b : Nat) (v : Nat → Int) (x : Value) (c0 c1 c2 c3 c4 c5 : Value) (err : Int) (il : Nat) (has : Bool) (w : World) (hx : x = .agg #[c0, c1, c2, c3, c4, c5]) (h : VAt 57 25 w b v) (hs0 : 0 ≤ v 24) (hs1 : v 24 ≤ 1152921504606846970) :
    Calls Try.prog 22 #[.pointer (some ⟨b, 0, none⟩), .int .i64 5, x, .int .i64 err, .bool has, .int .i64 il] w
    fun e w' => e = .returned (.tuple #[]) ∧ VAt 57 25 w' b (updI v 24 (v 24 + if err = 0 then 1 else 0)) ∧ Fr (fun k => k = b) w w' := by
  subst hx
  have hbl := h.lt
  by_cases he : err = 0
  · subst he
    rw [if_pos rfl]
    have ck := h.cell (i := 24) (by omega)
    have fk := h.f 24
    have H0 := Lib.hid h
    clear h
    go_enter Try.func22, Try.ntmps22
    go_wp2
    go_region
    go_wp2
    first | go_end0 | refine bodyPost_ret (v := .tuple #[]) (by simp [results, Try.results22]) rfl ?_
    have hf := (Fr.refl (fun i => i = b) w).alloc (.cells #[c0, c1, c2, c3, c4, c5] 27)
    exact ⟨rfl, ((H0.out.set 24 _).fr ((Fr.refl (fun _ => False) _).alloc _) id).drew, (((Fr.refl (fun i => i = b) w).setCell (p := ⟨b, 24, none⟩) (fun _ => rfl) _).alloc _).drew⟩
  · have e1 : (err == 0) = false := by simpa using he
    have fin : ∀ i, v i = updI v 24 (v 24 + if err = 0 then 1 else 0) i := fun i => by
      unfold updI
      rw [if_neg he]
      split
      · rename_i h2
        rw [h2]
        omega
      · rfl
    generalize updI v 24 (v 24 + if err = 0 then 1 else 0) = V at fin ⊢
    have FIN := Lib.hid fin
    have H0 := Lib.hid h
    clear h fin
    go_enter Try.func22, Try.ntmps22
    go_wp2
    first | go_end0 | refine bodyPost_ret (v := .tuple #[]) (by simp [results, Try.results22]) rfl ?_
    exact ⟨rfl, (H0.out.fr ((Fr.refl (fun _ => False) _).alloc _) id).eq FIN.out, (Fr.refl (fun i => i = b) w).alloc _⟩
set_option maxHeartbeats 1000000 in
set_option maxRecDepth 100000 in
theorem rsee_0 (b : Nat) (v : Nat → Int) (x : Value) (c0 c1 c2 c3 c4 c5 : Value) (k err : Int) (il : Nat) (has : Bool) (w : World) (hx : x = .agg #[c0, c1, c2, c3, c4, c5]) (h : VAt 57 25 w b v) (hk : k < 1 ∨ 5 < k) :
    Calls Try.prog 22 #[.pointer (some ⟨b, 0, none⟩), .int .i64 k, x, .int .i64 err, .bool has, .int .i64 il] w
    fun e w' => e = .returned (.tuple #[]) ∧ VAt 57 25 w' b v ∧ Fr (fun k => k = b) w w' := by
  subst hx
  have hbl := h.lt
  have e1 : (k != 1) = true := by simp; omega
  have H0 := Lib.hid h
  clear h
  rcases hk with hk | hk
  · have e2 : k < 2 := by omega
    go_enter Try.func22, Try.ntmps22
    go_wp2
    first | go_end0 | refine bodyPost_ret (v := .tuple #[]) (by simp [results, Try.results22]) rfl ?_
    exact ⟨rfl, H0.out.fr ((Fr.refl (fun _ => False) _).alloc _) id, (Fr.refl (fun i => i = b) w).alloc _⟩
  · have e2 : 2 ≤ k := by omega
    go_enter Try.func22, Try.ntmps22
    go_wp2
    first | go_end0 | refine bodyPost_ret (v := .tuple #[]) (by simp [results, Try.results22]) rfl ?_
    exact ⟨rfl, H0.out.fr ((Fr.refl (fun _ => False) _).alloc _) id, (Fr.refl (fun i => i = b) w).alloc _⟩
theorem rsee_any (b : Nat) (v : Nat → Int) (e : Ev) (w : World) (h : VAt 57 25 w b v) (hs : Small v) (hg : e.good) :
    Calls Try.prog 22 #[.pointer (some ⟨b, 0, none⟩), .int .i64 e.kind, e.o.v, .int .i64 e.err, .bool e.has, .int .i64 e.il] w
    fun e' w' => e' = .returned (.tuple #[]) ∧ VAt 57 25 w' b (fun i => v i + inc e i) ∧ Fr (fun k => k = b) w w' := by
  by_cases h1 : e.kind = 1
  · rw [h1]
    refine (rsee_ask b v e.o e.err e.has e.il w h (fun i hi => (hs i hi).1) (fun i hi => (hs i hi).2) (by have := hg.1; omega) (by have := hg.2.1; omega) (by have := hg.2.2.2.2; omega)).mono fun e' w' ⟨he, hv, hf⟩ => ⟨he, hv.eq fun i => ?_, hf⟩
    unfold inc
    rw [if_pos h1]
  by_cases h2 : e.kind = 2
  · rw [h2]
    refine (rsee_2 b v e.o.v _ _ _ _ _ _ e.err e.il e.has w (Ord.v_def e.o) h (hs 23 (by omega)).1 (hs 23 (by omega)).2).mono fun e' w' ⟨he, hv, hf⟩ => ⟨he, hv.eq fun i => ?_, hf⟩
    unfold updI inc
    by_cases h9 : i = 23
    · subst h9
      simp [h2]
    · simp [h9, h2]
  by_cases h3 : e.kind = 3
  · rw [h3]
    refine (rsee_3 b v e.o.v _ _ _ _ _ _ e.err e.il e.has w (Ord.v_def e.o) h (hs 23 (by omega)).1 (hs 23 (by omega)).2).mono fun e' w' ⟨he, hv, hf⟩ => ⟨he, hv.eq fun i => ?_, hf⟩
    unfold updI inc
    by_cases h9 : i = 23
    · subst h9
      simp [h3]
    · simp [h9, h3]
  by_cases h4 : e.kind = 4
  · rw [h4]
    refine (rsee_4 b v e.o.v _ _ _ _ _ _ e.err e.il e.has w (Ord.v_def e.o) h (hs 24 (by omega)).1 (hs 24 (by omega)).2).mono fun e' w' ⟨he, hv, hf⟩ => ⟨he, hv.eq fun i => ?_, hf⟩
    unfold updI inc
    by_cases h9 : i = 24
    · subst h9
      simp [h4]
    · simp [h9, h4]
  by_cases h5 : e.kind = 5
  · rw [h5]
    refine (rsee_5 b v e.o.v _ _ _ _ _ _ e.err e.il e.has w (Ord.v_def e.o) h (hs 24 (by omega)).1 (hs 24 (by omega)).2).mono fun e' w' ⟨he, hv, hf⟩ => ⟨he, hv.eq fun i => ?_, hf⟩
    unfold updI inc
    by_cases h9 : i = 24
    · subst h9
      simp [h5]
    · simp [h9, h5]
  refine (rsee_0 b v e.o.v _ _ _ _ _ _ e.kind e.err e.il e.has w (Ord.v_def e.o) h (by omega)).mono fun e' w' ⟨he, hv, hf⟩ => ⟨he, hv.eq fun i => ?_, hf⟩
  unfold inc
  rw [if_neg (by omega), if_neg (by omega), if_neg (by omega)]
  omega
end Go.Proofs.Ytdfgdnaejnngoaa
