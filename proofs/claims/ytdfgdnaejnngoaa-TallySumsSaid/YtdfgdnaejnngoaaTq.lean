import Derived.Test.YtdfgdnaejnngoaaTp
namespace Go.Proofs.Ytdfgdnaejnngoaa
open Go.RowKit
/-! One tally with another one. -/
def okW (v u : Nat → Int) (x : Int) (l : List Nat) : Bool := l.all fun i => decide (0 ≤ v i + x * u i)
def prW (v u : Nat → Int) (x : Int) (l : List Nat) : Nat → Int := fun i => if i ∈ l then v i + x * u i else v i
theorem plL_lt : ∀ o ∈ plL 21, o < 25 := by decide
theorem plL_all : ∀ i, i < 25 → i ∈ plL 21 := by decide
theorem plL_nd : ∀ j, j < 25 → ((plL 21).take j).contains ((plL 21)[j]?.getD 0) = false := by decide
theorem take_not_mem {j o : Nat} (hj25 : j < 25) (hj : (plL 21)[j]? = some o) : o ∉ (plL 21).take j := by
  have := plL_nd j hj25
  rw [hj, Option.getD_some] at this
  simpa using this
theorem okW_snoc (v u : Nat → Int) (x : Int) (l : List Nat) (o : Nat) : okW v u x (l ++ [o]) = (okW v u x l && decide (0 ≤ v o + x * u o)) := by simp [okW, List.all_append]
theorem prW_snoc (v u : Nat → Int) (x : Int) (l : List Nat) (o : Nat) (i : Nat) : prW v u x (l ++ [o]) i = updI (prW v u x l) o (v o + x * u o) i := by
  unfold prW updI
  by_cases h : i = o
  · subst h
    simp
  · simp [h]
theorem VAt.eqn {T : TypeId} {n : Nat} {w : World} {b : Nat} {v v' : Nat → Int} (h : VAt T n w b v) (e : ∀ i, i < n → v i = v' i) : VAt T n w b v' := by
  unfold VAt at *
  have : nv n v = nv n v' := by
    unfold nv
    congr 1
    apply List.map_congr_left
    intro i hi
    rw [e i (List.mem_range.1 hi)]
  rw [← this]
  exact h

set_option maxHeartbeats 2000000 in
set_option maxRecDepth 100000 in
theorem with_p (b : Nat) (v u : Nat → Int) (w : World) (h : VAt 71 25 w b v) (hv : ∀ i, i < 25 → -1125899906842624 ≤ v i ∧ v i ≤ 1125899906842624) (hu : ∀ i, i < 25 → -1125899906842624 ≤ u i ∧ u i ≤ 1125899906842624) :
    Calls Try.prog 56 #[.pointer (some ⟨b, 0, none⟩), .agg (nv 25 u), .int .i64 1] w fun e w' => e = .returned (.bool (okW v u 1 (plL 21))) ∧ VAt 71 25 w' b (fun i => v i + 1 * u i) ∧ Fr (fun k => k = b) w w' := by
  have hpl := fun b W => places_any b W
  have hbl := h.lt
  have hnew := VAt.new (T := 71) (n := 25) w u
  have HP := Lib.hid hpl
  have H0 := Lib.hid (h.fr ((Fr.refl (fun _ => False) w).alloc (.cells (nv 25 u) 71)) id)
  have HN := Lib.hid hnew
  have HV := Lib.hid hv
  have HU := Lib.hid hu
  clear hpl hnew h hv hu
  generalize nv 25 u = cs at *
  have hf0 := (Fr.refl (fun k => k = b) w).alloc (.cells cs 71)
  have hs0 : (w.alloc (.cells cs 71)).heap.size = w.heap.size + 1 := by simp
  have HF0 := Lib.hid hf0
  have HS0 := Lib.hid hs0
  clear hf0 hs0
  go_enter Try.func56, Try.ntmps56
  go_wp2_with fail
  refine Calls.mono (HP.out _ _) ?_
  rintro e w1 ⟨A1, cap1, rfl, ho1, hb1⟩
  have h1 := H0.out.below hb1
  have n1 := HN.out.below hb1
  have hz1 : w.heap.size < w1.heap.size := by have := hb1.size; rw [HS0.out] at this; omega
  have hf1 := HF0.out.tr' hb1
  have HO1 := Lib.hid ho1
  have HV1 := Lib.hid h1
  have HN1 := Lib.hid n1
  have HF1 := Lib.hid hf1
  clear ho1 h1 n1 hf1 hb1
  go_wp2_with fail
  refine Calls.mono (HP.out _ _) ?_
  rintro e w2 ⟨A2, cap2, rfl, ho2, hb2⟩
  have HO2 := Lib.hid ho2
  have HO3 := Lib.hid (HO1.out.below hb2)
  have HV2 := Lib.hid (HV1.out.below hb2)
  have HN2 := Lib.hid (HN1.out.below hb2)
  have HF2 := Lib.hid (HF1.out.tr' hb2)
  have hz2 : w1.heap.size ≤ w2.heap.size := hb2.size
  clear ho2 hb2
  go_wp2
  go_loopw [7, 9, 10, 15] (fun is _ _ i wr => ∃ j : Nat, i = .int .i64 j ∧ j ≤ 25 ∧ is = .bool (okW v u 1 ((plL 21).take j)) ∧ VAt 71 25 wr b (prW v u 1 ((plL 21).take j)) ∧ VAt 71 25 wr w.heap.size u ∧ OwnsP w.heap.size wr (w.heap.size + 1) (.slice A1 25 cap1) (plL 21) ∧ OwnsP b wr w1.heap.size (.slice A2 25 cap2) (plL 21) ∧ Fr (fun k => k = b) w wr) (fun _ _ _ i _ => 26 - (intOf i).toNat)
  case atStart => exact ⟨0, rfl, by omega, rfl, HV2.out.eq fun i => by simp [prW], HN2.out, HO3.out.base (by rw [HS0.out]; exact Nat.le_refl _), HO2.out, HF2.out⟩
  case round =>
    obtain ⟨j, rfl, hj, rfl, hva, hnu, hoA, hoB, hfr⟩ := hrel
    by_cases hj25 : j < 25
    · have hjI : (j : Int) < 25 := by omega
      obtain ⟨o, ho⟩ := get_lt (l := plL 21) (i := j) (by rw [plL_len]; omega)
      have ho25 := plL_lt o (List.mem_of_getElem? ho)
      have hnm := take_not_mem hj25 ho
      have htk : (plL 21).take (j + 1) = (plL 21).take j ++ [o] := by rw [List.take_add_one, ho]; rfl
      obtain ⟨gA, rfl, hgA, hgAl, hcA, qA⟩ := hoA.row (ptrC_len _) ho
      obtain ⟨gB, rfl, hgB, hgBl, hcB, qB⟩ := hoB.row (ptrC_len _) ho
      have q1 : wr.cell? ⟨gA, j, none⟩ = some (.pointer (some ⟨w.heap.size, o, none⟩)) := by have := qA 0 _ rfl; simpa using this
      have q2 : wr.cell? ⟨gB, j, none⟩ = some (.pointer (some ⟨b, o, none⟩)) := by have := qB 0 _ rfl; simpa using this
      have cv : wr.cell? ⟨b, o, none⟩ = some (.int .i64 (v o)) := by have := hva.cell ho25; unfold prW at this; rw [if_neg hnm] at this; exact this
      have fv := hva.f o
      have cu := hnu.cell ho25
      obtain ⟨v0, v1⟩ := HV.out o ho25
      obtain ⟨u0, u1⟩ := HU.out o ho25
      have hok := okW_snoc v u 1 ((plL 21).take j) o
      have hpr := prW_snoc v u 1 ((plL 21).take j) o
      have hcl := (show wr.heap.size = wr.heap.size from rfl)
      rw [← htk] at hok hpr
      generalize okW v u 1 ((plL 21).take j) = is at hok ⊢
      generalize prW v u 1 ((plL 21).take j) = pr at hva hpr
      have HOK := Lib.hid hok
      have HPR := Lib.hid hpr
      have HVA := Lib.hid hva
      have HNU := Lib.hid hnu
      have HOA := Lib.hid hoA
      have HOB := Lib.hid hoB
      have HFR := Lib.hid hfr
      have hgs := Lib.hid hfr.size
      clear hok hpr hva hnu hoA hoB hfr qA qB ho htk hnm hcl
      have hb1 : b < w1.heap.size := by omega
      have hbs : b ≠ w.heap.size := by omega
      have hgAb : gA ≠ b := by omega
      have hgBb : gB ≠ b := by omega
      go_wp2
      go_region
      have hE : v o + 1 * u o = (v o + u o) := by omega
      have hva2 : VAt 71 25 (wr.setCell ⟨b, o, none⟩ (.int .i64 (v o + u o))).drew b (prW v u 1 ((plL 21).take (j + 1))) := (HVA.out.set o _).eq fun i => by rw [HPR.out, hE]
      have hfw : Fr (fun k => k = b) wr (wr.setCell ⟨b, o, none⟩ (.int .i64 (v o + u o))).drew := ((Fr.refl (fun k => k = b) wr).setCell (p := ⟨b, o, none⟩) (fun _ => rfl) _).drew
      have hfin : VAt 71 25 (wr.setCell ⟨b, o, none⟩ (.int .i64 (v o + u o))).drew b (prW v u 1 ((plL 21).take (j + 1))) ∧ VAt 71 25 (wr.setCell ⟨b, o, none⟩ (.int .i64 (v o + u o))).drew w.heap.size u ∧ OwnsP w.heap.size (wr.setCell ⟨b, o, none⟩ (.int .i64 (v o + u o))).drew (w.heap.size + 1) (.slice (some ⟨gA, 0, none⟩) 25 cap1) (plL 21) ∧ OwnsP b (wr.setCell ⟨b, o, none⟩ (.int .i64 (v o + u o))).drew w1.heap.size (.slice (some ⟨gB, 0, none⟩) 25 cap2) (plL 21) ∧ Fr (fun k => k = b) w (wr.setCell ⟨b, o, none⟩ (.int .i64 (v o + u o))).drew :=
        ⟨hva2, HNU.out.fr hfw (by omega), HOA.out.fr hfw (fun k hk e => by omega), HOB.out.fr hfw (fun k hk e => by omega), HFR.out.tr hfw⟩
      have HFIN := Lib.hid hfin
      clear hva2 hfw hfin
      cases is
      · have hok2 : okW v u 1 ((plL 21).take (j + 1)) = false := by rw [HOK.out]; rfl
        have HOK2 := Lib.hid hok2
        clear hok2
        go_wp2
        refine ⟨⟨j + 1, by go_num, by omega, by rw [HOK2.out], HFIN.out⟩, ?_⟩
        simp [intOf]
        omega
      · by_cases hge : 0 ≤ (v o + u o)
        · have hok2 : okW v u 1 ((plL 21).take (j + 1)) = true := by rw [HOK.out, hE]; simp [hge]
          have HOK2 := Lib.hid hok2
          clear hok2
          go_wp2
          refine ⟨⟨j + 1, by go_num, by omega, by rw [HOK2.out], HFIN.out⟩, ?_⟩
          simp [intOf]
          omega
        · have hok2 : okW v u 1 ((plL 21).take (j + 1)) = false := by rw [HOK.out, hE]; simp [hge]
          have HOK2 := Lib.hid hok2
          have hge2 : decide (0 ≤ (v o + u o)) = false := by simp [hge]
          clear hok2
          go_wp2
          refine ⟨⟨j + 1, by go_num, by omega, by rw [HOK2.out], HFIN.out⟩, ?_⟩
          simp [intOf]
          omega
    · obtain rfl : j = 25 := by omega
      have htk : (plL 21).take 25 = plL 21 := List.take_of_length_le (by rw [plL_len]; omega)
      rw [htk] at hva ⊢
      go_wp2
      go_ret
      exact ⟨rfl, hva.eqn fun i hi => if_pos (plL_all i hi), hfr⟩
set_option maxHeartbeats 2000000 in
set_option maxRecDepth 100000 in
theorem with_m (b : Nat) (v u : Nat → Int) (w : World) (h : VAt 71 25 w b v) (hv : ∀ i, i < 25 → -1125899906842624 ≤ v i ∧ v i ≤ 1125899906842624) (hu : ∀ i, i < 25 → -1125899906842624 ≤ u i ∧ u i ≤ 1125899906842624) :
    Calls Try.prog 56 #[.pointer (some ⟨b, 0, none⟩), .agg (nv 25 u), .int .i64 (-1)] w fun e w' => e = .returned (.bool (okW v u (-1) (plL 21))) ∧ VAt 71 25 w' b (fun i => v i + (-1) * u i) ∧ Fr (fun k => k = b) w w' := by
  have hpl := fun b W => places_any b W
  have hbl := h.lt
  have hnew := VAt.new (T := 71) (n := 25) w u
  have HP := Lib.hid hpl
  have H0 := Lib.hid (h.fr ((Fr.refl (fun _ => False) w).alloc (.cells (nv 25 u) 71)) id)
  have HN := Lib.hid hnew
  have HV := Lib.hid hv
  have HU := Lib.hid hu
  clear hpl hnew h hv hu
  generalize nv 25 u = cs at *
  have hf0 := (Fr.refl (fun k => k = b) w).alloc (.cells cs 71)
  have hs0 : (w.alloc (.cells cs 71)).heap.size = w.heap.size + 1 := by simp
  have HF0 := Lib.hid hf0
  have HS0 := Lib.hid hs0
  clear hf0 hs0
  go_enter Try.func56, Try.ntmps56
  go_wp2_with fail
  refine Calls.mono (HP.out _ _) ?_
  rintro e w1 ⟨A1, cap1, rfl, ho1, hb1⟩
  have h1 := H0.out.below hb1
  have n1 := HN.out.below hb1
  have hz1 : w.heap.size < w1.heap.size := by have := hb1.size; rw [HS0.out] at this; omega
  have hf1 := HF0.out.tr' hb1
  have HO1 := Lib.hid ho1
  have HV1 := Lib.hid h1
  have HN1 := Lib.hid n1
  have HF1 := Lib.hid hf1
  clear ho1 h1 n1 hf1 hb1
  go_wp2_with fail
  refine Calls.mono (HP.out _ _) ?_
  rintro e w2 ⟨A2, cap2, rfl, ho2, hb2⟩
  have HO2 := Lib.hid ho2
  have HO3 := Lib.hid (HO1.out.below hb2)
  have HV2 := Lib.hid (HV1.out.below hb2)
  have HN2 := Lib.hid (HN1.out.below hb2)
  have HF2 := Lib.hid (HF1.out.tr' hb2)
  have hz2 : w1.heap.size ≤ w2.heap.size := hb2.size
  clear ho2 hb2
  go_wp2
  go_loopw [7, 9, 10, 15] (fun is _ _ i wr => ∃ j : Nat, i = .int .i64 j ∧ j ≤ 25 ∧ is = .bool (okW v u (-1) ((plL 21).take j)) ∧ VAt 71 25 wr b (prW v u (-1) ((plL 21).take j)) ∧ VAt 71 25 wr w.heap.size u ∧ OwnsP w.heap.size wr (w.heap.size + 1) (.slice A1 25 cap1) (plL 21) ∧ OwnsP b wr w1.heap.size (.slice A2 25 cap2) (plL 21) ∧ Fr (fun k => k = b) w wr) (fun _ _ _ i _ => 26 - (intOf i).toNat)
  case atStart => exact ⟨0, rfl, by omega, rfl, HV2.out.eq fun i => by simp [prW], HN2.out, HO3.out.base (by rw [HS0.out]; exact Nat.le_refl _), HO2.out, HF2.out⟩
  case round =>
    obtain ⟨j, rfl, hj, rfl, hva, hnu, hoA, hoB, hfr⟩ := hrel
    by_cases hj25 : j < 25
    · have hjI : (j : Int) < 25 := by omega
      obtain ⟨o, ho⟩ := get_lt (l := plL 21) (i := j) (by rw [plL_len]; omega)
      have ho25 := plL_lt o (List.mem_of_getElem? ho)
      have hnm := take_not_mem hj25 ho
      have htk : (plL 21).take (j + 1) = (plL 21).take j ++ [o] := by rw [List.take_add_one, ho]; rfl
      obtain ⟨gA, rfl, hgA, hgAl, hcA, qA⟩ := hoA.row (ptrC_len _) ho
      obtain ⟨gB, rfl, hgB, hgBl, hcB, qB⟩ := hoB.row (ptrC_len _) ho
      have q1 : wr.cell? ⟨gA, j, none⟩ = some (.pointer (some ⟨w.heap.size, o, none⟩)) := by have := qA 0 _ rfl; simpa using this
      have q2 : wr.cell? ⟨gB, j, none⟩ = some (.pointer (some ⟨b, o, none⟩)) := by have := qB 0 _ rfl; simpa using this
      have cv : wr.cell? ⟨b, o, none⟩ = some (.int .i64 (v o)) := by have := hva.cell ho25; unfold prW at this; rw [if_neg hnm] at this; exact this
      have fv := hva.f o
      have cu := hnu.cell ho25
      obtain ⟨v0, v1⟩ := HV.out o ho25
      obtain ⟨u0, u1⟩ := HU.out o ho25
      have hok := okW_snoc v u (-1) ((plL 21).take j) o
      have hpr := prW_snoc v u (-1) ((plL 21).take j) o
      have hcl := (show wr.heap.size = wr.heap.size from rfl)
      rw [← htk] at hok hpr
      generalize okW v u (-1) ((plL 21).take j) = is at hok ⊢
      generalize prW v u (-1) ((plL 21).take j) = pr at hva hpr
      have HOK := Lib.hid hok
      have HPR := Lib.hid hpr
      have HVA := Lib.hid hva
      have HNU := Lib.hid hnu
      have HOA := Lib.hid hoA
      have HOB := Lib.hid hoB
      have HFR := Lib.hid hfr
      have hgs := Lib.hid hfr.size
      clear hok hpr hva hnu hoA hoB hfr qA qB ho htk hnm hcl
      have hb1 : b < w1.heap.size := by omega
      have hbs : b ≠ w.heap.size := by omega
      have hgAb : gA ≠ b := by omega
      have hgBb : gB ≠ b := by omega
      go_wp2
      go_region
      have hE : v o + (-1) * u o = (v o + -u o) := by omega
      have hva2 : VAt 71 25 (wr.setCell ⟨b, o, none⟩ (.int .i64 (v o + -u o))).drew b (prW v u (-1) ((plL 21).take (j + 1))) := (HVA.out.set o _).eq fun i => by rw [HPR.out, hE]
      have hfw : Fr (fun k => k = b) wr (wr.setCell ⟨b, o, none⟩ (.int .i64 (v o + -u o))).drew := ((Fr.refl (fun k => k = b) wr).setCell (p := ⟨b, o, none⟩) (fun _ => rfl) _).drew
      have hfin : VAt 71 25 (wr.setCell ⟨b, o, none⟩ (.int .i64 (v o + -u o))).drew b (prW v u (-1) ((plL 21).take (j + 1))) ∧ VAt 71 25 (wr.setCell ⟨b, o, none⟩ (.int .i64 (v o + -u o))).drew w.heap.size u ∧ OwnsP w.heap.size (wr.setCell ⟨b, o, none⟩ (.int .i64 (v o + -u o))).drew (w.heap.size + 1) (.slice (some ⟨gA, 0, none⟩) 25 cap1) (plL 21) ∧ OwnsP b (wr.setCell ⟨b, o, none⟩ (.int .i64 (v o + -u o))).drew w1.heap.size (.slice (some ⟨gB, 0, none⟩) 25 cap2) (plL 21) ∧ Fr (fun k => k = b) w (wr.setCell ⟨b, o, none⟩ (.int .i64 (v o + -u o))).drew :=
        ⟨hva2, HNU.out.fr hfw (by omega), HOA.out.fr hfw (fun k hk e => by omega), HOB.out.fr hfw (fun k hk e => by omega), HFR.out.tr hfw⟩
      have HFIN := Lib.hid hfin
      clear hva2 hfw hfin
      cases is
      · have hok2 : okW v u (-1) ((plL 21).take (j + 1)) = false := by rw [HOK.out]; rfl
        have HOK2 := Lib.hid hok2
        clear hok2
        go_wp2
        refine ⟨⟨j + 1, by go_num, by omega, by rw [HOK2.out], HFIN.out⟩, ?_⟩
        simp [intOf]
        omega
      · by_cases hge : 0 ≤ (v o + -u o)
        · have hok2 : okW v u (-1) ((plL 21).take (j + 1)) = true := by rw [HOK.out, hE]; simp [hge]
          have HOK2 := Lib.hid hok2
          clear hok2
          go_wp2
          refine ⟨⟨j + 1, by go_num, by omega, by rw [HOK2.out], HFIN.out⟩, ?_⟩
          simp [intOf]
          omega
        · have hok2 : okW v u (-1) ((plL 21).take (j + 1)) = false := by rw [HOK.out, hE]; simp [hge]
          have HOK2 := Lib.hid hok2
          have hge2 : decide (0 ≤ (v o + -u o)) = false := by simp [hge]
          clear hok2
          go_wp2
          refine ⟨⟨j + 1, by go_num, by omega, by rw [HOK2.out], HFIN.out⟩, ?_⟩
          simp [intOf]
          omega
    · obtain rfl : j = 25 := by omega
      have htk : (plL 21).take 25 = plL 21 := List.take_of_length_le (by rw [plL_len]; omega)
      rw [htk] at hva ⊢
      go_wp2
      go_ret
      exact ⟨rfl, hva.eqn fun i hi => if_pos (plL_all i hi), hfr⟩
end Go.Proofs.Ytdfgdnaejnngoaa
