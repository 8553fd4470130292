import Derived.Test.YtdfgdnaejnngoaaOrd11
namespace Go.Proofs.Ytdfgdnaejnngoaa
open Go.RowKit
/-! The document's In. -/

/-- a grangerref01.In in block b -/
def RIn (w : World) (b : Nat) (s : ByteArray) (bad : Bool) : Prop := w.heap[b]? = some (.cells #[.string s, .bool bad] 38 (0, 0))
theorem RIn.lt {w : World} {b : Nat} {s : ByteArray} {bad : Bool} (h : RIn w b s bad) : b < w.heap.size := lt_of_row h
theorem RIn.c0 {w : World} {b : Nat} {s : ByteArray} {bad : Bool} (h : RIn w b s bad) : w.cell? ⟨b, 0, none⟩ = some (.string s) := by rw [Lib.cell_of_heap h]; rfl
theorem RIn.c1 {w : World} {b : Nat} {s : ByteArray} {bad : Bool} (h : RIn w b s bad) : w.cell? ⟨b, 1, none⟩ = some (.bool bad) := by rw [Lib.cell_of_heap h]; rfl
theorem RIn.f {w : World} {b : Nat} {s : ByteArray} {bad : Bool} (h : RIn w b s bad) (j : Nat) : w.frozen? ⟨b, j, none⟩ = false := Lib.frozen_of_heap h j
theorem RIn.set0 {w : World} {b : Nat} {s : ByteArray} {bad : Bool} (h : RIn w b s bad) (t : ByteArray) : RIn (w.setCell ⟨b, 0, none⟩ (.string t)) b t bad := by
  unfold RIn at *
  simp [World.setCell, Array.getElem?_modify, h]
theorem RIn.set1 {w : World} {b : Nat} {s : ByteArray} {bad : Bool} (h : RIn w b s bad) (t : Bool) : RIn (w.setCell ⟨b, 1, none⟩ (.bool t)) b s t := by
  unfold RIn at *
  simp [World.setCell, Array.getElem?_modify, h]
theorem RIn.fr {S : Nat → Prop} {w w' : World} {b : Nat} {s : ByteArray} {bad : Bool} (h : RIn w b s bad) (hf : Fr S w w') (hs : ¬ S b) : RIn w' b s bad := hf.row hs h
theorem RIn.below {w w' : World} {b : Nat} {s : ByteArray} {bad : Bool} (h : RIn w b s bad) (hf : Below w.heap.size w w') : RIn w' b s bad := (Fr.of_below (S := fun _ => False) hf).row (fun h => h) h
theorem RIn.new (w : World) (s : ByteArray) : RIn (w.alloc (.cells #[.string s, .bool false] 38)) w.heap.size s false := heap_alloc_new w _
theorem RIn.drew {w : World} {b : Nat} {s : ByteArray} {bad : Bool} (h : RIn w b s bad) : RIn w.drew b s bad := h

def RRaw (b : Nat) (w : World) (r : ByteArray × ByteArray × Bool) (e : Ending) (w' : World) : Prop := e = .returned (.string r.1) ∧ RIn w' b r.2.1 r.2.2 ∧ Fr (fun k => k = b) w w'

theorem rRaw_no (b : Nat) (s : ByteArray) (bad : Bool) (n : Int) (w : World) (h : RIn w b s bad) (hn : bad = true ∨ n < 0 ∨ (s.size : Int) < n) : Calls Try.prog 49 #[.pointer (some ⟨b, 0, none⟩), .int .i64 n] w (RRaw b w (rawR n s bad)) := by
  have c0 := h.c0; have c1 := h.c1; have f0 := h.f 0; have f1 := h.f 1
  have d0 := (h.set1 true).c0; have g0 := (h.set1 true).f 0
  have hr : rawR n s bad = (⟨#[]⟩, ⟨#[]⟩, true) := by unfold rawR; rw [if_pos hn]
  have Hr := Lib.hid hr
  have H0 := Lib.hid h
  clear h hr
  cases bad
  · by_cases h0 : n < 0
    · clear hn
      go_enter Try.func49, Try.ntmps49
      go_wp2
      go_ret
      rw [Hr.out]
      exact ⟨rfl, (H0.out.set1 true).set0 _, ((Fr.refl (fun k => k = b) _).setCell (p := ⟨b, 1, none⟩) (fun _ => rfl) _).setCell (p := ⟨b, 0, none⟩) (fun _ => rfl) _⟩
    · have h1 : (s.size : Int) < n := by simp at hn; omega
      clear hn
      go_enter Try.func49, Try.ntmps49
      go_wp2
      go_ret
      rw [Hr.out]
      exact ⟨rfl, (H0.out.set1 true).set0 _, ((Fr.refl (fun k => k = b) _).setCell (p := ⟨b, 1, none⟩) (fun _ => rfl) _).setCell (p := ⟨b, 0, none⟩) (fun _ => rfl) _⟩
  · clear hn
    go_enter Try.func49, Try.ntmps49
    go_wp2
    go_ret
    rw [Hr.out]
    exact ⟨rfl, (H0.out.set1 true).set0 _, ((Fr.refl (fun k => k = b) _).setCell (p := ⟨b, 1, none⟩) (fun _ => rfl) _).setCell (p := ⟨b, 0, none⟩) (fun _ => rfl) _⟩

theorem rRaw_ok (b : Nat) (s : ByteArray) (k : Nat) (w : World) (h : RIn w b s false) (hn : k ≤ s.size) : Calls Try.prog 49 #[.pointer (some ⟨b, 0, none⟩), .int .i64 k] w (RRaw b w (rawR k s false)) := by
  have c0 := h.c0; have c1 := h.c1; have f0 := h.f 0
  have hr : rawR k s false = (s.extract 0 k, s.extract k s.size, false) := by
    unfold rawR
    rw [if_neg (by simp; omega)]; rfl
  have Hr := Lib.hid hr
  have H0 := Lib.hid h
  clear h hr
  go_enter Try.func49, Try.ntmps49
  go_wp2
  go_ret
  rw [Hr.out]
  exact ⟨rfl, H0.out.set0 _, (Fr.refl (fun k => k = b) _).setCell (p := ⟨b, 0, none⟩) (fun _ => rfl) _⟩

theorem rRaw_any (b : Nat) (s : ByteArray) (bad : Bool) (n : Int) (w : World) (h : RIn w b s bad) : Calls Try.prog 49 #[.pointer (some ⟨b, 0, none⟩), .int .i64 n] w (RRaw b w (rawR n s bad)) := by
  by_cases hn : bad = true ∨ n < 0 ∨ (s.size : Int) < n
  · exact rRaw_no b s bad n w h hn
  · cases bad
    · obtain ⟨k, rfl⟩ := Int.eq_ofNat_of_zero_le (show 0 ≤ n by simp at hn; omega)
      exact rRaw_ok b s k w h (by simp at hn; omega)
    · simp at hn

theorem byte_at {t : ByteArray} {k : Nat} (h : k < t.size) {x : UInt8} (hx : t.data.toList[k]? = some x) : t[k] = x := by
  have hk := (List.getElem?_eq_some_iff.1 hx).2
  rw [← hk]
  rfl
theorem mul_byte (v x : Nat) (hv : v < 4294967296) (hx : x < 256) : wrap64 ((v : Int) * 256 + wrap64 (x : Int)) = ((v * 256 + x : Nat) : Int) := by unfold wrap64; omega

def RNum (b : Nat) (w : World) (r : Nat × ByteArray × Bool) (e : Ending) (w' : World) : Prop := e = .returned (.int .i64 r.1) ∧ RIn w' b r.2.1 r.2.2 ∧ Fr (fun k => k = b) w w'

theorem rNum_any (b wd : Nat) (s : ByteArray) (bad : Bool) (w : World) (h : RIn w b s bad) (hwd : wd = 1 ∨ wd = 2 ∨ wd = 4) : Calls Try.prog 46 #[.pointer (some ⟨b, 0, none⟩), .int .i64 wd] w (RNum b w (numR wd s bad)) := by
  have hraw : Calls Try.prog 49 #[.pointer (some ⟨b, 0, none⟩), .int .i64 wd] w (RRaw b w (rawR wd s bad)) := rRaw_any b s bad wd w h
  have hlen : (rawR wd s bad).1.size ≤ 4 := by
    unfold rawR
    split
    · show (0 : Nat) ≤ 4; omega
    · simp [ByteArray.size_extract]; omega
  have hnum : numR wd s bad = (beVal (rawR wd s bad).1.data.toList, (rawR wd s bad).2.1, (rawR wd s bad).2.2) := rfl
  generalize rawR wd s bad = r at hraw hlen hnum
  obtain ⟨t, s', bad'⟩ := r
  dsimp only at hlen hnum
  have hraw' : Calls Try.prog 49 #[.pointer (some ⟨b, 0, none⟩), .int .i64 wd] w fun e w' => e = .returned (.string t) ∧ RIn w' b s' bad' ∧ Fr (fun k => k = b) w w' := hraw
  have Hraw := Lib.hid hraw'
  have Hnum := Lib.hid hnum
  clear hraw hraw' hnum h
  generalize hW : numR wd s bad = NR at Hnum ⊢
  clear hW
  have Hwd := Lib.hid hwd
  clear hwd
  have htl : t.data.toList.length = t.size := by simp
  have Htl := Lib.hid htl
  clear htl
  rcases Hwd.out with rfl | rfl | rfl
  · have e1 : ((1 : Nat) : Int) = 1 := rfl
    rw [e1] at Hraw ⊢
    clear e1
    go_enter Try.func46, Try.ntmps46
    go_wp2_with (go_at_call 49; (with_reducible refine Hraw.out.mono ?_); rintro e w1 ⟨rfl, hi, hfr⟩)
    go_loop [6, 7] (fun n i => ∃ k : Nat, k ≤ t.size ∧ i = .int .i64 k ∧ n = .int .i64 (beVal (t.data.toList.take k))) (fun _ i => t.size - (intOf i).toNat)
    case atStart => exact ⟨0, Nat.zero_le _, rfl, rfl⟩
    case round =>
      obtain ⟨k, hk, rfl, rfl⟩ := hrel
      by_cases hlt : k < t.size
      · obtain ⟨x, hx⟩ : ∃ x, t.data.toList[k]? = some x := ⟨t.data.toList[k]'(by rw [Htl.out]; exact hlt), List.getElem?_eq_getElem _⟩
        have hx8 := x.toNat_lt
        generalize hv : beVal (t.data.toList.take k) = v
        have hvl : v < 4294967296 := by
          have hl := beVal_lt (t.data.toList.take k)
          rw [hv] at hl
          have hle : 256 ^ (t.data.toList.take k).length ≤ 256 ^ 4 := Nat.pow_le_pow_right (by omega) (by rw [List.length_take]; omega)
          omega
        have Hv := Lib.hid hv
        have Hx := Lib.hid hx
        clear hv hx
        go_wp2
        go_round
        case rel => exact ⟨k + 1, by omega, by go_num, by
          rw [byte_at hlt Hx.out, mul_byte v x.toNat hvl hx8, List.take_add_one, Hx.out, Option.toList_some, beVal_snoc, Hv.out]⟩
        case measure => simp [intOf]; omega
      · have hke : k = t.size := by omega
        subst hke
        go_wp2
        go_ret
        rw [Hnum.out, ← Htl.out, List.take_length]
        exact ⟨rfl, hi, hfr⟩
  · have e1 : ((2 : Nat) : Int) = 2 := rfl
    rw [e1] at Hraw ⊢
    clear e1
    go_enter Try.func46, Try.ntmps46
    go_wp2_with (go_at_call 49; (with_reducible refine Hraw.out.mono ?_); rintro e w1 ⟨rfl, hi, hfr⟩)
    go_loop [6, 7] (fun n i => ∃ k : Nat, k ≤ t.size ∧ i = .int .i64 k ∧ n = .int .i64 (beVal (t.data.toList.take k))) (fun _ i => t.size - (intOf i).toNat)
    case atStart => exact ⟨0, Nat.zero_le _, rfl, rfl⟩
    case round =>
      obtain ⟨k, hk, rfl, rfl⟩ := hrel
      by_cases hlt : k < t.size
      · obtain ⟨x, hx⟩ : ∃ x, t.data.toList[k]? = some x := ⟨t.data.toList[k]'(by rw [Htl.out]; exact hlt), List.getElem?_eq_getElem _⟩
        have hx8 := x.toNat_lt
        generalize hv : beVal (t.data.toList.take k) = v
        have hvl : v < 4294967296 := by
          have hl := beVal_lt (t.data.toList.take k)
          rw [hv] at hl
          have hle : 256 ^ (t.data.toList.take k).length ≤ 256 ^ 4 := Nat.pow_le_pow_right (by omega) (by rw [List.length_take]; omega)
          omega
        have Hv := Lib.hid hv
        have Hx := Lib.hid hx
        clear hv hx
        go_wp2
        go_round
        case rel => exact ⟨k + 1, by omega, by go_num, by
          rw [byte_at hlt Hx.out, mul_byte v x.toNat hvl hx8, List.take_add_one, Hx.out, Option.toList_some, beVal_snoc, Hv.out]⟩
        case measure => simp [intOf]; omega
      · have hke : k = t.size := by omega
        subst hke
        go_wp2
        go_ret
        rw [Hnum.out, ← Htl.out, List.take_length]
        exact ⟨rfl, hi, hfr⟩
  · have e1 : ((4 : Nat) : Int) = 4 := rfl
    rw [e1] at Hraw ⊢
    clear e1
    go_enter Try.func46, Try.ntmps46
    go_wp2_with (go_at_call 49; (with_reducible refine Hraw.out.mono ?_); rintro e w1 ⟨rfl, hi, hfr⟩)
    go_loop [6, 7] (fun n i => ∃ k : Nat, k ≤ t.size ∧ i = .int .i64 k ∧ n = .int .i64 (beVal (t.data.toList.take k))) (fun _ i => t.size - (intOf i).toNat)
    case atStart => exact ⟨0, Nat.zero_le _, rfl, rfl⟩
    case round =>
      obtain ⟨k, hk, rfl, rfl⟩ := hrel
      by_cases hlt : k < t.size
      · obtain ⟨x, hx⟩ : ∃ x, t.data.toList[k]? = some x := ⟨t.data.toList[k]'(by rw [Htl.out]; exact hlt), List.getElem?_eq_getElem _⟩
        have hx8 := x.toNat_lt
        generalize hv : beVal (t.data.toList.take k) = v
        have hvl : v < 4294967296 := by
          have hl := beVal_lt (t.data.toList.take k)
          rw [hv] at hl
          have hle : 256 ^ (t.data.toList.take k).length ≤ 256 ^ 4 := Nat.pow_le_pow_right (by omega) (by rw [List.length_take]; omega)
          omega
        have Hv := Lib.hid hv
        have Hx := Lib.hid hx
        clear hv hx
        go_wp2
        go_round
        case rel => exact ⟨k + 1, by omega, by go_num, by
          rw [byte_at hlt Hx.out, mul_byte v x.toNat hvl hx8, List.take_add_one, Hx.out, Option.toList_some, beVal_snoc, Hv.out]⟩
        case measure => simp [intOf]; omega
      · have hke : k = t.size := by omega
        subst hke
        go_wp2
        go_ret
        rw [Hnum.out, ← Htl.out, List.take_length]
        exact ⟨rfl, hi, hfr⟩

theorem rText_any (b : Nat) (most : Int) (s : ByteArray) (bad : Bool) (w : World) (h : RIn w b s bad) : Calls Try.prog 47 #[.pointer (some ⟨b, 0, none⟩), .int .i64 most] w (RRaw b w (textR most s bad)) := by
  have hn : Calls Try.prog 46 #[.pointer (some ⟨b, 0, none⟩), .int .i64 1] w fun e w' => e = .returned (.int .i64 ((numR 1 s bad).1 : Int)) ∧ RIn w' b (numR 1 s bad).2.1 (numR 1 s bad).2.2 ∧ Fr (fun k => k = b) w w' := rNum_any b 1 s bad w h (.inl rfl)
  have ht : textR most s bad = rawR (if most < ((numR 1 s bad).1 : Int) then -1 else ((numR 1 s bad).1 : Int)) (numR 1 s bad).2.1 (numR 1 s bad).2.2 := rfl
  generalize numR 1 s bad = r at hn ht
  obtain ⟨n, s1, bad1⟩ := r
  dsimp only at hn ht
  have hraw := fun (n : Int) (W : World) (h : RIn W b s1 bad1) => rRaw_any b s1 bad1 n W h
  have Hn := Lib.hid hn
  have Hraw := Lib.hid hraw
  have Ht := Lib.hid ht
  generalize hW : textR most s bad = R at Ht ⊢
  clear hW
  clear hn hraw ht h
  cases bad1
  · by_cases h0 : most < (n : Int)
    · go_enter Try.func47, Try.ntmps47
      go_wp2_with (first | (go_at_call 46; (with_reducible refine Hn.out.mono ?_); rintro e w1 ⟨rfl, hi, hfr⟩; have c1 := hi.c1) | (go_at_call 49; (with_reducible refine (Hraw.out _ _ hi).mono ?_); rintro e w2 ⟨rfl, hi2, hfr2⟩))
      go_ret
      rw [Ht.out, if_pos h0]
      exact ⟨rfl, hi2, hfr.trans hfr2 (fun _ _ h => h)⟩
    · go_enter Try.func47, Try.ntmps47
      go_wp2_with (first | (go_at_call 46; (with_reducible refine Hn.out.mono ?_); rintro e w1 ⟨rfl, hi, hfr⟩; have c1 := hi.c1) | (go_at_call 49; (with_reducible refine (Hraw.out _ _ hi).mono ?_); rintro e w2 ⟨rfl, hi2, hfr2⟩))
      go_ret
      rw [Ht.out, if_neg (by omega)]
      exact ⟨rfl, hi2, hfr.trans hfr2 (fun _ _ h => h)⟩
  · have hb : ∀ m n : Int, rawR m s1 true = rawR n s1 true := fun m n => by unfold rawR; rw [if_pos (.inl rfl), if_pos (.inl rfl)]
    have Hb := Lib.hid hb
    clear hb
    go_enter Try.func47, Try.ntmps47
    go_wp2_with (first | (go_at_call 46; (with_reducible refine Hn.out.mono ?_); rintro e w1 ⟨rfl, hi, hfr⟩; have c1 := hi.c1) | (go_at_call 49; (with_reducible refine (Hraw.out _ _ hi).mono ?_); rintro e w2 ⟨rfl, hi2, hfr2⟩))
    go_ret
    rw [Ht.out, Hb.out _ (n : Int)]
    exact ⟨rfl, hi2, hfr.trans hfr2 (fun _ _ h => h)⟩
end Go.Proofs.Ytdfgdnaejnngoaa
