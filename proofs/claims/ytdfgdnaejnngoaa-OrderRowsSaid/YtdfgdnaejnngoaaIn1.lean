import Derived.Test.YtdfgdnaejnngoaaOut4
namespace Go.Proofs.Ytdfgdnaejnngoaa
open Go.RowKit

/-- a pen.In in block b -/
def InAt (w : World) (b : Nat) (s : ByteArray) (bad : Bool) : Prop := w.heap[b]? = some (.cells #[.string s, .bool bad] 141 (0, 0))
theorem InAt.lt {w : World} {b : Nat} {s : ByteArray} {bad : Bool} (h : InAt w b s bad) : b < w.heap.size := lt_of_row h
theorem InAt.c0 {w : World} {b : Nat} {s : ByteArray} {bad : Bool} (h : InAt w b s bad) : w.cell? ⟨b, 0, none⟩ = some (.string s) := by rw [Lib.cell_of_heap h]; rfl
theorem InAt.c1 {w : World} {b : Nat} {s : ByteArray} {bad : Bool} (h : InAt w b s bad) : w.cell? ⟨b, 1, none⟩ = some (.bool bad) := by rw [Lib.cell_of_heap h]; rfl
theorem InAt.f {w : World} {b : Nat} {s : ByteArray} {bad : Bool} (h : InAt w b s bad) (j : Nat) : w.frozen? ⟨b, j, none⟩ = false := Lib.frozen_of_heap h j
theorem InAt.set0 {w : World} {b : Nat} {s : ByteArray} {bad : Bool} (h : InAt w b s bad) (t : ByteArray) : InAt (w.setCell ⟨b, 0, none⟩ (.string t)) b t bad := by
  unfold InAt at *
  simp [World.setCell, Array.getElem?_modify, h]
theorem InAt.set1 {w : World} {b : Nat} {s : ByteArray} {bad : Bool} (h : InAt w b s bad) (t : Bool) : InAt (w.setCell ⟨b, 1, none⟩ (.bool t)) b s t := by
  unfold InAt at *
  simp [World.setCell, Array.getElem?_modify, h]
theorem InAt.fr {S : Nat → Prop} {w w' : World} {b : Nat} {s : ByteArray} {bad : Bool} (h : InAt w b s bad) (hf : Fr S w w') (hs : ¬ S b) : InAt w' b s bad := hf.row hs h
theorem InAt.below {w w' : World} {b : Nat} {s : ByteArray} {bad : Bool} (h : InAt w b s bad) (hf : Below w.heap.size w w') : InAt w' b s bad := (Fr.of_below (S := fun _ => False) hf).row (fun h => h) h
theorem InAt.new (w : World) (s : ByteArray) : InAt (w.alloc (.cells #[.string s, .bool false] 141)) w.heap.size s false := heap_alloc_new w _

theorem inOf_any (s : ByteArray) (w : World) : Calls Try.prog 43 #[.string s] w fun e w' => e = .returned (.pointer (some ⟨w.heap.size, 0, none⟩)) ∧ w.alloc (.cells #[.string s, .bool false] 141) = w' := by
  go_enter Try.func43, Try.ntmps43
  go_wp2
  go_ret
  exact ⟨rfl, rfl⟩

theorem inFail_any (b : Nat) (s : ByteArray) (bad : Bool) (w : World) (h : InAt w b s bad) : Calls Try.prog 89 #[.pointer (some ⟨b, 0, none⟩)] w fun e w' => e = .returned (.tuple #[]) ∧ InAt w' b ⟨#[]⟩ true ∧ Fr (fun k => k = b) w w' := by
  have key : Calls Try.prog 89 #[.pointer (some ⟨b, 0, none⟩)] w fun e w' => e = .returned (.tuple #[]) ∧ (w.setCell ⟨b, 0, none⟩ (.string ⟨#[]⟩)).setCell ⟨b, 1, none⟩ (.bool true) = w' := by
    have c0 := h.c0; have c1 := h.c1; have f0 := h.f 0; have f1 := h.f 1
    have c1' := (h.set0 ⟨#[]⟩).c1
    have f1' := (h.set0 ⟨#[]⟩).f 1
    clear h
    go_enter Try.func89, Try.ntmps89
    go_wp2
    go_end0
    exact ⟨rfl, rfl⟩
  refine key.mono ?_
  rintro e w' ⟨rfl, rfl⟩
  exact ⟨rfl, (h.set0 _).set1 _, ((Fr.refl (fun k => k = b) _).setCell (p := ⟨b, 0, none⟩) (fun _ => rfl) _).setCell (p := ⟨b, 1, none⟩) (fun _ => rfl) _⟩

/-- what Raw answers, what is left, whether something was wrong -/
def rawR (n : Int) (s : ByteArray) (bad : Bool) : ByteArray × ByteArray × Bool :=
  if bad = true ∨ n < 0 ∨ (s.size : Int) < n then (⟨#[]⟩, ⟨#[]⟩, true) else (s.extract 0 n.toNat, s.extract n.toNat s.size, false)

def RawRes (b : Nat) (w : World) (r : ByteArray × ByteArray × Bool) (e : Ending) (w' : World) : Prop := e = .returned (.string r.1) ∧ InAt w' b r.2.1 r.2.2 ∧ Fr (fun k => k = b) w w'

theorem inRaw_bad (b : Nat) (s : ByteArray) (n : Int) (w : World) (h : InAt w b s true) : Calls Try.prog 88 #[.pointer (some ⟨b, 0, none⟩), .int .i64 n] w (RawRes b w (rawR n s true)) := by
  have c0 := h.c0; have c1 := h.c1
  have hf := inFail_any b s true w h
  have Hf := Lib.hid hf
  have hr : rawR n s true = (⟨#[]⟩, ⟨#[]⟩, true) := by simp [rawR]
  have Hr := Lib.hid hr
  clear hf h hr
  go_enter Try.func88, Try.ntmps88
  go_wp2_with (go_at_call 89; (with_reducible refine Hf.out.mono ?_); rintro e w1 ⟨rfl, hi, hfr⟩)
  go_ret
  rw [Hr.out]
  exact ⟨rfl, hi, hfr⟩

theorem inRaw_out (b : Nat) (s : ByteArray) (n : Int) (w : World) (h : InAt w b s false) (hn : n < 0 ∨ (s.size : Int) < n) : Calls Try.prog 88 #[.pointer (some ⟨b, 0, none⟩), .int .i64 n] w (RawRes b w (rawR n s false)) := by
  have c0 := h.c0; have c1 := h.c1
  have hf := inFail_any b s false w h
  have Hf := Lib.hid hf
  have hr : rawR n s false = (⟨#[]⟩, ⟨#[]⟩, true) := by simp [rawR, hn]
  have Hr := Lib.hid hr
  clear hf h hr
  by_cases h0 : n < 0
  · clear hn
    go_enter Try.func88, Try.ntmps88
    go_wp2_with (go_at_call 89; (with_reducible refine Hf.out.mono ?_); rintro e w1 ⟨rfl, hi, hfr⟩)
    go_ret
    rw [Hr.out]
    exact ⟨rfl, hi, hfr⟩
  · have h1 : (s.size : Int) < n := by omega
    clear hn
    go_enter Try.func88, Try.ntmps88
    go_wp2_with (go_at_call 89; (with_reducible refine Hf.out.mono ?_); rintro e w1 ⟨rfl, hi, hfr⟩)
    go_ret
    rw [Hr.out]
    exact ⟨rfl, hi, hfr⟩

theorem inRaw_ok (b : Nat) (s : ByteArray) (k : Nat) (w : World) (h : InAt w b s false) (hn : k ≤ s.size) : Calls Try.prog 88 #[.pointer (some ⟨b, 0, none⟩), .int .i64 k] w (RawRes b w (rawR k s false)) := by
  have c0 := h.c0; have c1 := h.c1; have f0 := h.f 0
  have hr : rawR k s false = (s.extract 0 k, s.extract k s.size, false) := by
    unfold rawR
    rw [if_neg (by simp; omega)]; rfl
  have Hr := Lib.hid hr
  have H0 := Lib.hid h
  clear h hr
  go_enter Try.func88, Try.ntmps88
  go_wp2
  go_ret
  rw [Hr.out]
  exact ⟨rfl, H0.out.set0 _, (Fr.refl (fun k => k = b) _).setCell (p := ⟨b, 0, none⟩) (fun _ => rfl) _⟩

theorem inRaw_any (b : Nat) (s : ByteArray) (bad : Bool) (n : Int) (w : World) (h : InAt w b s bad) : Calls Try.prog 88 #[.pointer (some ⟨b, 0, none⟩), .int .i64 n] w (RawRes b w (rawR n s bad)) := by
  cases bad
  · by_cases hn : n < 0 ∨ (s.size : Int) < n
    · exact inRaw_out b s n w h hn
    · obtain ⟨k, rfl⟩ := Int.eq_ofNat_of_zero_le (show 0 ≤ n by omega)
      exact inRaw_ok b s k w h (by omega)
  · exact inRaw_bad b s n w h

theorem inLeft_any (b : Nat) (s : ByteArray) (bad : Bool) (w : World) (h : InAt w b s bad) : Calls Try.prog 50 #[.pointer (some ⟨b, 0, none⟩)] w fun e w' => e = .returned (.int .i64 s.size) ∧ w = w' := by
  have c0 := h.c0
  clear h
  go_enter Try.func50, Try.ntmps50
  go_wp2
  go_ret
  exact ⟨rfl, rfl⟩

def errE (bad : Bool) : Int := if bad = true then 5 else 0
def endE (bad : Bool) (s : ByteArray) : Int := if bad = true ∨ 0 < s.size then 5 else 0
theorem inErr_any (b : Nat) (s : ByteArray) (bad : Bool) (w : World) (h : InAt w b s bad) : Calls Try.prog 76 #[.pointer (some ⟨b, 0, none⟩)] w fun e w' => e = .returned (.int .i64 (errE bad)) ∧ w = w' := by
  have c1 := h.c1
  clear h
  cases bad
  all_goals
    go_enter Try.func76, Try.ntmps76
    go_wp2
    go_ret
    exact ⟨rfl, rfl⟩

theorem inEnd_any (b : Nat) (s : ByteArray) (bad : Bool) (w : World) (h : InAt w b s bad) : Calls Try.prog 45 #[.pointer (some ⟨b, 0, none⟩)] w fun e w' => e = .returned (.int .i64 (endE bad s)) ∧ w = w' := by
  have he := inErr_any b s bad w h
  have hl := inLeft_any b s bad w h
  have He := Lib.hid he
  have Hl := Lib.hid hl
  clear he hl h
  cases bad
  · have e0 : errE false = 0 := rfl
    rw [e0] at He
    clear e0
    by_cases h0 : s.size = 0
    · rw [h0] at Hl
      go_enter Try.func45, Try.ntmps45
      go_wp2_with (first | (go_at_call 76; (with_reducible refine He.out.mono ?_); rintro e w1 ⟨rfl, rfl⟩) | (go_at_call 50; (with_reducible refine Hl.out.mono ?_); rintro e w1 ⟨rfl, rfl⟩))
      go_ret
      exact ⟨ret_int (by simp [endE, h0]), rfl⟩
    · have h1 : ((s.size : Int) == 0) = false := by simpa using h0
      have h2 : 0 < s.size := by omega
      go_enter Try.func45, Try.ntmps45
      go_wp2_with (first | (go_at_call 76; (with_reducible refine He.out.mono ?_); rintro e w1 ⟨rfl, rfl⟩) | (go_at_call 50; (with_reducible refine Hl.out.mono ?_); rintro e w1 ⟨rfl, rfl⟩))
      go_ret
      exact ⟨ret_int (by simp [endE, h2]), rfl⟩
  · have e0 : errE true = 5 := rfl
    rw [e0] at He
    clear e0
    go_enter Try.func45, Try.ntmps45
    go_wp2_with (first | (go_at_call 76; (with_reducible refine He.out.mono ?_); rintro e w1 ⟨rfl, rfl⟩) | (go_at_call 50; (with_reducible refine Hl.out.mono ?_); rintro e w1 ⟨rfl, rfl⟩))
    go_ret
    exact ⟨ret_int (by simp [endE]), rfl⟩
end Go.Proofs.Ytdfgdnaejnngoaa
