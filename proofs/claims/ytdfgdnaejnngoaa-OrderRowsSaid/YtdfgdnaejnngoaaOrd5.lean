import Derived.Test.YtdfgdnaejnngoaaOrd4
namespace Go.Proofs.Ytdfgdnaejnngoaa
open Go.RowKit

set_option maxRecDepth 100000 in
theorem writeN_any (o : Ord) (n : Nat) (hn : o.n = (n : Int)) (hlt : n < 18446744073709551616) : Writes 67 o (valBytes n) := by
  intro B b G l w h hBw hlen
  have hv := fun W => value_any n W hlt
  have Hv := Lib.hid hv
  have hr := fun W h1 h2 => outRaw_B B b G l ⟨(valBytes n).toArray⟩ W h1 (by have : (⟨(valBytes n).toArray⟩ : ByteArray).size = (valBytes n).length := by simp [ByteArray.size]
                                                                             omega) h2
  have Hr := Lib.hid hr
  have H := Lib.hid (OutB.below h (Below.alloc (Below.refl w.heap.size w) (Nat.le_refl _) (.cells #[.int .i64 o.kind, .string o.key, .string o.val, .int .u64 o.n, .string o.lo, .string o.hi] 24)))
  have hb0 := Below.alloc (Below.refl w.heap.size w) (Nat.le_refl _) (.cells #[.int .i64 o.kind, .string o.key, .string o.val, .int .u64 o.n, .string o.lo, .string o.hi] 24)
  clear hv hr h hlt hlen
  rw [Ord.v_def]
  rw [hn] at H hb0 ⊢
  clear hn
  go_enter Try.func67, Try.ntmps67
  go_wp2_with (go_at_call 86; (with_reducible refine (Hv.out _).mono ?_); rintro e w1 ⟨rfl, hb⟩)
  have hb1 := below_step hb0 hb (by simp)
  (with_reducible refine (Hr.out _ (OutB.below H.out hb) ?_).mono ?_)
  · exact Nat.le_trans hBw hb1.size
  rintro e w2 ⟨rfl, G', ho, hst⟩
  go_wp2
  go_end0
  exact ⟨rfl, G', by simpa using ho, OutStep.of_below hb1 hst⟩

/-- an order in block c -/
def OrdAt (w : World) (c : Nat) (o : Ord) : Prop := w.heap[c]? = some (.cells #[.int .i64 o.kind, .string o.key, .string o.val, .int .u64 o.n, .string o.lo, .string o.hi] 24 (0, 0))
theorem OrdAt.lt {w : World} {c : Nat} {o : Ord} (h : OrdAt w c o) : c < w.heap.size := lt_of_row h
theorem OrdAt.c0 {w : World} {c : Nat} {o : Ord} (h : OrdAt w c o) : w.cell? ⟨c, 0, none⟩ = some (.int .i64 o.kind) := by rw [Lib.cell_of_heap h]; rfl
theorem OrdAt.c1 {w : World} {c : Nat} {o : Ord} (h : OrdAt w c o) : w.cell? ⟨c, 1, none⟩ = some (.string o.key) := by rw [Lib.cell_of_heap h]; rfl
theorem OrdAt.c2 {w : World} {c : Nat} {o : Ord} (h : OrdAt w c o) : w.cell? ⟨c, 2, none⟩ = some (.string o.val) := by rw [Lib.cell_of_heap h]; rfl
theorem OrdAt.c3 {w : World} {c : Nat} {o : Ord} (h : OrdAt w c o) : w.cell? ⟨c, 3, none⟩ = some (.int .u64 o.n) := by rw [Lib.cell_of_heap h]; rfl
theorem OrdAt.c4 {w : World} {c : Nat} {o : Ord} (h : OrdAt w c o) : w.cell? ⟨c, 4, none⟩ = some (.string o.lo) := by rw [Lib.cell_of_heap h]; rfl
theorem OrdAt.c5 {w : World} {c : Nat} {o : Ord} (h : OrdAt w c o) : w.cell? ⟨c, 5, none⟩ = some (.string o.hi) := by rw [Lib.cell_of_heap h]; rfl
theorem OrdAt.f {w : World} {c : Nat} {o : Ord} (h : OrdAt w c o) (j : Nat) : w.frozen? ⟨c, j, none⟩ = false := Lib.frozen_of_heap h j
theorem OrdAt.fr {S : Nat → Prop} {w w' : World} {c : Nat} {o : Ord} (h : OrdAt w c o) (hf : Fr S w w') (hs : ¬ S c) : OrdAt w' c o := hf.row hs h
theorem OrdAt.set_key {w : World} {c : Nat} {o : Ord} (h : OrdAt w c o) (t : ByteArray) : OrdAt (w.setCell ⟨c, 1, none⟩ (.string t)) c { o with key := t } := by
  unfold OrdAt at *
  simp [World.setCell, Array.getElem?_modify, h]
theorem OrdAt.set_val {w : World} {c : Nat} {o : Ord} (h : OrdAt w c o) (t : ByteArray) : OrdAt (w.setCell ⟨c, 2, none⟩ (.string t)) c { o with val := t } := by
  unfold OrdAt at *
  simp [World.setCell, Array.getElem?_modify, h]
theorem OrdAt.set_lo {w : World} {c : Nat} {o : Ord} (h : OrdAt w c o) (t : ByteArray) : OrdAt (w.setCell ⟨c, 4, none⟩ (.string t)) c { o with lo := t } := by
  unfold OrdAt at *
  simp [World.setCell, Array.getElem?_modify, h]
theorem OrdAt.set_hi {w : World} {c : Nat} {o : Ord} (h : OrdAt w c o) (t : ByteArray) : OrdAt (w.setCell ⟨c, 5, none⟩ (.string t)) c { o with hi := t } := by
  unfold OrdAt at *
  simp [World.setCell, Array.getElem?_modify, h]
theorem OrdAt.set_n {w : World} {c : Nat} {o : Ord} (h : OrdAt w c o) (t : Int) : OrdAt (w.setCell ⟨c, 3, none⟩ (.int .u64 t)) c { o with n := t } := by
  unfold OrdAt at *
  simp [World.setCell, Array.getElem?_modify, h]

/-- what a field's reader does -/
def Reads1 (g : FuncId) (rd : Ord → ByteArray → Bool → Ord × ByteArray × Bool) : Prop :=
  ∀ (c b : Nat) (o : Ord) (s : ByteArray) (bad : Bool) (w : World), OrdAt w c o → InAt w b s bad → c ≠ b →
    Calls Try.prog g #[.pointer (some ⟨c, 0, none⟩), .pointer (some ⟨b, 0, none⟩)] w fun e w' => e = .returned (.tuple #[]) ∧ OrdAt w' c (rd o s bad).1 ∧ InAt w' b (rd o s bad).2.1 (rd o s bad).2.2 ∧ Fr (fun k => k = c ∨ k = b) w w'

def rdKey (o : Ord) (s : ByteArray) (bad : Bool) : Ord × ByteArray × Bool := ({ o with key := (textR 255 s bad).1 }, (textR 255 s bad).2.1, (textR 255 s bad).2.2)
theorem readKey_any : Reads1 64 rdKey := by
  intro c b o s bad w ho hi hcb
  have ht : Calls Try.prog 84 #[.pointer (some ⟨b, 0, none⟩), .int .i64 255] w fun e w' => e = .returned (.string (textR 255 s bad).1) ∧ InAt w' b (textR 255 s bad).2.1 (textR 255 s bad).2.2 ∧ Fr (fun k => k = b) w w' := inText_any b 255 s bad w hi
  have hrd : rdKey o s bad = ({ o with key := (textR 255 s bad).1 }, (textR 255 s bad).2.1, (textR 255 s bad).2.2) := rfl
  generalize textR 255 s bad = r at ht hrd
  obtain ⟨t, s', bad'⟩ := r
  dsimp only at ht hrd
  have Ht := Lib.hid ht
  have Hrd := Lib.hid hrd
  have Ho := Lib.hid ho
  clear ht hrd ho hi
  go_enter Try.func64, Try.ntmps64
  go_wp2_with (go_at_call 84; (with_reducible refine Ht.out.mono ?_); rintro e w1 ⟨rfl, hi, hfr⟩; have ho1 := Ho.out.fr hfr hcb; have k := ho1.c1; have f := ho1.f 1; have Ho1 := Lib.hid ho1; clear ho1)
  go_end0
  rw [Hrd.out]
  exact ⟨rfl, Ho1.out.set_key _, hi.fr (S := fun k => k = c) ((Fr.refl (fun k => k = c) _).setCell (p := ⟨c, 1, none⟩) (fun _ => rfl) _) (fun e => hcb e.symm), (hfr.mono (fun i _ h => .inr h)).setCell (p := ⟨c, 1, none⟩) (fun _ => .inl rfl) _⟩
def rdVal (o : Ord) (s : ByteArray) (bad : Bool) : Ord × ByteArray × Bool := ({ o with val := (textR 255 s bad).1 }, (textR 255 s bad).2.1, (textR 255 s bad).2.2)
theorem readVal_any : Reads1 66 rdVal := by
  intro c b o s bad w ho hi hcb
  have ht : Calls Try.prog 84 #[.pointer (some ⟨b, 0, none⟩), .int .i64 255] w fun e w' => e = .returned (.string (textR 255 s bad).1) ∧ InAt w' b (textR 255 s bad).2.1 (textR 255 s bad).2.2 ∧ Fr (fun k => k = b) w w' := inText_any b 255 s bad w hi
  have hrd : rdVal o s bad = ({ o with val := (textR 255 s bad).1 }, (textR 255 s bad).2.1, (textR 255 s bad).2.2) := rfl
  generalize textR 255 s bad = r at ht hrd
  obtain ⟨t, s', bad'⟩ := r
  dsimp only at ht hrd
  have Ht := Lib.hid ht
  have Hrd := Lib.hid hrd
  have Ho := Lib.hid ho
  clear ht hrd ho hi
  go_enter Try.func66, Try.ntmps66
  go_wp2_with (go_at_call 84; (with_reducible refine Ht.out.mono ?_); rintro e w1 ⟨rfl, hi, hfr⟩; have ho1 := Ho.out.fr hfr hcb; have k := ho1.c2; have f := ho1.f 2; have Ho1 := Lib.hid ho1; clear ho1)
  go_end0
  rw [Hrd.out]
  exact ⟨rfl, Ho1.out.set_val _, hi.fr (S := fun k => k = c) ((Fr.refl (fun k => k = c) _).setCell (p := ⟨c, 2, none⟩) (fun _ => rfl) _) (fun e => hcb e.symm), (hfr.mono (fun i _ h => .inr h)).setCell (p := ⟨c, 2, none⟩) (fun _ => .inl rfl) _⟩
def rdLo (o : Ord) (s : ByteArray) (bad : Bool) : Ord × ByteArray × Bool := ({ o with lo := (textR 255 s bad).1 }, (textR 255 s bad).2.1, (textR 255 s bad).2.2)
theorem readLo_any : Reads1 70 rdLo := by
  intro c b o s bad w ho hi hcb
  have ht : Calls Try.prog 84 #[.pointer (some ⟨b, 0, none⟩), .int .i64 255] w fun e w' => e = .returned (.string (textR 255 s bad).1) ∧ InAt w' b (textR 255 s bad).2.1 (textR 255 s bad).2.2 ∧ Fr (fun k => k = b) w w' := inText_any b 255 s bad w hi
  have hrd : rdLo o s bad = ({ o with lo := (textR 255 s bad).1 }, (textR 255 s bad).2.1, (textR 255 s bad).2.2) := rfl
  generalize textR 255 s bad = r at ht hrd
  obtain ⟨t, s', bad'⟩ := r
  dsimp only at ht hrd
  have Ht := Lib.hid ht
  have Hrd := Lib.hid hrd
  have Ho := Lib.hid ho
  clear ht hrd ho hi
  go_enter Try.func70, Try.ntmps70
  go_wp2_with (go_at_call 84; (with_reducible refine Ht.out.mono ?_); rintro e w1 ⟨rfl, hi, hfr⟩; have ho1 := Ho.out.fr hfr hcb; have k := ho1.c4; have f := ho1.f 4; have Ho1 := Lib.hid ho1; clear ho1)
  go_end0
  rw [Hrd.out]
  exact ⟨rfl, Ho1.out.set_lo _, hi.fr (S := fun k => k = c) ((Fr.refl (fun k => k = c) _).setCell (p := ⟨c, 4, none⟩) (fun _ => rfl) _) (fun e => hcb e.symm), (hfr.mono (fun i _ h => .inr h)).setCell (p := ⟨c, 4, none⟩) (fun _ => .inl rfl) _⟩
def rdHi (o : Ord) (s : ByteArray) (bad : Bool) : Ord × ByteArray × Bool := ({ o with hi := (textR 255 s bad).1 }, (textR 255 s bad).2.1, (textR 255 s bad).2.2)
theorem readHi_any : Reads1 72 rdHi := by
  intro c b o s bad w ho hi hcb
  have ht : Calls Try.prog 84 #[.pointer (some ⟨b, 0, none⟩), .int .i64 255] w fun e w' => e = .returned (.string (textR 255 s bad).1) ∧ InAt w' b (textR 255 s bad).2.1 (textR 255 s bad).2.2 ∧ Fr (fun k => k = b) w w' := inText_any b 255 s bad w hi
  have hrd : rdHi o s bad = ({ o with hi := (textR 255 s bad).1 }, (textR 255 s bad).2.1, (textR 255 s bad).2.2) := rfl
  generalize textR 255 s bad = r at ht hrd
  obtain ⟨t, s', bad'⟩ := r
  dsimp only at ht hrd
  have Ht := Lib.hid ht
  have Hrd := Lib.hid hrd
  have Ho := Lib.hid ho
  clear ht hrd ho hi
  go_enter Try.func72, Try.ntmps72
  go_wp2_with (go_at_call 84; (with_reducible refine Ht.out.mono ?_); rintro e w1 ⟨rfl, hi, hfr⟩; have ho1 := Ho.out.fr hfr hcb; have k := ho1.c5; have f := ho1.f 5; have Ho1 := Lib.hid ho1; clear ho1)
  go_end0
  rw [Hrd.out]
  exact ⟨rfl, Ho1.out.set_hi _, hi.fr (S := fun k => k = c) ((Fr.refl (fun k => k = c) _).setCell (p := ⟨c, 5, none⟩) (fun _ => rfl) _) (fun e => hcb e.symm), (hfr.mono (fun i _ h => .inr h)).setCell (p := ⟨c, 5, none⟩) (fun _ => .inl rfl) _⟩

def rdN (o : Ord) (s : ByteArray) (bad : Bool) : Ord × ByteArray × Bool :=
  ({ o with n := if (rawR 8 s bad).1.size = 8 then (numOf (rawR 8 s bad).1 : Int) else 0 }, (rawR 8 s bad).2.1, (rawR 8 s bad).2.2)
theorem number_any (v : ByteArray) (w : World) : Calls Try.prog 87 #[.string v] w fun e w' => (∃ b, e = .returned (.tuple #[.int .u64 (if v.size = 8 then (numOf v : Int) else 0), .bool b])) ∧ Below w.heap.size w w' := by
  by_cases h : v.size = 8
  · rw [if_pos h]
    exact (number_yes v w h).mono fun e w' ⟨h1, h2⟩ => ⟨⟨_, h1⟩, h2⟩
  · rw [if_neg h]
    exact (number_no v w h).mono fun e w' ⟨h1, h2⟩ => ⟨⟨_, h1⟩, h2⟩
theorem readN_any : Reads1 68 rdN := by
  intro c b o s bad w ho hi hcb
  have ht : Calls Try.prog 88 #[.pointer (some ⟨b, 0, none⟩), .int .i64 8] w fun e w' => e = .returned (.string (rawR 8 s bad).1) ∧ InAt w' b (rawR 8 s bad).2.1 (rawR 8 s bad).2.2 ∧ Fr (fun k => k = b) w w' := inRaw_any b s bad 8 w hi
  have hrd : rdN o s bad = ({ o with n := if (rawR 8 s bad).1.size = 8 then (numOf (rawR 8 s bad).1 : Int) else 0 }, (rawR 8 s bad).2.1, (rawR 8 s bad).2.2) := rfl
  generalize rawR 8 s bad = r at ht hrd
  obtain ⟨t, s', bad'⟩ := r
  dsimp only at ht hrd
  have hnum := fun W => number_any t W
  generalize (if t.size = 8 then (numOf t : Int) else 0) = m at hrd hnum
  have Ht := Lib.hid ht
  have Hrd := Lib.hid hrd
  have Ho := Lib.hid ho
  have Hnum := Lib.hid hnum
  clear ht hrd ho hi hnum
  go_enter Try.func68, Try.ntmps68
  go_wp2_with (first | (go_at_call 88; (with_reducible refine Ht.out.mono ?_); rintro e w1 ⟨rfl, hi, hfr⟩) | (go_at_call 87; (with_reducible refine (Hnum.out _).mono ?_); rintro e w2 ⟨⟨bb, rfl⟩, hb2⟩; have ho1 := (Ho.out.fr hfr hcb).fr (Fr.of_below (S := fun _ => False) hb2) (fun h => h); have k3 := ho1.c3; have f3 := ho1.f 3; have Ho1 := Lib.hid ho1; clear ho1))
  go_end0
  rw [Hrd.out]
  refine ⟨rfl, Ho1.out.set_n _, (hi.below hb2).fr (S := fun k => k = c) ((Fr.refl (fun k => k = c) _).setCell (p := ⟨c, 3, none⟩) (fun _ => rfl) _) (fun e => hcb e.symm), ?_⟩
  exact ((hfr.mono (fun i _ h => .inr h)).trans (Fr.of_below (S := fun _ => False) hb2) (fun _ _ h => h.elim)).setCell (p := ⟨c, 3, none⟩) (fun _ => .inl rfl) _
end Go.Proofs.Ytdfgdnaejnngoaa
