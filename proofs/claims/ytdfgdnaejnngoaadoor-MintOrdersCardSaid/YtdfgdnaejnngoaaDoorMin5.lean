import Derived.Test.YtdfgdnaejnngoaaDoorMin4
import Derived.Lib.MinMaxS
namespace Go.Proofs.YtdfgdnaejnngoaaDoor
open Go.RowKit

def sig (c : Int) : UInt8 := UInt8.ofNat (97 + c).toNat
def valB (n c : Int) : ByteArray := ⟨(Lib.repeatL [sig c] n.toNat).toArray⟩
theorem mValue_any (b : Nat) (x : Int) (w : World) (h : MAt w b x) : Calls Tryd.prog 22 #[.pointer (some ⟨b, 0, none⟩)] w fun e w' => e = .returned (.string (valB (nZ (nS x) % 17) (nZ (nS (nS x)) % 26))) ∧ MAt w' b (nS (nS x)) ∧ Fr (fun k => k = b) w w' := by
  have hbl := h.lt
  have hb := mBelow_yes b x 17 w h (by decide) (by decide)
  have hc := fun W h => mBelow_yes b (nS x) 26 W h (by decide) (by decide)
  have hz0 := Int.emod_nonneg (nZ (nS x)) (show (17 : Int) ≠ 0 by decide)
  have hz1 := Int.emod_lt_of_pos (nZ (nS x)) (show (0 : Int) < 17 by decide)
  have hy0 := Int.emod_nonneg (nZ (nS (nS x))) (show (26 : Int) ≠ 0 by decide)
  have hy1 := Int.emod_lt_of_pos (nZ (nS (nS x))) (show (0 : Int) < 26 by decide)
  generalize nZ (nS x) % 17 = n at hb hz0 hz1 ⊢
  generalize nZ (nS (nS x)) % 26 = c at hc hy0 hy1 ⊢
  generalize nS (nS x) = x2 at hc ⊢
  generalize nS x = x1 at hb hc ⊢
  obtain ⟨m, rfl⟩ := Int.eq_ofNat_of_zero_le hz0
  have hv : valB m c = ⟨(Lib.repeatL [sig c] m).toArray⟩ := rfl
  have hr := fun W => Tryd.strings_Repeat ⟨#[sig c]⟩ m W (by omega) (by show 1 * m ≤ _; omega)
  have hw : IntKind.u8.wrap (97 + c) = 97 + c := u8_wrap _ (by omega) (by omega)
  have hw2 : wrap64 (97 + c) = 97 + c := by unfold wrap64; omega
  have hsg : UInt8.ofNat (97 + c).toNat = sig c := rfl
  have hcv := conv_one
  have Hb := Lib.hid hb
  have Hc := Lib.hid hc
  have Hr := Lib.hid hr
  have Hv := Lib.hid hv
  clear hb hc hr hv h
  go_enter Tryd.func22, Tryd.ntmps22
  go_wp2_with (first | (go_at_call 10; (with_reducible refine Hb.out.mono ?_); rintro e w1 ⟨rfl, hm, hf⟩) | (go_at_call 10; (with_reducible refine (Hc.out _ hm).mono ?_); rintro e w2 ⟨rfl, hm2, hf2⟩) | (go_at_call 33; (with_reducible refine (Hr.out _).mono ?_); rintro e w3 ⟨rfl, hb3⟩))
  have hb4 := below_next (below_alloc (Below.refl w2.heap.size w2)) hb3
  go_ret
  rw [Hv.out]
  exact ⟨rfl, hm2.below hb4, (hf.trans hf2 (fun _ _ h => h)).trans (Fr.of_below (S := fun _ => False) hb4) (fun _ _ h => h.elim)⟩

def ord0 (k : Int) : Ord := { kind := k, key := ⟨#[]⟩, val := ⟨#[]⟩, n := 0, lo := ⟨#[]⟩, hi := ⟨#[]⟩ }
def put6 (w : World) (c : Nat) (o : Ord) : World := (((((w.setCell ⟨c, 0, none⟩ (.int .i64 o.kind)).setCell ⟨c, 1, none⟩ (.string o.key)).setCell ⟨c, 2, none⟩ (.string o.val)).setCell ⟨c, 3, none⟩ (.int .u64 o.n)).setCell ⟨c, 4, none⟩ (.string o.lo)).setCell ⟨c, 5, none⟩ (.string o.hi)
theorem put6_fr (w : World) (c : Nat) (o : Ord) : Fr (fun k => k = c) w (put6 w c o) :=
  ((((((Fr.refl (fun k => k = c) w).setCell (p := ⟨c, 0, none⟩) (fun _ => rfl) _).setCell (p := ⟨c, 1, none⟩) (fun _ => rfl) _).setCell (p := ⟨c, 2, none⟩) (fun _ => rfl) _).setCell (p := ⟨c, 3, none⟩) (fun _ => rfl) _).setCell (p := ⟨c, 4, none⟩) (fun _ => rfl) _).setCell (p := ⟨c, 5, none⟩) (fun _ => rfl) _
def DAt (w : World) (c : Nat) (o : Ord) : Prop := w.heap[c]? = some (.cells #[.int .i64 o.kind, .string o.key, .string o.val, .int .u64 o.n, .string o.lo, .string o.hi] 37 (0, 0))
theorem DAt.lt {w : World} {c : Nat} {o : Ord} (h : DAt w c o) : c < w.heap.size := lt_of_row h
theorem DAt.c0 {w : World} {c : Nat} {o : Ord} (h : DAt w c o) : w.cell? ⟨c, 0, none⟩ = some (.int .i64 o.kind) := by rw [Lib.cell_of_heap h]; rfl
theorem DAt.c1 {w : World} {c : Nat} {o : Ord} (h : DAt w c o) : w.cell? ⟨c, 1, none⟩ = some (.string o.key) := by rw [Lib.cell_of_heap h]; rfl
theorem DAt.c2 {w : World} {c : Nat} {o : Ord} (h : DAt w c o) : w.cell? ⟨c, 2, none⟩ = some (.string o.val) := by rw [Lib.cell_of_heap h]; rfl
theorem DAt.c3 {w : World} {c : Nat} {o : Ord} (h : DAt w c o) : w.cell? ⟨c, 3, none⟩ = some (.int .u64 o.n) := by rw [Lib.cell_of_heap h]; rfl
theorem DAt.c4 {w : World} {c : Nat} {o : Ord} (h : DAt w c o) : w.cell? ⟨c, 4, none⟩ = some (.string o.lo) := by rw [Lib.cell_of_heap h]; rfl
theorem DAt.c5 {w : World} {c : Nat} {o : Ord} (h : DAt w c o) : w.cell? ⟨c, 5, none⟩ = some (.string o.hi) := by rw [Lib.cell_of_heap h]; rfl
theorem DAt.f {w : World} {c : Nat} {o : Ord} (h : DAt w c o) (j : Nat) : w.frozen? ⟨c, j, none⟩ = false := Lib.frozen_of_heap h j
theorem DAt.fr {S : Nat → Prop} {w w' : World} {c : Nat} {o : Ord} (h : DAt w c o) (hf : Fr S w w') (hs : ¬ S c) : DAt w' c o := hf.row hs h
theorem DAt.below {w w' : World} {c : Nat} {o : Ord} (h : DAt w c o) (hf : Below w.heap.size w w') : DAt w' c o := h.fr (Fr.of_below (S := fun _ => False) hf) id
theorem DAt.new (w : World) (o : Ord) : DAt (w.alloc (.cells #[.int .i64 o.kind, .string o.key, .string o.val, .int .u64 o.n, .string o.lo, .string o.hi] 37)) w.heap.size o := heap_alloc_new w _
theorem DAt.set_key {w : World} {c : Nat} {o : Ord} (h : DAt w c o) (t : ByteArray) : DAt (w.setCell ⟨c, 1, none⟩ (.string t)) c { o with key := t } := by
  unfold DAt at *
  simp [World.setCell, Array.getElem?_modify, h]
theorem DAt.set_val {w : World} {c : Nat} {o : Ord} (h : DAt w c o) (t : ByteArray) : DAt (w.setCell ⟨c, 2, none⟩ (.string t)) c { o with val := t } := by
  unfold DAt at *
  simp [World.setCell, Array.getElem?_modify, h]
theorem DAt.set_n {w : World} {c : Nat} {o : Ord} (h : DAt w c o) (t : Int) : DAt (w.setCell ⟨c, 3, none⟩ (.int .u64 t)) c { o with n := t } := by
  unfold DAt at *
  simp [World.setCell, Array.getElem?_modify, h]
theorem DAt.set_lo {w : World} {c : Nat} {o : Ord} (h : DAt w c o) (t : ByteArray) : DAt (w.setCell ⟨c, 4, none⟩ (.string t)) c { o with lo := t } := by
  unfold DAt at *
  simp [World.setCell, Array.getElem?_modify, h]
theorem DAt.set_hi {w : World} {c : Nat} {o : Ord} (h : DAt w c o) (t : ByteArray) : DAt (w.setCell ⟨c, 5, none⟩ (.string t)) c { o with hi := t } := by
  unfold DAt at *
  simp [World.setCell, Array.getElem?_modify, h]
theorem DAt.put {w : World} {c : Nat} {o0 : Ord} (h : DAt w c o0) (o : Ord) : DAt (put6 w c o) c o := by
  unfold DAt put6 at *
  simp [World.setCell, Array.getElem?_modify, h]
theorem DAt.set_kind {w : World} {c : Nat} {o : Ord} (h : DAt w c o) (t : Int) : DAt (w.setCell ⟨c, 0, none⟩ (.int .i64 t)) c { o with kind := t } := by
  unfold DAt at *
  simp [World.setCell, Array.getElem?_modify, h]
def EAt (w : World) (c : Nat) (o : Ord) : Prop := w.heap[c]? = some (.cells #[.int .i64 o.kind, .string o.key, .string o.val, .int .u64 o.n, .string o.lo, .string o.hi] 35 (0, 0))
theorem EAt.lt {w : World} {c : Nat} {o : Ord} (h : EAt w c o) : c < w.heap.size := lt_of_row h
theorem EAt.c0 {w : World} {c : Nat} {o : Ord} (h : EAt w c o) : w.cell? ⟨c, 0, none⟩ = some (.int .i64 o.kind) := by rw [Lib.cell_of_heap h]; rfl
theorem EAt.c1 {w : World} {c : Nat} {o : Ord} (h : EAt w c o) : w.cell? ⟨c, 1, none⟩ = some (.string o.key) := by rw [Lib.cell_of_heap h]; rfl
theorem EAt.c2 {w : World} {c : Nat} {o : Ord} (h : EAt w c o) : w.cell? ⟨c, 2, none⟩ = some (.string o.val) := by rw [Lib.cell_of_heap h]; rfl
theorem EAt.c3 {w : World} {c : Nat} {o : Ord} (h : EAt w c o) : w.cell? ⟨c, 3, none⟩ = some (.int .u64 o.n) := by rw [Lib.cell_of_heap h]; rfl
theorem EAt.c4 {w : World} {c : Nat} {o : Ord} (h : EAt w c o) : w.cell? ⟨c, 4, none⟩ = some (.string o.lo) := by rw [Lib.cell_of_heap h]; rfl
theorem EAt.c5 {w : World} {c : Nat} {o : Ord} (h : EAt w c o) : w.cell? ⟨c, 5, none⟩ = some (.string o.hi) := by rw [Lib.cell_of_heap h]; rfl
theorem EAt.f {w : World} {c : Nat} {o : Ord} (h : EAt w c o) (j : Nat) : w.frozen? ⟨c, j, none⟩ = false := Lib.frozen_of_heap h j
theorem EAt.fr {S : Nat → Prop} {w w' : World} {c : Nat} {o : Ord} (h : EAt w c o) (hf : Fr S w w') (hs : ¬ S c) : EAt w' c o := hf.row hs h
theorem EAt.below {w w' : World} {c : Nat} {o : Ord} (h : EAt w c o) (hf : Below w.heap.size w w') : EAt w' c o := h.fr (Fr.of_below (S := fun _ => False) hf) id
theorem EAt.new (w : World) (o : Ord) : EAt (w.alloc (.cells #[.int .i64 o.kind, .string o.key, .string o.val, .int .u64 o.n, .string o.lo, .string o.hi] 35)) w.heap.size o := heap_alloc_new w _
theorem EAt.set_key {w : World} {c : Nat} {o : Ord} (h : EAt w c o) (t : ByteArray) : EAt (w.setCell ⟨c, 1, none⟩ (.string t)) c { o with key := t } := by
  unfold EAt at *
  simp [World.setCell, Array.getElem?_modify, h]
theorem EAt.set_val {w : World} {c : Nat} {o : Ord} (h : EAt w c o) (t : ByteArray) : EAt (w.setCell ⟨c, 2, none⟩ (.string t)) c { o with val := t } := by
  unfold EAt at *
  simp [World.setCell, Array.getElem?_modify, h]
theorem EAt.set_n {w : World} {c : Nat} {o : Ord} (h : EAt w c o) (t : Int) : EAt (w.setCell ⟨c, 3, none⟩ (.int .u64 t)) c { o with n := t } := by
  unfold EAt at *
  simp [World.setCell, Array.getElem?_modify, h]
theorem EAt.set_lo {w : World} {c : Nat} {o : Ord} (h : EAt w c o) (t : ByteArray) : EAt (w.setCell ⟨c, 4, none⟩ (.string t)) c { o with lo := t } := by
  unfold EAt at *
  simp [World.setCell, Array.getElem?_modify, h]
theorem EAt.set_hi {w : World} {c : Nat} {o : Ord} (h : EAt w c o) (t : ByteArray) : EAt (w.setCell ⟨c, 5, none⟩ (.string t)) c { o with hi := t } := by
  unfold EAt at *
  simp [World.setCell, Array.getElem?_modify, h]
theorem EAt.put {w : World} {c : Nat} {o0 : Ord} (h : EAt w c o0) (o : Ord) : EAt (put6 w c o) c o := by
  unfold EAt put6 at *
  simp [World.setCell, Array.getElem?_modify, h]
theorem EAt.set_kind {w : World} {c : Nat} {o : Ord} (h : EAt w c o) (t : Int) : EAt (w.setCell ⟨c, 0, none⟩ (.int .i64 t)) c { o with kind := t } := by
  unfold EAt at *
  simp [World.setCell, Array.getElem?_modify, h]
end Go.Proofs.YtdfgdnaejnngoaaDoor
