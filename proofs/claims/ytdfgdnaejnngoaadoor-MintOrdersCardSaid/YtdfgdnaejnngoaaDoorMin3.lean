import Derived.Test.YtdfgdnaejnngoaaDoorMin2
import Derived.Test.YtdfgdnaejnngoaaDoorShelf
import Derived.Lib.AppendIntMem
import Derived.Laws.BytesArg
namespace Go.Proofs.YtdfgdnaejnngoaaDoor
open Go.RowKit

/-- what the number's table is, whatever is done from block B on -/
def Tab (B : Nat) (w : World) : Prop := Lib.TabBelow Tryd.prog B w "internal/strconv.uint64pow10" .u64 Lib.pow10Tab
theorem Tab.on {B : Nat} {w w' : World} (h : Tab B w) (hb : Below B w w') : Tab B w' := fun w2 h2 => h w2 (hb.trans h2)
theorem Tab.fr {B : Nat} {S : Nat → Prop} {w w' : World} (h : Tab B w) (hf : Fr S w w') (hB : B ≤ w.heap.size) (hs : ∀ i, S i → B ≤ i) : Tab B w' := h.on (hf.to_below hB (fun i hi hS => by have := hs i hS; omega))
theorem itoa_any (n : Int) (B : Nat) (w : World) (h0 : 0 ≤ n) (h1 : n < 1000) (ht : Tab B w) : Calls Tryd.prog 32 #[.int .i64 n] w fun e w' => e = .returned (.string ⟨(Lib.itoa n).toArray⟩) ∧ Below w.heap.size w w' := by
  refine (Tryd.strconv_Itoa n (by omega) (by omega) w (ht w (Below.refl _ _))).mono ?_
  rintro e w' ⟨rfl, k, os, rfl⟩
  exact ⟨rfl, Lib.below_grow _ _ (Nat.le_refl _) _ _⟩

theorem conv_one (W : World) (x : Int) : (convert 64 9 (.slice (some ⟨W.heap.size, 0, none⟩) 1 1)).run Tryd.prog (W.alloc (.cells #[.int .u8 x] 5)) = .ok (.string ⟨#[UInt8.ofNat x.toNat]⟩) (W.alloc (.cells #[.int .u8 x] 5)) :=
  run_convert_bytes_arg _ 64 5 Tryd.underlying64 Tryd.underlying5 W.heap.size 0 1 1 [x] rfl (fun i hi => by
    have : i = 0 := by omega
    subst this
    rw [Lib.cell_of_heap (heap_alloc_new W _)]; rfl) 9 Tryd.underlying9

/-- a key of a number -/
def keyB (n : Int) : ByteArray := ⟨#[107]⟩ ++ ⟨(Lib.itoa n).toArray⟩
theorem itoa_le (n : Int) (h0 : 0 ≤ n) (h1 : n < 1000) : (Lib.itoa n).length ≤ 3 := by
  have h : ∀ m, m < 1000 → (Lib.decDigits m).length ≤ 3 := by
    intro m hm
    rw [Lib.decDigits]
    split
    · simp
    · rw [Lib.decDigits]
      split
      · simp
      · rw [Lib.decDigits]
        rw [dif_pos (by omega)]
        simp
  unfold Lib.itoa
  rw [if_neg (by omega)]
  exact h _ (by omega)
theorem mKey_any (b B : Nat) (x : Int) (w : World) (h : MAt w b x) (hB : B ≤ b) (ht : Tab B w) : Calls Tryd.prog 21 #[.pointer (some ⟨b, 0, none⟩)] w fun e w' => e = .returned (.string (keyB (nZ (nS x) % 300))) ∧ MAt w' b (nS x) ∧ Fr (fun k => k = b) w w' := by
  have hbl := h.lt
  have hb := mBelow_yes b x 300 w h (by decide) (by decide)
  have hz0 := Int.emod_nonneg (nZ (nS x)) (show (300 : Int) ≠ 0 by decide)
  have hz1 := Int.emod_lt_of_pos (nZ (nS x)) (show (0 : Int) < 300 by decide)
  generalize nZ (nS x) % 300 = r at hb hz0 hz1 ⊢
  generalize nS x = x' at hb ⊢
  have hi := fun W => itoa_any r B W hz0 (by omega)
  have hl := itoa_le r hz0 (by omega)
  have hk : keyB r = ⟨#[107]⟩ ++ ⟨(Lib.itoa r).toArray⟩ := rfl
  generalize Lib.itoa r = l at hi hl hk
  have Hk := Lib.hid hk
  have Hb := Lib.hid hb
  have Hi := Lib.hid hi
  have Ht := Lib.hid ht
  clear hb hi hk h ht
  go_enter Tryd.func21, Tryd.ntmps21
  go_wp2_with (first | (go_at_call 10; (with_reducible refine Hb.out.mono ?_); rintro e w1 ⟨rfl, hm, hf⟩) | (go_at_call 32; (with_reducible refine (Hi.out _ (Ht.out.fr hf (by omega) (fun i e => by omega))).mono ?_); rintro e w2 ⟨rfl, hb2⟩))
  all_goals try (exfalso; omega)
  go_ret
  rw [Hk.out]
  exact ⟨rfl, hm.below hb2, hf.trans (Fr.of_below (S := fun _ => False) hb2) (fun _ _ h => h.elim)⟩
end Go.Proofs.YtdfgdnaejnngoaaDoor
