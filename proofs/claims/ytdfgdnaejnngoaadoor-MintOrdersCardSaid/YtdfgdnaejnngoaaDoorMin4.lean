import Derived.Test.YtdfgdnaejnngoaaDoorMin3
namespace Go.Proofs.YtdfgdnaejnngoaaDoor
open Go.RowKit

def dig (n : Nat) : UInt8 := UInt8.ofNat (48 + n % 10)
def front (m : Nat) : List UInt8 := if m < 10 then [] else Lib.decDigits (m / 10)
theorem digits_split (n : Nat) : Lib.decDigits n = front n ++ [dig n] := by
  rw [Lib.decDigits]
  unfold front dig
  split
  · rw [show n % 10 = n by omega]; rfl
  · rfl
theorem dig_form (k : Nat) : 48 + UInt8.ofNat (k % 10) = dig k := by
  unfold dig
  rw [UInt8.ofNat_add]
  rfl
theorem u8_wrap (x : Int) (h0 : 0 ≤ x) (h1 : x < 256) : IntKind.u8.wrap x = x := by
  simp [IntKind.wrap, IntKind.bits, IntKind.signed]
  omega
set_option maxRecDepth 100000 in
theorem digits_any (n : Nat) (w : World) (hn : n < 1000) : Calls Tryd.prog 34 #[.int .u64 (n : Int)] w fun e w' => e = .returned (.string ⟨(Lib.decDigits n).toArray⟩) ∧ Below w.heap.size w w' := by
  have hcv := conv_one
  have hw1 : ∀ m : Nat, IntKind.u64.wrap (48 + (m : Int) % 10) = 48 + (m : Int) % 10 := fun m => wrap_self _ (by omega) (by omega)
  have hw2 : ∀ m : Nat, IntKind.u8.wrap (48 + (m : Int) % 10) = 48 + (m : Int) % 10 := fun m => u8_wrap _ (by omega) (by omega)
  have hd : ∀ m : Nat, UInt8.ofNat (48 + (m : Int) % 10).toNat = dig m := fun m => by unfold dig; congr 1
  go_enter Tryd.func34, Tryd.ntmps34
  go_wp2
  go_loopw [0, 3] (fun a s wr => ∃ (m : Nat) (l : List UInt8), m ≤ n ∧ a = .int .u64 m ∧ s = .string ⟨l.toArray⟩ ∧ Lib.decDigits n = front m ++ l ∧ l.length + m ≤ 1001 ∧ Below w.heap.size w wr) (fun a _ _ => (intOf a).toNat)
  case atStart => exact ⟨n, [dig n], Nat.le_refl _, rfl, rfl, digits_split n, (by simp only [List.length_cons, List.length_nil]; omega), Below.alloc (Below.refl _ _) (Nat.le_refl _) _⟩
  case round =>
    obtain ⟨m, l, hm, rfl, rfl, hl, hlen, hbel⟩ := hrel
    by_cases h10 : 10 ≤ m
    · have h10I : (10 : Int) ≤ (m : Int) := by omega
      have hl2 : Lib.decDigits n = front (m / 10) ++ (dig (m / 10) :: l) := by
        rw [hl, show front m = Lib.decDigits (m / 10) from if_neg (by omega), digits_split (m / 10)]
        simp
      have Hl2 := Lib.hid hl2
      clear hl hl2
      go_wp2
      all_goals try (exfalso; omega)
      refine ⟨⟨m / 10, dig (m / 10) :: l, by omega, by simp, ?_, Hl2.out, by simp; omega, hbel.alloc hbel.size _⟩, ?_⟩
      · rw [dig_form]
        congr 1
      · simp [intOf]
        omega
    · have h10I : (m : Int) < 10 := by omega
      have hl2 : Lib.decDigits n = l := by rw [hl, show front m = [] from if_pos (by omega)]; rfl
      have Hl2 := Lib.hid hl2
      clear hl hl2
      go_wp2
      go_ret
      rw [Hl2.out]
      exact ⟨rfl, hbel⟩

theorem uKey_any (b : Nat) (x : Int) (w : World) (h : UAt w b x) : Calls Tryd.prog 23 #[.pointer (some ⟨b, 0, none⟩)] w fun e w' => e = .returned (.string (keyB (nZ (nS x) % 300))) ∧ UAt w' b (nS x) ∧ Fr (fun k => k = b) w w' := by
  have hb := uBelow_yes b x 300 w h (by decide) (by decide)
  have hz0 := Int.emod_nonneg (nZ (nS x)) (show (300 : Int) ≠ 0 by decide)
  have hz1 := Int.emod_lt_of_pos (nZ (nS x)) (show (0 : Int) < 300 by decide)
  generalize nZ (nS x) % 300 = r at hb hz0 hz1 ⊢
  generalize nS x = x' at hb ⊢
  obtain ⟨m, rfl⟩ := Int.eq_ofNat_of_zero_le hz0
  have hi := fun W => digits_any m W (by omega)
  have hl := itoa_le m hz0 (by omega)
  have hk : keyB m = ⟨#[107]⟩ ++ ⟨(Lib.itoa m).toArray⟩ := rfl
  have he : Lib.itoa (m : Int) = Lib.decDigits m := by
    unfold Lib.itoa
    rw [if_neg (by omega)]
    rfl
  rw [he] at hl hk
  generalize Lib.decDigits m = l at hi hl hk
  have hw := wrap_self (m : Int) (by omega) (by omega)
  have Hk := Lib.hid hk
  have Hb := Lib.hid hb
  have Hi := Lib.hid hi
  clear hb hi hk h he
  go_enter Tryd.func23, Tryd.ntmps23
  go_wp2_with (first | (go_at_call 9; (with_reducible refine Hb.out.mono ?_); rintro e w1 ⟨rfl, hm, hf⟩) | (go_at_call 34; (with_reducible refine (Hi.out _).mono ?_); rintro e w2 ⟨rfl, hb2⟩))
  all_goals try (exfalso; omega)
  go_ret
  rw [Hk.out]
  exact ⟨rfl, hm.below hb2, hf.trans (Fr.of_below (S := fun _ => False) hb2) (fun _ _ h => h.elim)⟩
end Go.Proofs.YtdfgdnaejnngoaaDoor
