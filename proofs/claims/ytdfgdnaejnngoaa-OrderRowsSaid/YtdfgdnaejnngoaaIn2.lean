import Derived.Test.YtdfgdnaejnngoaaIn1
import Derived.Laws.IdiomStrings
namespace Go.Proofs.Ytdfgdnaejnngoaa
open Go.RowKit

/-- bytes as a number, the highest first -/
def beVal (l : List UInt8) : Nat := l.foldl (fun n b => n * 256 + b.toNat) 0
theorem beVal_snoc (l : List UInt8) (x : UInt8) : beVal (l ++ [x]) = beVal l * 256 + x.toNat := by simp [beVal]
theorem beVal_aux (l : List UInt8) : ∀ a : Nat, l.foldl (fun n b => n * 256 + b.toNat) a < (a + 1) * 256 ^ l.length := by
  induction l with
  | nil => intro a; simp
  | cons x l ih =>
    intro a
    have h := ih (a * 256 + x.toNat)
    have hx := x.toNat_lt
    have h2 : (a * 256 + x.toNat + 1) * 256 ^ l.length ≤ ((a + 1) * 256) * 256 ^ l.length := Nat.mul_le_mul_right _ (by omega)
    simp only [List.foldl_cons, List.length_cons, Nat.pow_succ]
    have e : (a + 1) * (256 ^ l.length * 256) = ((a + 1) * 256) * 256 ^ l.length := by rw [Nat.mul_comm (256 ^ l.length) 256, Nat.mul_assoc]
    omega
theorem beVal_lt (l : List UInt8) : beVal l < 256 ^ l.length := by
  have := beVal_aux l 0
  simpa [beVal] using this

theorem ofInt_i64 (a : Nat) (ha : a < 9223372036854775808) : (BitVec.ofInt 64 (a : Int)).toNat = a := by
  rw [BitVec.ofInt_natCast, BitVec.toNat_ofNat]; exact Nat.mod_eq_of_lt (by omega)
theorem i64_or_nat (a b : Nat) (ha : a < 9223372036854775808) (hb : b < 9223372036854775808) : bits .or .i64 (a : Int) (b : Int) = ((a ||| b : Nat) : Int) := by
  have hx : a ||| b < 2 ^ 63 := Nat.or_lt_two_pow (by omega) (by omega)
  show IntKind.i64.wrap ((BitVec.ofInt 64 (a : Int) ||| BitVec.ofInt 64 (b : Int)).toNat : Int) = _
  rw [BitVec.toNat_or, ofInt_i64 a ha, ofInt_i64 b hb, IntKind.wrap_i64]
  omega
theorem or_byte (v x : Nat) (hv : v < 1099511627776) (hx : x < 256) : bits .or .i64 (wrap64 ((v : Int) * 256)) (wrap64 (x : Int)) = ((v * 256 + x : Nat) : Int) := by
  have e1 : wrap64 ((v : Int) * 256) = ((v * 256 : Nat) : Int) := by unfold wrap64; omega
  have e2 : wrap64 (x : Int) = ((x : Nat) : Int) := by unfold wrap64; omega
  rw [e1, e2, i64_or_nat _ _ (by omega) (by omega)]
  have h := Nat.shiftLeft_add_eq_or_of_lt (i := 8) (b := x) (by omega) v
  rw [Nat.shiftLeft_eq] at h
  rw [← h]

/-- []byte(t): a new block -/
theorem bytes_conv (t : ByteArray) : ∃ (capF : World → Nat) (rowF : World → Array Value) (fzF : World → Nat × Nat),
    (∀ W, (convert 9 88 (.string t)).run Try.prog W = .ok (.slice (some ⟨W.heap.size, 0, none⟩) t.size (capF W)) (W.drew.alloc (.cells (rowF W) 5 (fzF W)))) ∧
    ∀ (W : World) (j : Nat) (x : UInt8), t.data.toList[j]? = some x → (rowF W)[j]? = some (Value.int .u8 x.toNat) :=
  ⟨_, _, _, fun W => run_bytes_of_string W 9 88 5 t Try.underlying9 Try.underlying88 Try.underlying5, by
    intro W j x hx
    have hj : j < t.data.toList.length := (List.getElem?_eq_some_iff.1 hx).1
    have hx' : t.data[j]? = some x := by simpa using hx
    unfold bytesRow
    rw [Array.getElem?_append_left (by simpa using hj), Array.getElem?_map, hx']
    rfl⟩

def numR (wd : Nat) (s : ByteArray) (bad : Bool) : Nat × ByteArray × Bool := (beVal (rawR wd s bad).1.data.toList, (rawR wd s bad).2.1, (rawR wd s bad).2.2)

def NumRes (b : Nat) (w : World) (r : Nat × ByteArray × Bool) (e : Ending) (w' : World) : Prop := e = .returned (.int .i64 r.1) ∧ InAt w' b r.2.1 r.2.2 ∧ Fr (fun k => k = b) w w'

theorem inNum_any (b wd : Nat) (s : ByteArray) (bad : Bool) (w : World) (h : InAt w b s bad) (hwd : wd = 1 ∨ wd = 2 ∨ wd = 4) : Calls Try.prog 75 #[.pointer (some ⟨b, 0, none⟩), .int .i64 wd] w (NumRes b w (numR wd s bad)) := by
  have hw : isWidth wd = true := by simp [isWidth]; omega
  have hiw := fun W => isWidth_any wd W
  simp only [hw] at hiw
  have hraw : Calls Try.prog 88 #[.pointer (some ⟨b, 0, none⟩), .int .i64 wd] w (RawRes b w (rawR wd s bad)) := inRaw_any b s bad wd w h
  have hlen : (rawR wd s bad).1.size ≤ 4 := by
    unfold rawR
    split
    · show (0 : Nat) ≤ 4; omega
    · simp [ByteArray.size_extract]; omega
  have hnum : numR wd s bad = (beVal (rawR wd s bad).1.data.toList, (rawR wd s bad).2.1, (rawR wd s bad).2.2) := rfl
  generalize rawR wd s bad = r at hraw hlen hnum
  obtain ⟨t, s', bad'⟩ := r
  dsimp only at hlen hnum
  have hraw' : Calls Try.prog 88 #[.pointer (some ⟨b, 0, none⟩), .int .i64 wd] w fun e w' => e = .returned (.string t) ∧ InAt w' b s' bad' ∧ Fr (fun k => k = b) w w' := hraw
  have Hraw := Lib.hid hraw'
  have Hiw := Lib.hid hiw
  have Hnum := Lib.hid hnum
  clear hraw hraw' hiw hnum h hw hwd
  obtain ⟨capF, rowF, fzF, kc, hrow⟩ := bytes_conv t
  have Hrow := Lib.hid hrow
  clear hrow
  go_enter Try.func75, Try.ntmps75
  go_wp2_with (first | (go_at_call 58; (with_reducible refine (Hiw.out _).mono ?_); rintro e w1 ⟨rfl, rfl⟩) | (go_at_call 88; (with_reducible refine Hraw.out.mono ?_); rintro e w1 ⟨rfl, hi, hfr⟩))
  have hb1 : InAt ((w1.alloc (.cells (rowF w1) 5 (fzF w1))).drew) b s' bad' := hi.below (Below.alloc (Below.refl _ _) (Nat.le_refl _) _).drew
  have hf1 : Fr (fun k => k = b) w ((w1.alloc (.cells (rowF w1) 5 (fzF w1))).drew) := (hfr.alloc _).drew
  have hcell : ∀ j x, t.data.toList[j]? = some x → ((w1.alloc (.cells (rowF w1) 5 (fzF w1))).drew).cell? ⟨w1.heap.size, j, none⟩ = some (.int .u8 (x.toNat : Int)) := fun j x hx => by
    have := Hrow.out w1 j x hx
    have hh : ((w1.alloc (.cells (rowF w1) 5 (fzF w1))).drew).heap[w1.heap.size]? = some (.cells (rowF w1) 5 (fzF w1)) := heap_alloc_new w1 _
    rw [Lib.cell_of_heap hh]; exact this
  generalize (w1.alloc (.cells (rowF w1) 5 (fzF w1))).drew = W at hb1 hf1 hcell ⊢
  have Hcell := Lib.hid hcell
  clear kc hcell Hrow
  have htl : t.data.toList.length = t.size := by simp
  have Htl := Lib.hid htl
  clear htl
  go_loop [16, 5, 7] (fun i n _ => ∃ k : Nat, k ≤ t.size ∧ i = .int .i64 k ∧ n = .int .i64 (beVal (t.data.toList.take k))) (fun i _ _ => t.size - (intOf i).toNat)
  case atStart => exact ⟨0, Nat.zero_le _, rfl, rfl⟩
  case round =>
    obtain ⟨k, hk, rfl, rfl⟩ := hrel
    by_cases hlt : k < t.size
    · obtain ⟨x, hx⟩ : ∃ x, t.data.toList[k]? = some x := ⟨t.data.toList[k]'(by rw [Htl.out]; exact hlt), List.getElem?_eq_getElem _⟩
      have hc := Hcell.out k x hx
      have hx8 := x.toNat_lt
      generalize hv : beVal (t.data.toList.take k) = v
      have Hv := Lib.hid hv
      have Hx := Lib.hid hx
      have Hx8 := Lib.hid hx8
      clear hv hx hx8
      go_wp2
      go_round
      case rel => exact ⟨k + 1, by omega, by go_num, by
        have hl := beVal_lt (t.data.toList.take k)
        rw [Hv.out] at hl
        have hle : 256 ^ (t.data.toList.take k).length ≤ 256 ^ 4 := Nat.pow_le_pow_right (by omega) (by rw [List.length_take]; omega)
        rw [or_byte v x.toNat (by omega) Hx8.out, List.take_add_one, Hx.out, Option.toList_some, beVal_snoc, Hv.out]⟩
      case measure => simp [intOf]; omega
    · have hk' : t.data.toList.take k = t.data.toList := List.take_of_length_le (by rw [Htl.out]; omega)
      rw [hk']
      have hneg : ¬ ((beVal t.data.toList : Nat) : Int) < 0 := by omega
      clear hk'
      go_wp2
      go_ret
      rw [Hnum.out]
      exact ⟨rfl, hb1, hf1⟩
end Go.Proofs.Ytdfgdnaejnngoaa
