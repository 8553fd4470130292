import Derived.Test.YtdfgdnaejnngoaaRef1
import Derived.Laws.BytesArg
import Derived.Laws.MakeOwn
namespace Go.Proofs.Ytdfgdnaejnngoaa
open Go.RowKit

theorem conv_one (W : World) (x : Int) : (convert 88 9 (.slice (some ⟨W.heap.size, 0, none⟩) 1 1)).run Try.prog (W.alloc (.cells #[.int .u8 x] 5)) = .ok (.string ⟨#[UInt8.ofNat x.toNat]⟩) (W.alloc (.cells #[.int .u8 x] 5)) :=
  run_convert_bytes_arg _ 88 5 Try.underlying88 Try.underlying5 W.heap.size 0 1 1 [x] rfl (fun i hi => by
    have : i = 0 := by omega
    subst this
    rw [Lib.cell_of_heap (heap_alloc_new W _)]; rfl) 9 Try.underlying9
theorem conv_at (W : World) (b c : Nat) (bs : List UInt8) (h : ∀ j x, bs[j]? = some x → W.cell? ⟨b, j, none⟩ = some (.int .u8 (x.toNat : Int))) : (convert 88 9 (.slice (some ⟨b, 0, none⟩) bs.length c)).run Try.prog W = .ok (.string ⟨bs.toArray⟩) W := by
  have := run_convert_bytes_arg (P := Try.prog) W 88 5 Try.underlying88 Try.underlying5 b 0 bs.length c (bs.map fun x => (x.toNat : Int)) (by simp) (fun i hi => by
    rw [Nat.zero_add, h i bs[i] (List.getElem?_eq_getElem hi)]
    simp [List.getD, hi]) 9 Try.underlying9
  rw [this]
  have e : strOfNums (bs.map fun x => (x.toNat : Int)) = ⟨bs.toArray⟩ := by
    simp [strOfNums, Function.comp_def]
  rw [e]

theorem A_infob : (Try.prog.info? 5).map (fun i => (i.zero, i.size, i.bytes)) = some (some (.int .u8 0), 1, 1) := by kernel_rfl
theorem make8 (W : World) : (Instr.makeSlice 88 (.int .i64 8) (.int .i64 8)).run Try.prog W = .ok (.slice (some ⟨W.heap.size, 0, none⟩) 8 8) (W.alloc (.cells #[.int .u8 0, .int .u8 0, .int .u8 0, .int .u8 0, .int .u8 0, .int .u8 0, .int .u8 0, .int .u8 0] 5)) := by
  obtain ⟨i0, hi0, hz0, hz1, hz2⟩ := info_parts A_infob
  have h := run_makeSlice (P := Try.prog) W 88 5 i0 _ Try.underlying88 hi0 hz0 .i64 .i64 8 8 (by omega) (by omega) (by rw [hz1]; decide) (by rw [hz2]; decide) (by omega)
  rw [h, hz1]
  have e : madeCells (Value.int .u8 0).cells (Int.toNat 8 * 1) = #[.int .u8 0, .int .u8 0, .int .u8 0, .int .u8 0, .int .u8 0, .int .u8 0, .int .u8 0, .int .u8 0] := by kernel_rfl
  rw [e]
  rfl

theorem refText_ok (s : ByteArray) (w : World) (hs : s.size ≤ 255) : Calls Try.prog 41 #[.string s] w fun e w' => e = .returned (.tuple #[.string ⟨(textBytes s).toArray⟩, .bool true]) ∧ Below w.heap.size w w' := by
  have hcv := conv_one
  go_enter Try.func41, Try.ntmps41
  go_wp2
  go_ret2
  refine ⟨?_, Below.alloc (Below.refl _ _) (Nat.le_refl _) _⟩
  have : (⟨(textBytes s).toArray⟩ : ByteArray) = ⟨#[UInt8.ofNat s.size]⟩ ++ s := by
    apply ByteArray.ext
    simp [textBytes, ByteArray.data_append]
  rw [this]
  rfl
theorem refText_no (s : ByteArray) (w : World) (hs : 255 < s.size) : Calls Try.prog 41 #[.string s] w fun e w' => e = .returned (.tuple #[.string ⟨#[]⟩, .bool false]) ∧ Below w.heap.size w w' := by
  go_enter Try.func41, Try.ntmps41
  go_wp2
  go_ret2
  exact ⟨rfl, Below.refl _ _⟩

theorem ofNat_mod {a b : Nat} (h : a % 256 = b % 256) : UInt8.ofNat a = UInt8.ofNat b := by
  apply UInt8.toNat_inj.1
  simp [UInt8.toNat_ofNat', h]
theorem numBytes_mod (wd n : Nat) : numBytes wd n = (List.range wd).reverse.map fun i => UInt8.ofNat (n / 256 ^ i % 256) := by
  unfold numBytes
  refine List.map_congr_left (fun i _ => ofNat_mod (by omega))
theorem valBytes_eight (n : Nat) : valBytes n = numBytes 8 n := by
  have h4 : ∀ i, i < 4 → n % 4294967296 / 256 ^ i % 256 = n / 256 ^ i % 256 := by
    intro i hi
    rcases i with _ | _ | _ | _ | i
    all_goals try simp only [Nat.zero_add, Nat.reduceAdd, Nat.reducePow]
    all_goals omega
  have h8 : ∀ i, i < 4 → n / 4294967296 / 256 ^ i % 256 = n / 256 ^ (i + 4) % 256 := by
    intro i hi
    rcases i with _ | _ | _ | _ | i
    all_goals try simp only [Nat.zero_add, Nat.reduceAdd, Nat.reducePow]
    all_goals omega
  unfold valBytes
  rw [numBytes_mod, numBytes_mod, numBytes_mod]
  have e4 : (List.range 4).reverse = [3, 2, 1, 0] := by decide
  have e8 : (List.range 8).reverse = [7, 6, 5, 4, 3, 2, 1, 0] := by decide
  rw [e4, e8]
  simp only [List.map_cons, List.map_nil, List.cons_append, List.nil_append]
  rw [h4 3 (by omega), h4 2 (by omega), h4 1 (by omega), h4 0 (by omega), h8 3 (by omega), h8 2 (by omega), h8 1 (by omega), h8 0 (by omega)]
def u8v (x : UInt8) : Value := .int .u8 (x.toNat : Int)
def vrow (n m : Nat) : List Value := List.replicate m (.int .u8 0) ++ (numBytes (8 - m) n).map u8v
theorem vrow_at (n j : Nat) : (vrow n (j + 1))[j]? = some (.int .u8 0) := by
  unfold vrow
  rw [List.getElem?_append_left (by simp)]
  simp
theorem vrow_set (n j : Nat) (hj : j < 8) : (vrow n (j + 1)).set j (.int .u8 ((n / 256 ^ (7 - j) % 256 : Nat) : Int)) = vrow n j := by
  unfold vrow
  have e : 8 - j = (7 - j) + 1 := by omega
  rw [show 8 - (j + 1) = 7 - j by omega, e, numBytes_succ, List.map_cons, List.set_append_left _ _ (by simp)]
  have h2 : (List.replicate (j + 1) (Value.int .u8 0)).set j (.int .u8 ((n / 256 ^ (7 - j) % 256 : Nat) : Int)) = List.replicate j (Value.int .u8 0) ++ [.int .u8 ((n / 256 ^ (7 - j) % 256 : Nat) : Int)] := by
    rw [List.replicate_succ', List.set_append_right _ _ (by simp)]
    simp
  rw [h2, List.append_assoc, List.singleton_append]
  simp [u8v, UInt8.toNat_ofNat']
/-- eight bytes in block b, the last ones set -/
def VAt (w : World) (b n m : Nat) : Prop := w.heap[b]? = some (.cells (vrow n m).toArray 5 (0, 0))
theorem VAt.cell {w : World} {b n j : Nat} (h : VAt w b n (j + 1)) : w.cell? ⟨b, j, none⟩ = some (.int .u8 0) := by
  rw [Lib.cell_of_heap h]
  simpa using vrow_at n j
theorem VAt.f {w : World} {b n m : Nat} (h : VAt w b n m) (j : Nat) : w.frozen? ⟨b, j, none⟩ = false := Lib.frozen_of_heap h j
theorem VAt.set {w : World} {b n j : Nat} (h : VAt w b n (j + 1)) (hj : j < 8) : VAt (w.setCell ⟨b, j, none⟩ (.int .u8 ((n / 256 ^ (7 - j) % 256 : Nat) : Int))) b n j := by
  unfold VAt at *
  rw [← vrow_set n j hj]
  simp [World.setCell, Array.getElem?_modify, h]
theorem VAt.done {w : World} {b n : Nat} (h : VAt w b n 0) : ∀ j x, (numBytes 8 n)[j]? = some x → w.cell? ⟨b, j, none⟩ = some (.int .u8 (x.toNat : Int)) := by
  intro j x hx
  rw [Lib.cell_of_heap h]
  simp [vrow, hx, u8v]

theorem u64_small (x : Int) (h0 : 0 ≤ x) (h1 : x < 18446744073709551616) : IntKind.u64.wrap x = x := by
  rw [IntKind.wrap_u64]
  omega

set_option maxRecDepth 100000 in
theorem refValue_any (n : Nat) (w : World) (hn : n < 18446744073709551616) : Calls Try.prog 42 #[.int .u64 (n : Int)] w fun e w' => e = .returned (.string ⟨(valBytes n).toArray⟩) ∧ Below w.heap.size w w' := by
  have hmk := make8
  have Hn := Lib.hid hn
  clear hn
  go_enter Try.func42, Try.ntmps42
  go_wp2
  go_loopw [0, 4] (fun x i wr => ∃ m : Nat, m ≤ 8 ∧ i = .int .i64 ((m : Int) - 1) ∧ x = .int .u64 ((n / 256 ^ (8 - m) : Nat) : Int) ∧ VAt wr w.heap.size n m ∧ Below w.heap.size w wr) (fun _ i _ => (intOf i + 1).toNat)
  case atStart => exact ⟨8, by omega, rfl, by simp, heap_alloc_new w _, Below.alloc (Below.refl _ _) (Nat.le_refl _) _⟩
  case round =>
    obtain ⟨m, hm, rfl, rfl, hv, hb⟩ := hrel
    rcases m with _ | j
    · have hcv := conv_at wr w.heap.size 8 _ hv.done
      rw [numBytes_length] at hcv
      have Hcv := Lib.hid hcv
      have e1 : ((0 : Nat) : Int) - 1 = -1 := by omega
      rw [e1]
      clear hcv e1
      have hcv := Hcv.out
      go_wp2
      go_ret
      rw [valBytes_eight]
      exact ⟨rfl, hb⟩
    · have hc := hv.cell
      have hf := hv.f j
      have e1 : ((j + 1 : Nat) : Int) - 1 = (j : Int) := by omega
      rw [e1]
      have hq : n / 256 ^ (8 - (j + 1)) ≤ n := Nat.div_le_self _ _
      have e2 : 8 - (j + 1) = 7 - j := by omega
      rw [e2] at hq ⊢
      have Hq := Lib.hid hq
      have Hv := Lib.hid hv
      generalize hy : n / 256 ^ (7 - j) = y at Hq ⊢
      have Hy := Lib.hid hy
      clear e1 e2 hv hq hy
      go_wp2
      go_round
      case rel =>
        have ey : IntKind.u64.wrap ((y : Int) / 256) = ((y / 256 : Nat) : Int) := by rw [u64_small _ (by omega) (by have := Hq.out; have := Hn.out; omega)]; omega
        have es : (y : Int) % 256 = ((n / 256 ^ (7 - j) % 256 : Nat) : Int) := by rw [Hy.out]; omega
        have ed : y / 256 = n / 256 ^ (8 - j) := by rw [show 8 - j = (7 - j) + 1 by omega, Nat.pow_succ, ← Nat.div_div_eq_div_mul, Hy.out]
        rw [ey, es]
        exact ⟨j, by omega, rfl, by rw [ed], Hv.out.set (by omega), Below.setCell hb (Nat.le_refl _) _⟩
      case measure => simp [intOf]

theorem refNumber_no (v : ByteArray) (w : World) (hv : v.size ≠ 8) : Calls Try.prog 48 #[.string v] w fun e w' => e = .returned (.tuple #[.int .u64 0, .bool false]) ∧ Below w.heap.size w w' := by
  have h8 : ((v.size : Int) != 8) = true := by simp; omega
  clear hv
  go_enter Try.func48, Try.ntmps48
  go_wp2
  go_ret2
  exact ⟨rfl, Below.refl _ _⟩
theorem beVal_append (a : List UInt8) : ∀ (n : Nat) (b : List UInt8), b.length = n → beVal (a ++ b) = beVal a * 256 ^ n + beVal b := by
  intro n
  induction n with
  | zero => intro b hb; have : b = [] := List.eq_nil_of_length_eq_zero hb; subst this; simp [beVal]
  | succ n ih =>
    intro b hb
    have hd : b = b.dropLast ++ [b.getLast (by intro e; subst e; simp at hb)] := (List.dropLast_concat_getLast _).symm
    rw [hd, ← List.append_assoc, beVal_snoc, ih b.dropLast (by simp [hb]), beVal_snoc]
    simp [Nat.pow_succ, Nat.add_mul, Nat.mul_assoc, Nat.add_assoc]
theorem numOf_eight (v : ByteArray) (hv : v.size = 8) : numOf v = beVal v.data.toList := by
  have e : v.data.toList = (v.extract 0 4).data.toList ++ (v.extract 4 v.size).data.toList := by
    have hs : v.data.toList.length = 8 := by simpa using hv
    simp only [ByteArray.data_extract, Array.toList_extract, List.extract_eq_take_drop]
    rw [hv]
    have h4 : List.take 4 (List.drop 4 v.data.toList) = List.drop 4 v.data.toList := List.take_of_length_le (by rw [List.length_drop, hs]; omega)
    simp [h4]
  rw [e, beVal_append _ 4 _ (by have := hv; simp at *; omega)]
  rfl
set_option maxRecDepth 100000 in
theorem refNumber_yes (v : ByteArray) (w : World) (hv : v.size = 8) : Calls Try.prog 48 #[.string v] w fun e w' => e = .returned (.tuple #[.int .u64 (numOf v : Int), .bool true]) ∧ Below w.heap.size w w' := by
  have h8 : ((v.size : Int) != 8) = false := by simp; omega
  have Hno := Lib.hid (numOf_eight v hv)
  generalize numOf v = N at Hno ⊢
  have htl : v.data.toList.length = 8 := by simpa using hv
  have Htl := Lib.hid htl
  clear htl
  go_enter Try.func48, Try.ntmps48
  go_wp2
  go_loop [4, 5] (fun x i => ∃ k : Nat, k ≤ 8 ∧ i = .int .i64 k ∧ x = .int .u64 (beVal (v.data.toList.take k))) (fun _ i => 8 - (intOf i).toNat)
  case atStart => exact ⟨0, by omega, rfl, rfl⟩
  case round =>
    obtain ⟨k, hk, rfl, rfl⟩ := hrel
    by_cases hlt : k < 8
    · have hkv : k < v.size := by omega
      obtain ⟨x, hx⟩ : ∃ x, v.data.toList[k]? = some x := ⟨v.data.toList[k]'(by rw [Htl.out]; exact hlt), List.getElem?_eq_getElem _⟩
      have hx8 := x.toNat_lt
      generalize hy : beVal (v.data.toList.take k) = y
      have Hv := Lib.hid hy
      have Hx := Lib.hid hx
      clear hy hx
      go_wp2
      go_round
      case rel => exact ⟨k + 1, by omega, by go_num, by
        have hl := beVal_lt (v.data.toList.take k)
        rw [Hv.out, List.length_take, Nat.min_eq_left (by rw [Htl.out]; omega)] at hl
        have hle : 256 ^ k ≤ 256 ^ 7 := Nat.pow_le_pow_right (by omega) (by omega)
        rw [byte_at hkv Hx.out, u64_small (x.toNat : Int) (by omega) (by omega), u64_small ((y : Int) * 256) (by omega) (by omega), u64_small _ (by omega) (by omega), List.take_add_one, Hx.out, Option.toList_some, beVal_snoc, Hv.out]
        go_num⟩
      case measure => simp [intOf]; omega
    · have hke : k = 8 := by omega
      subst hke
      go_wp2
      go_ret2
      rw [Hno.out, ← Htl.out, List.take_length]
      exact ⟨rfl, Below.refl _ _⟩
end Go.Proofs.Ytdfgdnaejnngoaa
