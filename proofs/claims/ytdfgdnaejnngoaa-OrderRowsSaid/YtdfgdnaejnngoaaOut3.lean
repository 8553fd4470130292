import Derived.Test.YtdfgdnaejnngoaaOut2
namespace Go.Proofs.Ytdfgdnaejnngoaa
open Go.RowKit

def fitsB (wd n : Int) : Bool := decide (0 ≤ n) && (decide (wd = 8) || decide (n < if wd = 1 then 256 else if wd = 2 then 65536 else 4294967296))

theorem fits_1 (n : Int) (w : World) : Calls Try.prog 61 #[.int .i64 1, .int .i64 n] w fun e w' => e = .returned (.bool (fitsB 1 n)) ∧ w = w' := by
  by_cases h0 : 0 ≤ n
  · go_enter Try.func61, Try.ntmps61
    go_wp2
    go_ret
    exact ⟨ret_bool (by simp [fitsB, h0]), rfl⟩
  · go_enter Try.func61, Try.ntmps61
    go_wp2
    go_ret
    exact ⟨ret_bool (by simp [fitsB]; omega), rfl⟩
theorem fits_2 (n : Int) (w : World) : Calls Try.prog 61 #[.int .i64 2, .int .i64 n] w fun e w' => e = .returned (.bool (fitsB 2 n)) ∧ w = w' := by
  by_cases h0 : 0 ≤ n
  · go_enter Try.func61, Try.ntmps61
    go_wp2
    go_ret
    exact ⟨ret_bool (by simp [fitsB, h0]), rfl⟩
  · go_enter Try.func61, Try.ntmps61
    go_wp2
    go_ret
    exact ⟨ret_bool (by simp [fitsB]; omega), rfl⟩
theorem fits_4 (n : Int) (w : World) : Calls Try.prog 61 #[.int .i64 4, .int .i64 n] w fun e w' => e = .returned (.bool (fitsB 4 n)) ∧ w = w' := by
  by_cases h0 : 0 ≤ n
  · go_enter Try.func61, Try.ntmps61
    go_wp2
    go_ret
    exact ⟨ret_bool (by simp [fitsB, h0]), rfl⟩
  · go_enter Try.func61, Try.ntmps61
    go_wp2
    go_ret
    exact ⟨ret_bool (by simp [fitsB]; omega), rfl⟩
theorem fits_8 (n : Int) (w : World) : Calls Try.prog 61 #[.int .i64 8, .int .i64 n] w fun e w' => e = .returned (.bool (fitsB 8 n)) ∧ w = w' := by
  by_cases h0 : 0 ≤ n
  · go_enter Try.func61, Try.ntmps61
    go_wp2
    go_ret
    exact ⟨ret_bool (by simp [fitsB, h0]), rfl⟩
  · go_enter Try.func61, Try.ntmps61
    go_wp2
    go_ret
    exact ⟨ret_bool (by simp [fitsB]; omega), rfl⟩
theorem fits_any (wd n : Int) (w : World) (h : isWidth wd = true) : Calls Try.prog 61 #[.int .i64 wd, .int .i64 n] w fun e w' => e = .returned (.bool (fitsB wd n)) ∧ w = w' := by
  have h' : wd = 1 ∨ wd = 2 ∨ wd = 4 ∨ wd = 8 := by simpa [isWidth] using h
  rcases h' with rfl | rfl | rfl | rfl
  · exact fits_1 n w
  · exact fits_2 n w
  · exact fits_4 n w
  · exact fits_8 n w

theorem numLit_any (wd n : Int) (b : Nat) (w : World) (h : isWidth wd = true) (hc : w.cell? ⟨b, 0, none⟩ = some (.int .i64 wd)) :
    Calls Try.prog 60 #[.int .i64 n, .pointer (some ⟨b, 0, none⟩)] w fun e w' => e = .returned (.bool (!fitsB wd n)) ∧ w = w' := by
  have hf := fun W => fits_any wd n W h
  have Hf := Lib.hid hf
  clear hf h
  go_enter Try.func60, Try.ntmps60
  go_wp2_with (go_at_call 61; (with_reducible refine (Hf.out _).mono ?_); rintro e w' ⟨rfl, rfl⟩)
  go_ret
  exact ⟨rfl, rfl⟩

theorem textLit_any (s : ByteArray) (w : World) : Calls Try.prog 92 #[.string s] w fun e w' => e = .returned (.bool (decide (255 < (s.size : Int)))) ∧ w = w' := by
  go_enter Try.func92, Try.ntmps92
  go_wp2
  go_ret
  exact ⟨rfl, rfl⟩

theorem textLit_pred (ss : List ByteArray) (w : World) : PredB Try.prog 92 #[] w (ss.map Value.string) (fun v => match v with | .string s => decide (255 < (s.size : Int)) | _ => false) := by
  intro W hb v hv
  obtain ⟨s, hs, rfl⟩ := List.mem_map.1 hv
  exact (textLit_any s W).mono fun e w' ⟨he, hw⟩ => ⟨he, hw ▸ Below.refl _ _⟩

theorem writeByte_C (B b : Nat) (G : Option Nat) (l : List UInt8) (c : Int) (x : UInt8) (w : World) (h : OutB w B b G l) (hlen : l.length + 1 ≤ 1000000000000) (hc : c = (x.toNat : Int)) (hBw : B ≤ w.heap.size) :
    Calls Try.prog 62 #[.pointer (some ⟨b, 0, none⟩), .int .u8 c] w fun e w' => e = .returned .nilIface ∧ ∃ G', OutB w' B b G' (l ++ [x]) ∧ OutStep w w' b G G' := by
  subst hc
  exact writeByte_B B b G l x w h hlen hBw

/-- a text with its length -/
def textBytes (s : ByteArray) : List UInt8 := UInt8.ofNat s.size :: s.data.toList
theorem textBytes_length (s : ByteArray) : (textBytes s).length = s.size + 1 := by
  simp [textBytes]

set_option maxHeartbeats 1000000 in
set_option maxRecDepth 100000 in
theorem outText_B (B b : Nat) (G : Option Nat) (l : List UInt8) (A : Option Addr) (cap : Nat) (ss : List ByteArray) (w : World) (h : OutB w B b G l) (hBw : B ≤ w.heap.size)
    (hl : ss.length ≤ 1000000000) (he : Elems w A 1 (ss.map fun s => [.string s])) (hA : ∀ ad, A = some ad → ad.block ≠ b ∧ G ≠ some ad.block)
    (hs : ∀ s ∈ ss, s.size ≤ 255) (hlen : l.length + (ss.flatMap textBytes).length ≤ 1000000000) :
    Calls Try.prog 83 #[.pointer (some ⟨b, 0, none⟩), .slice A ss.length cap] w fun e w' => e = .returned (.int .i64 0) ∧ ∃ G', OutB w' B b G' (l ++ ss.flatMap textBytes) ∧ OutStep w w' b G G' := by
  have hcf := containsFunc_str A cap ss (fun v => match v with | .string s => decide (255 < (s.size : Int)) | _ => false) 92 #[] w (enters_of Try.func92 (by kernel_rfl) rfl) hl he (textLit_pred ss w)
  have hany : (ss.any fun s => decide (255 < (s.size : Int))) = false := by
    rw [List.any_eq_false]
    intro s hm
    have := hs s hm
    simp; omega
  simp only [hany] at hcf
  have Hcf := Lib.hid hcf
  have Hlen := Lib.hid hlen
  have Hs := Lib.hid hs
  clear hcf hany hlen hs
  go_enter Try.func83, Try.ntmps83
  go_wp2_with (go_at_call 39; (with_reducible refine Hcf.out.mono ?_); rintro e w1 ⟨rfl, hb1⟩)
  go_loopw [15, 6] (fun i _ wr => ∃ (k : Nat) (G' : Option Nat), k ≤ ss.length ∧ i = .int .i64 k ∧ OutB wr B b G' (l ++ (ss.take k).flatMap textBytes) ∧ OutStep w wr b G G') (fun i _ _ => ss.length - (intOf i).toNat)
  case atStart => exact ⟨0, G, Nat.zero_le _, rfl, by unfold OutB at h ⊢; simpa using h.below hb1, ⟨Fr.of_below hb1, .inl rfl⟩⟩
  case round =>
    obtain ⟨k, G', hk, rfl, ho, hst⟩ := hrel
    have hsz : B ≤ wr.heap.size := Nat.le_trans hBw hst.fr.size
    by_cases hlt : k < ss.length
    · obtain ⟨s, hsk⟩ : ∃ s, ss[k]? = some s := ⟨ss[k], List.getElem?_eq_getElem hlt⟩
      have hmem := List.mem_of_getElem? hsk
      have hs255 := Hs.out s hmem
      have htk : (ss.take (k + 1)).flatMap textBytes = (ss.take k).flatMap textBytes ++ textBytes s := by
        rw [List.take_add_one, hsk]; simp
      have hle : ((ss.take k).flatMap textBytes).length + (textBytes s).length ≤ (ss.flatMap textBytes).length := by
        rw [← List.length_append, ← htk]
        conv => rhs; rw [← List.take_append_drop (k + 1) ss, List.flatMap_append, List.length_append]
        omega
      rw [textBytes_length] at hle
      have hlen := Hlen.out
      have he' : Elems wr A 1 (ss.map fun s => [.string s]) := he.fr hst.fr (fun ad ha hh => by
        rcases hh with e | e
        · exact (hA ad ha).1 e
        · exact (hA ad ha).2 e)
      obtain ⟨b', off, rfl, hbl, hc⟩ := he' k [.string s] (by simp [hsk])
      have hcell := hc 0 _ rfl
      simp only [Nat.mul_one, Nat.add_zero] at hcell
      have hwb := fun W h => writeByte_C B b G' (l ++ (ss.take k).flatMap textBytes) (s.size : Int) (UInt8.ofNat s.size) W h (by simp only [List.length_append]; omega)
      have hws := fun G'' W h => writeString_B B b G'' (l ++ (ss.take k).flatMap textBytes ++ [UInt8.ofNat s.size]) s W h (by simp only [List.length_append, List.length_cons, List.length_nil]; omega)
      have Hwb := Lib.hid hwb
      have Hws := Lib.hid hws
      have Htk := Lib.hid htk
      have Ho := Lib.hid ho
      have Hsk := Lib.hid hsk
      clear hwb hws hle hlen he he' hc htk ho hsk hA hmem
      go_wp2_with (go_at_call 62; (with_reducible refine (Hwb.out _ Ho.out (by simp; omega) hsz).mono ?_); rintro e w2 ⟨rfl, G2, ho2, hst2⟩)
      have hsz2 : B ≤ w2.heap.size := Nat.le_trans hsz hst2.fr.size
      have Ho2 := Lib.hid ho2
      clear ho2
      go_wp2_with (go_at_call 93; (with_reducible refine (Hws.out _ _ Ho2.out hsz2).mono ?_); rintro e w3 ⟨rfl, G3, ho3, hst3⟩)
      go_roundw
      case rel => exact ⟨k + 1, G3, by omega, by go_num, by rw [Htk.out]; have e : textBytes s = UInt8.ofNat s.size :: s.data.toList := rfl; rw [e]; simpa using ho3, hst.trans (hst2.trans hst3)⟩
      case measure => simp [intOf]; omega
    · have Ho := Lib.hid ho
      clear ho
      go_wp2
      go_ret
      exact ⟨rfl, G', by have := Ho.out; rwa [List.take_of_length_le (by omega)] at this, hst⟩
end Go.Proofs.Ytdfgdnaejnngoaa
