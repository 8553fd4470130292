import Derived.Test.YtdfgdnaejnngoaaIn2
namespace Go.Proofs.Ytdfgdnaejnngoaa
open Go.RowKit

def textR (most : Int) (s : ByteArray) (bad : Bool) : ByteArray × ByteArray × Bool :=
  rawR (if most < ((numR 1 s bad).1 : Int) then -1 else ((numR 1 s bad).1 : Int)) (numR 1 s bad).2.1 (numR 1 s bad).2.2

theorem inText_any (b : Nat) (most : Int) (s : ByteArray) (bad : Bool) (w : World) (h : InAt w b s bad) : Calls Try.prog 84 #[.pointer (some ⟨b, 0, none⟩), .int .i64 most] w (RawRes b w (textR most s bad)) := by
  have hn : Calls Try.prog 75 #[.pointer (some ⟨b, 0, none⟩), .int .i64 1] w fun e w' => e = .returned (.int .i64 ((numR 1 s bad).1 : Int)) ∧ InAt w' b (numR 1 s bad).2.1 (numR 1 s bad).2.2 ∧ Fr (fun k => k = b) w w' := inNum_any b 1 s bad w h (.inl rfl)
  have ht : textR most s bad = rawR (if most < ((numR 1 s bad).1 : Int) then -1 else ((numR 1 s bad).1 : Int)) (numR 1 s bad).2.1 (numR 1 s bad).2.2 := rfl
  generalize numR 1 s bad = r at hn ht
  obtain ⟨m, s', bad'⟩ := r
  dsimp only at hn ht
  have Hn := Lib.hid hn
  have hr := fun n W h => inRaw_any b s' bad' n W h
  have Hr := Lib.hid hr
  by_cases hm : most < (m : Int)
  · rw [if_pos hm] at ht
    have Ht := Lib.hid ht
    clear hn hr ht h
    go_enter Try.func84, Try.ntmps84
    go_wp2_with (first | (go_at_call 75; (with_reducible refine Hn.out.mono ?_); rintro e w1 ⟨rfl, hi, hfr⟩) | (go_at_call 88; (with_reducible refine (Hr.out _ _ hi).mono ?_); rintro e w2 ⟨rfl, hi2, hfr2⟩))
    go_ret
    rw [Ht.out]
    exact ⟨rfl, hi2, hfr.trans hfr2 (fun _ _ h => h)⟩
  · rw [if_neg hm] at ht
    have Ht := Lib.hid ht
    clear hn hr ht h
    go_enter Try.func84, Try.ntmps84
    go_wp2_with (first | (go_at_call 75; (with_reducible refine Hn.out.mono ?_); rintro e w1 ⟨rfl, hi, hfr⟩) | (go_at_call 88; (with_reducible refine (Hr.out _ _ hi).mono ?_); rintro e w2 ⟨rfl, hi2, hfr2⟩))
    go_ret
    rw [Ht.out]
    exact ⟨rfl, hi2, hfr.trans hfr2 (fun _ _ h => h)⟩

/-- a number's value -/
def valBytes (n : Nat) : List UInt8 := numBytes 4 (n / 4294967296) ++ numBytes 4 (n % 4294967296)
theorem valBytes_length (n : Nat) : (valBytes n).length = 8 := by simp [valBytes, numBytes_length]

theorem u64_and_low (n : Nat) (hn : n < 18446744073709551616) : bits .and .u64 (n : Int) 4294967295 = ((n % 4294967296 : Nat) : Int) := by
  have h := Nat.and_two_pow_sub_one_eq_mod n 32
  show IntKind.u64.wrap ((BitVec.ofInt 64 (n : Int) &&& BitVec.ofInt 64 4294967295).toNat : Int) = _
  have e1 : (BitVec.ofInt 64 (n : Int)).toNat = n := by rw [BitVec.ofInt_natCast, BitVec.toNat_ofNat]; exact Nat.mod_eq_of_lt (by omega)
  have e2 : (BitVec.ofInt 64 4294967295).toNat = 2 ^ 32 - 1 := rfl
  rw [BitVec.toNat_and, e1, e2, h]
  simp [IntKind.wrap, IntKind.bits, IntKind.signed]
  omega

set_option maxRecDepth 100000 in
theorem value_any (n : Nat) (w : World) (hn : n < 18446744073709551616) : Calls Try.prog 86 #[.int .u64 (n : Int)] w fun e w' => e = .returned (.string ⟨(valBytes n).toArray⟩) ∧ Below w.heap.size w w' := by
  have hand := u64_and_low n hn
  have h1 : n / 4294967296 < 4294967296 := by omega
  have h2 : n % 4294967296 < 4294967296 := by omega
  have hdiv : (n : Int) / 4294967296 = ((n / 4294967296 : Nat) : Int) := by omega
  have hval : valBytes n = numBytes 4 (n / 4294967296) ++ numBytes 4 (n % 4294967296) := rfl
  generalize n / 4294967296 = p at h1 hdiv hval
  generalize n % 4294967296 = q at h2 hand hval
  have Hval := Lib.hid hval
  clear hval hn
  have hcall : Calls Try.prog 35 #[.pointer (some ⟨w.heap.size, 0, none⟩), .int .i64 4, .slice (some ⟨w.heap.size + 1, 0, none⟩) 2 2] ((w.alloc (.cells #[.pointer none, .slice none 0 0] 92)).alloc (.cells #[.int .i64 (p : Int), .int .i64 (q : Int)] 3))
      fun e w' => e = .returned (.int .i64 0) ∧ ∃ G', OutB w' w.heap.size w.heap.size G' (numBytes 4 p ++ numBytes 4 q) ∧ Below w.heap.size w w' := by
    refine (outNum_B w.heap.size w.heap.size none [] (some ⟨w.heap.size + 1, 0, none⟩) 2 4 [(p : Int), (q : Int)] _ (OutAt.below (OutAt.new w) (Below.alloc (Below.refl _ _) (Nat.le_refl _) _)) (by simp; omega) (by decide) (by simp) (Elems.of_block (heap_new_at (by simp)) (by simp) (by simp)) ?_ ?_ ?_ (by simp)).mono ?_
    · intro ad e; cases e; simp
    · intro n hm; simp only [List.mem_cons, List.not_mem_nil, or_false] at hm
      rcases hm with rfl | rfl <;> simp [fitsB] <;> omega
    · intro n hm; simp only [List.mem_cons, List.not_mem_nil, or_false] at hm
      rcases hm with rfl | rfl <;> omega
    · rintro e w' ⟨rfl, G', ho, hst⟩
      refine ⟨rfl, G', by simpa using ho, ?_⟩
      exact (Below.alloc (Below.alloc (Below.refl _ w) (Nat.le_refl _) _) (by simp) _).trans (hst.fr.to_below (by simp; omega) (fun i hi => by rintro (e | e); omega; cases e))
  have Hcall := Lib.hid hcall
  clear hcall
  go_enter Try.func86, Try.ntmps86
  go_wp2_with (go_at_call 35; (with_reducible refine Hcall.out.mono ?_); rintro e w1 ⟨rfl, G', ho, hb⟩; have Ho := Lib.hid ho; clear ho)
  refine (outBytes_B _ _ _ _ _ Ho.out).mono ?_
  rintro e w2 ⟨rfl, hf2⟩
  go_wp2
  go_ret
  rw [Hval.out]
  exact ⟨rfl, hb.trans (hf2.to_below hb.size (fun i hi e => by have := (OutAt.glt Ho.out i e).1; omega))⟩

/-- what a value tells -/
def numOf (v : ByteArray) : Nat := beVal (v.extract 0 4).data.toList * 4294967296 + beVal (v.extract 4 v.size).data.toList

theorem number_no (v : ByteArray) (w : World) (hv : v.size ≠ 8) : Calls Try.prog 87 #[.string v] w fun e w' => e = .returned (.tuple #[.int .u64 0, .bool false]) ∧ Below w.heap.size w w' := by
  have h8 : ((v.size : Int) != 8) = true := by simp; omega
  clear hv
  go_enter Try.func87, Try.ntmps87
  go_wp2
  go_ret2
  exact ⟨rfl, Below.refl _ _⟩

theorem numR_4 (s : ByteArray) (hs : s.size = 4) : (numR 4 s false).1 = beVal s.data.toList := by
  unfold numR rawR
  rw [if_neg (by simp; omega)]
  have e : s.extract 0 4 = s := by rw [← hs]; exact ByteArray.extract_zero_size
  show beVal (s.extract 0 4).data.toList = _
  rw [e]

theorem u64_or_high (p q : Nat) (hp : p < 4294967296) (hq : q < 4294967296) : bits .or .u64 ((p : Int) * 4294967296) (q : Int) = ((p * 4294967296 + q : Nat) : Int) := by
  show IntKind.u64.wrap ((BitVec.ofInt 64 ((p : Int) * 4294967296) ||| BitVec.ofInt 64 (q : Int)).toNat : Int) = _
  have e1 : (BitVec.ofInt 64 ((p : Int) * 4294967296)).toNat = p * 4294967296 := by
    have : ((p : Int) * 4294967296) = ((p * 4294967296 : Nat) : Int) := by omega
    rw [this, BitVec.ofInt_natCast, BitVec.toNat_ofNat]; exact Nat.mod_eq_of_lt (by omega)
  have e2 : (BitVec.ofInt 64 (q : Int)).toNat = q := by rw [BitVec.ofInt_natCast, BitVec.toNat_ofNat]; exact Nat.mod_eq_of_lt (by omega)
  have h := Nat.shiftLeft_add_eq_or_of_lt (i := 32) (b := q) (by omega) p
  rw [Nat.shiftLeft_eq] at h
  rw [BitVec.toNat_or, e1, e2, show p * 4294967296 = p * 2 ^ 32 from rfl, ← h]
  simp [IntKind.wrap, IntKind.bits, IntKind.signed]
  omega

theorem InAt.drew {w : World} {b : Nat} {s : ByteArray} {bad : Bool} (h : InAt w b s bad) : InAt w.drew b s bad := h
set_option maxRecDepth 100000 in
theorem number_yes (v : ByteArray) (w : World) (hv : v.size = 8) : Calls Try.prog 87 #[.string v] w fun e w' => e = .returned (.tuple #[.int .u64 (numOf v : Int), .bool true]) ∧ Below w.heap.size w w' := by
  have h8 : ((v.size : Int) != 8) = false := by simp; omega
  have h4 : 4 ≤ v.size := by omega
  have h4i : (4 : Int) ≤ (v.size : Int) := by omega
  have s1 : (v.extract 0 4).size = 4 := by simp [ByteArray.size_extract]; omega
  have s2 : (v.extract 4 v.size).size = 4 := by simp [ByteArray.size_extract]; omega
  have n1 := numR_4 _ s1
  have n2 := numR_4 _ s2
  have hp : beVal (v.extract 0 4).data.toList < 4294967296 := by have := beVal_lt (v.extract 0 4).data.toList; rw [Array.length_toList] at this; rw [show (v.extract 0 4).data.size = 4 from s1] at this; exact this
  have hq : beVal (v.extract 4 v.size).data.toList < 4294967296 := by have := beVal_lt (v.extract 4 v.size).data.toList; rw [Array.length_toList] at this; rw [show (v.extract 4 v.size).data.size = 4 from s2] at this; exact this
  have hval : numOf v = beVal (v.extract 0 4).data.toList * 4294967296 + beVal (v.extract 4 v.size).data.toList := rfl
  have c1 : ∀ W b, InAt W b (v.extract 0 4) false → Calls Try.prog 75 #[.pointer (some ⟨b, 0, none⟩), .int .i64 4] W fun e w' => e = .returned (.int .i64 (beVal (v.extract 0 4).data.toList : Int)) ∧ Fr (fun k => k = b) W w' := fun W b h => (inNum_any b 4 _ false W h (by simp)).mono fun e w' ⟨h1, _, h3⟩ => ⟨by rw [h1, n1], h3⟩
  have c2 : ∀ W b, InAt W b (v.extract 4 v.size) false → Calls Try.prog 75 #[.pointer (some ⟨b, 0, none⟩), .int .i64 4] W fun e w' => e = .returned (.int .i64 (beVal (v.extract 4 v.size).data.toList : Int)) ∧ Fr (fun k => k = b) W w' := fun W b h => (inNum_any b 4 _ false W h (by simp)).mono fun e w' ⟨h1, _, h3⟩ => ⟨by rw [h1, n2], h3⟩
  generalize beVal (v.extract 0 4).data.toList = p at hp hval c1
  generalize beVal (v.extract 4 v.size).data.toList = q at hq hval c2
  have hor := u64_or_high p q hp hq
  have Hval := Lib.hid hval
  have C1 := Lib.hid c1
  have C2 := Lib.hid c2
  clear n1 n2 s1 s2 hv c1 c2 hval
  go_enter Try.func87, Try.ntmps87
  go_wp2
  refine rg_start (n := 10) (fun w' => Below w.heap.size w w') #[false, false, false, false, false, false, false, false, false, false] (by kernel_rfl) rfl rfl (Below.refl _ _).drew (fun hHeld => ?_)
  refine rg_take (i := 0) (N := (some 9)) (v := ?_) (a' := ?_) #[true, false, false, false, false, false, false, false, false, false] rfl rfl (by kernel_rfl) (fun _ _ _ h => h) (by rfl) ?_ hHeld ?_ ?_
  rotate_left 2
  · rintro w' s0
    go_simp
    try with_reducible rfl
  · simp only [Act.put, List.setIfInBounds_toArray, List.set_cons_zero, List.set_cons_succ]
    rfl
  refine rg_take (i := 1) (N := (some 10)) (v := ?_) (a' := ?_) #[true, true, false, false, false, false, false, false, false, false] rfl rfl (by kernel_rfl) (fun _ _ _ h => h) (by rfl) ?_ hHeld ?_ ?_
  rotate_left 2
  · rintro w' s0
    go_simp
    try with_reducible rfl
  · simp only [Act.put, List.setIfInBounds_toArray, List.set_cons_zero, List.set_cons_succ]
    rfl
  refine rg_take (i := 4) (N := (some 13)) (v := ?_) (a' := ?_) #[true, true, false, false, true, false, false, false, false, false] rfl rfl (by kernel_rfl) (fun _ _ _ h => h) (by rfl) ?_ hHeld ?_ ?_
  rotate_left 2
  · rintro w' s0
    go_simp
    try with_reducible rfl
  · simp only [Act.put, List.setIfInBounds_toArray, List.set_cons_zero, List.set_cons_succ]
    rfl
  refine rg_take (i := 5) (N := (some 14)) (v := ?_) (a' := ?_) #[true, true, false, false, true, true, false, false, false, false] rfl rfl (by kernel_rfl) (fun _ _ _ h => h) (by rfl) ?_ hHeld ?_ ?_
  rotate_left 2
  · rintro w' s0
    go_simp
    try with_reducible rfl
  · simp only [Act.put, List.setIfInBounds_toArray, List.set_cons_zero, List.set_cons_succ]
    rfl
  refine rg_one (i := 2) #[true, true, true, false, true, true, false, false, false, false] rfl (by kernel_rfl) (by rfl) (fun K hK => ?_)
  have s0 := hHeld
  clear hHeld
  repeat go_step
  ((with_reducible refine (inOf_any _ _).mono ?_); rintro e w1 ⟨rfl, rfl⟩)
  try dsimp only
  refine hK.out _ _ ?_ (fun hHeld => ?_)
  · exact below_alloc s0
  clear hK K
  clear s0
  refine rg_one (i := 3) #[true, true, true, true, true, true, false, false, false, false] rfl (by kernel_rfl) (by rfl) (fun K hK => ?_)
  have s0 := hHeld
  clear hHeld
  repeat go_step
  ((with_reducible refine (C1.out _ _ (InAt.drew (InAt.new w _))).mono ?_); rintro e w2 ⟨rfl, hf2⟩)
  try dsimp only
  refine hK.out _ _ ?_ (fun hHeld => ?_)
  · exact s0.trans (hf2.to_below s0.size (fun i hi e => by have := s0.size; omega))
  clear hK K
  clear s0
  refine rg_one (i := 6) #[true, true, true, true, true, true, true, false, false, false] rfl (by kernel_rfl) (by rfl) (fun K hK => ?_)
  have s0 := hHeld
  clear hHeld
  repeat go_step
  (have hz2 := s0.size; (with_reducible refine (inOf_any _ _).mono ?_); rintro e w1 ⟨rfl, rfl⟩)
  try dsimp only
  refine hK.out _ _ ?_ (fun hHeld => ?_)
  · exact below_alloc s0
  clear hK K
  clear s0
  refine rg_one (i := 7) #[true, true, true, true, true, true, true, true, false, false] rfl (by kernel_rfl) (by rfl) (fun K hK => ?_)
  have s0 := hHeld
  clear hHeld
  repeat go_step
  ((with_reducible refine (C2.out _ _ (InAt.new w2 _)).mono ?_); rintro e w3 ⟨rfl, hf3⟩)
  try dsimp only
  refine hK.out _ _ ?_ (fun hHeld => ?_)
  · exact s0.trans (hf3.to_below s0.size (fun i hi e => by omega))
  clear hK K
  clear s0
  refine rg_take (i := 8) (N := (some 4)) (v := ?_) (a' := ?_) #[true, true, true, true, true, true, true, true, true, false] rfl rfl (by kernel_rfl) (fun _ _ _ h => h) (by rfl) ?_ hHeld ?_ ?_
  rotate_left 2
  · rintro w' s0
    go_simp
    try with_reducible rfl
  · simp only [Act.put, List.setIfInBounds_toArray, List.set_cons_zero, List.set_cons_succ]
    rfl
  refine rg_take (i := 9) (N := (some 5)) (v := ?_) (a' := ?_) #[true, true, true, true, true, true, true, true, true, true] rfl rfl (by kernel_rfl) (fun _ _ _ h => h) (by rfl) ?_ hHeld ?_ ?_
  rotate_left 2
  · rintro w' s0
    go_simp
    try with_reducible rfl
  · simp only [Act.put, List.setIfInBounds_toArray, List.set_cons_zero, List.set_cons_succ]
    rfl
  refine rg_done (by kernel_rfl) ?_
  go_wp2
  go_ret2
  rw [Hval.out]
  exact ⟨rfl, hHeld⟩
end Go.Proofs.Ytdfgdnaejnngoaa
