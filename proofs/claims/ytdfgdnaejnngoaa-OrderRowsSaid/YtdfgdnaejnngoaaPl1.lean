import Derived.Test.YtdfgdnaejnngoaaLaw1
namespace Go.Proofs.Ytdfgdnaejnngoaa
open Go.RowKit
/-! Told, and read again. -/

def ba (l : List UInt8) : ByteArray := ⟨l.toArray⟩
theorem baSize (l : List UInt8) : (ba l).size = l.length := by simp [ba, ByteArray.size]
theorem ba_self (s : ByteArray) : ba s.data.toList = s := by apply ByteArray.ext; simp [ba]
theorem ba_extract (l : List UInt8) (i j : Nat) : (ba l).extract i j = ba ((l.take j).drop i) := by
  apply ByteArray.ext
  simp [ba, ByteArray.data_extract, List.drop_take]
theorem raw_app (a b : List UInt8) (n : Int) (hn : n = (a.length : Int)) : rawR n (ba (a ++ b)) false = (ba a, ba b, false) := by
  subst hn
  unfold rawR
  rw [if_neg (by simp [baSize]; omega)]
  simp only [Int.toNat_natCast, ba_extract, baSize]
  rw [List.take_of_length_le (Nat.le_refl _)]
  simp
theorem raw_short (l : List UInt8) (n : Int) (h : (l.length : Int) < n) : rawR n (ba l) false = (ba [], ba [], true) := by
  unfold rawR
  rw [if_pos (.inr (.inr (by rw [baSize]; exact h)))]
  rfl
theorem raw_bad (s : ByteArray) (n : Int) : rawR n s true = (ba [], ba [], true) := by
  unfold rawR
  rw [if_pos (.inl rfl)]
  rfl
theorem num_app (x : UInt8) (b : List UInt8) : numR 1 (ba (x :: b)) false = (x.toNat, ba b, false) := by
  have h := raw_app [x] b 1 rfl
  unfold numR
  rw [show ((1 : Nat) : Int) = 1 from rfl, show x :: b = [x] ++ b from rfl, h]
  simp [ba, beVal]
theorem num_nil : numR 1 (ba []) false = (0, ba [], true) := by
  have h := raw_short [] 1 (by decide)
  unfold numR
  rw [show ((1 : Nat) : Int) = 1 from rfl, h]
  simp [ba, beVal]
theorem textApp (s : ByteArray) (b : List UInt8) (hs : s.size ≤ 255) : textR 255 (ba (textBytes s ++ b)) false = (s, ba b, false) := by
  unfold textR
  have e : textBytes s ++ b = UInt8.ofNat s.size :: (s.data.toList ++ b) := by simp [textBytes]
  have h1 : (UInt8.ofNat s.size).toNat = s.size := by simp [UInt8.toNat_ofNat']; omega
  rw [e, num_app]
  simp only [h1]
  rw [if_neg (by omega), raw_app s.data.toList b _ (by rw [Array.length_toList]; rfl), ba_self]
theorem text_short (s : ByteArray) (hs : s.size ≤ 255) : (textR 255 (ba (textBytes s).dropLast) false).2.2 = true := by
  have e : textBytes s = UInt8.ofNat s.size :: s.data.toList := by simp [textBytes]
  have h1 : (UInt8.ofNat s.size).toNat = s.size := by simp [UInt8.toNat_ofNat']; omega
  have hl : s.data.toList.length = s.size := by rw [Array.length_toList]; rfl
  unfold textR
  rw [e]
  rcases hx : s.data.toList with _ | ⟨y, l⟩
  · rw [show [UInt8.ofNat s.size].dropLast = [] from rfl, num_nil]
    dsimp only
    rw [raw_bad]
  · rw [List.dropLast_cons_of_ne_nil (by simp), num_app]
    simp only [h1]
    rw [hx] at hl
    simp only [List.length_cons] at hl
    rw [if_neg (by omega), raw_short _ _ (by simp; omega)]
theorem beVal_numBytes : ∀ (k n : Nat), beVal (numBytes k n) = n % 256 ^ k
  | 0, n => by rw [numBytes_zero]; simp [beVal, Nat.mod_one]
  | k + 1, n => by
    rw [numBytes_succ, show UInt8.ofNat (n / 256 ^ k) :: numBytes k n = [UInt8.ofNat (n / 256 ^ k)] ++ numBytes k n from rfl, beVal_append _ k _ (numBytes_length k n), beVal_numBytes k n, Nat.mod_pow_succ]
    simp [beVal, UInt8.toNat_ofNat']
    rw [Nat.mul_comm, Nat.add_comm]
theorem numOfVal (n : Nat) (hn : n < 18446744073709551616) : numOf (ba (valBytes n)) = n := by
  have h8 : (ba (valBytes n)).size = 8 := by rw [baSize, valBytes_eight, numBytes_length]
  rw [numOf_eight _ h8]
  have e : (ba (valBytes n)).data.toList = numBytes 8 n := by rw [valBytes_eight]; rfl
  rw [e, beVal_numBytes]
  exact Nat.mod_eq_of_lt hn

theorem ord_ext {a b : Ord} (h1 : a.kind = b.kind) (h2 : a.key = b.key) (h3 : a.val = b.val) (h4 : a.n = b.n) (h5 : a.lo = b.lo) (h6 : a.hi = b.hi) : a = b := by
  cases a; cases b; simp_all
theorem kind_byte (k : Nat) : numBytes 1 k = [UInt8.ofNat k] := by
  rw [show (1 : Nat) = 0 + 1 from rfl, numBytes_succ, numBytes_zero]
  simp
theorem valLen (m : Nat) : (valBytes m).length = 8 := valBytes_length m
theorem rawCut (m : Nat) : (rawR 8 (ba (valBytes m).dropLast) false).2.2 = true := by
  rw [raw_short _ _ (by rw [List.length_dropLast, valBytes_length]; decide)]
theorem textShort {s : ByteArray} (hs : s.size ≤ 255) : (textR 255 (ba (textBytes s).dropLast) false).2.2 = true := text_short s hs
theorem rawVal (m : Nat) (b : List UInt8) : rawR 8 (ba (valBytes m ++ b)) false = (ba (valBytes m), ba b, false) := raw_app _ _ _ (by rw [valBytes_length]; rfl)
/-- what was told is read as it was, and what stood behind it is left -/
theorem read_told (o : Ord) (b : List UInt8) (h : isOrd o = true) (hf : o.fits) : readR (ba (ordBytes o ++ b)) false = (o, ba b, false) ∧ readIs (ba (ordBytes o ++ b)) false = true := by
  obtain ⟨k, key, val, n, lo, hi⟩ := o
  have hk : okKind k = true := by simp [isOrd] at h; exact h.1
  have hba : bareOf ⟨k, key, val, n, lo, hi⟩ = ⟨k, key, val, n, lo, hi⟩ := by simp [isOrd] at h; exact h.2.1
  have hl : tooLong ⟨k, key, val, n, lo, hi⟩ = false := by simp [isOrd] at h; exact h.2.2
  obtain ⟨h1, h2, h3, h4⟩ := sizes_of hl
  obtain ⟨f0, f1⟩ := hf
  obtain ⟨m, rfl⟩ := Int.eq_ofNat_of_zero_le f0
  have f1 : m < 18446744073709551616 := f1
  dsimp only at h1 h2 h3 h4
  clear h hl f0
  have hk8 : k = 1 ∨ k = 2 ∨ k = 3 ∨ k = 4 ∨ k = 5 ∨ k = 6 ∨ k = 7 ∨ k = 8 := by simp [okKind] at hk; omega
  clear hk
  unfold readIs readR
  rcases hk8 with rfl | rfl | rfl | rfl | rfl | rfl | rfl | rfl
  · have e : ordBytes ⟨1, key, val, (m : Int), lo, hi⟩ ++ b = UInt8.ofNat 1 :: (textBytes key ++ (textBytes val ++ b)) := by
      unfold ordBytes
      rw [show ((⟨1, key, val, (m : Int), lo, hi⟩ : Ord).kind.toNat) = 1 from rfl, kind_byte 1]
      simp [fieldBytes]
    rw [e, num_app]
    have er : ((UInt8.ofNat 1).toNat : Int) = 1 := rfl
    simp only [er]
    simp [bareOf] at hba
    simp [rdFs, readFold, ord0, okKind, rdKey, rdVal, textApp, h1, h2]
    try exact hba
  · have e : ordBytes ⟨2, key, val, (m : Int), lo, hi⟩ ++ b = UInt8.ofNat 2 :: (textBytes key ++ b) := by
      unfold ordBytes
      rw [show ((⟨2, key, val, (m : Int), lo, hi⟩ : Ord).kind.toNat) = 2 from rfl, kind_byte 2]
      simp [fieldBytes]
    rw [e, num_app]
    have er : ((UInt8.ofNat 2).toNat : Int) = 2 := rfl
    simp only [er]
    simp [bareOf] at hba
    simp [rdFs, readFold, ord0, okKind, rdKey, textApp, h1]
    try exact hba
  · have e : ordBytes ⟨3, key, val, (m : Int), lo, hi⟩ ++ b = UInt8.ofNat 3 :: (textBytes key ++ (valBytes m ++ b)) := by
      unfold ordBytes
      rw [show ((⟨3, key, val, (m : Int), lo, hi⟩ : Ord).kind.toNat) = 3 from rfl, kind_byte 3]
      simp [fieldBytes]
    rw [e, num_app]
    have er : ((UInt8.ofNat 3).toNat : Int) = 3 := rfl
    simp only [er]
    simp [bareOf] at hba
    simp [rdFs, readFold, ord0, okKind, rdKey, rdN, textApp, h1, rawVal, baSize, valLen, numOfVal m f1]
    try exact hba
  · have e : ordBytes ⟨4, key, val, (m : Int), lo, hi⟩ ++ b = UInt8.ofNat 4 :: (textBytes key ++ b) := by
      unfold ordBytes
      rw [show ((⟨4, key, val, (m : Int), lo, hi⟩ : Ord).kind.toNat) = 4 from rfl, kind_byte 4]
      simp [fieldBytes]
    rw [e, num_app]
    have er : ((UInt8.ofNat 4).toNat : Int) = 4 := rfl
    simp only [er]
    simp [bareOf] at hba
    simp [rdFs, readFold, ord0, okKind, rdKey, textApp, h1]
    try exact hba
  · have e : ordBytes ⟨5, key, val, (m : Int), lo, hi⟩ ++ b = UInt8.ofNat 5 :: (textBytes lo ++ (textBytes hi ++ b)) := by
      unfold ordBytes
      rw [show ((⟨5, key, val, (m : Int), lo, hi⟩ : Ord).kind.toNat) = 5 from rfl, kind_byte 5]
      simp [fieldBytes]
    rw [e, num_app]
    have er : ((UInt8.ofNat 5).toNat : Int) = 5 := rfl
    simp only [er]
    simp [bareOf] at hba
    simp [rdFs, readFold, ord0, okKind, rdLo, rdHi, textApp, h3, h4]
    try exact hba
  · have e : ordBytes ⟨6, key, val, (m : Int), lo, hi⟩ ++ b = UInt8.ofNat 6 :: b := by
      unfold ordBytes
      rw [show ((⟨6, key, val, (m : Int), lo, hi⟩ : Ord).kind.toNat) = 6 from rfl, kind_byte 6]
      simp [fieldBytes]
    rw [e, num_app]
    have er : ((UInt8.ofNat 6).toNat : Int) = 6 := rfl
    simp only [er]
    simp [bareOf] at hba
    simp [rdFs, readFold, ord0, okKind, ord0]
    try exact hba
  · have e : ordBytes ⟨7, key, val, (m : Int), lo, hi⟩ ++ b = UInt8.ofNat 7 :: b := by
      unfold ordBytes
      rw [show ((⟨7, key, val, (m : Int), lo, hi⟩ : Ord).kind.toNat) = 7 from rfl, kind_byte 7]
      simp [fieldBytes]
    rw [e, num_app]
    have er : ((UInt8.ofNat 7).toNat : Int) = 7 := rfl
    simp only [er]
    simp [bareOf] at hba
    simp [rdFs, readFold, ord0, okKind, ord0]
    try exact hba
  · have e : ordBytes ⟨8, key, val, (m : Int), lo, hi⟩ ++ b = UInt8.ofNat 8 :: b := by
      unfold ordBytes
      rw [show ((⟨8, key, val, (m : Int), lo, hi⟩ : Ord).kind.toNat) = 8 from rfl, kind_byte 8]
      simp [fieldBytes]
    rw [e, num_app]
    have er : ((UInt8.ofNat 8).toNat : Int) = 8 := rfl
    simp only [er]
    simp [bareOf] at hba
    simp [rdFs, readFold, ord0, okKind, ord0]
    try exact hba

theorem parse_told (o : Ord) (h : isOrd o = true) (hf : o.fits) : parseR (ba (ordBytes o)) = (o, 0) := by
  obtain ⟨h1, h2⟩ := read_told o [] h hf
  rw [List.append_nil] at h1 h2
  unfold parseR
  rw [h1, if_pos ⟨h2, rfl⟩]
theorem told_inj {o p : Ord} (h : isOrd o = true) (hf : o.fits) (h' : isOrd p = true) (hf' : p.fits) : ordBytes o = ordBytes p ↔ o = p := by
  constructor
  · intro e
    have h1 := parse_told o h hf
    rw [e, parse_told p h' hf'] at h1
    exact (congrArg Prod.fst h1).symm
  · intro e
    rw [e]
theorem allF_told : ∀ (os : List Ord) (acc : List Ord), (∀ o ∈ os, isOrd o = true ∧ o.fits) → allF (ba (os.flatMap ordBytes)).size (ba (os.flatMap ordBytes)) acc = some (acc ++ os)
  | [], acc, _ => by rw [List.append_nil]; rfl
  | o :: os, acc, h => by
    obtain ⟨h1, h2⟩ := read_told o (os.flatMap ordBytes) (h o (by simp)).1 (h o (by simp)).2
    rw [List.flatMap_cons, ← allF_step acc h2, h1]
    dsimp only
    rw [allF_told os _ (fun p hp => h p (by simp [hp]))]
    simp
theorem all_told (os : List Ord) (h : ∀ o ∈ os, isOrd o = true ∧ o.fits) (hl : os.length ≤ 400) : allA (ba (os.flatMap ordBytes)) = (os, 0) := by
  refine allA_some (l := os) ?_ (by omega)
  unfold allL
  rw [allF_told os [] h]
  rfl

theorem readFold_bad (rds : List (Ord → ByteArray → Bool → Ord × ByteArray × Bool)) (hd : ∀ rd ∈ rds, Dec rd) (x : Ord × ByteArray × Bool) (h : x.2.2 = true) : (readFold rds x).2.2 = true := (readFold_dec rds hd x).2 h
/-- with a byte less there is none -/
theorem cut_told (o : Ord) (h : isOrd o = true) (hf : o.fits) : readIs (ba (ordBytes o).dropLast) false = false := by
  obtain ⟨k, key, val, n, lo, hi⟩ := o
  have hk : okKind k = true := by simp [isOrd] at h; exact h.1
  have hl : tooLong ⟨k, key, val, n, lo, hi⟩ = false := by simp [isOrd] at h; exact h.2.2
  obtain ⟨h1, h2, h3, h4⟩ := sizes_of hl
  obtain ⟨f0, f1⟩ := hf
  obtain ⟨m, rfl⟩ := Int.eq_ofNat_of_zero_le f0
  dsimp only at h1 h2 h3 h4
  clear h hl f0 f1
  have hk8 : k = 1 ∨ k = 2 ∨ k = 3 ∨ k = 4 ∨ k = 5 ∨ k = 6 ∨ k = 7 ∨ k = 8 := by simp [okKind] at hk; omega
  clear hk
  have n1 : ∀ s, textBytes s ≠ [] := fun s e => by have := textBytes_length s; rw [e] at this; simp at this
  have n2 : valBytes m ≠ [] := fun e => by have := valBytes_length m; rw [e] at this; simp at this
  unfold readIs readR
  rcases hk8 with rfl | rfl | rfl | rfl | rfl | rfl | rfl | rfl
  · have e : (ordBytes ⟨1, key, val, (m : Int), lo, hi⟩).dropLast = UInt8.ofNat 1 :: (textBytes key ++ (textBytes val).dropLast) := by
      have e0 : ordBytes ⟨1, key, val, (m : Int), lo, hi⟩ = UInt8.ofNat 1 :: (textBytes key ++ textBytes val) := by
        unfold ordBytes
        rw [show ((⟨1, key, val, (m : Int), lo, hi⟩ : Ord).kind.toNat) = 1 from rfl, kind_byte 1]
        simp [fieldBytes]
      rw [e0]
      rw [List.dropLast_cons_of_ne_nil (by simp [n1])]
      try rw [List.dropLast_append_of_ne_nil (by first | exact n1 _ | exact n2)]
    rw [e, num_app]
    have er : ((UInt8.ofNat 1).toNat : Int) = 1 := rfl
    simp only [er]
    simp [rdFs, readFold, ord0, rdKey, rdVal, textApp, h1, textShort h2]
  · have e : (ordBytes ⟨2, key, val, (m : Int), lo, hi⟩).dropLast = UInt8.ofNat 2 :: (textBytes key).dropLast := by
      have e0 : ordBytes ⟨2, key, val, (m : Int), lo, hi⟩ = UInt8.ofNat 2 :: textBytes key := by
        unfold ordBytes
        rw [show ((⟨2, key, val, (m : Int), lo, hi⟩ : Ord).kind.toNat) = 2 from rfl, kind_byte 2]
        simp [fieldBytes]
      rw [e0]
      rw [List.dropLast_cons_of_ne_nil (by simp [n1])]
      try rw [List.dropLast_append_of_ne_nil (by first | exact n1 _ | exact n2)]
    rw [e, num_app]
    have er : ((UInt8.ofNat 2).toNat : Int) = 2 := rfl
    simp only [er]
    simp [rdFs, readFold, ord0, rdKey, textShort h1]
  · have e : (ordBytes ⟨3, key, val, (m : Int), lo, hi⟩).dropLast = UInt8.ofNat 3 :: (textBytes key ++ (valBytes m).dropLast) := by
      have e0 : ordBytes ⟨3, key, val, (m : Int), lo, hi⟩ = UInt8.ofNat 3 :: (textBytes key ++ valBytes m) := by
        unfold ordBytes
        rw [show ((⟨3, key, val, (m : Int), lo, hi⟩ : Ord).kind.toNat) = 3 from rfl, kind_byte 3]
        simp [fieldBytes]
      rw [e0]
      rw [List.dropLast_cons_of_ne_nil (by simp [n1])]
      try rw [List.dropLast_append_of_ne_nil (by first | exact n1 _ | exact n2)]
    rw [e, num_app]
    have er : ((UInt8.ofNat 3).toNat : Int) = 3 := rfl
    simp only [er]
    simp [rdFs, readFold, ord0, rdKey, rdN, textApp, h1, rawCut]
  · have e : (ordBytes ⟨4, key, val, (m : Int), lo, hi⟩).dropLast = UInt8.ofNat 4 :: (textBytes key).dropLast := by
      have e0 : ordBytes ⟨4, key, val, (m : Int), lo, hi⟩ = UInt8.ofNat 4 :: textBytes key := by
        unfold ordBytes
        rw [show ((⟨4, key, val, (m : Int), lo, hi⟩ : Ord).kind.toNat) = 4 from rfl, kind_byte 4]
        simp [fieldBytes]
      rw [e0]
      rw [List.dropLast_cons_of_ne_nil (by simp [n1])]
      try rw [List.dropLast_append_of_ne_nil (by first | exact n1 _ | exact n2)]
    rw [e, num_app]
    have er : ((UInt8.ofNat 4).toNat : Int) = 4 := rfl
    simp only [er]
    simp [rdFs, readFold, ord0, rdKey, textShort h1]
  · have e : (ordBytes ⟨5, key, val, (m : Int), lo, hi⟩).dropLast = UInt8.ofNat 5 :: (textBytes lo ++ (textBytes hi).dropLast) := by
      have e0 : ordBytes ⟨5, key, val, (m : Int), lo, hi⟩ = UInt8.ofNat 5 :: (textBytes lo ++ textBytes hi) := by
        unfold ordBytes
        rw [show ((⟨5, key, val, (m : Int), lo, hi⟩ : Ord).kind.toNat) = 5 from rfl, kind_byte 5]
        simp [fieldBytes]
      rw [e0]
      rw [List.dropLast_cons_of_ne_nil (by simp [n1])]
      try rw [List.dropLast_append_of_ne_nil (by first | exact n1 _ | exact n2)]
    rw [e, num_app]
    have er : ((UInt8.ofNat 5).toNat : Int) = 5 := rfl
    simp only [er]
    simp [rdFs, readFold, ord0, rdLo, rdHi, textApp, h3, textShort h4]
  · have e : (ordBytes ⟨6, key, val, (m : Int), lo, hi⟩).dropLast = [] := by
      unfold ordBytes
      rw [show ((⟨6, key, val, (m : Int), lo, hi⟩ : Ord).kind.toNat) = 6 from rfl, kind_byte 6]
      simp [fieldBytes]
    rw [e, num_nil]
    rfl
  · have e : (ordBytes ⟨7, key, val, (m : Int), lo, hi⟩).dropLast = [] := by
      unfold ordBytes
      rw [show ((⟨7, key, val, (m : Int), lo, hi⟩ : Ord).kind.toNat) = 7 from rfl, kind_byte 7]
      simp [fieldBytes]
    rw [e, num_nil]
    rfl
  · have e : (ordBytes ⟨8, key, val, (m : Int), lo, hi⟩).dropLast = [] := by
      unfold ordBytes
      rw [show ((⟨8, key, val, (m : Int), lo, hi⟩ : Ord).kind.toNat) = 8 from rfl, kind_byte 8]
      simp [fieldBytes]
    rw [e, num_nil]
    rfl
end Go.Proofs.Ytdfgdnaejnngoaa
