import Derived.Test.YtdfgdnaejnngoaaBt
import Derived.Test.YtdfgdnaejnngoaaIs
namespace Go.Proofs.Ytdfgdnaejnngoaa
open Go.RowKit
/-! Events, counted. -/
structure Ev where
  kind : Int
  o : Ord
  n : Int
  kA : Option Addr
  kl : Nat
  kc : Nat
  err : Int
  has : Bool
  val : ByteArray
  iA : Option Addr
  il : Nat
  ic : Nat
  st : Nat → Int
def Ev.keep (e : Ev) : Value := .slice e.kA e.kl e.kc
def Ev.cells (e : Ev) : List Value := [.int .i64 e.kind, .int .i64 e.o.kind, .string e.o.key, .string e.o.val, .int .u64 e.o.n, .string e.o.lo, .string e.o.hi, .int .i64 e.n, e.keep, .int .i64 e.err, .bool e.has, .string e.val, .slice e.iA e.il e.ic, .int .i64 (e.st 0), .int .i64 (e.st 1), .int .i64 (e.st 2), .int .i64 (e.st 3), .int .i64 (e.st 4), .int .i64 (e.st 5), .int .i64 (e.st 6), .int .i64 (e.st 7), .int .i64 (e.st 8)]
def kOf (o : Ord) : Nat := if isOrd o then o.kind.toNat else 0
def fOf (err : Int) : Nat := if err < 1 ∨ 12 ≤ err then 0 else err.toNat
def incA (o : Ord) (err : Int) (has : Bool) (il : Nat) (i : Nat) : Int :=
  (if i = kOf o then 1 else 0) + (if err ≠ 0 then (if i = 9 + fOf err then 1 else 0)
    else if kOf o = 1 then (if i = 21 then (o.key.size : Int) + o.val.size else 0)
    else if kOf o = 4 then (if i = 22 ∧ has then 1 else 0)
    else if kOf o = 5 then (if i = 22 then (il : Int) else 0) else 0)
def inc (e : Ev) (i : Nat) : Int :=
  if e.kind = 1 then incA e.o e.err e.has e.il i
  else if e.kind = 2 ∨ e.kind = 3 then (if i = 23 ∧ e.err = 0 then 1 else 0)
  else if e.kind = 4 ∨ e.kind = 5 then (if i = 24 ∧ e.err = 0 then 1 else 0) else 0
theorem isOrd_kind {o : Ord} (h : isOrd o = true) : 1 ≤ o.kind ∧ o.kind ≤ 8 := by
  simp [isOrd, okKind] at h
  omega
theorem kOf_lt (o : Ord) : kOf o < 9 := by
  unfold kOf
  split
  · rename_i h
    have := isOrd_kind h
    omega
  · omega
theorem fOf_lt (e : Int) : fOf e < 12 := by unfold fOf; split <;> omega
theorem Fr.tr' {S : Nat → Prop} {a b c : World} (h : Fr S a b) (k : Below b.heap.size b c) : Fr S a c := h.trans (S' := fun _ => False) (Fr.of_below k) (fun _ _ h => h.elim)
theorem VAt.eq {T : TypeId} {n : Nat} {w : World} {b : Nat} {v v' : Nat → Int} (h : VAt T n w b v) (e : ∀ i, v i = v' i) : VAt T n w b v' := by
  rw [show v' = v from funext fun i => (e i).symm]
  exact h

theorem one_any (x0 x1 x2 x3 x4 x5 x6 x7 x8 x10 x11 x12 x13 x14 x15 x16 x17 x18 x19 x20 x21 : Value) (err : Int) (w : World) : Calls Try.prog 78 #[.agg #[x0, x1, x2, x3, x4, x5, x6, x7, x8, .int .i64 err, x10, x11, x12, x13, x14, x15, x16, x17, x18, x19, x20, x21]] w fun e w' => e = .returned (.int .i64 (if err = 0 then 1 else 0)) ∧ Below w.heap.size w w' := by
  by_cases h : err = 0
  · subst h
    go_enter Try.func78, Try.ntmps78
    go_wp2
    go_ret
    exact ⟨rfl, Below.alloc (Below.refl _ _) (Nat.le_refl _) _⟩
  · have e1 : (err == 0) = false := by simpa using h
    have HH := Lib.hid (show (if err = 0 then (1 : Int) else 0) = 0 from if_neg h)
    generalize (if err = 0 then (1 : Int) else 0) = r at HH ⊢
    clear h
    go_enter Try.func78, Try.ntmps78
    go_wp2
    go_ret
    exact ⟨by rw [HH.out]; rfl, Below.alloc (Below.refl _ _) (Nat.le_refl _) _⟩

set_option maxRecDepth 100000 in
theorem fail_any (b : Nat) (v : Nat → Int) (err : Int) (w : World) (h : VAt 71 25 w b v) (h0 : 0 ≤ v (9 + fOf err)) (h1 : v (9 + fOf err) ≤ 1152921504606846976) : Calls Try.prog 90 #[.pointer (some ⟨b, 0, none⟩), .int .i64 err] w
    fun e w' => e = .returned (.tuple #[]) ∧ VAt 71 25 w' b (updI v (9 + fOf err) (v (9 + fOf err) + 1)) ∧ Fr (fun k => k = b) w w' := by
  have hlt := fOf_lt err
  have c0 := h.cell (i := 9 + fOf err) (by omega)
  have f0 := h.f (9 + fOf err)
  have H0 := Lib.hid h
  clear h
  by_cases hb : err < 1 ∨ 12 ≤ err
  · have e : fOf err = 0 := if_pos hb
    rw [e] at c0 f0 h0 h1 hlt ⊢
    simp only [Nat.add_zero] at c0 f0 h0 h1
    clear e
    rcases hb with hb | hb
    · go_enter Try.func90, Try.ntmps90
      go_wp2
      go_region
      go_end0
      exact ⟨rfl, H0.out.set 9 _, ((Fr.refl (fun k => k = b) _).setCell (p := ⟨b, 9, none⟩) (fun _ => rfl) _).drew⟩
    · go_enter Try.func90, Try.ntmps90
      go_wp2
      go_region
      go_end0
      exact ⟨rfl, H0.out.set 9 _, ((Fr.refl (fun k => k = b) _).setCell (p := ⟨b, 9, none⟩) (fun _ => rfl) _).drew⟩
  · have e : fOf err = err.toNat := if_neg hb
    obtain ⟨k, rfl⟩ := Int.eq_ofNat_of_zero_le (show 0 ≤ err by omega)
    rw [e] at c0 f0 h0 h1 hlt ⊢
    rw [Int.toNat_natCast] at c0 f0 h0 h1 hlt ⊢
    clear e
    have hk1 : 1 ≤ (k : Int) := by omega
    have hk2 : (k : Int) < 12 := by omega
    clear hb
    go_enter Try.func90, Try.ntmps90
    go_wp2
    go_region
    go_end0
    exact ⟨rfl, H0.out.set (9 + k) _, ((Fr.refl (fun k => k = b) _).setCell (p := ⟨b, 9 + k, none⟩) (fun _ => rfl) _).drew⟩
/-- two new blocks, behind a call that leaves all as it was -/
theorem two_boxes {w w1 : World} {c1 c2 : Array Value} {t1 t2 : TypeId} (hb : Below ((w.alloc (.cells c1 t1)).alloc (.cells c2 t2)).heap.size ((w.alloc (.cells c1 t1)).alloc (.cells c2 t2)) w1) :
    w.heap.size + 1 < w1.heap.size ∧ (∀ j u, c1[j]? = some u → w1.cell? ⟨w.heap.size, j, none⟩ = some u) ∧ (∀ j u, c2[j]? = some u → w1.cell? ⟨w.heap.size + 1, j, none⟩ = some u) ∧ Fr (fun _ => False) w w1 := by
  have hs := hb.size
  have h1 : ((w.alloc (.cells c1 t1)).alloc (.cells c2 t2)).heap[w.heap.size]? = some (.cells c1 t1 (0, 0)) := (Below.heap_alloc _ _ _ (by simp)).trans (heap_alloc_new _ _)
  have h2 : ((w.alloc (.cells c1 t1)).alloc (.cells c2 t2)).heap[w.heap.size + 1]? = some (.cells c2 t2 (0, 0)) := heap_new_at (by simp)
  simp at hs
  refine ⟨by omega, fun j u hj => ?_, fun j u hj => ?_, (((Fr.refl _ w).alloc _).alloc _).tr' hb⟩
  · rw [hb.cell (p := ⟨w.heap.size, j, none⟩) (by simp; omega), Lib.cell_of_heap h1]
    exact hj
  · rw [hb.cell (p := ⟨w.heap.size + 1, j, none⟩) (by simp), Lib.cell_of_heap h2]
    exact hj

set_option maxHeartbeats 1000000 in
set_option maxRecDepth 100000 in
theorem ask_any (b : Nat) (v : Nat → Int) (o : Ord) (err : Int) (has : Bool) (val : ByteArray) (iA : Option Addr) (il ic : Nat) (st : Nat → Int) (w : World) (h : VAt 71 25 w b v) (h0 : ∀ i, i < 25 → 0 ≤ v i) (h1 : ∀ i, i < 25 → v i ≤ 1152921504606846970) (hl1 : o.key.size ≤ 1000) (hl2 : o.val.size ≤ 1000) (hl3 : il ≤ 1000) :
    Calls Try.prog 77 #[.pointer (some ⟨b, 0, none⟩), .agg #[.int .i64 o.kind, .string o.key, .string o.val, .int .u64 o.n, .string o.lo, .string o.hi], .agg #[.int .i64 err, .bool has, .string val, .slice iA il ic, .int .i64 (st 0), .int .i64 (st 1), .int .i64 (st 2), .int .i64 (st 3), .int .i64 (st 4), .int .i64 (st 5), .int .i64 (st 6), .int .i64 (st 7), .int .i64 (st 8)]] w
    fun e w' => e = .returned (.tuple #[]) ∧ VAt 71 25 w' b (fun i => v i + incA o err has il i) ∧ Fr (fun k => k = b) w w' := by
  have his : ∀ W, Calls Try.prog 13 #[.agg #[.int .i64 o.kind, .string o.key, .string o.val, .int .u64 o.n, .string o.lo, .string o.hi]] W fun e w' => e = .returned (.bool (isOrd o)) ∧ Below W.heap.size W w' := fun W => is_any o W
  have hkk : isOrd o = true → o.kind = (kOf o : Nat) := fun h => by
    have := isOrd_kind h
    unfold kOf
    rw [if_pos h]
    omega
  have hkn : isOrd o = false → kOf o = 0 := fun h => by unfold kOf; rw [if_neg (by simp [h])]
  have hk9 := kOf_lt o
  have hf12 := fOf_lt err
  have hinc : ∀ i, incA o err has il i = (if i = kOf o then 1 else 0) + (if err ≠ 0 then (if i = 9 + fOf err then 1 else 0) else if kOf o = 1 then (if i = 21 then (o.key.size : Int) + o.val.size else 0) else if kOf o = 4 then (if i = 22 ∧ has then 1 else 0) else if kOf o = 5 then (if i = 22 then (il : Int) else 0) else 0) := fun i => rfl
  obtain ⟨ok, okey, oval, on, olo, ohi⟩ := o
  dsimp only at *
  generalize isOrd ⟨ok, okey, oval, on, olo, ohi⟩ = R at his hkk hkn
  generalize kOf ⟨ok, okey, oval, on, olo, ohi⟩ = k at hkk hkn hk9 hinc
  generalize incA ⟨ok, okey, oval, on, olo, ohi⟩ err has il = I at hinc ⊢
  have hbl := h.lt
  have HI := Lib.hid hinc
  have HIS := Lib.hid his
  have h0k := h0 k (by omega)
  have h1k := h1 k (by omega)
  have hV0 := h0 21 (by omega)
  have hV1 := h1 21 (by omega)
  have hW0 := h0 22 (by omega)
  have hW1 := h1 22 (by omega)
  have hF0 := h0 (9 + fOf err) (by omega)
  have hF1 := h1 (9 + fOf err) (by omega)
  have H0 := Lib.hid h
  clear h hinc his h0 h1
  cases R
  · obtain rfl := hkn rfl
    clear hkk hkn
    go_enter Try.func77, Try.ntmps77
    go_wp2_with (go_at_call 13; (with_reducible refine (HIS.out _).mono ?_); rintro e w1 ⟨rfl, hb1⟩; obtain ⟨hsz, q1, q2, hf1⟩ := two_boxes hb1; have p0 : w1.cell? ⟨w.heap.size, 0, none⟩ = some (.int .i64 ok) := q1 0 _ rfl; have p1 : w1.cell? ⟨w.heap.size, 1, none⟩ = some (.string okey) := q1 1 _ rfl; have p2 : w1.cell? ⟨w.heap.size, 2, none⟩ = some (.string oval) := q1 2 _ rfl; have r0 : w1.cell? ⟨w.heap.size + 1, 0, none⟩ = some (.int .i64 err) := q2 0 _ rfl; have r1 : w1.cell? ⟨w.heap.size + 1, 1, none⟩ = some (.bool has) := q2 1 _ rfl; have r3 : w1.cell? ⟨w.heap.size + 1, 3, none⟩ = some (.slice iA il ic) := q2 3 _ rfl; clear q1 q2)
    have hva1 := H0.out.fr hf1 id
    have ck := hva1.cell (i := 0) (by omega)
    have fk := hva1.f 0
    go_region
    have hva2 : VAt 71 25 (w1.setCell ⟨b, 0, none⟩ (.int .i64 (v 0 + 1))).drew b (updI v 0 (v 0 + 1)) := hva1.set 0 _
    have hf2 : Fr (fun i => i = b) w1 (w1.setCell ⟨b, 0, none⟩ (.int .i64 (v 0 + 1))).drew := ((Fr.refl (fun i => i = b) w1).setCell (p := ⟨b, 0, none⟩) (fun _ => rfl) _).drew
    have p0 := hf2.cell (by omega) (by omega) p0
    have p1 := hf2.cell (by omega) (by omega) p1
    have p2 := hf2.cell (by omega) (by omega) p2
    have r0 := hf2.cell (by omega) (by omega) r0
    have r1 := hf2.cell (by omega) (by omega) r1
    have r3 := hf2.cell (by omega) (by omega) r3
    have hf3 : Fr (fun i => i = b) w _ := (hf1.mono (fun _ _ h => h.elim)).tr hf2
    clear hf1 hf2 hva1 ck fk
    generalize (w1.setCell ⟨b, 0, none⟩ (.int .i64 (v 0 + 1))).drew = w2 at *
    have HV2 := Lib.hid hva2
    clear hva2
    by_cases he : err = 0
    · subst he
      go_wp2
      go_end0
      refine ⟨rfl, HV2.out.eq fun i => ?_, hf3⟩
      rw [HI.out]
      unfold updI
      by_cases h2 : i = 0
      · subst h2
        simp
      · simp [h2]
    · have he1 : (err != 0) = true := by simpa using he
      have hva3 := HV2.out
      have e9 : ∀ j, updI v 0 (v 0 + 1) (9 + j) = v (9 + j) := fun j => if_neg (by omega)
      go_wp2_with fail
      refine Calls.mono (fail_any b _ err _ HV2.out (by rw [e9]; exact hF0) (by rw [e9]; omega)) ?_
      rintro e w3 ⟨rfl, hv3, hf4⟩
      have HV3 := Lib.hid hv3
      clear hv3
      go_wp2
      go_end0
      refine ⟨rfl, HV3.out.eq fun i => ?_, hf3.tr hf4⟩
      rw [HI.out, if_pos he]
      unfold updI
      by_cases h1 : i = 9 + fOf err
      · subst h1
        simp
      · by_cases h2 : i = 0
        · subst h2
          simp [h1]
        · simp [h1, h2]
  · have hok := hkk rfl
    subst hok
    clear hkk hkn
    go_enter Try.func77, Try.ntmps77
    go_wp2_with (go_at_call 13; (with_reducible refine (HIS.out _).mono ?_); rintro e w1 ⟨rfl, hb1⟩; obtain ⟨hsz, q1, q2, hf1⟩ := two_boxes hb1; have p0 : w1.cell? ⟨w.heap.size, 0, none⟩ = some (.int .i64 (k : Nat)) := q1 0 _ rfl; have p1 : w1.cell? ⟨w.heap.size, 1, none⟩ = some (.string okey) := q1 1 _ rfl; have p2 : w1.cell? ⟨w.heap.size, 2, none⟩ = some (.string oval) := q1 2 _ rfl; have r0 : w1.cell? ⟨w.heap.size + 1, 0, none⟩ = some (.int .i64 err) := q2 0 _ rfl; have r1 : w1.cell? ⟨w.heap.size + 1, 1, none⟩ = some (.bool has) := q2 1 _ rfl; have r3 : w1.cell? ⟨w.heap.size + 1, 3, none⟩ = some (.slice iA il ic) := q2 3 _ rfl; clear q1 q2)
    have hva1 := H0.out.fr hf1 id
    have ck := hva1.cell (i := k) (by omega)
    have fk := hva1.f k
    go_region
    have hva2 : VAt 71 25 (w1.setCell ⟨b, k, none⟩ (.int .i64 (v k + 1))).drew b (updI v k (v k + 1)) := hva1.set k _
    have hf2 : Fr (fun i => i = b) w1 (w1.setCell ⟨b, k, none⟩ (.int .i64 (v k + 1))).drew := ((Fr.refl (fun i => i = b) w1).setCell (p := ⟨b, k, none⟩) (fun _ => rfl) _).drew
    have p0 := hf2.cell (by omega) (by omega) p0
    have p1 := hf2.cell (by omega) (by omega) p1
    have p2 := hf2.cell (by omega) (by omega) p2
    have r0 := hf2.cell (by omega) (by omega) r0
    have r1 := hf2.cell (by omega) (by omega) r1
    have r3 := hf2.cell (by omega) (by omega) r3
    have hf3 : Fr (fun i => i = b) w _ := (hf1.mono (fun _ _ h => h.elim)).tr hf2
    clear hf1 hf2 hva1 ck fk
    generalize (w1.setCell ⟨b, k, none⟩ (.int .i64 (v k + 1))).drew = w2 at *
    have HV2 := Lib.hid hva2
    clear hva2
    by_cases he : err = 0
    · subst he
      by_cases h1 : k = 1
      · subst h1
        have c21 : w2.cell? ⟨b, 21, none⟩ = some (.int .i64 (v 21)) := by
          have := HV2.out.cell (i := 21) (by omega)
          rwa [show updI v 1 (v 1 + 1) 21 = v 21 from if_neg (by omega)] at this
        have f21 := HV2.out.f 21
        go_wp2
        go_region
        go_end0
        refine ⟨rfl, (HV2.out.set 21 (v 21 + ((okey.size : Int) + oval.size))).eq fun i => ?_, hf3.tr ((Fr.refl (fun i => i = b) _).setCell (p := ⟨b, 21, none⟩) (fun _ => rfl) _).drew⟩
        rw [HI.out]
        unfold updI
        by_cases h2 : i = 21
        · subst h2
          simp
        · by_cases h3 : i = 1
          · subst h3
            simp
          · simp [h2, h3]
      have e1 : ((k : Int) == 1) = false := by simp; omega
      by_cases h4 : k = 4
      · subst h4
        cases has
        · go_wp2
          go_end0
          refine ⟨rfl, HV2.out.eq fun i => ?_, hf3⟩
          rw [HI.out]
          unfold updI
          by_cases h3 : i = 4
          · subst h3
            simp
          · simp [h3]
        · have c22 : w2.cell? ⟨b, 22, none⟩ = some (.int .i64 (v 22)) := by
            have := HV2.out.cell (i := 22) (by omega)
            rwa [show updI v 4 (v 4 + 1) 22 = v 22 from if_neg (by omega)] at this
          have f22 := HV2.out.f 22
          go_wp2
          go_end0
          refine ⟨rfl, (HV2.out.set 22 (v 22 + 1)).eq fun i => ?_, hf3.tr ((Fr.refl (fun i => i = b) _).setCell (p := ⟨b, 22, none⟩) (fun _ => rfl) _)⟩
          rw [HI.out]
          unfold updI
          by_cases h2 : i = 22
          · subst h2
            simp
          · by_cases h3 : i = 4
            · subst h3
              simp
            · simp [h2, h3]
      have e4 : ((k : Int) == 4) = false := by simp; omega
      by_cases h5 : k = 5
      · subst h5
        have c22 : w2.cell? ⟨b, 22, none⟩ = some (.int .i64 (v 22)) := by
          have := HV2.out.cell (i := 22) (by omega)
          rwa [show updI v 5 (v 5 + 1) 22 = v 22 from if_neg (by omega)] at this
        have f22 := HV2.out.f 22
        go_wp2
        go_region
        go_end0
        refine ⟨rfl, (HV2.out.set 22 (v 22 + (il : Int))).eq fun i => ?_, hf3.tr ((Fr.refl (fun i => i = b) _).setCell (p := ⟨b, 22, none⟩) (fun _ => rfl) _).drew⟩
        rw [HI.out]
        unfold updI
        by_cases h2 : i = 22
        · subst h2
          simp
        · by_cases h3 : i = 5
          · subst h3
            simp
          · simp [h2, h3]
      have e5 : ((k : Int) == 5) = false := by simp; omega
      go_wp2
      go_end0
      refine ⟨rfl, HV2.out.eq fun i => ?_, hf3⟩
      rw [HI.out]
      unfold updI
      by_cases h3 : i = k
      · subst h3
        simp [h1, h4, h5]
      · simp [h3, h1, h4, h5]
    · have he1 : (err != 0) = true := by simpa using he
      have hva3 := HV2.out
      have e9 : ∀ j, updI v k (v k + 1) (9 + j) = v (9 + j) := fun j => if_neg (by omega)
      go_wp2_with fail
      refine Calls.mono (fail_any b _ err _ HV2.out (by rw [e9]; exact hF0) (by rw [e9]; omega)) ?_
      rintro e w3 ⟨rfl, hv3, hf4⟩
      have HV3 := Lib.hid hv3
      clear hv3
      go_wp2
      go_end0
      refine ⟨rfl, HV3.out.eq fun i => ?_, hf3.tr hf4⟩
      rw [HI.out, if_pos he]
      unfold updI
      have hne : 9 + fOf err ≠ k := by omega
      by_cases h1 : i = 9 + fOf err
      · subst h1
        simp [hne]
      · by_cases h2 : i = k
        · subst h2
          simp [h1]
        · simp [h1, h2]
end Go.Proofs.Ytdfgdnaejnngoaa
