import Derived.Test.YtdfgdnaejnngoaaOut3
import Derived.IntWalk
namespace Go.Proofs.Ytdfgdnaejnngoaa
open Go.RowKit

/-- a number's bytes, the highest first -/
def numBytes (wd : Nat) (n : Nat) : List UInt8 := (List.range wd).reverse.map fun i => UInt8.ofNat (n / 256 ^ i)
theorem numBytes_length (wd n : Nat) : (numBytes wd n).length = wd := by simp [numBytes]
theorem numBytes_zero (n : Nat) : numBytes 0 n = [] := rfl
theorem numBytes_succ (wd n : Nat) : numBytes (wd + 1) n = UInt8.ofNat (n / 256 ^ wd) :: numBytes wd n := by
  simp [numBytes, List.range_succ]

theorem numLit_pred (wd : Int) (b : Nat) (ns : List Int) (w : World) (h : isWidth wd = true) (hb : b < w.heap.size) (hc : w.cell? ⟨b, 0, none⟩ = some (.int .i64 wd)) :
    PredB Try.prog 60 #[.pointer (some ⟨b, 0, none⟩)] w (ns.map fun n => Value.int .i64 n) (fun v => match v with | .int _ n => !fitsB wd n | _ => false) := by
  intro W hbel v hv
  obtain ⟨n, hs, rfl⟩ := List.mem_map.1 hv
  exact (numLit_any wd n b W h (keep_cell hbel hb hc)).mono fun e w' ⟨he, hw⟩ => ⟨he, hw ▸ Below.refl _ _⟩

theorem shr_byte (n j : Nat) (hj : j < 8) : Op.shift .shr .i64 (n : Int) .i64 (IntKind.i64.wrap (8 * (j : Int))) = pure (.int .i64 ((n / 256 ^ j : Nat) : Int)) := by
  have e : IntKind.i64.wrap (8 * (j : Int)) = 8 * (j : Int) := IntWalk.i64_in _ (by omega)
  rw [e, shift_shr_any _ _ _ _ (by omega)]
  have e2 : min (8 * (j : Int)).toNat IntKind.i64.bits = 8 * j := by
    have : IntKind.i64.bits = 64 := rfl
    omega
  have e3 : (256 : Nat) ^ j = 2 ^ (8 * j) := by rw [Nat.pow_mul]
  rw [e2, e3, Int.natCast_ediv, Int.natCast_pow]
  rfl
theorem byte_mod (q : Nat) : ((UInt8.ofNat q).toNat : Int) = (q : Int) % 256 := by
  simp [UInt8.toNat_ofNat']

theorem drew_size {B : Nat} {w : World} (h : B ≤ w.heap.size) : B ≤ w.drew.heap.size := h
theorem OutB_drew {w : World} {B b : Nat} {G : Option Nat} {l : List UInt8} (h : OutB w B b G l) : OutB w.drew B b G l := h
theorem OutStep_drew {w w' : World} {b : Nat} {G G' : Option Nat} (h : OutStep w.drew w' b G G') : OutStep w w' b G G' := ⟨⟨h.fr.os, h.fr.tape, h.fr.output, h.fr.size, h.fr.block⟩, h.at_⟩
theorem fitsB_nonneg {wd n : Int} (h : fitsB wd n = true) : 0 ≤ n := by simp [fitsB] at h; exact h.1

set_option maxHeartbeats 1000000 in
set_option maxRecDepth 100000 in
theorem outNum_B (B b : Nat) (G : Option Nat) (l : List UInt8) (A : Option Addr) (cap wd : Nat) (zs : List Int) (w : World) (h : OutB w B b G l) (hBw : B ≤ w.heap.size)
    (hwd : isWidth wd = true) (hl : zs.length ≤ 1000000) (he : Elems w A 1 (zs.map fun n => [.int .i64 n])) (hA : ∀ ad, A = some ad → ad.block ≠ b ∧ G ≠ some ad.block)
    (hs : ∀ n ∈ zs, fitsB wd n = true) (hn : ∀ n ∈ zs, n ≤ 9223372036854775807) (hlen : l.length + zs.length * 8 ≤ 1000000000) :
    Calls Try.prog 35 #[.pointer (some ⟨b, 0, none⟩), .int .i64 wd, .slice A zs.length cap] w fun e w' => e = .returned (.int .i64 0) ∧ ∃ G', OutB w' B b G' (l ++ zs.flatMap fun z => numBytes wd z.toNat) ∧ OutStep w w' b G G' := by
  have hw8 : wd ≤ 8 := by simp [isWidth] at hwd; omega
  have hcf := fun W h1 h2 h3 => containsFunc_int A cap zs (fun v => match v with | .int _ n => !fitsB wd n | _ => false) 60 #[.pointer (some ⟨w.heap.size, 0, none⟩)] W (enters_of Try.func60 (by kernel_rfl) rfl) (by omega) h1 (numLit_pred wd w.heap.size _ W hwd h2 h3)
  have hany : (zs.any fun n => !fitsB wd n) = false := by
    rw [List.any_eq_false]
    intro x hm
    simp [hs x hm]
  simp only [hany] at hcf
  have Hcf := Lib.hid hcf
  have Hlen := Lib.hid hlen
  have Hs := Lib.hid hs
  have Hn := Lib.hid hn
  have hiw := fun W => isWidth_any wd W
  simp only [hwd] at hiw
  have Hiw := Lib.hid hiw
  have He := Lib.hid he
  have HA := Lib.hid hA
  have H0 := Lib.hid h
  clear hcf hany hlen hs hiw hn he hA h
  go_enter Try.func35, Try.ntmps35
  go_wp2_with (go_at_call 58; (with_reducible refine (Hiw.out _).mono ?_); rintro e w1 ⟨rfl, rfl⟩)
  refine (Hcf.out _ (He.out.below (Below.alloc (Below.refl _ _) (Nat.le_refl _) _)) (by simp) (by simp)).mono ?_
  rintro e w1 ⟨rfl, hb1⟩
  obtain ⟨hlt1, hc1⟩ := new_cells hb1
  have hcw := hc1 0 _ rfl
  go_wp2
  have hb1' : Below w.heap.size w w1 := below_step (w := w.alloc (.cells #[.int .i64 wd] 3)) (Below.alloc (Below.refl _ _) (Nat.le_refl _) _) hb1 (by simp)
  have hst1 : OutStep w w1 b G G := ⟨Fr.of_below hb1', .inl rfl⟩
  have ho1 : OutB w1 B b G l := H0.out.below hb1'
  have hg1 : G ≠ some w.heap.size := fun e => by have := (OutAt.glt ho1 _ e).2; have := (OutAt.glt H0.out _ e).2; omega
  clear hc1 hb1 hb1' Hcf Hiw
  go_loopw [24, 8, 9] (fun i _ _ wr => ∃ (k : Nat) (G' : Option Nat), k ≤ zs.length ∧ i = .int .i64 k ∧ OutB wr B b G' (l ++ (zs.take k).flatMap fun z => numBytes wd z.toNat) ∧ OutStep w wr b G G' ∧ G' ≠ some w.heap.size ∧ w.heap.size < wr.heap.size ∧ wr.cell? ⟨w.heap.size, 0, none⟩ = some (.int .i64 wd)) (fun i _ _ _ => zs.length - (intOf i).toNat)
  case atStart => exact ⟨0, G, Nat.zero_le _, rfl, by simpa using ho1, hst1, hg1, hlt1, hcw⟩
  case round =>
    obtain ⟨k, G', hk, rfl, ho, hst, hgn, hlw, hcb⟩ := hrel
    clear hcw hlt1 hg1 hst1 ho1
    have Ho := Lib.hid ho
    clear ho
    by_cases hlt : k < zs.length
    · obtain ⟨z, hzk⟩ : ∃ s, zs[k]? = some s := ⟨zs[k], List.getElem?_eq_getElem hlt⟩
      have hmem := List.mem_of_getElem? hzk
      have hz0 := fitsB_nonneg (Hs.out z hmem)
      have hzm := Hn.out z hmem
      obtain ⟨n, rfl⟩ := Int.eq_ofNat_of_zero_le hz0
      have htk : ((zs.take (k + 1)).flatMap fun z => numBytes wd z.toNat) = ((zs.take k).flatMap fun z => numBytes wd z.toNat) ++ numBytes wd n := by
        rw [List.take_add_one, hzk]; simp
      have hLk : ((zs.take k).flatMap fun z => numBytes wd z.toNat).length = k * wd := by
        have : ∀ ys : List Int, (ys.flatMap fun z => numBytes wd z.toNat).length = ys.length * wd := fun ys => by
          induction ys with
          | nil => simp
          | cons y ys ih => simp only [List.flatMap_cons, List.length_append, ih, numBytes_length, List.length_cons]; rw [Nat.succ_mul]; omega
        rw [this, List.length_take]; congr 1; omega
      have hle : k * wd + wd ≤ zs.length * 8 := by
        have : (k + 1) * wd ≤ zs.length * 8 := Nat.mul_le_mul (by omega) hw8
        rw [Nat.succ_mul] at this; omega
      have he' : Elems wr A 1 (zs.map fun n => [.int .i64 n]) := He.out.fr hst.fr (fun ad ha hh => by
        rcases hh with e | e
        · exact (HA.out ad ha).1 e
        · exact (HA.out ad ha).2 e)
      obtain ⟨b', off, rfl, hbl, hc⟩ := he' k [.int .i64 (n : Int)] (by simp [hzk])
      have hcell := hc 0 _ rfl
      simp only [Nat.mul_one, Nat.add_zero] at hcell
      have hsz : B ≤ wr.heap.size := Nat.le_trans hBw hst.fr.size
      have Hzm := Lib.hid hzm
      have Htk := Lib.hid htk
      have Hle := Lib.hid hle
      have HLk := Lib.hid hLk
      clear hzm htk hle hLk he' hc hzk hmem hz0
      have HST := Lib.hid hst
      clear hst
      go_wp2
      obtain ⟨wo, rfl⟩ : ∃ wo : World, wo = wr := ⟨_, rfl⟩
      go_loopw [9] (fun i wr => ∃ (j : Nat) (G2 : Option Nat) (pre : List UInt8), j ≤ wd ∧ i = .int .i64 ((j : Int) - 1) ∧ numBytes wd n = pre ++ numBytes j n ∧ OutB wr B b G2 (l ++ ((zs.take k).flatMap fun z => numBytes wd z.toNat) ++ pre) ∧ OutStep wo wr b G' G2 ∧ G2 ≠ some w.heap.size ∧ w.heap.size < wr.heap.size ∧ wr.cell? ⟨w.heap.size, 0, none⟩ = some (.int .i64 wd)) (fun i _ => (intOf i + 1).toNat)
      case atStart => exact ⟨wd, G', [], Nat.le_refl _, rfl, rfl, by simpa using Ho.out, OutStep.refl, hgn, hlw, hcb⟩
      case round =>
        obtain ⟨j, G2, pre, hj, rfl, hpre, ho, hst, hgn2, hlw2, hcb2⟩ := hrel
        have Hpre := Lib.hid hpre
        have Ho2 := Lib.hid ho
        have HST2 := Lib.hid hst
        have hsz2 : B ≤ wr.heap.size := Nat.le_trans hsz hst.fr.size
        clear hpre ho hst hcb hcell
        cases j with
        | zero =>
          go_wp2
          go_roundw
          case rel => exact ⟨k + 1, G2, by omega, by go_num, by
            have h1 := Ho2.out
            have h2 := Hpre.out
            rw [numBytes_zero, List.append_nil] at h2
            rw [Htk.out, h2, ← List.append_assoc]; exact h1, HST.out.trans HST2.out, hgn2, hlw2, hcb2⟩
          case measure => simp [intOf]; omega
        | succ j =>
          have ej : (((j + 1 : Nat) : Int) - 1) = (j : Int) := by omega
          rw [ej]
          clear ej
          have hshr := shr_byte n j (by omega)
          have hnb := numBytes_succ j n
          generalize n / 256 ^ j = q at hshr hnb
          have Hnb := Lib.hid hnb
          clear hnb
          have hpl : (l ++ ((zs.take k).flatMap fun z => numBytes wd z.toNat) ++ pre).length + 1 ≤ 1000000000000 := by
            have h1 := congrArg List.length Hpre.out
            have h2 := HLk.out
            have h3 := Hle.out
            have h4 := Hlen.out
            simp only [List.length_append, numBytes_length] at h1
            simp only [List.length_append, h2]
            omega
          have Hpl := Lib.hid hpl
          clear hpl
          go_wp2
          refine rg_start (n := 9) (fun w' => True) #[false, false, false, false, false, false, false, false, false] (by kernel_rfl) rfl rfl trivial (fun hHeld => ?_)
          refine rg_take (i := 0) (N := (some 34)) (v := ?_) (a' := ?_) #[true, false, false, false, false, false, false, false, false] rfl rfl (by kernel_rfl) (fun _ _ _ h => h) (by rfl) ?_ hHeld ?_ ?_
          rotate_left 2
          · rintro w' _s
            go_simp
            try with_reducible rfl
          · simp only [Act.put, List.setIfInBounds_toArray, List.set_cons_zero, List.set_cons_succ]
            rfl
          refine rg_take (i := 1) (N := (some 35)) (v := ?_) (a' := ?_) #[true, true, false, false, false, false, false, false, false] rfl rfl (by kernel_rfl) (fun _ _ _ h => h) (by rfl) ?_ hHeld ?_ ?_
          rotate_left 2
          · rintro w' _s
            go_simp
            try with_reducible rfl
          · simp only [Act.put, List.setIfInBounds_toArray, List.set_cons_zero, List.set_cons_succ]
            rfl
          refine rg_take (i := 2) (N := (some 36)) (v := ?_) (a' := ?_) #[true, true, true, false, false, false, false, false, false] rfl rfl (by kernel_rfl) (fun _ _ _ h => h) (by rfl) ?_ hHeld ?_ ?_
          rotate_left 2
          · rintro w' _s
            go_simp
            try with_reducible rfl
          · simp only [Act.put, List.setIfInBounds_toArray, List.set_cons_zero, List.set_cons_succ]
            rfl
          refine rg_take (i := 3) (N := (some 37)) (v := ?_) (a' := ?_) #[true, true, true, true, false, false, false, false, false] rfl rfl (by kernel_rfl) (fun _ _ _ h => h) (by rfl) ?_ hHeld ?_ ?_
          rotate_left 2
          · rintro w' _s
            go_simp
            try with_reducible rfl
          · simp only [Act.put, List.setIfInBounds_toArray, List.set_cons_zero, List.set_cons_succ]
            rfl
          refine rg_take (i := 4) (N := (some 38)) (v := ?_) (a' := ?_) #[true, true, true, true, true, false, false, false, false] rfl rfl (by kernel_rfl) (fun _ _ _ h => h) (by rfl) ?_ hHeld ?_ ?_
          rotate_left 2
          · rintro w' _s
            go_simp
            try with_reducible rfl
          · simp only [Act.put, List.setIfInBounds_toArray, List.set_cons_zero, List.set_cons_succ]
            rfl
          refine rg_take (i := 5) (N := (some 39)) (v := ?_) (a' := ?_) #[true, true, true, true, true, true, false, false, false] rfl rfl (by kernel_rfl) (fun _ _ _ h => h) (by rfl) ?_ hHeld ?_ ?_
          rotate_left 2
          · rintro w' _s
            go_simp
            try with_reducible rfl
          · simp only [Act.put, List.setIfInBounds_toArray, List.set_cons_zero, List.set_cons_succ]
            rfl
          refine rg_take (i := 6) (N := (some 40)) (v := ?_) (a' := ?_) #[true, true, true, true, true, true, true, false, false] rfl rfl (by kernel_rfl) (fun _ _ _ h => h) (by rfl) ?_ hHeld ?_ ?_
          rotate_left 2
          · rintro w' _s
            go_simp
            try with_reducible rfl
          · simp only [Act.put, List.setIfInBounds_toArray, List.set_cons_zero, List.set_cons_succ]
            rfl
          refine rg_take (i := 7) (N := (some 41)) (v := ?_) (a' := ?_) #[true, true, true, true, true, true, true, true, false] rfl rfl (by kernel_rfl) (fun _ _ _ h => h) (by rfl) ?_ hHeld ?_ ?_
          rotate_left 2
          · rintro w' _s
            go_simp
            try with_reducible rfl
          · simp only [Act.put, List.setIfInBounds_toArray, List.set_cons_zero, List.set_cons_succ]
            rfl
          refine rg_one (i := 8) #[true, true, true, true, true, true, true, true, true] rfl (by kernel_rfl) (by rfl) (fun K hK => ?_)
          repeat go_step
          ((with_reducible refine (writeByte_C B b G2 _ _ (UInt8.ofNat q) _ (OutB_drew Ho2.out) Hpl.out (byte_mod q).symm (drew_size hsz2)).mono ?_); rintro e w3 ⟨rfl, G3, ho3, hst3⟩)
          try dsimp only
          refine hK.out _ _ ?_ (fun hHeld => ?_)
          · trivial
          clear hK K
          refine rg_done (by kernel_rfl) ?_
          have hg3 : G3 ≠ some w.heap.size := by
            rcases hst3.at_ with e | ⟨g, e, hg⟩
            · exact e ▸ hgn2
            · rw [e]; intro e'; injection e' with e'; have : wr.heap.size ≤ g := hg; omega
          have hbn : w.heap.size ≠ b := by have := OutAt.lt H0.out; omega
          have hcb3 : w3.cell? ⟨w.heap.size, 0, none⟩ = some (.int .i64 wd) := hst3.fr.cell (w := wr.drew) hlw2 (by rintro (e | e); exact hbn e; exact hgn2 e) hcb2
          have hlw3 : w.heap.size < w3.heap.size := Nat.lt_of_lt_of_le hlw2 hst3.fr.size
          have Ho3 := Lib.hid ho3
          have HST3 := Lib.hid hst3
          clear ho3 hst3
          go_wp2
          go_roundw
          case rel => exact ⟨j, G3, pre ++ [UInt8.ofNat q], by omega, by go_num, by rw [Hpre.out, Hnb.out]; simp, by rw [← List.append_assoc]; exact Ho3.out, HST2.out.trans (OutStep_drew HST3.out), hg3, hlw3, hcb3⟩
          case measure => simp [intOf]
    · go_wp2
      go_ret
      exact ⟨rfl, G', by have := Ho.out; rwa [List.take_of_length_le (by omega)] at this, hst⟩
end Go.Proofs.Ytdfgdnaejnngoaa
