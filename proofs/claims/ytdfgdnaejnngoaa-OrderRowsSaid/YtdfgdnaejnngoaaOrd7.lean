import Derived.Test.YtdfgdnaejnngoaaOrd6
namespace Go.Proofs.Ytdfgdnaejnngoaa
open Go.RowKit

/-- what an order's numbers may be -/
def Ord.fits (o : Ord) : Prop := 0 ≤ o.n ∧ o.n.toNat < 18446744073709551616

def predNot : Value → Bool := fun v => match v with
  | .agg cs => match cs.toList with
    | [.int .i64 k, .string key, .string val, .int .u64 n, .string lo, .string hi] => !isOrd ⟨k, key, val, n, lo, hi⟩
    | _ => false
  | _ => false
theorem predNot_v (o : Ord) : predNot o.v = !isOrd o := rfl
theorem isNot_pred (os : List Ord) (w : World) : PredB Try.prog 34 #[] w (os.map Ord.v) predNot := by
  intro W hb v hv
  obtain ⟨o, hs, rfl⟩ := List.mem_map.1 hv
  exact (isNot_any o W).mono fun e w' ⟨he, hw⟩ => ⟨by rw [he, predNot_v], hw⟩

theorem bytes_bad (A : Option Addr) (cap : Nat) (os : List Ord) (w : World) (hl : os.length ≤ 1000000) (he : Elems w A 6 (os.map Ord.cells)) (hbad : os.all isOrd = false) :
    Calls Try.prog 12 #[.slice A os.length cap] w fun e w' => e = .returned (.tuple #[.string ⟨#[]⟩, .int .i64 1]) ∧ Below w.heap.size w w' := by
  have hcf := containsFunc_ord A cap os predNot 34 #[] w (enters_of Try.func34 (by kernel_rfl) rfl) (by omega) he (isNot_pred os w)
  have hany : (os.any fun o => predNot o.v) = true := by
    rw [List.any_eq_true]
    rw [List.all_eq_false] at hbad
    obtain ⟨o, hm, ho⟩ := hbad
    exact ⟨o, hm, by rw [predNot_v]; simpa using ho⟩
  rw [hany] at hcf
  have Hcf := Lib.hid hcf
  clear hcf hany he
  go_enter Try.func12, Try.ntmps12
  go_wp2_with (go_at_call 33; (with_reducible refine Hcf.out.mono ?_); rintro e w1 ⟨rfl, hb1⟩)
  go_ret2
  exact ⟨rfl, hb1⟩

theorem numBytes1_fits {k : Int} (h : okKind k = true) : fitsB 1 k = true ∧ k ≤ 9223372036854775807 := by
  simp [okKind] at h; simp [fitsB]; omega

theorem num_one (k : Int) (B b g : Nat) (G : Option Nat) (l : List UInt8) (W : World) (h : OutB W B b G l) (hBw : B ≤ W.heap.size) (hg : W.heap.size = g) (hk : okKind k = true) (hlen : l.length ≤ 100000000) :
    Calls Try.prog 35 #[.pointer (some ⟨b, 0, none⟩), .int .i64 1, .slice (some ⟨g, 0, none⟩) 1 1] (W.alloc (.cells #[.int .i64 k] 3))
      fun e w' => e = .returned (.int .i64 0) ∧ ∃ G', OutB w' B b G' (l ++ numBytes 1 k.toNat) ∧ OutStep W w' b G G' := by
  subst hg
  have hb := Below.alloc (Below.refl W.heap.size W) (Nat.le_refl _) (.cells #[.int .i64 k] 3)
  have hf := numBytes1_fits hk
  refine (outNum_B B b G l (some ⟨W.heap.size, 0, none⟩) 1 1 [k] _ (OutB.below h hb) (by simp; omega) (by decide) (by simp) (Elems.of_block (heap_alloc_new _ _) (by simp) (by simp)) ?_ (by simpa using hf.1) (by simpa using hf.2) (by simp only [List.length_cons, List.length_nil]; omega)).mono ?_
  · intro ad e; cases e
    have h1 := OutAt.lt h
    refine ⟨by simp; omega, fun e => ?_⟩
    have := (OutAt.glt h _ e).2
    simp at this
  · rintro e w' ⟨rfl, G', ho, hst⟩
    exact ⟨rfl, G', by simpa using ho, OutStep.of_below hb hst⟩

theorem fieldRows_le (k : Int) : (fieldRows k).length ≤ 2 := by
  unfold fieldRows
  repeat' split
  all_goals simp

set_option maxHeartbeats 1000000 in
set_option maxRecDepth 100000 in
theorem bytes_ok (A : Option Addr) (cap : Nat) (os : List Ord) (w : World) (hl : os.length ≤ 1000000) (he : Elems w A 6 (os.map Ord.cells)) (hok : os.all isOrd = true) (hfit : ∀ o ∈ os, o.fits)
    (hlen : (os.flatMap ordBytes).length ≤ 10000000) :
    Calls Try.prog 12 #[.slice A os.length cap] w fun e w' => e = .returned (.tuple #[.string ⟨(os.flatMap ordBytes).toArray⟩, .int .i64 0]) ∧ Below w.heap.size w w' := by
  have hcf := containsFunc_ord A cap os predNot 34 #[] w (enters_of Try.func34 (by kernel_rfl) rfl) (by omega) he (isNot_pred os w)
  have hany : (os.any fun o => predNot o.v) = false := by
    rw [List.any_eq_false]
    rw [List.all_eq_true] at hok
    intro o hm
    rw [predNot_v]; simpa using hok o hm
  rw [hany] at hcf
  have Hcf := Lib.hid hcf
  have Hok := Lib.hid hok
  have Hfit := Lib.hid hfit
  have Hlen := Lib.hid hlen
  have He := Lib.hid he
  clear hcf hany he hok hfit hlen
  go_enter Try.func12, Try.ntmps12
  go_wp2_with (go_at_call 33; (with_reducible refine Hcf.out.mono ?_); rintro e w1 ⟨rfl, hb1⟩)
  have ho1 := OutAt.new w1
  have hst1 : OutStep (w1.alloc (.cells #[.pointer none, .slice none 0 0] 92)) (w1.alloc (.cells #[.pointer none, .slice none 0 0] 92)) w1.heap.size none none := OutStep.refl
  have he1 := He.out.below (below_alloc (o := .cells #[.pointer none, .slice none 0 0] 92) hb1)
  have hbw := below_alloc (o := .cells #[.pointer none, .slice none 0 0] 92) hb1
  have hbz : w1.heap.size < (w1.alloc (.cells #[.pointer none, .slice none 0 0] 92)).heap.size := by simp
  have hw1 := hb1.size
  clear Hcf
  generalize (w1.alloc (.cells #[.pointer none, .slice none 0 0] 92)) = W at ho1 hst1 he1 hbw hbz ⊢
  generalize w1.heap.size = b at ho1 hst1 hbz hw1 ⊢
  clear he1
  go_loopw [15, 6, 7, 8, 10] (fun i _ _ _ _ wr => ∃ (k : Nat) (G' : Option Nat), k ≤ os.length ∧ i = .int .i64 k ∧ OutB wr b b G' ((os.take k).flatMap ordBytes) ∧ OutStep W wr b none G') (fun i _ _ _ _ _ => os.length - (intOf i).toNat)
  case atStart => exact ⟨0, none, Nat.zero_le _, rfl, ho1, hst1⟩
  case round =>
    obtain ⟨k, G', hk, rfl, ho, hst⟩ := hrel
    have hbel : Below w.heap.size w wr := hbw.trans (hst.fr.to_below hbw.size (fun i hi => by rintro (e | e); omega; cases e))
    have hbr : b < wr.heap.size := Nat.lt_of_lt_of_le hbz hst.fr.size
    have Ho := Lib.hid ho
    have HST := Lib.hid hst
    clear ho hst ho1 hst1 hbw
    by_cases hlt : k < os.length
    · obtain ⟨o, hok⟩ : ∃ s, os[k]? = some s := ⟨os[k], List.getElem?_eq_getElem hlt⟩
      have hmem := List.mem_of_getElem? hok
      have hio := List.all_eq_true.1 Hok.out o hmem
      have hfo := Hfit.out o hmem
      obtain ⟨b', off, rfl, hbl, hc⟩ := He.out.below hbel k o.cells (by simp [hok])
      have c0 := hc 0 _ rfl
      have c1 := hc 1 _ rfl
      have c2 := hc 2 _ rfl
      have c3 := hc 3 _ rfl
      have c4 := hc 4 _ rfl
      have c5 := hc 5 _ rfl
      simp only [Nat.add_zero] at c0
      have htk : (os.take (k + 1)).flatMap ordBytes = (os.take k).flatMap ordBytes ++ ordBytes o := by
        rw [List.take_add_one, hok]; simp
      have hle : ((os.take k).flatMap ordBytes).length + (ordBytes o).length ≤ 10000000 := by
        refine Nat.le_trans ?_ Hlen.out
        rw [← List.length_append, ← htk]
        conv => rhs; rw [← List.take_append_drop (k + 1) os, List.flatMap_append, List.length_append]
        omega
      have hkind : okKind o.kind = true := by simp [isOrd] at hio; exact hio.1
      have hlong : tooLong o = false := by simp [isOrd] at hio; exact hio.2.2
      have hob : ordBytes o = numBytes 1 o.kind.toNat ++ (fieldBytes o).flatten := rfl
      have Htk := Lib.hid htk
      have Hle := Lib.hid hle
      have Hob := Lib.hid hob
      have Hkind := Lib.hid hkind
      have Hlong := Lib.hid hlong
      have Hfo := Lib.hid hfo
      have hob0 := OutB.below Ho.out (Below.alloc (Below.refl wr.heap.size wr) (Nat.le_refl _) (.cells #[.int .i64 o.kind, .string o.key, .string o.val, .int .u64 o.n, .string o.lo, .string o.hi] 24))
      have Hob0 := Lib.hid hob0
      clear hob0 htk hle hob hkind hlong hfo hio hmem hok hc
      go_wp2_with fail
      (with_reducible refine (num_one o.kind b b _ _ _ _ Hob0.out ?_ ?_ Hkind.out ?_).mono ?_)
      · simp; omega
      · simp
      · have := Hle.out; omega
      rintro e w2 ⟨rfl, G2, ho2, hst2⟩
      have hgr := OutAt.glt Ho.out
      have hoa2 : OrdAt w2 wr.heap.size o := OrdAt.fr (w := wr.alloc (.cells #[.int .i64 o.kind, .string o.key, .string o.val, .int .u64 o.n, .string o.lo, .string o.hi] 24)) (heap_alloc_new wr _) hst2.fr (by
        rintro (e | e)
        · omega
        · have := (hgr _ e).2; omega)
      have d0 := hoa2.c0
      have hg2 : G2 ≠ some wr.heap.size := by
        rcases hst2.at_ with e | ⟨g, e, hg⟩
        · rw [e]; intro e'; have := (hgr _ e').2; omega
        · rw [e]; intro e'; injection e' with e'; have : wr.heap.size + 1 ≤ g := by simpa using hg
          omega
      have hst2' := OutStep.of_below (Below.alloc (Below.refl wr.heap.size wr) (Nat.le_refl _) _) hst2
      have hob2 : wr.heap.size < w2.heap.size := hoa2.lt
      have HST2 := Lib.hid (HST.out.trans hst2')
      have Ho2 := Lib.hid ho2
      have Hoa2 := Lib.hid hoa2
      clear hst2 ho2 hoa2 hst2' HST c0 c1 c2 c3 c4 c5
      go_wp2_with (go_at_call 36; (with_reducible refine (fields_any o.kind _).mono ?_); rintro e w3 ⟨A2, cap2, rfl, hE, hAd, hb3⟩)
      have hoa3 := Hoa2.out.fr (Fr.of_below (S := fun _ => False) hb3) (fun h => h)
      have ho3 := OutB.below Ho2.out hb3
      have hst3 := HST2.out.trans (⟨Fr.of_below hb3, .inl rfl⟩ : OutStep w2 w3 b G2 G2)
      have hg2lt := OutAt.glt Ho2.out
      have HE := Lib.hid hE
      have HAd := Lib.hid hAd
      have Hoa3 := Lib.hid hoa3
      have Ho3 := Lib.hid ho3
      have HST3 := Lib.hid hst3
      have hb23 := hb3.size
      have Hg2lt := Lib.hid hg2lt
      have Hgr := Lib.hid hgr
      clear hE hAd hoa3 ho3 hst3 hb3 Ho2 HST2 Hoa2 d0 hg2lt hgr
      have hw := fun j r h => row_writes o Hlong.out Hfo.out.1 Hfo.out.2 j r h
      have Hw := Lib.hid hw
      have Hfl := Lib.hid (fieldBytes_length o)
      clear hw
      generalize hL1 : (os.take k).flatMap ordBytes ++ numBytes 1 o.kind.toNat = L1 at Ho3
      have HL1 := Lib.hid hL1
      clear hL1
      have hrl := fieldRows_le o.kind
      generalize hrows : fieldRows o.kind = rows at HE Hw Hfl hrl
      clear hrows
      generalize hfb : fieldBytes o = fbs at Hob Hfl Hw
      clear hfb
      have Htot : Hid (L1.length + fbs.flatten.length ≤ 10000000) := Lib.hid (by
        have h1 := Hle.out
        rw [Hob.out, List.length_append] at h1
        rw [← HL1.out, List.length_append]
        omega)
      obtain ⟨wo, rfl⟩ : ∃ wo : World, wo = wr := ⟨_, rfl⟩
      go_loopw [31, 10] (fun i _ wr => ∃ (j : Nat) (G3 : Option Nat), j ≤ rows.length ∧ i = .int .i64 j ∧ OutB wr b b G3 (L1 ++ (fbs.take j).flatten) ∧ OutStep w3 wr b G2 G3) (fun i _ _ => rows.length - (intOf i).toNat)
      case atStart => exact ⟨0, G2, Nat.zero_le _, rfl, by simpa using Ho3.out, OutStep.refl⟩
      case round =>
        obtain ⟨j, G3, hj, rfl, ho4, hst4⟩ := hrel
        have hbr4 : b < wr.heap.size := OutAt.lt ho4
        have hoa4 : OrdAt wr wo.heap.size o := Hoa3.out.fr hst4.fr (by
          rintro (e | e)
          · omega
          · exact hg2 e)
        have hE4 : Elems wr A2 2 rows := HE.out.fr hst4.fr (fun ad ha hh => by
          have h1 := HAd.out ad ha
          rcases hh with e | e
          · omega
          · have := (Hg2lt.out _ e).2; omega)
        have Ho4 := Lib.hid ho4
        have HST4 := Lib.hid hst4
        clear ho4 hst4
        by_cases hjl : j < rows.length
        · obtain ⟨r, hr⟩ : ∃ s, rows[j]? = some s := ⟨rows[j], List.getElem?_eq_getElem hjl⟩
          obtain ⟨f, g, bs, rfl, hbs, ef, hwf⟩ := Hw.out j r hr
          obtain ⟨ba, offa, rfl, hbla, hca⟩ := hE4 j _ hr
          have k0 := hca 0 _ rfl
          have k1 := hca 1 _ rfl
          simp only [Nat.add_zero] at k0
          have d0 := hoa4.c0
          have d1 := hoa4.c1
          have d2 := hoa4.c2
          have d3 := hoa4.c3
          have d4 := hoa4.c4
          have d5 := hoa4.c5
          have hol := hoa4.lt
          have htj : (fbs.take (j + 1)).flatten = (fbs.take j).flatten ++ bs := by
            rw [List.take_add_one, hbs]; simp
          have hlj : (L1 ++ (fbs.take j).flatten).length + bs.length ≤ 100000000 := by
            have h1 := Htot.out
            have h2 : (fbs.take j).flatten.length + bs.length ≤ fbs.flatten.length := by
              rw [← List.length_append, ← htj]
              conv => rhs; rw [← List.take_append_drop (j + 1) fbs, List.flatten_append, List.length_append]
              omega
            rw [List.length_append]
            omega
          have hcall := fun W h1 h2 => hwf b b G3 (L1 ++ (fbs.take j).flatten) W h1 h2 hlj
          simp only [Ord.v_def] at hcall
          have Hcall := Lib.hid hcall
          have Htj := Lib.hid htj
          have hob4 := OutB.below Ho4.out (Below.alloc (Below.refl wr.heap.size wr) (Nat.le_refl _) (.cells #[.func (.func f) #[] #[], .func (.func g) #[] #[]] 100))
          have Hob4 := Lib.hid hob4
          have e0 : ∀ args w, (callFunc f args).run Try.prog w = .ok (.enter f args) w := ef
          clear hcall htj hlj hwf hbs hr hca hob4 ef hoa4 hE4
          go_wp2_with ((with_reducible refine (Hcall.out _ Hob4.out ?_).mono ?_); rotate_left; rintro e w5 ⟨rfl, G5, ho5, hst5⟩)
          · go_roundw
            case rel => exact ⟨j + 1, G5, by omega, by go_num, by rw [Htj.out, ← List.append_assoc]; exact ho5, HST4.out.trans (OutStep.of_below (Below.alloc (Below.refl wr.heap.size wr) (Nat.le_refl _) _) hst5)⟩
            case measure => simp [intOf]; omega
          · simp; omega
        · go_wp2
          go_roundw
          case rel =>
            have h1 := Ho4.out
            rw [List.take_of_length_le (by rw [Hfl.out]; omega)] at h1
            exact ⟨k + 1, G3, by omega, by go_num, by rw [Htk.out, Hob.out, ← List.append_assoc, HL1.out]; exact h1, HST3.out.trans HST4.out⟩
          case measure => simp [intOf]; omega
    · have Hl := Lib.hid (List.take_of_length_le (show os.length ≤ k by omega))
      go_wp2_with (go_at_call 37; (with_reducible refine (outBytes_B _ _ _ _ _ Ho.out).mono ?_); rintro e w3 ⟨rfl, hf⟩)
      go_ret2
      have hG := OutAt.glt Ho.out
      rw [Hl.out]
      exact ⟨rfl, hbel.trans (hf.to_below hbel.size (fun i hi e => by have := (hG i e).1; omega))⟩
end Go.Proofs.Ytdfgdnaejnngoaa
