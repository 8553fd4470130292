import Derived.Test.YtdfgdnaejnngoaaOrd7
namespace Go.Proofs.Ytdfgdnaejnngoaa
open Go.RowKit

def readFold (rds : List (Ord → ByteArray → Bool → Ord × ByteArray × Bool)) (x : Ord × ByteArray × Bool) : Ord × ByteArray × Bool := rds.foldl (fun y rd => rd y.1 y.2.1 y.2.2) x
def ord0 (k : Int) : Ord := { kind := k, key := ⟨#[]⟩, val := ⟨#[]⟩, n := 0, lo := ⟨#[]⟩, hi := ⟨#[]⟩ }
/-- the next order, what is left -/
def readR (s : ByteArray) (bad : Bool) : Ord × ByteArray × Bool := readFold (rdFs (numR 1 s bad).1) (ord0 (numR 1 s bad).1, (numR 1 s bad).2.1, (numR 1 s bad).2.2)
def readIs (s : ByteArray) (bad : Bool) : Bool := okKind (numR 1 s bad).1 && !(readR s bad).2.2

theorem readFold_snoc (rds : List (Ord → ByteArray → Bool → Ord × ByteArray × Bool)) (j : Nat) (rd : Ord → ByteArray → Bool → Ord × ByteArray × Bool) (x : Ord × ByteArray × Bool) (h : rds[j]? = some rd) :
    readFold (rds.take (j + 1)) x = rd (readFold (rds.take j) x).1 (readFold (rds.take j) x).2.1 (readFold (rds.take j) x).2.2 := by
  unfold readFold
  rw [List.take_add_one, h]
  simp [List.foldl_append]

theorem Fr.undrew {S : Nat → Prop} {a b : World} (h : Fr S a b.drew) : Fr S a b := ⟨h.os, h.tape, h.output, h.size, h.block⟩
def putOrd (w : World) (c : Nat) (o : Ord) : World := (((((w.setCell ⟨c, 0, none⟩ (.int .i64 o.kind)).setCell ⟨c, 1, none⟩ (.string o.key)).setCell ⟨c, 2, none⟩ (.string o.val)).setCell ⟨c, 3, none⟩ (.int .u64 o.n)).setCell ⟨c, 4, none⟩ (.string o.lo)).setCell ⟨c, 5, none⟩ (.string o.hi)
theorem OrdAt.put {w : World} {c : Nat} {o0 : Ord} (h : OrdAt w c o0) (o : Ord) : OrdAt (putOrd w c o) c o := by
  unfold OrdAt putOrd at *
  simp [World.setCell, Array.getElem?_modify, h]
theorem putOrd_fr (w : World) (c : Nat) (o : Ord) : Fr (fun k => k = c) w (putOrd w c o) :=
  ((((((Fr.refl (fun k => k = c) w).setCell (p := ⟨c, 0, none⟩) (fun _ => rfl) _).setCell (p := ⟨c, 1, none⟩) (fun _ => rfl) _).setCell (p := ⟨c, 2, none⟩) (fun _ => rfl) _).setCell (p := ⟨c, 3, none⟩) (fun _ => rfl) _).setCell (p := ⟨c, 4, none⟩) (fun _ => rfl) _).setCell (p := ⟨c, 5, none⟩) (fun _ => rfl) _
theorem put_keep {wr w : World} {b c c0 : Nat} {o0 R : Ord} {s : ByteArray} {bad : Bool} {v0 v1 v2 v3 v4 v5 : Value} (hz : OrdAt w c0 o0) (hb : b ≠ c0) (hc : c ≠ c0) (hi : InAt w b s bad) (hf : Fr (fun k => k = c0) wr w)
    (q0 : w.cell? ⟨c, 0, none⟩ = some v0) (q1 : w.cell? ⟨c, 1, none⟩ = some v1) (q2 : w.cell? ⟨c, 2, none⟩ = some v2) (q3 : w.cell? ⟨c, 3, none⟩ = some v3) (q4 : w.cell? ⟨c, 4, none⟩ = some v4) (q5 : w.cell? ⟨c, 5, none⟩ = some v5) :
    InAt (putOrd w c0 R).drew b s bad ∧ (∃ o0, OrdAt (putOrd w c0 R).drew c0 o0) ∧ Fr (fun k => k = c0) wr (putOrd w c0 R).drew ∧ (putOrd w c0 R).drew.cell? ⟨c, 0, none⟩ = some v0 ∧ (putOrd w c0 R).drew.cell? ⟨c, 1, none⟩ = some v1 ∧ (putOrd w c0 R).drew.cell? ⟨c, 2, none⟩ = some v2 ∧ (putOrd w c0 R).drew.cell? ⟨c, 3, none⟩ = some v3 ∧ (putOrd w c0 R).drew.cell? ⟨c, 4, none⟩ = some v4 ∧ (putOrd w c0 R).drew.cell? ⟨c, 5, none⟩ = some v5 := by
  have hp := (putOrd_fr w c0 R).drew
  have ha : ∀ v j, w.cell? ⟨c, j, none⟩ = some v → (putOrd w c0 R).drew.cell? ⟨c, j, none⟩ = some v := fun v j h => by
    by_cases hl : c < w.heap.size
    · exact hp.cell hl hc h
    · exfalso
      rw [World.cell?] at h
      simp [Array.getElem?_eq_none (Nat.le_of_not_lt hl)] at h
  exact ⟨hi.fr hp hb, ⟨_, (hz.put R).fr ((Fr.refl (fun _ => False) _).drew) id⟩, hf.trans hp (fun _ _ h => h), ha _ 0 q0, ha _ 1 q1, ha _ 2 q2, ha _ 3 q3, ha _ 4 q4, ha _ 5 q5⟩

set_option maxHeartbeats 1000000 in
set_option maxRecDepth 100000 in
theorem read_any (b : Nat) (s : ByteArray) (bad : Bool) (w : World) (h : InAt w b s bad) : Calls Try.prog 44 #[.pointer (some ⟨b, 0, none⟩)] w fun e w' => e = .returned (.tuple #[(readR s bad).1.v, .bool (readIs s bad)]) ∧ InAt w' b (readR s bad).2.1 (readR s bad).2.2 ∧ Fr (fun k => k = b) w w' := by
  have hbl := h.lt
  have hrr : readR s bad = readFold (rdFs (numR 1 s bad).1) (ord0 (numR 1 s bad).1, (numR 1 s bad).2.1, (numR 1 s bad).2.2) := rfl
  have hri : readIs s bad = (okKind (numR 1 s bad).1 && !(readR s bad).2.2) := rfl
  have hnum := fun W h => inNum_any b 1 s bad W h (.inl rfl)
  generalize numR 1 s bad = r at hrr hri hnum
  obtain ⟨kn, s1, bad1⟩ := r
  dsimp only at hrr hri
  have hnum' : ∀ W, InAt W b s bad → Calls Try.prog 75 #[.pointer (some ⟨b, 0, none⟩), .int .i64 1] W fun e w' => e = .returned (.int .i64 (kn : Int)) ∧ InAt w' b s1 bad1 ∧ Fr (fun k => k = b) W w' := hnum
  generalize readR s bad = R at hrr hri ⊢
  generalize readIs s bad = I at hri ⊢
  have Hnum := Lib.hid hnum'
  have Hrr := Lib.hid hrr
  have Hri := Lib.hid hri
  have H0 := Lib.hid (h.below (Below.alloc (Below.refl w.heap.size w) (Nat.le_refl _) (.cells #[.int .i64 0, .string ⟨#[]⟩, .string ⟨#[]⟩, .int .u64 0, .string ⟨#[]⟩, .string ⟨#[]⟩] 24)))
  clear hnum hnum' hrr hri h
  go_enter Try.func44, Try.ntmps44
  go_wp2_with (go_at_call 75; (with_reducible refine (Hnum.out _ H0.out).mono ?_); rintro e w1 ⟨rfl, hi1, hfr1⟩)
  have hz1 : w.heap.size < w1.heap.size := by have := hfr1.size; simp at this; omega
  have hbc : b ≠ w1.heap.size := by omega
  have hcell0 : OrdAt w1 w.heap.size (ord0 0) := OrdAt.fr (w := w.alloc (.cells #[.int .i64 0, .string ⟨#[]⟩, .string ⟨#[]⟩, .int .u64 0, .string ⟨#[]⟩, .string ⟨#[]⟩] 24)) (heap_alloc_new w _) hfr1 (by omega)
  have hfrw1 : Fr (fun k => k = b) w w1 := ((Fr.refl (fun k => k = b) w).alloc _).trans hfr1 (fun _ _ h => h)
  have hA1 := Below.alloc (Below.refl w1.heap.size w1) (Nat.le_refl _) (.cells #[.int .i64 (kn : Int), .string ⟨#[]⟩, .string ⟨#[]⟩, .int .u64 0, .string ⟨#[]⟩, .string ⟨#[]⟩] 24)
  refine (fields_any (kn : Int) _).mono ?_
  rintro e w2 ⟨A2, cap2, rfl, hE, hAd, hb2⟩
  have hb12 := below_step hA1 hb2 (by simp)
  have hoc : OrdAt w2 w1.heap.size (ord0 kn) := OrdAt.fr (w := w1.alloc (.cells #[.int .i64 (kn : Int), .string ⟨#[]⟩, .string ⟨#[]⟩, .int .u64 0, .string ⟨#[]⟩, .string ⟨#[]⟩] 24)) (heap_alloc_new w1 _) (Fr.of_below (S := fun _ => False) hb2) (fun h => h)
  have hi2 := hi1.below hb12
  have hc02 := hcell0.fr (Fr.of_below (S := fun _ => False) hb12) (fun h => h)
  have hfrw2 := hfrw1.trans (Fr.of_below (S := fun _ => False) hb12) (fun _ _ h => h.elim)
  have hAd' : ∀ ad, A2 = some ad → w1.heap.size < ad.block := fun ad ha => by have := hAd ad ha; simp at this; omega
  have hz2 : w1.heap.size < w2.heap.size := hoc.lt
  generalize w1.heap.size = c at *
  generalize hq : w.heap.size = c0 at *
  have hle0 : w.heap.size ≤ c0 := by omega
  clear hq
  have HE := Lib.hid hE
  have HAd := Lib.hid hAd'
  have Hoc := Lib.hid hoc
  have Hi2 := Lib.hid hi2
  have Hc02 := Lib.hid hc02
  have Hfrw2 := Lib.hid hfrw2
  clear hE hAd hAd' hoc hi2 hc02 hfrw2 hb2 hb12 hA1 hfrw1 hcell0 hi1 hfr1 Hnum H0
  have hrd := row_reads (kn : Int)
  have hlen := rdFs_length (kn : Int)
  have hrl := fieldRows_le (kn : Int)
  generalize fieldRows (kn : Int) = rows at HE hrd hlen hrl ⊢
  generalize rdFs (kn : Int) = rds at hrd hlen Hrr
  have Hrd := Lib.hid hrd
  have Hlen := Lib.hid hlen
  clear hrd hlen
  go_wp2
  go_loopw [20, 8] (fun i _ wr => ∃ (j : Nat), j ≤ rows.length ∧ i = .int .i64 j ∧ OrdAt wr c (readFold (rds.take j) (ord0 kn, s1, bad1)).1 ∧ InAt wr b (readFold (rds.take j) (ord0 kn, s1, bad1)).2.1 (readFold (rds.take j) (ord0 kn, s1, bad1)).2.2 ∧ Fr (fun k => k = c ∨ k = b) w2 wr) (fun i _ _ => rows.length - (intOf i).toNat)
  case atStart => exact ⟨0, Nat.zero_le _, rfl, Hoc.out, Hi2.out, Fr.refl _ _⟩
  case round =>
    obtain ⟨j, hj, rfl, ho, hi, hfr⟩ := hrel
    have hc0r : OrdAt wr c0 (ord0 0) := Hc02.out.fr hfr (by omega)
    by_cases hjl : j < rows.length
    · obtain ⟨r, hr⟩ : ∃ s, rows[j]? = some s := ⟨rows[j], List.getElem?_eq_getElem hjl⟩
      obtain ⟨f, g, rd, rfl, hrj, eg, hread⟩ := Hrd.out j r hr
      have hfj := readFold_snoc rds j rd (ord0 kn, s1, bad1) hrj
      have hE4 := HE.out.fr hfr (fun ad ha hh => by
        have := HAd.out ad ha
        omega)
      obtain ⟨ba, offa, rfl, hbla, hca⟩ := hE4 j _ hr
      have k0 := hca 0 _ rfl
      have k1 := hca 1 _ rfl
      simp only [Nat.add_zero] at k0
      generalize readFold (rds.take j) (ord0 kn, s1, bad1) = y at ho hi hfj
      obtain ⟨o, s', bad'⟩ := y
      dsimp only at ho hi hfj
      have hal := Below.alloc (Below.refl wr.heap.size wr) (Nat.le_refl _) (.cells #[.func (.func f) #[] #[], .func (.func g) #[] #[]] 100)
      have hcall := hread c b o s' bad' _ (ho.fr (Fr.of_below (S := fun _ => False) hal) (fun h => h)) (hi.below hal) (by omega)
      have Hcall := Lib.hid hcall
      have Hfj := Lib.hid hfj
      have Hfr := Lib.hid hfr
      have e0 : ∀ args w, (callFunc g args).run Try.prog w = .ok (.enter g args) w := eg
      clear hcall hfj hread hrj hr hca eg hE4 ho hi hfr
      go_wp2_with ((with_reducible refine Hcall.out.mono ?_); rintro e w5 ⟨rfl, ho5, hi5, hfr5⟩)
      go_roundw
      case rel => exact ⟨j + 1, by omega, by go_num, by rw [Hfj.out]; exact ho5, by rw [Hfj.out]; exact hi5, (Hfr.out.alloc _).trans hfr5 (fun _ _ h => h)⟩
      case measure => simp [intOf]; omega
    · have hR : readFold (rds.take j) (ord0 kn, s1, bad1) = R := by rw [List.take_of_length_le (by rw [Hlen.out]; omega)]; exact Hrr.out.symm
      rw [hR] at ho hi
      clear hR
      have hfrw := Hfrw2.out.trans hfr (S := fun k => k = b) (fun i hi h => by
        rcases h with e | e
        · omega
        · exact e)
      have q0 := ho.c0
      have q1 := ho.c1
      have q2 := ho.c2
      have q3 := ho.c3
      have q4 := ho.c4
      have q5 := ho.c5
      clear ho HE HAd Hrd Hlen Hfrw2 Hoc Hi2 Hc02 Hrr hfr
      cases hok : okKind (kn : Int)
      · rw [hok] at Hri
        go_wp2
        refine rg_start (n := 9) (fun w' => InAt w' b R.2.1 R.2.2 ∧ (∃ o0, OrdAt w' c0 o0) ∧ Fr (fun k => k = c0) wr w' ∧ w'.cell? ⟨c, 0, none⟩ = some (.int .i64 R.1.kind) ∧ w'.cell? ⟨c, 1, none⟩ = some (.string R.1.key) ∧ w'.cell? ⟨c, 2, none⟩ = some (.string R.1.val) ∧ w'.cell? ⟨c, 3, none⟩ = some (.int .u64 R.1.n) ∧ w'.cell? ⟨c, 4, none⟩ = some (.string R.1.lo) ∧ w'.cell? ⟨c, 5, none⟩ = some (.string R.1.hi)) #[false, false, false, false, false, false, false, false, false] (by kernel_rfl) rfl rfl ⟨hi, (Exists.intro _ hc0r), (Fr.refl _ _).drew, q0, q1, q2, q3, q4, q5⟩ (fun hHeld => ?_)
        refine rg_take (i := 0) (N := (some 29)) (v := ?_) (a' := ?_) #[true, false, false, false, false, false, false, false, false] rfl rfl (by kernel_rfl) (fun _ _ _ h => h) (by rfl) ?_ hHeld ?_ ?_
        rotate_left 2
        · rintro w' ⟨s0, s1, s2, s3, s4, s5, s6, s7, s8⟩
          go_simp
          try with_reducible rfl
        · simp only [Act.put, List.setIfInBounds_toArray, List.set_cons_zero, List.set_cons_succ]
          rfl
        refine rg_take (i := 1) (N := (some 30)) (v := ?_) (a' := ?_) #[true, true, false, false, false, false, false, false, false] rfl rfl (by kernel_rfl) (fun _ _ _ h => h) (by rfl) ?_ hHeld ?_ ?_
        rotate_left 2
        · rintro w' ⟨s0, s1, s2, s3, s4, s5, s6, s7, s8⟩
          go_simp
          try with_reducible rfl
        · simp only [Act.put, List.setIfInBounds_toArray, List.set_cons_zero, List.set_cons_succ]
          rfl
        refine rg_take (i := 2) (N := (some 31)) (v := ?_) (a' := ?_) #[true, true, true, false, false, false, false, false, false] rfl rfl (by kernel_rfl) (fun _ _ _ h => h) (by rfl) ?_ hHeld ?_ ?_
        rotate_left 2
        · rintro w' ⟨s0, s1, s2, s3, s4, s5, s6, s7, s8⟩
          go_simp
          try with_reducible rfl
        · simp only [Act.put, List.setIfInBounds_toArray, List.set_cons_zero, List.set_cons_succ]
          rfl
        refine rg_skip (i := 3) (N := (some 32)) (a' := ?_) #[true, true, true, true, false, false, false, false, false] rfl rfl (by kernel_rfl) (fun _ _ _ h => h) (by rfl) hHeld ?_ ?_
        rotate_left
        · simp only [Act.put, List.setIfInBounds_toArray, List.set_cons_zero, List.set_cons_succ]
          rfl
        refine rg_skip (i := 4) (N := (some 33)) (a' := ?_) #[true, true, true, true, true, false, false, false, false] rfl rfl (by kernel_rfl) (fun _ _ _ h => h) (by rfl) hHeld ?_ ?_
        rotate_left
        · simp only [Act.put, List.setIfInBounds_toArray, List.set_cons_zero, List.set_cons_succ]
          rfl
        refine rg_skip (i := 5) (N := (some 34)) (a' := ?_) #[true, true, true, true, true, true, false, false, false] rfl rfl (by kernel_rfl) (fun _ _ _ h => h) (by rfl) hHeld ?_ ?_
        rotate_left
        · simp only [Act.put, List.setIfInBounds_toArray, List.set_cons_zero, List.set_cons_succ]
          rfl
        refine rg_take (i := 6) (N := (some 35)) (v := ?_) (a' := ?_) #[true, true, true, true, true, true, true, false, false] rfl rfl (by kernel_rfl) (fun _ _ _ h => h) (by rfl) ?_ hHeld ?_ ?_
        rotate_left 2
        · rintro w' ⟨s0, s1, s2, s3, s4, s5, s6, s7, s8⟩
          go_simp
          try with_reducible rfl
        · simp only [Act.put, List.setIfInBounds_toArray, List.set_cons_zero, List.set_cons_succ]
          rfl
        refine rg_one (i := 7) #[true, true, true, true, true, true, true, true, false] rfl (by kernel_rfl) (by rfl) (fun K hK => ?_)
        obtain ⟨s0, s1, s2, s3, s4, s5, s6, s7, s8⟩ := hHeld
        (have hz := hc0r; have z0 := hz.c0; have z1 := hz.c1; have z2 := hz.c2; have z3 := hz.c3; have z4 := hz.c4; have z5 := hz.c5; have y0 := hz.f 0; have y1 := hz.f 1; have y2 := hz.f 2; have y3 := hz.f 3; have y4 := hz.f 4; have y5 := hz.f 5)
        repeat go_step
        refine hK.out _ _ ?_ (fun hHeld => ?_)
        · first | exact put_keep hz (by omega) (by omega) s0 s2 s3 s4 s5 s6 s7 s8 | exact put_keep hz (by omega) (by omega) s0 s2.undrew s3 s4 s5 s6 s7 s8
        clear hK K
        clear s0 s1 s2 s3 s4 s5 s6 s7 s8
        refine rg_take (i := 8) (N := (some 3)) (v := ?_) (a' := ?_) #[true, true, true, true, true, true, true, true, true] rfl rfl (by kernel_rfl) (fun _ _ _ h => h) (by rfl) ?_ hHeld ?_ ?_
        rotate_left 2
        · rintro w' ⟨s0, s1, s2, s3, s4, s5, s6, s7, s8⟩
          go_simp
          try with_reducible rfl
        · simp only [Act.put, List.setIfInBounds_toArray, List.set_cons_zero, List.set_cons_succ]
          rfl
        refine rg_done (by kernel_rfl) ?_
        obtain ⟨h0, _, h2, _⟩ := hHeld
        all_goals have hI : I = false := by rw [Hri.out]; rfl
        all_goals go_wp2
        all_goals rw [hI]
        all_goals exact bodyPost_ret (v := .tuple #[R.1.v, .bool false]) (by simp [results, Try.results44, go_sem, Ord.v, z0, z1, z2, z3, z4, z5]) rfl ⟨rfl, by first | exact h0 | (rw [hbad]; exact h0), hfrw.trans h2 (fun i hi e => by omega)⟩
      · rw [hok] at Hri
        cases hbad : R.2.2
        · rw [hbad] at Hri hi
          have hI : I = true := by rw [Hri.out]; rfl
          have e0 : errE false = 0 := rfl
          have herr := fun W h => inErr_any b R.2.1 false W h
          rw [e0] at herr
          have Herr := Lib.hid herr
          clear herr e0
          go_wp2
          refine rg_start (n := 9) (fun w' => InAt w' b R.2.1 false ∧ (∃ o0, OrdAt w' c0 o0) ∧ Fr (fun k => k = c0) wr w' ∧ w'.cell? ⟨c, 0, none⟩ = some (.int .i64 R.1.kind) ∧ w'.cell? ⟨c, 1, none⟩ = some (.string R.1.key) ∧ w'.cell? ⟨c, 2, none⟩ = some (.string R.1.val) ∧ w'.cell? ⟨c, 3, none⟩ = some (.int .u64 R.1.n) ∧ w'.cell? ⟨c, 4, none⟩ = some (.string R.1.lo) ∧ w'.cell? ⟨c, 5, none⟩ = some (.string R.1.hi)) #[false, false, false, false, false, false, false, false, false] (by kernel_rfl) rfl rfl ⟨hi, (Exists.intro _ hc0r), (Fr.refl _ _).drew, q0, q1, q2, q3, q4, q5⟩ (fun hHeld => ?_)
          refine rg_take (i := 0) (N := (some 29)) (v := ?_) (a' := ?_) #[true, false, false, false, false, false, false, false, false] rfl rfl (by kernel_rfl) (fun _ _ _ h => h) (by rfl) ?_ hHeld ?_ ?_
          rotate_left 2
          · rintro w' ⟨s0, s1, s2, s3, s4, s5, s6, s7, s8⟩
            go_simp
            try with_reducible rfl
          · simp only [Act.put, List.setIfInBounds_toArray, List.set_cons_zero, List.set_cons_succ]
            rfl
          refine rg_take (i := 1) (N := (some 30)) (v := ?_) (a' := ?_) #[true, true, false, false, false, false, false, false, false] rfl rfl (by kernel_rfl) (fun _ _ _ h => h) (by rfl) ?_ hHeld ?_ ?_
          rotate_left 2
          · rintro w' ⟨s0, s1, s2, s3, s4, s5, s6, s7, s8⟩
            go_simp
            try with_reducible rfl
          · simp only [Act.put, List.setIfInBounds_toArray, List.set_cons_zero, List.set_cons_succ]
            rfl
          refine rg_take (i := 2) (N := (some 31)) (v := ?_) (a' := ?_) #[true, true, true, false, false, false, false, false, false] rfl rfl (by kernel_rfl) (fun _ _ _ h => h) (by rfl) ?_ hHeld ?_ ?_
          rotate_left 2
          · rintro w' ⟨s0, s1, s2, s3, s4, s5, s6, s7, s8⟩
            go_simp
            try with_reducible rfl
          · simp only [Act.put, List.setIfInBounds_toArray, List.set_cons_zero, List.set_cons_succ]
            rfl
          refine rg_take (i := 3) (N := (some 32)) (v := ?_) (a' := ?_) #[true, true, true, true, false, false, false, false, false] rfl rfl (by kernel_rfl) (fun _ _ _ h => h) (by rfl) ?_ hHeld ?_ ?_
          rotate_left 2
          · rintro w' ⟨s0, s1, s2, s3, s4, s5, s6, s7, s8⟩
            go_simp
            try with_reducible rfl
          · simp only [Act.put, List.setIfInBounds_toArray, List.set_cons_zero, List.set_cons_succ]
            rfl
          refine rg_one (i := 4) #[true, true, true, true, true, false, false, false, false] rfl (by kernel_rfl) (by rfl) (fun K hK => ?_)
          obtain ⟨s0, s1, s2, s3, s4, s5, s6, s7, s8⟩ := hHeld
          repeat go_step
          (go_at_call 76; (with_reducible refine (Herr.out _ s0).mono ?_); rintro e w9 ⟨rfl, rfl⟩)
          try dsimp only
          refine hK.out _ _ ?_ (fun hHeld => ?_)
          · first | exact ⟨s0, s1, s2, s3, s4, s5, s6, s7, s8⟩ | exact ⟨s0.drew, s1.imp fun _ h => h.fr ((Fr.refl (fun _ => False) _).drew) id, s2.drew, s3, s4, s5, s6, s7, s8⟩
          clear hK K
          clear s0 s1 s2 s3 s4 s5 s6 s7 s8
          refine rg_take (i := 5) (N := (some 34)) (v := ?_) (a' := ?_) #[true, true, true, true, true, true, false, false, false] rfl rfl (by kernel_rfl) (fun _ _ _ h => h) (by rfl) ?_ hHeld ?_ ?_
          rotate_left 2
          · rintro w' ⟨s0, s1, s2, s3, s4, s5, s6, s7, s8⟩
            go_simp
            try with_reducible rfl
          · simp only [Act.put, List.setIfInBounds_toArray, List.set_cons_zero, List.set_cons_succ]
            rfl
          refine rg_take (i := 6) (N := (some 35)) (v := ?_) (a' := ?_) #[true, true, true, true, true, true, true, false, false] rfl rfl (by kernel_rfl) (fun _ _ _ h => h) (by rfl) ?_ hHeld ?_ ?_
          rotate_left 2
          · rintro w' ⟨s0, s1, s2, s3, s4, s5, s6, s7, s8⟩
            go_simp
            try with_reducible rfl
          · simp only [Act.put, List.setIfInBounds_toArray, List.set_cons_zero, List.set_cons_succ]
            rfl
          refine rg_one (i := 7) #[true, true, true, true, true, true, true, true, false] rfl (by kernel_rfl) (by rfl) (fun K hK => ?_)
          obtain ⟨s0, s1, s2, s3, s4, s5, s6, s7, s8⟩ := hHeld
          (have hz := hc0r; have z0 := hz.c0; have z1 := hz.c1; have z2 := hz.c2; have z3 := hz.c3; have z4 := hz.c4; have z5 := hz.c5; have y0 := hz.f 0; have y1 := hz.f 1; have y2 := hz.f 2; have y3 := hz.f 3; have y4 := hz.f 4; have y5 := hz.f 5)
          repeat go_step
          refine hK.out _ _ ?_ (fun hHeld => ?_)
          · first | exact put_keep hz (by omega) (by omega) s0 s2 s3 s4 s5 s6 s7 s8 | exact put_keep hz (by omega) (by omega) s0 s2.undrew s3 s4 s5 s6 s7 s8
          clear hK K
          clear s0 s1 s2 s3 s4 s5 s6 s7 s8
          refine rg_take (i := 8) (N := (some 3)) (v := ?_) (a' := ?_) #[true, true, true, true, true, true, true, true, true] rfl rfl (by kernel_rfl) (fun _ _ _ h => h) (by rfl) ?_ hHeld ?_ ?_
          rotate_left 2
          · rintro w' ⟨s0, s1, s2, s3, s4, s5, s6, s7, s8⟩
            go_simp
            try with_reducible rfl
          · simp only [Act.put, List.setIfInBounds_toArray, List.set_cons_zero, List.set_cons_succ]
            rfl
          refine rg_done (by kernel_rfl) ?_
          obtain ⟨h0, h1, h2, _⟩ := hHeld
          all_goals go_wp2
          all_goals rw [hI]
          all_goals exact bodyPost_ret (v := .tuple #[R.1.v, .bool true]) (by simp [results, Try.results44, go_sem, Ord.v, z0, z1, z2, z3, z4, z5]) rfl ⟨rfl, by first | exact h0 | (rw [hbad]; exact h0), hfrw.trans h2 (fun i hi e => by omega)⟩
        · rw [hbad] at Hri hi
          have hI : I = false := by rw [Hri.out]; rfl
          have e0 : errE true = 5 := rfl
          have herr := fun W h => inErr_any b R.2.1 true W h
          rw [e0] at herr
          have Herr := Lib.hid herr
          clear herr e0
          go_wp2
          refine rg_start (n := 9) (fun w' => InAt w' b R.2.1 true ∧ (∃ o0, OrdAt w' c0 o0) ∧ Fr (fun k => k = c0) wr w' ∧ w'.cell? ⟨c, 0, none⟩ = some (.int .i64 R.1.kind) ∧ w'.cell? ⟨c, 1, none⟩ = some (.string R.1.key) ∧ w'.cell? ⟨c, 2, none⟩ = some (.string R.1.val) ∧ w'.cell? ⟨c, 3, none⟩ = some (.int .u64 R.1.n) ∧ w'.cell? ⟨c, 4, none⟩ = some (.string R.1.lo) ∧ w'.cell? ⟨c, 5, none⟩ = some (.string R.1.hi)) #[false, false, false, false, false, false, false, false, false] (by kernel_rfl) rfl rfl ⟨hi, (Exists.intro _ hc0r), (Fr.refl _ _).drew, q0, q1, q2, q3, q4, q5⟩ (fun hHeld => ?_)
          refine rg_take (i := 0) (N := (some 29)) (v := ?_) (a' := ?_) #[true, false, false, false, false, false, false, false, false] rfl rfl (by kernel_rfl) (fun _ _ _ h => h) (by rfl) ?_ hHeld ?_ ?_
          rotate_left 2
          · rintro w' ⟨s0, s1, s2, s3, s4, s5, s6, s7, s8⟩
            go_simp
            try with_reducible rfl
          · simp only [Act.put, List.setIfInBounds_toArray, List.set_cons_zero, List.set_cons_succ]
            rfl
          refine rg_take (i := 1) (N := (some 30)) (v := ?_) (a' := ?_) #[true, true, false, false, false, false, false, false, false] rfl rfl (by kernel_rfl) (fun _ _ _ h => h) (by rfl) ?_ hHeld ?_ ?_
          rotate_left 2
          · rintro w' ⟨s0, s1, s2, s3, s4, s5, s6, s7, s8⟩
            go_simp
            try with_reducible rfl
          · simp only [Act.put, List.setIfInBounds_toArray, List.set_cons_zero, List.set_cons_succ]
            rfl
          refine rg_take (i := 2) (N := (some 31)) (v := ?_) (a' := ?_) #[true, true, true, false, false, false, false, false, false] rfl rfl (by kernel_rfl) (fun _ _ _ h => h) (by rfl) ?_ hHeld ?_ ?_
          rotate_left 2
          · rintro w' ⟨s0, s1, s2, s3, s4, s5, s6, s7, s8⟩
            go_simp
            try with_reducible rfl
          · simp only [Act.put, List.setIfInBounds_toArray, List.set_cons_zero, List.set_cons_succ]
            rfl
          refine rg_take (i := 3) (N := (some 32)) (v := ?_) (a' := ?_) #[true, true, true, true, false, false, false, false, false] rfl rfl (by kernel_rfl) (fun _ _ _ h => h) (by rfl) ?_ hHeld ?_ ?_
          rotate_left 2
          · rintro w' ⟨s0, s1, s2, s3, s4, s5, s6, s7, s8⟩
            go_simp
            try with_reducible rfl
          · simp only [Act.put, List.setIfInBounds_toArray, List.set_cons_zero, List.set_cons_succ]
            rfl
          refine rg_one (i := 4) #[true, true, true, true, true, false, false, false, false] rfl (by kernel_rfl) (by rfl) (fun K hK => ?_)
          obtain ⟨s0, s1, s2, s3, s4, s5, s6, s7, s8⟩ := hHeld
          repeat go_step
          (go_at_call 76; (with_reducible refine (Herr.out _ s0).mono ?_); rintro e w9 ⟨rfl, rfl⟩)
          try dsimp only
          refine hK.out _ _ ?_ (fun hHeld => ?_)
          · first | exact ⟨s0, s1, s2, s3, s4, s5, s6, s7, s8⟩ | exact ⟨s0.drew, s1.imp fun _ h => h.fr ((Fr.refl (fun _ => False) _).drew) id, s2.drew, s3, s4, s5, s6, s7, s8⟩
          clear hK K
          clear s0 s1 s2 s3 s4 s5 s6 s7 s8
          refine rg_take (i := 5) (N := (some 34)) (v := ?_) (a' := ?_) #[true, true, true, true, true, true, false, false, false] rfl rfl (by kernel_rfl) (fun _ _ _ h => h) (by rfl) ?_ hHeld ?_ ?_
          rotate_left 2
          · rintro w' ⟨s0, s1, s2, s3, s4, s5, s6, s7, s8⟩
            go_simp
            try with_reducible rfl
          · simp only [Act.put, List.setIfInBounds_toArray, List.set_cons_zero, List.set_cons_succ]
            rfl
          refine rg_take (i := 6) (N := (some 35)) (v := ?_) (a' := ?_) #[true, true, true, true, true, true, true, false, false] rfl rfl (by kernel_rfl) (fun _ _ _ h => h) (by rfl) ?_ hHeld ?_ ?_
          rotate_left 2
          · rintro w' ⟨s0, s1, s2, s3, s4, s5, s6, s7, s8⟩
            go_simp
            try with_reducible rfl
          · simp only [Act.put, List.setIfInBounds_toArray, List.set_cons_zero, List.set_cons_succ]
            rfl
          refine rg_one (i := 7) #[true, true, true, true, true, true, true, true, false] rfl (by kernel_rfl) (by rfl) (fun K hK => ?_)
          obtain ⟨s0, s1, s2, s3, s4, s5, s6, s7, s8⟩ := hHeld
          (have hz := hc0r; have z0 := hz.c0; have z1 := hz.c1; have z2 := hz.c2; have z3 := hz.c3; have z4 := hz.c4; have z5 := hz.c5; have y0 := hz.f 0; have y1 := hz.f 1; have y2 := hz.f 2; have y3 := hz.f 3; have y4 := hz.f 4; have y5 := hz.f 5)
          repeat go_step
          refine hK.out _ _ ?_ (fun hHeld => ?_)
          · first | exact put_keep hz (by omega) (by omega) s0 s2 s3 s4 s5 s6 s7 s8 | exact put_keep hz (by omega) (by omega) s0 s2.undrew s3 s4 s5 s6 s7 s8
          clear hK K
          clear s0 s1 s2 s3 s4 s5 s6 s7 s8
          refine rg_take (i := 8) (N := (some 3)) (v := ?_) (a' := ?_) #[true, true, true, true, true, true, true, true, true] rfl rfl (by kernel_rfl) (fun _ _ _ h => h) (by rfl) ?_ hHeld ?_ ?_
          rotate_left 2
          · rintro w' ⟨s0, s1, s2, s3, s4, s5, s6, s7, s8⟩
            go_simp
            try with_reducible rfl
          · simp only [Act.put, List.setIfInBounds_toArray, List.set_cons_zero, List.set_cons_succ]
            rfl
          refine rg_done (by kernel_rfl) ?_
          obtain ⟨h0, h1, h2, _⟩ := hHeld
          all_goals go_wp2
          all_goals rw [hI]
          all_goals exact bodyPost_ret (v := .tuple #[R.1.v, .bool false]) (by simp [results, Try.results44, go_sem, Ord.v, z0, z1, z2, z3, z4, z5]) rfl ⟨rfl, by first | exact h0 | (rw [hbad]; exact h0), hfrw.trans h2 (fun i hi e => by omega)⟩
end Go.Proofs.Ytdfgdnaejnngoaa
