import Derived.Test.YtdfgdnaejnngoaaLaw4
namespace Go.Proofs.Ytdfgdnaejnngoaa
open Go.RowKit

theorem neq_ref (a b : Ord) (w : World) : (binOp .neq 27 a.v b.v).run Try.prog w = .ok (.bool (!decide (a = b))) w := by
  have u3 := Try.underlying3
  have a3 := Try.isAgg3
  have z3 := Try.sizeOf3
  have u9 := Try.underlying9
  have a9 := Try.isAgg9
  have z9 := Try.sizeOf9
  have u22 := Try.underlying22
  have a22 := Try.isAgg22
  have z22 := Try.sizeOf22
  have hS : Try.prog.underlying 27 = some (.struct (Try.prog.fieldsOf 27)) := by kernel_rfl
  have hp : Try.prog.stoodInHeld 27 = false := by kernel_rfl
  rw [Ord.v_def, Ord.v_def]
  rw [run_neq_struct, show (10000 : Nat) = 9999 + 1 from rfl, run_equalIn_agg w 9999 27 _ _ hS hp]
  simp only [Program.fieldsOf, Try.underlying27]
  go_simp
  obtain ⟨k, key, val, n, lo, hi⟩ := a
  obtain ⟨k', key', val', n', lo', hi'⟩ := b
  by_cases h1 : k = k' <;> by_cases h2 : key = key' <;> by_cases h3 : val = val' <;> by_cases h4 : n = n' <;> by_cases h5 : lo = lo' <;> by_cases h6 : hi = hi' <;> simp [h1, h2, h3, h4, h5, h6, bytes_inj]

theorem take_snoc_all (os : List Ord) (k : Nat) (p : Ord) (h : os[k]? = some p) : (os.take (k + 1)).all isOrd = ((os.take k).all isOrd && isOrd p) := by
  rw [List.take_add_one, h]; simp
theorem take_snoc_bytes (os : List Ord) (k : Nat) (p : Ord) (h : os[k]? = some p) : ba ((os.take (k + 1)).flatMap ordBytes) = ba ((os.take k).flatMap ordBytes) ++ ba (ordBytes p) := by
  rw [List.take_add_one, h, ba_append]; simp
theorem rows_keep {w W W' : World} {b1 x1 b2 x2 : Nat} {k n : Int} {key val lo hi : ByteArray} (hb : Below w.heap.size w W) (h1 : At6 W b1 x1 ⟨k, key, val, n, lo, hi⟩) (h2 : At6 W b2 x2 ⟨k, key, val, n, lo, hi⟩) (hf : Below W.heap.size W W') :
    Below w.heap.size w W' ∧ At6 W' b1 x1 ⟨k, key, val, n, lo, hi⟩ ∧ At6 W' b2 x2 ⟨k, key, val, n, lo, hi⟩ ∧ W'.cell? ⟨b1, x1, none⟩ = some (.int .i64 k) ∧ W'.cell? ⟨b1, x1 + 1, none⟩ = some (.string key) ∧ W'.cell? ⟨b1, x1 + 2, none⟩ = some (.string val) ∧ W'.cell? ⟨b1, x1 + 3, none⟩ = some (.int .u64 n) ∧ W'.cell? ⟨b1, x1 + 4, none⟩ = some (.string lo) ∧ W'.cell? ⟨b1, x1 + 5, none⟩ = some (.string hi) ∧
    W'.cell? ⟨b2, x2, none⟩ = some (.int .i64 k) ∧ W'.cell? ⟨b2, x2 + 1, none⟩ = some (.string key) ∧ W'.cell? ⟨b2, x2 + 2, none⟩ = some (.string val) ∧ W'.cell? ⟨b2, x2 + 3, none⟩ = some (.int .u64 n) ∧ W'.cell? ⟨b2, x2 + 4, none⟩ = some (.string lo) ∧ W'.cell? ⟨b2, x2 + 5, none⟩ = some (.string hi) := by
  have h1 := h1.below hf
  have h2 := h2.below hf
  exact ⟨below_next hb hf, h1, h2, h1.c0, h1.c1, h1.c2, h1.c3, h1.c4, h1.c5, h2.c0, h2.c1, h2.c2, h2.c3, h2.c4, h2.c5⟩
theorem allA_le (s : ByteArray) : (allA s).1.length ≤ 400 := by
  unfold allA
  cases allL s with
  | none => simp
  | some l =>
    simp only [Option.elim]
    split
    · simp
    · simp only; omega
theorem all_owns (s : ByteArray) (hs : s.size ≤ 100000000) (W : World) : Calls Try.prog 18 #[.string s] W fun e w' => (∃ A cap, e = .returned (.tuple #[.slice A (allA s).1.length cap, .int .i64 (allA s).2]) ∧ Elems w' A 6 ((allA s).1.map Ord.cells)) ∧ Below W.heap.size W w' := by
  refine (all_any s W hs).mono ?_
  rintro e w' ⟨⟨v, rfl, ho⟩, hb⟩
  obtain ⟨A, cap, rfl⟩ := ho.slice
  exact ⟨⟨A, cap, rfl, ho.elems⟩, hb⟩
theorem rall_owns (s : ByteArray) (hs : s.size ≤ 100000000) (W : World) : Calls Try.prog 19 #[.string s] W fun e w' => (∃ A cap, e = .returned (.tuple #[.slice A (allA s).1.length cap, .int .i64 (allA s).2]) ∧ Elems w' A 6 ((allA s).1.map Ord.cells)) ∧ Below W.heap.size W w' := by
  refine (refAll_any s W hs).mono ?_
  rintro e w' ⟨⟨v, rfl, ho⟩, hb⟩
  obtain ⟨A, cap, rfl⟩ := ho.slice
  exact ⟨⟨A, cap, rfl, ho.elems⟩, hb⟩

set_option maxHeartbeats 4000000 in
set_option maxRecDepth 100000 in
theorem rows_short (A : Option Addr) (cap : Nat) (os : List Ord) (s : ByteArray) (w : World) (hl : (os.length : Int) ≤ 500) (hs : (s.size : Int) ≤ 8192) (he : Elems w A 6 (os.map Ord.cells)) (hfit : ∀ o ∈ os, o.fits) :
    Calls Try.prog 4 #[.slice A os.length cap, .string s] w fun e w' => e = .returned (.bool true) ∧ Below w.heap.size w w' := by
  have hgr : Try.prog.eqGuardType Try.prog.depth 27 = false := by kernel_rfl
  have Hfit := Lib.hid hfit
  have He := Lib.hid he
  clear he hfit
  go_enter Try.func4, Try.ntmps4
  go_wp2_with (go_at_call 9; (with_reducible refine (awake_any _).mono ?_); rintro e w1 ⟨rfl, hb1⟩)
  have HB1 := Lib.hid hb1
  clear hb1
  go_loopw [7, 6] (fun i a wr => ∃ (k : Nat), k ≤ os.length ∧ i = .int .i64 k ∧ a = .bool ((os.take k).all isOrd) ∧ Below w1.heap.size w1 wr) (fun i _ _ => os.length - (intOf i).toNat)
  case atStart => exact ⟨0, Nat.zero_le _, rfl, rfl, Below.refl _ _⟩
  case round =>
    obtain ⟨k, hk, rfl, rfl, hbel⟩ := hrel
    have hb := below_next HB1.out hbel
    by_cases hlt : k < os.length
    · obtain ⟨⟨pk, pkey, pval, pn, plo, phi⟩, hpk⟩ : ∃ s, os[k]? = some s := ⟨os[k], List.getElem?_eq_getElem hlt⟩
      obtain ⟨bl, off, rfl, hq⟩ := (He.out.below hb).at6 hpk
      have hkI : (k : Int) < (os.length : Int) := by omega
      have hnext := take_snoc_all os k _ hpk
      have hlg : ∀ W, Calls Try.prog 10 #[(.agg #[.int .i64 pk, .string pkey, .string pval, .int .u64 pn, .string plo, .string phi])] W fun e w' => e = .returned (.bool (longB ⟨pk, pkey, pval, pn, plo, phi⟩)) ∧ Below W.heap.size W w' := fun W => long_any ⟨pk, pkey, pval, pn, plo, phi⟩ W
      have hfm : ∀ W, Calls Try.prog 11 #[(.agg #[.int .i64 pk, .string pkey, .string pval, .int .u64 pn, .string plo, .string phi])] W fun e w' => e = .returned (.agg #[.int .i64 pk, .string pkey, .string pval, .int .u64 pn, .string plo, .string phi]) ∧ Below W.heap.size W w' := fun W => form_any ⟨pk, pkey, pval, pn, plo, phi⟩ W
      have hri : ∀ W, Calls Try.prog 14 #[(.agg #[.int .i64 pk, .string pkey, .string pval, .int .u64 pn, .string plo, .string phi])] W fun e w' => e = .returned (.bool (isOrd ⟨pk, pkey, pval, pn, plo, phi⟩)) ∧ Below W.heap.size W w' := fun W => refIs_any ⟨pk, pkey, pval, pn, plo, phi⟩ W
      generalize isOrd ⟨pk, pkey, pval, pn, plo, phi⟩ = IP at hri hnext
      generalize longB ⟨pk, pkey, pval, pn, plo, phi⟩ = LP at hlg
      generalize (os.take k).all isOrd = AK at hnext ⊢
      have Hlg := Lib.hid hlg
      have Hfm := Lib.hid hfm
      have Hri := Lib.hid hri
      have Hnext := Lib.hid hnext
      clear hlg hfm hri hnext hpk
      have q0 := hq.c0; have q1 := hq.c1; have q2 := hq.c2; have q3 := hq.c3; have q4 := hq.c4; have q5 := hq.c5
      cases LP
      · cases AK
        · go_wp2_with (go_at_call 10; (with_reducible refine (Hlg.out _).mono ?_); rintro e w2 ⟨rfl, hb2⟩)
          refine ⟨⟨k + 1, by omega, by simp, by rw [Hnext.out]; rfl, below_next hbel hb2⟩, ?_⟩
          simp [intOf]
          omega
        · go_wp2_with (first | (go_at_call 10; (with_reducible refine (Hlg.out _).mono ?_); rintro e w2 ⟨rfl, hb2⟩; have hq := hq.below hb2; have q0 := hq.c0; have q1 := hq.c1; have q2 := hq.c2; have q3 := hq.c3; have q4 := hq.c4; have q5 := hq.c5) | (go_at_call 11; (with_reducible refine (Hfm.out _).mono ?_); rintro e w3 ⟨rfl, hb3⟩) | (go_at_call 14; (with_reducible refine (Hri.out _).mono ?_); rintro e w4 ⟨rfl, hb4⟩))
          refine ⟨⟨k + 1, by omega, by simp, by rw [Hnext.out]; rfl, below_next hbel (below_next (below_next hb2 hb3) hb4)⟩, ?_⟩
          simp [intOf]
          omega
      · go_wp2_with (go_at_call 10; (with_reducible refine (Hlg.out _).mono ?_); rintro e w2 ⟨rfl, hb2⟩)
        go_ret
        exact ⟨rfl, below_next hb hb2⟩
    · have hall : os.take k = os := List.take_of_length_le (by omega)
      have hkI : (os.length : Int) ≤ (k : Int) := by omega
      rw [hall]
      clear hall
      have HB2 := Lib.hid hb
      clear hb hbel HB1
      go_wp2
      go_loopw [8, 5] (fun i a wr2 => ∃ (k : Nat), k ≤ os.length ∧ i = .int .i64 k ∧ a = .string (ba ((os.take k).flatMap ordBytes)) ∧ (os.all isOrd = false → k = 0) ∧ Below wr.heap.size wr wr2) (fun i _ _ => os.length - (intOf i).toNat)
      case atStart => exact ⟨0, Nat.zero_le _, rfl, rfl, fun _ => rfl, Below.refl _ _⟩
      case round =>
        obtain ⟨k, hk, rfl, rfl, hk0, hbel⟩ := hrel
        have hb := below_next HB2.out hbel
        cases hao : os.all isOrd
        · obtain rfl := hk0 hao
          have hposI : (0 : Int) < (os.length : Int) := by
            rcases os with _ | ⟨o, os⟩
            · cases hao
            · simp only [List.length_cons]; omega
          clear hk0
          have hby : ∀ W, Elems W A 6 (os.map Ord.cells) → Calls Try.prog 12 #[.slice A os.length cap] W fun e w' => e = .returned (.tuple #[.string (ba ((os.take 0).flatMap ordBytes)), .int .i64 1]) ∧ Below W.heap.size W w' := fun W hW => by
            have h := bytes_any A cap os W (by omega) hW Hfit.out
            rw [show bytesAll os = (ba ((os.take 0).flatMap ordBytes), 1) by rw [bytesAll, if_neg (by rw [hao]; decide)]; rfl] at h
            exact h
          have hT : (ba ((os.take 0).flatMap ordBytes)).size ≤ 256500 := by rw [show ba ((os.take 0).flatMap ordBytes) = ⟨#[]⟩ from rfl]; decide
          generalize ba ((os.take 0).flatMap ordBytes) = T at hby hT ⊢
          have Hby := Lib.hid hby
          clear hby hao
          go_wp2_with (go_at_call 12; (with_reducible refine (Hby.out _ (He.out.below hb)).mono ?_); rintro e w3 ⟨rfl, hb3⟩)
          have hb := below_alloc (o := .cells #[.string T, .string s] 43) (below_next hb hb3)
          have ht0 : (w3.alloc (.cells #[.string T, .string s] 43)).cell? ⟨w3.heap.size, 0, none⟩ = some (.string T) := by rw [Lib.cell_of_heap (heap_alloc_new w3 _)]; rfl
          have ht1 : (w3.alloc (.cells #[.string T, .string s] 43)).cell? ⟨w3.heap.size, 1, none⟩ = some (.string s) := by rw [Lib.cell_of_heap (heap_alloc_new w3 _)]; rfl
          have hlt3 : w3.heap.size < (w3.alloc (.cells #[.string T, .string s] 43)).heap.size := by simp
          generalize (w3.alloc (.cells #[.string T, .string s] 43)) = W3 at hb ht0 ht1 hlt3 ⊢
          have HB3 := Lib.hid hb
          have HT0 := Lib.hid ht0
          have HT1 := Lib.hid ht1
          clear hb hb3 hbel ht0 ht1 Hby
          go_loopw [12, 13, 14, 15, 16, 17] (fun i _ _ _ _ _ wr => ∃ (k : Nat), k ≤ 2 ∧ i = .int .i64 k ∧ Below W3.heap.size W3 wr) (fun i _ _ _ _ _ _ => 2 - (intOf i).toNat)
          case atStart => exact ⟨0, by decide, rfl, Below.refl _ _⟩
          case round =>
            obtain ⟨m, hm, rfl, hbel⟩ := hrel
            have hb := below_next HB3.out hbel
            by_cases hm2 : m < 2
            · obtain ⟨X, hX, hXs⟩ : ∃ X : ByteArray, wr.cell? ⟨w3.heap.size, m, none⟩ = some (.string X) ∧ X.size ≤ 256500 := by
                rcases (show m = 0 ∨ m = 1 by omega) with rfl | rfl
                · exact ⟨T, keep_cell hbel hlt3 HT0.out, hT⟩
                · exact ⟨s, keep_cell hbel hlt3 HT1.out, by omega⟩
              have hltr : w3.heap.size < wr.heap.size := keep_lt hbel hlt3
              have hm2I : (m : Int) < 2 := by omega
              have hal := fun W => all_owns X (by omega) W
              have hrl := fun W => rall_owns X (by omega) W
              have hl4 := allA_le X
              generalize allA X = R at hal hrl hl4
              obtain ⟨l, cd⟩ := R
              dsimp only at hal hrl hl4
              have Hal := Lib.hid hal
              have Hrl := Lib.hid hrl
              clear hal hrl
              go_wp2_with (first | (go_at_call 18; (with_reducible refine (Hal.out _).mono ?_); rintro e w5 ⟨⟨A1, c1, rfl, he1⟩, hb5⟩; have hX5 := keep_cell hb5 hltr hX; have He1 := Lib.hid he1; clear he1) | (go_at_call 19; (with_reducible refine (Hrl.out _).mono ?_); rintro e w6 ⟨⟨A2, c2, rfl, he2⟩, hb6⟩; have He2 := Lib.hid he2; clear he2))
              have hb := below_next hb (below_next hb5 hb6)
              have HBL := Lib.hid (below_next hbel (below_next hb5 hb6))
              have He1 := Lib.hid (He1.out.below hb6)
              clear hbel Hal Hrl hX hX5
              go_loopw [17] (fun i wr => ∃ (j : Nat), j ≤ l.length ∧ i = .int .i64 j ∧ Below w6.heap.size w6 wr) (fun i _ => l.length - (intOf i).toNat)
              case atStart => exact ⟨0, Nat.zero_le _, rfl, Below.refl _ _⟩
              case round =>
                obtain ⟨j, hj, rfl, hbel⟩ := hrel
                by_cases hjl : j < l.length
                · obtain ⟨⟨pk, pkey, pval, pn, plo, phi⟩, hpj⟩ : ∃ s, l[j]? = some s := ⟨l[j], List.getElem?_eq_getElem hjl⟩
                  obtain ⟨b1, o1, rfl, hq⟩ := (He1.out.below hbel).at6 hpj
                  obtain ⟨b2, o2, rfl, hg⟩ := (He2.out.below hbel).at6 hpj
                  have hjI : (j : Int) < (l.length : Int) := by omega
                  have hfm : ∀ W, Calls Try.prog 11 #[(.agg #[.int .i64 pk, .string pkey, .string pval, .int .u64 pn, .string plo, .string phi])] W fun e w' => e = .returned (.agg #[.int .i64 pk, .string pkey, .string pval, .int .u64 pn, .string plo, .string phi]) ∧ Below W.heap.size W w' := fun W => form_any ⟨pk, pkey, pval, pn, plo, phi⟩ W
                  have hn0 : ∀ W : World, (binOp .neq 27 (.agg #[.int .i64 pk, .string pkey, .string pval, .int .u64 pn, .string plo, .string phi]) (.agg #[.int .i64 pk, .string pkey, .string pval, .int .u64 pn, .string plo, .string phi])).run Try.prog W = .ok (.bool false) W := fun W => (neq_ref ⟨pk, pkey, pval, pn, plo, phi⟩ ⟨pk, pkey, pval, pn, plo, phi⟩ W).trans (by simp)
                  have Hfm := Lib.hid hfm
                  clear hfm hpj
                  have q0 := hq.c0; have q1 := hq.c1; have q2 := hq.c2; have q3 := hq.c3; have q4 := hq.c4; have q5 := hq.c5
                  have g0 := hg.c0; have g1 := hg.c1; have g2 := hg.c2; have g3 := hg.c3; have g4 := hg.c4; have g5 := hg.c5
                  go_wp2
                  refine rg_start (n := 10) (fun w' => Below w6.heap.size w6 w' ∧ At6 w' b1 (o1 + j * 6) ⟨pk, pkey, pval, pn, plo, phi⟩ ∧ At6 w' b2 (o2 + j * 6) ⟨pk, pkey, pval, pn, plo, phi⟩ ∧ w'.cell? ⟨b1, o1 + j * 6, none⟩ = some (.int .i64 pk) ∧ w'.cell? ⟨b1, o1 + j * 6 + 1, none⟩ = some (.string pkey) ∧ w'.cell? ⟨b1, o1 + j * 6 + 2, none⟩ = some (.string pval) ∧ w'.cell? ⟨b1, o1 + j * 6 + 3, none⟩ = some (.int .u64 pn) ∧ w'.cell? ⟨b1, o1 + j * 6 + 4, none⟩ = some (.string plo) ∧ w'.cell? ⟨b1, o1 + j * 6 + 5, none⟩ = some (.string phi) ∧ w'.cell? ⟨b2, o2 + j * 6, none⟩ = some (.int .i64 pk) ∧ w'.cell? ⟨b2, o2 + j * 6 + 1, none⟩ = some (.string pkey) ∧ w'.cell? ⟨b2, o2 + j * 6 + 2, none⟩ = some (.string pval) ∧ w'.cell? ⟨b2, o2 + j * 6 + 3, none⟩ = some (.int .u64 pn) ∧ w'.cell? ⟨b2, o2 + j * 6 + 4, none⟩ = some (.string plo) ∧ w'.cell? ⟨b2, o2 + j * 6 + 5, none⟩ = some (.string phi)) #[false, false, false, false, false, false, false, false, false, false] (by kernel_rfl) rfl rfl ⟨hbel.drew, hq, hg, q0, q1, q2, q3, q4, q5, g0, g1, g2, g3, g4, g5⟩ (fun hHeld => ?_)
                  refine rg_take (i := 0) (N := (some 125)) (v := ?_) (a' := ?_) #[true, false, false, false, false, false, false, false, false, false] rfl rfl (by kernel_rfl) (fun _ _ _ h => h) (by rfl) ?_ hHeld ?_ ?_
                  rotate_left 2
                  · rintro w' ⟨s0, s1, s2, s3, s4, s5, s6, s7, s8, s9, s10, s11, s12, s13, s14⟩
                    go_simp
                    try with_reducible rfl
                  · simp only [Act.put, List.setIfInBounds_toArray, List.set_cons_zero, List.set_cons_succ]
                    rfl
                  refine rg_take (i := 1) (N := (some 126)) (v := ?_) (a' := ?_) #[true, true, false, false, false, false, false, false, false, false] rfl rfl (by kernel_rfl) (fun _ _ _ h => h) (by rfl) ?_ hHeld ?_ ?_
                  rotate_left 2
                  · rintro w' ⟨s0, s1, s2, s3, s4, s5, s6, s7, s8, s9, s10, s11, s12, s13, s14⟩
                    go_simp
                    try with_reducible rfl
                  · simp only [Act.put, List.setIfInBounds_toArray, List.set_cons_zero, List.set_cons_succ]
                    rfl
                  refine rg_take (i := 2) (N := (some 127)) (v := ?_) (a' := ?_) #[true, true, true, false, false, false, false, false, false, false] rfl rfl (by kernel_rfl) (fun _ _ _ h => h) (by rfl) ?_ hHeld ?_ ?_
                  rotate_left 2
                  · rintro w' ⟨s0, s1, s2, s3, s4, s5, s6, s7, s8, s9, s10, s11, s12, s13, s14⟩
                    go_simp
                    try with_reducible rfl
                  · simp only [Act.put, List.setIfInBounds_toArray, List.set_cons_zero, List.set_cons_succ]
                    rfl
                  refine rg_take (i := 3) (N := (some 128)) (v := ?_) (a' := ?_) #[true, true, true, true, false, false, false, false, false, false] rfl rfl (by kernel_rfl) (fun _ _ _ h => h) (by rfl) ?_ hHeld ?_ ?_
                  rotate_left 2
                  · rintro w' ⟨s0, s1, s2, s3, s4, s5, s6, s7, s8, s9, s10, s11, s12, s13, s14⟩
                    go_simp
                    try with_reducible rfl
                  · simp only [Act.put, List.setIfInBounds_toArray, List.set_cons_zero, List.set_cons_succ]
                    rfl
                  refine rg_take (i := 5) (N := (some 130)) (v := ?_) (a' := ?_) #[true, true, true, true, false, true, false, false, false, false] rfl rfl (by kernel_rfl) (fun _ _ _ h => h) (by rfl) ?_ hHeld ?_ ?_
                  rotate_left 2
                  · rintro w' ⟨s0, s1, s2, s3, s4, s5, s6, s7, s8, s9, s10, s11, s12, s13, s14⟩
                    go_simp
                    try with_reducible rfl
                  · simp only [Act.put, List.setIfInBounds_toArray, List.set_cons_zero, List.set_cons_succ]
                    rfl
                  refine rg_take (i := 6) (N := (some 131)) (v := ?_) (a' := ?_) #[true, true, true, true, false, true, true, false, false, false] rfl rfl (by kernel_rfl) (fun _ _ _ h => h) (by rfl) ?_ hHeld ?_ ?_
                  rotate_left 2
                  · rintro w' ⟨s0, s1, s2, s3, s4, s5, s6, s7, s8, s9, s10, s11, s12, s13, s14⟩
                    go_simp
                    try with_reducible rfl
                  · simp only [Act.put, List.setIfInBounds_toArray, List.set_cons_zero, List.set_cons_succ]
                    rfl
                  refine rg_take (i := 7) (N := (some 132)) (v := ?_) (a' := ?_) #[true, true, true, true, false, true, true, true, false, false] rfl rfl (by kernel_rfl) (fun _ _ _ h => h) (by rfl) ?_ hHeld ?_ ?_
                  rotate_left 2
                  · rintro w' ⟨s0, s1, s2, s3, s4, s5, s6, s7, s8, s9, s10, s11, s12, s13, s14⟩
                    go_simp
                    try with_reducible rfl
                  · simp only [Act.put, List.setIfInBounds_toArray, List.set_cons_zero, List.set_cons_succ]
                    rfl
                  refine rg_take (i := 8) (N := (some 133)) (v := ?_) (a' := ?_) #[true, true, true, true, false, true, true, true, true, false] rfl rfl (by kernel_rfl) (fun _ _ _ h => h) (by rfl) ?_ hHeld ?_ ?_
                  rotate_left 2
                  · rintro w' ⟨s0, s1, s2, s3, s4, s5, s6, s7, s8, s9, s10, s11, s12, s13, s14⟩
                    go_simp
                    try with_reducible rfl
                  · simp only [Act.put, List.setIfInBounds_toArray, List.set_cons_zero, List.set_cons_succ]
                    rfl
                  refine rg_one (i := 4) #[true, true, true, true, true, true, true, true, true, false] rfl (by kernel_rfl) (by rfl) (fun K hK => ?_)
                  obtain ⟨s0, s1, s2, s3, s4, s5, s6, s7, s8, s9, s10, s11, s12, s13, s14⟩ := hHeld
                  repeat go_step
                  ((with_reducible refine (Hfm.out _).mono ?_); rintro e w9 ⟨rfl, hb9⟩)
                  try dsimp only
                  refine hK.out _ _ ?_ (fun hHeld => ?_)
                  · exact rows_keep s0 s1 s2 hb9
                  clear hK K
                  clear s0 s1 s2 s3 s4 s5 s6 s7 s8 s9 s10 s11 s12 s13 s14
                  refine rg_take (i := 9) (N := (some 134)) (v := ?_) (a' := ?_) #[true, true, true, true, true, true, true, true, true, true] rfl rfl (by kernel_rfl) (fun _ _ _ h => h) (by rfl) ?_ hHeld ?_ ?_
                  rotate_left 2
                  · rintro w' ⟨s0, s1, s2, s3, s4, s5, s6, s7, s8, s9, s10, s11, s12, s13, s14⟩
                    go_simp
                    try with_reducible rfl
                  · simp only [Act.put, List.setIfInBounds_toArray, List.set_cons_zero, List.set_cons_succ]
                    rfl
                  refine rg_done (by kernel_rfl) ?_
                  obtain ⟨h0, _⟩ := hHeld
                  all_goals go_wp2
                  all_goals refine ⟨⟨j + 1, by omega, by simp, h0⟩, ?_⟩
                  all_goals simp [intOf]
                  all_goals omega
                · have hjI : (l.length : Int) ≤ (j : Int) := by omega
                  go_wp2
                  refine ⟨⟨m + 1, by omega, by simp, below_next HBL.out hbel⟩, ?_⟩
                  simp [intOf]
                  omega
            · have hm2I : (2 : Int) ≤ (m : Int) := by omega
              go_wp2
              go_ret
              exact ⟨rfl, hb⟩
        · by_cases hlt : k < os.length
          · obtain ⟨⟨pk, pkey, pval, pn, plo, phi⟩, hpk⟩ : ∃ s, os[k]? = some s := ⟨os[k], List.getElem?_eq_getElem hlt⟩
            obtain ⟨bl, off, rfl, hq⟩ := (He.out.below hb).at6 hpk
            have hkI : (k : Int) < (os.length : Int) := by omega
            have hnext := take_snoc_bytes os k _ hpk
            have hip := List.all_eq_true.1 hao _ (List.mem_of_getElem? hpk)
            have hfm : ∀ W, Calls Try.prog 11 #[(.agg #[.int .i64 pk, .string pkey, .string pval, .int .u64 pn, .string plo, .string phi])] W fun e w' => e = .returned (.agg #[.int .i64 pk, .string pkey, .string pval, .int .u64 pn, .string plo, .string phi]) ∧ Below W.heap.size W w' := fun W => form_any ⟨pk, pkey, pval, pn, plo, phi⟩ W
            have hrb : ∀ W, Calls Try.prog 15 #[(.agg #[.int .i64 pk, .string pkey, .string pval, .int .u64 pn, .string plo, .string phi])] W fun e w' => e = .returned (.string (ba (ordBytes ⟨pk, pkey, pval, pn, plo, phi⟩))) ∧ Below W.heap.size W w' := fun W => refBytes_any ⟨pk, pkey, pval, pn, plo, phi⟩ W hip (Hfit.out _ (List.mem_of_getElem? hpk))
            have hsB : (ba (ordBytes ⟨pk, pkey, pval, pn, plo, phi⟩)).size ≤ 513 := by rw [baSize]; exact ordBytes_le hip
            have hsA : (ba ((os.take k).flatMap ordBytes)).size ≤ 256500 := by
              rw [baSize]
              have := rowBytes_le (os.take k) (by rw [List.all_eq_true]; intro o ho; exact List.all_eq_true.1 hao o (List.mem_of_mem_take ho))
              have h2 : (os.take k).length ≤ 500 := by rw [List.length_take]; omega
              omega
            generalize ba (ordBytes ⟨pk, pkey, pval, pn, plo, phi⟩) = BP at hrb hsB hnext
            have Hnext := Lib.hid hnext
            generalize hG : ba ((os.take k).flatMap ordBytes) = BA at hsA ⊢
            rw [hG] at hnext
            have Hnext := Lib.hid hnext
            have Hfm := Lib.hid hfm
            have Hrb := Lib.hid hrb
            have Hao := Lib.hid hao
            clear hfm hrb hnext hpk hip hG hao hk0
            have q0 := hq.c0; have q1 := hq.c1; have q2 := hq.c2; have q3 := hq.c3; have q4 := hq.c4; have q5 := hq.c5
            go_wp2_with (first | (go_at_call 11; (with_reducible refine (Hfm.out _).mono ?_); rintro e w3 ⟨rfl, hb3⟩) | (go_at_call 15; (with_reducible refine (Hrb.out _).mono ?_); rintro e w4 ⟨rfl, hb4⟩))
            all_goals try (exfalso; omega)
            refine ⟨⟨k + 1, by omega, by simp, by rw [Hnext.out], (fun h => by cases h), below_next hbel (below_next hb3 hb4)⟩, ?_⟩
            simp [intOf]
            omega
          · have hall : os.take k = os := List.take_of_length_le (by omega)
            have hkI : (os.length : Int) ≤ (k : Int) := by omega
            rw [hall]
            have hby : ∀ W, Elems W A 6 (os.map Ord.cells) → Calls Try.prog 12 #[.slice A os.length cap] W fun e w' => e = .returned (.tuple #[.string (ba (os.flatMap ordBytes)), .int .i64 0]) ∧ Below W.heap.size W w' := fun W hW => by
              have h := bytes_any A cap os W (by omega) hW Hfit.out
              rw [show bytesAll os = (ba (os.flatMap ordBytes), 0) by rw [bytesAll, if_pos hao]; rfl] at h
              exact h
            have hT : (ba (os.flatMap ordBytes)).size ≤ 256500 := by
              rw [baSize]
              have := rowBytes_le os hao
              omega
            generalize ba (os.flatMap ordBytes) = T at hby hT ⊢
            have Hby := Lib.hid hby
            clear hby hao hall hk0
            go_wp2_with (go_at_call 12; (with_reducible refine (Hby.out _ (He.out.below hb)).mono ?_); rintro e w3 ⟨rfl, hb3⟩)
            have hb := below_alloc (o := .cells #[.string T, .string s] 43) (below_next hb hb3)
            have ht0 : (w3.alloc (.cells #[.string T, .string s] 43)).cell? ⟨w3.heap.size, 0, none⟩ = some (.string T) := by rw [Lib.cell_of_heap (heap_alloc_new w3 _)]; rfl
            have ht1 : (w3.alloc (.cells #[.string T, .string s] 43)).cell? ⟨w3.heap.size, 1, none⟩ = some (.string s) := by rw [Lib.cell_of_heap (heap_alloc_new w3 _)]; rfl
            have hlt3 : w3.heap.size < (w3.alloc (.cells #[.string T, .string s] 43)).heap.size := by simp
            generalize (w3.alloc (.cells #[.string T, .string s] 43)) = W3 at hb ht0 ht1 hlt3 ⊢
            have HB3 := Lib.hid hb
            have HT0 := Lib.hid ht0
            have HT1 := Lib.hid ht1
            clear hb hb3 hbel ht0 ht1 Hby
            go_loopw [12, 13, 14, 15, 16, 17] (fun i _ _ _ _ _ wr => ∃ (k : Nat), k ≤ 2 ∧ i = .int .i64 k ∧ Below W3.heap.size W3 wr) (fun i _ _ _ _ _ _ => 2 - (intOf i).toNat)
            case atStart => exact ⟨0, by decide, rfl, Below.refl _ _⟩
            case round =>
              obtain ⟨m, hm, rfl, hbel⟩ := hrel
              have hb := below_next HB3.out hbel
              by_cases hm2 : m < 2
              · obtain ⟨X, hX, hXs⟩ : ∃ X : ByteArray, wr.cell? ⟨w3.heap.size, m, none⟩ = some (.string X) ∧ X.size ≤ 256500 := by
                  rcases (show m = 0 ∨ m = 1 by omega) with rfl | rfl
                  · exact ⟨T, keep_cell hbel hlt3 HT0.out, hT⟩
                  · exact ⟨s, keep_cell hbel hlt3 HT1.out, by omega⟩
                have hltr : w3.heap.size < wr.heap.size := keep_lt hbel hlt3
                have hm2I : (m : Int) < 2 := by omega
                have hal := fun W => all_owns X (by omega) W
                have hrl := fun W => rall_owns X (by omega) W
                have hl4 := allA_le X
                generalize allA X = R at hal hrl hl4
                obtain ⟨l, cd⟩ := R
                dsimp only at hal hrl hl4
                have Hal := Lib.hid hal
                have Hrl := Lib.hid hrl
                clear hal hrl
                go_wp2_with (first | (go_at_call 18; (with_reducible refine (Hal.out _).mono ?_); rintro e w5 ⟨⟨A1, c1, rfl, he1⟩, hb5⟩; have hX5 := keep_cell hb5 hltr hX; have He1 := Lib.hid he1; clear he1) | (go_at_call 19; (with_reducible refine (Hrl.out _).mono ?_); rintro e w6 ⟨⟨A2, c2, rfl, he2⟩, hb6⟩; have He2 := Lib.hid he2; clear he2))
                have hb := below_next hb (below_next hb5 hb6)
                have HBL := Lib.hid (below_next hbel (below_next hb5 hb6))
                have He1 := Lib.hid (He1.out.below hb6)
                clear hbel Hal Hrl hX hX5
                go_loopw [17] (fun i wr => ∃ (j : Nat), j ≤ l.length ∧ i = .int .i64 j ∧ Below w6.heap.size w6 wr) (fun i _ => l.length - (intOf i).toNat)
                case atStart => exact ⟨0, Nat.zero_le _, rfl, Below.refl _ _⟩
                case round =>
                  obtain ⟨j, hj, rfl, hbel⟩ := hrel
                  by_cases hjl : j < l.length
                  · obtain ⟨⟨pk, pkey, pval, pn, plo, phi⟩, hpj⟩ : ∃ s, l[j]? = some s := ⟨l[j], List.getElem?_eq_getElem hjl⟩
                    obtain ⟨b1, o1, rfl, hq⟩ := (He1.out.below hbel).at6 hpj
                    obtain ⟨b2, o2, rfl, hg⟩ := (He2.out.below hbel).at6 hpj
                    have hjI : (j : Int) < (l.length : Int) := by omega
                    have hfm : ∀ W, Calls Try.prog 11 #[(.agg #[.int .i64 pk, .string pkey, .string pval, .int .u64 pn, .string plo, .string phi])] W fun e w' => e = .returned (.agg #[.int .i64 pk, .string pkey, .string pval, .int .u64 pn, .string plo, .string phi]) ∧ Below W.heap.size W w' := fun W => form_any ⟨pk, pkey, pval, pn, plo, phi⟩ W
                    have hn0 : ∀ W : World, (binOp .neq 27 (.agg #[.int .i64 pk, .string pkey, .string pval, .int .u64 pn, .string plo, .string phi]) (.agg #[.int .i64 pk, .string pkey, .string pval, .int .u64 pn, .string plo, .string phi])).run Try.prog W = .ok (.bool false) W := fun W => (neq_ref ⟨pk, pkey, pval, pn, plo, phi⟩ ⟨pk, pkey, pval, pn, plo, phi⟩ W).trans (by simp)
                    have Hfm := Lib.hid hfm
                    clear hfm hpj
                    have q0 := hq.c0; have q1 := hq.c1; have q2 := hq.c2; have q3 := hq.c3; have q4 := hq.c4; have q5 := hq.c5
                    have g0 := hg.c0; have g1 := hg.c1; have g2 := hg.c2; have g3 := hg.c3; have g4 := hg.c4; have g5 := hg.c5
                    go_wp2
                    refine rg_start (n := 10) (fun w' => Below w6.heap.size w6 w' ∧ At6 w' b1 (o1 + j * 6) ⟨pk, pkey, pval, pn, plo, phi⟩ ∧ At6 w' b2 (o2 + j * 6) ⟨pk, pkey, pval, pn, plo, phi⟩ ∧ w'.cell? ⟨b1, o1 + j * 6, none⟩ = some (.int .i64 pk) ∧ w'.cell? ⟨b1, o1 + j * 6 + 1, none⟩ = some (.string pkey) ∧ w'.cell? ⟨b1, o1 + j * 6 + 2, none⟩ = some (.string pval) ∧ w'.cell? ⟨b1, o1 + j * 6 + 3, none⟩ = some (.int .u64 pn) ∧ w'.cell? ⟨b1, o1 + j * 6 + 4, none⟩ = some (.string plo) ∧ w'.cell? ⟨b1, o1 + j * 6 + 5, none⟩ = some (.string phi) ∧ w'.cell? ⟨b2, o2 + j * 6, none⟩ = some (.int .i64 pk) ∧ w'.cell? ⟨b2, o2 + j * 6 + 1, none⟩ = some (.string pkey) ∧ w'.cell? ⟨b2, o2 + j * 6 + 2, none⟩ = some (.string pval) ∧ w'.cell? ⟨b2, o2 + j * 6 + 3, none⟩ = some (.int .u64 pn) ∧ w'.cell? ⟨b2, o2 + j * 6 + 4, none⟩ = some (.string plo) ∧ w'.cell? ⟨b2, o2 + j * 6 + 5, none⟩ = some (.string phi)) #[false, false, false, false, false, false, false, false, false, false] (by kernel_rfl) rfl rfl ⟨hbel.drew, hq, hg, q0, q1, q2, q3, q4, q5, g0, g1, g2, g3, g4, g5⟩ (fun hHeld => ?_)
                    refine rg_take (i := 0) (N := (some 125)) (v := ?_) (a' := ?_) #[true, false, false, false, false, false, false, false, false, false] rfl rfl (by kernel_rfl) (fun _ _ _ h => h) (by rfl) ?_ hHeld ?_ ?_
                    rotate_left 2
                    · rintro w' ⟨s0, s1, s2, s3, s4, s5, s6, s7, s8, s9, s10, s11, s12, s13, s14⟩
                      go_simp
                      try with_reducible rfl
                    · simp only [Act.put, List.setIfInBounds_toArray, List.set_cons_zero, List.set_cons_succ]
                      rfl
                    refine rg_take (i := 1) (N := (some 126)) (v := ?_) (a' := ?_) #[true, true, false, false, false, false, false, false, false, false] rfl rfl (by kernel_rfl) (fun _ _ _ h => h) (by rfl) ?_ hHeld ?_ ?_
                    rotate_left 2
                    · rintro w' ⟨s0, s1, s2, s3, s4, s5, s6, s7, s8, s9, s10, s11, s12, s13, s14⟩
                      go_simp
                      try with_reducible rfl
                    · simp only [Act.put, List.setIfInBounds_toArray, List.set_cons_zero, List.set_cons_succ]
                      rfl
                    refine rg_take (i := 2) (N := (some 127)) (v := ?_) (a' := ?_) #[true, true, true, false, false, false, false, false, false, false] rfl rfl (by kernel_rfl) (fun _ _ _ h => h) (by rfl) ?_ hHeld ?_ ?_
                    rotate_left 2
                    · rintro w' ⟨s0, s1, s2, s3, s4, s5, s6, s7, s8, s9, s10, s11, s12, s13, s14⟩
                      go_simp
                      try with_reducible rfl
                    · simp only [Act.put, List.setIfInBounds_toArray, List.set_cons_zero, List.set_cons_succ]
                      rfl
                    refine rg_take (i := 3) (N := (some 128)) (v := ?_) (a' := ?_) #[true, true, true, true, false, false, false, false, false, false] rfl rfl (by kernel_rfl) (fun _ _ _ h => h) (by rfl) ?_ hHeld ?_ ?_
                    rotate_left 2
                    · rintro w' ⟨s0, s1, s2, s3, s4, s5, s6, s7, s8, s9, s10, s11, s12, s13, s14⟩
                      go_simp
                      try with_reducible rfl
                    · simp only [Act.put, List.setIfInBounds_toArray, List.set_cons_zero, List.set_cons_succ]
                      rfl
                    refine rg_take (i := 5) (N := (some 130)) (v := ?_) (a' := ?_) #[true, true, true, true, false, true, false, false, false, false] rfl rfl (by kernel_rfl) (fun _ _ _ h => h) (by rfl) ?_ hHeld ?_ ?_
                    rotate_left 2
                    · rintro w' ⟨s0, s1, s2, s3, s4, s5, s6, s7, s8, s9, s10, s11, s12, s13, s14⟩
                      go_simp
                      try with_reducible rfl
                    · simp only [Act.put, List.setIfInBounds_toArray, List.set_cons_zero, List.set_cons_succ]
                      rfl
                    refine rg_take (i := 6) (N := (some 131)) (v := ?_) (a' := ?_) #[true, true, true, true, false, true, true, false, false, false] rfl rfl (by kernel_rfl) (fun _ _ _ h => h) (by rfl) ?_ hHeld ?_ ?_
                    rotate_left 2
                    · rintro w' ⟨s0, s1, s2, s3, s4, s5, s6, s7, s8, s9, s10, s11, s12, s13, s14⟩
                      go_simp
                      try with_reducible rfl
                    · simp only [Act.put, List.setIfInBounds_toArray, List.set_cons_zero, List.set_cons_succ]
                      rfl
                    refine rg_take (i := 7) (N := (some 132)) (v := ?_) (a' := ?_) #[true, true, true, true, false, true, true, true, false, false] rfl rfl (by kernel_rfl) (fun _ _ _ h => h) (by rfl) ?_ hHeld ?_ ?_
                    rotate_left 2
                    · rintro w' ⟨s0, s1, s2, s3, s4, s5, s6, s7, s8, s9, s10, s11, s12, s13, s14⟩
                      go_simp
                      try with_reducible rfl
                    · simp only [Act.put, List.setIfInBounds_toArray, List.set_cons_zero, List.set_cons_succ]
                      rfl
                    refine rg_take (i := 8) (N := (some 133)) (v := ?_) (a' := ?_) #[true, true, true, true, false, true, true, true, true, false] rfl rfl (by kernel_rfl) (fun _ _ _ h => h) (by rfl) ?_ hHeld ?_ ?_
                    rotate_left 2
                    · rintro w' ⟨s0, s1, s2, s3, s4, s5, s6, s7, s8, s9, s10, s11, s12, s13, s14⟩
                      go_simp
                      try with_reducible rfl
                    · simp only [Act.put, List.setIfInBounds_toArray, List.set_cons_zero, List.set_cons_succ]
                      rfl
                    refine rg_one (i := 4) #[true, true, true, true, true, true, true, true, true, false] rfl (by kernel_rfl) (by rfl) (fun K hK => ?_)
                    obtain ⟨s0, s1, s2, s3, s4, s5, s6, s7, s8, s9, s10, s11, s12, s13, s14⟩ := hHeld
                    repeat go_step
                    ((with_reducible refine (Hfm.out _).mono ?_); rintro e w9 ⟨rfl, hb9⟩)
                    try dsimp only
                    refine hK.out _ _ ?_ (fun hHeld => ?_)
                    · exact rows_keep s0 s1 s2 hb9
                    clear hK K
                    clear s0 s1 s2 s3 s4 s5 s6 s7 s8 s9 s10 s11 s12 s13 s14
                    refine rg_take (i := 9) (N := (some 134)) (v := ?_) (a' := ?_) #[true, true, true, true, true, true, true, true, true, true] rfl rfl (by kernel_rfl) (fun _ _ _ h => h) (by rfl) ?_ hHeld ?_ ?_
                    rotate_left 2
                    · rintro w' ⟨s0, s1, s2, s3, s4, s5, s6, s7, s8, s9, s10, s11, s12, s13, s14⟩
                      go_simp
                      try with_reducible rfl
                    · simp only [Act.put, List.setIfInBounds_toArray, List.set_cons_zero, List.set_cons_succ]
                      rfl
                    refine rg_done (by kernel_rfl) ?_
                    obtain ⟨h0, _⟩ := hHeld
                    all_goals go_wp2
                    all_goals refine ⟨⟨j + 1, by omega, by simp, h0⟩, ?_⟩
                    all_goals simp [intOf]
                    all_goals omega
                  · have hjI : (l.length : Int) ≤ (j : Int) := by omega
                    go_wp2
                    refine ⟨⟨m + 1, by omega, by simp, below_next HBL.out hbel⟩, ?_⟩
                    simp [intOf]
                    omega
              · have hm2I : (2 : Int) ≤ (m : Int) := by omega
                go_wp2
                go_ret
                exact ⟨rfl, hb⟩


set_option maxRecDepth 100000 in
theorem rows_any (A : Option Addr) (cap : Nat) (os : List Ord) (s : ByteArray) (w : World) (he : Elems w A 6 (os.map Ord.cells)) (hfit : ∀ o ∈ os, o.fits) :
    Calls Try.prog 4 #[.slice A os.length cap, .string s] w fun e w' => e = .returned (.bool true) ∧ Below w.heap.size w w' := by
  by_cases hl : (os.length : Int) ≤ 500
  · by_cases hs : (s.size : Int) ≤ 8192
    · exact rows_short A cap os s w hl hs he hfit
    · clear he hfit
      have hs : (8192 : Int) < (s.size : Int) := by omega
      go_enter Try.func4, Try.ntmps4
      go_wp2_with (go_at_call 9; (with_reducible refine (awake_any _).mono ?_); rintro e w1 ⟨rfl, hb1⟩)
      go_ret
      exact ⟨rfl, hb1⟩
  · clear he hfit
    have hl : (500 : Int) < (os.length : Int) := by omega
    go_enter Try.func4, Try.ntmps4
    go_wp2_with (go_at_call 9; (with_reducible refine (awake_any _).mono ?_); rintro e w1 ⟨rfl, hb1⟩)
    go_ret
    exact ⟨rfl, hb1⟩

end Go.Proofs.Ytdfgdnaejnngoaa
