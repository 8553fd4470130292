import Derived.Test.YtdfgdnaejnngoaaLaw3
import Derived.Test.YtdfgdnaejnngoaaPl1
namespace Go.Proofs.Ytdfgdnaejnngoaa
open Go.RowKit

/-- an order's cells within a row -/
def At6 (w : World) (b x : Nat) (p : Ord) : Prop := b < w.heap.size ∧ ∀ j u, p.cells[j]? = some u → w.cell? ⟨b, x + j, none⟩ = some u
theorem At6.below {w w' : World} {b x : Nat} {p : Ord} (h : At6 w b x p) (hf : Below w.heap.size w w') : At6 w' b x p := ⟨keep_lt hf h.1, fun j u hu => keep_cell hf h.1 (h.2 j u hu)⟩
theorem At6.c0 {w : World} {b x : Nat} {p : Ord} (h : At6 w b x p) : w.cell? ⟨b, x, none⟩ = some (.int .i64 p.kind) := h.2 0 _ rfl
theorem At6.c1 {w : World} {b x : Nat} {p : Ord} (h : At6 w b x p) : w.cell? ⟨b, x + 1, none⟩ = some (.string p.key) := h.2 1 _ rfl
theorem At6.c2 {w : World} {b x : Nat} {p : Ord} (h : At6 w b x p) : w.cell? ⟨b, x + 2, none⟩ = some (.string p.val) := h.2 2 _ rfl
theorem At6.c3 {w : World} {b x : Nat} {p : Ord} (h : At6 w b x p) : w.cell? ⟨b, x + 3, none⟩ = some (.int .u64 p.n) := h.2 3 _ rfl
theorem At6.c4 {w : World} {b x : Nat} {p : Ord} (h : At6 w b x p) : w.cell? ⟨b, x + 4, none⟩ = some (.string p.lo) := h.2 4 _ rfl
theorem At6.c5 {w : World} {b x : Nat} {p : Ord} (h : At6 w b x p) : w.cell? ⟨b, x + 5, none⟩ = some (.string p.hi) := h.2 5 _ rfl
theorem Elems.at6 {w : World} {A : Option Addr} {os : List Ord} (h : Elems w A 6 (os.map Ord.cells)) {k : Nat} {p : Ord} (hk : os[k]? = some p) : ∃ b off, A = some ⟨b, off, none⟩ ∧ At6 w b (off + k * 6) p := by
  obtain ⟨b, off, e, hl, hc⟩ := h k p.cells (by simp [hk])
  exact ⟨b, off, e, hl, hc⟩
theorem ba_append (a b : List UInt8) : ba a ++ ba b = ba (a ++ b) := by
  apply ByteArray.ext
  simp [ba, ByteArray.data_append]
theorem ba_inj {a b : List UInt8} : ba a = ba b ↔ a = b := by
  constructor
  · intro h
    have := congrArg (fun s : ByteArray => s.data.toList) h
    simpa [ba] using this
  · intro h
    rw [h]
theorem all_at (s : ByteArray) (l : List Ord) (k : Nat) (p : Ord) (h : allA s = (l, 0)) (hs : s.size ≤ 100000000) (hl : l.length = k + 1) (hp : l[k]? = some p) (W : World) :
    Calls Try.prog 18 #[.string s] W fun e w' => (∃ g cap, e = .returned (.tuple #[.slice (some ⟨g, 0, none⟩) (k + 1) cap, .int .i64 0]) ∧ At6 w' g (k * 6) p) ∧ Below W.heap.size W w' := by
  have hc := all_any s W hs
  rw [h] at hc
  refine hc.mono ?_
  rintro e w' ⟨⟨v, rfl, ho⟩, hb⟩
  obtain ⟨g, cap, rfl, _, hg, he⟩ := ho.block (show 0 < l.length by omega)
  obtain ⟨b', off, e', h6⟩ := he.at6 hp
  cases e'
  rw [hl]
  rw [Nat.zero_add] at h6
  exact ⟨⟨g, cap, rfl, h6⟩, hb⟩
theorem bytes_row (p : Ord) (W : World) (g : Nat) (hg : W.heap.size = g) (hf : p.fits) (BP : ByteArray) (c : Int) (h : bytesAll [p] = (BP, c)) : Calls Try.prog 12 #[.slice (some ⟨g, 0, none⟩) 1 1] (W.alloc (.cells #[.int .i64 p.kind, .string p.key, .string p.val, .int .u64 p.n, .string p.lo, .string p.hi] 24))
    fun e w' => e = .returned (.tuple #[.string BP, .int .i64 c]) ∧ Below W.heap.size W w' := by
  have hc := bytes_one p W g hg hf
  rw [h] at hc
  exact hc


theorem bytes_row_drew (p : Ord) (W : World) (g : Nat) (hg : W.heap.size = g) (hf : p.fits) (BP : ByteArray) (c : Int) (h : bytesAll [p] = (BP, c)) : Calls Try.prog 12 #[.slice (some ⟨g, 0, none⟩) 1 1] (W.alloc (.cells #[.int .i64 p.kind, .string p.key, .string p.val, .int .u64 p.n, .string p.lo, .string p.hi] 24)).drew
    fun e w' => e = .returned (.tuple #[.string BP, .int .i64 c]) ∧ Below W.heap.size W w' := by
  have hc := bytes_row p W.drew g hg hf BP c h
  refine hc.mono ?_
  rintro e w' ⟨rfl, hb⟩
  exact ⟨rfl, ⟨hb.os, hb.tape, hb.output, hb.size, hb.block⟩⟩
theorem neq_ord (a b : Ord) (w : World) : (binOp .neq 24 a.v b.v).run Try.prog w = .ok (.bool (!decide (a = b))) w := by
  have u3 := Try.underlying3
  have a3 := Try.isAgg3
  have z3 := Try.sizeOf3
  have u9 := Try.underlying9
  have a9 := Try.isAgg9
  have z9 := Try.sizeOf9
  have u22 := Try.underlying22
  have a22 := Try.isAgg22
  have z22 := Try.sizeOf22
  have hS : Try.prog.underlying 24 = some (.struct (Try.prog.fieldsOf 24)) := by kernel_rfl
  have hp : Try.prog.stoodInHeld 24 = false := by kernel_rfl
  rw [Ord.v_def, Ord.v_def]
  rw [run_neq_struct, show (10000 : Nat) = 9999 + 1 from rfl, run_equalIn_agg w 9999 24 _ _ hS hp]
  simp only [Program.fieldsOf, Try.underlying24]
  go_simp
  obtain ⟨k, key, val, n, lo, hi⟩ := a
  obtain ⟨k', key', val', n', lo', hi'⟩ := b
  by_cases h1 : k = k' <;> by_cases h2 : key = key' <;> by_cases h3 : val = val' <;> by_cases h4 : n = n' <;> by_cases h5 : lo = lo' <;> by_cases h6 : hi = hi' <;> simp [h1, h2, h3, h4, h5, h6, bytes_inj]


set_option maxHeartbeats 4000000 in
set_option maxRecDepth 100000 in
theorem back_short (A : Option Addr) (cap : Nat) (os : List Ord) (ok on : Int) (okey oval olo ohi : ByteArray) (w : World) (hl : (os.length : Int) ≤ 100) (he : Elems w A 6 (os.map Ord.cells)) (hfit : ∀ o ∈ os, o.fits) (hf : Ord.fits ⟨ok, okey, oval, on, olo, ohi⟩) :
    Calls Try.prog 5 #[.slice A os.length cap, .agg #[.int .i64 ok, .string okey, .string oval, .int .u64 on, .string olo, .string ohi]] w fun e w' => e = .returned (.bool true) ∧ Below w.heap.size w w' := by
  have hz := OrdAt.new w ⟨ok, okey, oval, on, olo, ohi⟩
  have hb := Below.alloc (Below.refl w.heap.size w) (Nat.le_refl _) (.cells #[.int .i64 ok, .string okey, .string oval, .int .u64 on, .string olo, .string ohi] 24)
  have hgu : Try.prog.eqGuardType Try.prog.depth 24 = false := by kernel_rfl
  have Hfit := Lib.hid hfit
  have He := Lib.hid he
  have Hf := Lib.hid hf
  clear he hfit hf
  go_enter Try.func5, Try.ntmps5
  go_wp2_with (go_at_call 9; (with_reducible refine (awake_any _).mono ?_); rintro e w1 ⟨rfl, hb1⟩; have hb := below_next hb hb1; have hz := hz.below hb1)
  have HB1 := Lib.hid hb
  have HZ1 := Lib.hid hz
  clear hb hz hb1
  go_loopw [6, 5, 7, 8, 9, 10, 11, 12, 13, 14, 15, 16] (fun i a _ _ _ _ _ _ _ _ _ _ wr => ∃ (k : Nat) (ALL : ByteArray), k ≤ os.length ∧ i = .int .i64 k ∧ a = .string ALL ∧ ALL = ba ((os.take k).flatMap ordBytes) ∧ (∀ o ∈ os.take k, isOrd o = true) ∧ Below w1.heap.size w1 wr) (fun i _ _ _ _ _ _ _ _ _ _ _ _ => os.length - (intOf i).toNat)
  case atStart => exact ⟨0, ⟨#[]⟩, Nat.zero_le _, rfl, rfl, rfl, by simp, Below.refl _ _⟩
  case round =>
    obtain ⟨k, ALL, hk, rfl, rfl, hALL, hord, hbel⟩ := hrel
    have hb := below_next HB1.out hbel
    have hz := HZ1.out.below hbel
    have HALL := Lib.hid hALL
    have Hord := Lib.hid hord
    have HBR := Lib.hid hbel
    clear hALL hord hbel
    by_cases hlt : k < os.length
    · obtain ⟨⟨pk, pkey, pval, pn, plo, phi⟩, hpk⟩ : ∃ s, os[k]? = some s := ⟨os[k], List.getElem?_eq_getElem hlt⟩
      obtain ⟨bl, off, rfl, hq⟩ := (He.out.below hb).at6 hpk
      have hfp := Hfit.out _ (List.mem_of_getElem? hpk)
      have hkI : (k : Int) < (os.length : Int) := by omega
      have his : ∀ W, Calls Try.prog 13 #[(.agg #[.int .i64 pk, .string pkey, .string pval, .int .u64 pn, .string plo, .string phi])] W fun e w' => e = .returned (.bool (isOrd ⟨pk, pkey, pval, pn, plo, phi⟩)) ∧ Below W.heap.size W w' := fun W => is_any ⟨pk, pkey, pval, pn, plo, phi⟩ W
      have q0 := hq.c0; have q1 := hq.c1; have q2 := hq.c2; have q3 := hq.c3; have q4 := hq.c4; have q5 := hq.c5
      cases hio : isOrd ⟨pk, pkey, pval, pn, plo, phi⟩
      · rw [hio] at his
        have His := Lib.hid his
        clear his hpk hfp
        go_wp2_with (go_at_call 13; (with_reducible refine (His.out _).mono ?_); rintro e w2 ⟨rfl, hb2⟩)
        go_ret
        exact ⟨rfl, below_next hb hb2⟩
      · have hbp : bytesAll [⟨pk, pkey, pval, pn, plo, phi⟩] = (ba (ordBytes ⟨pk, pkey, pval, pn, plo, phi⟩), 0) := by simp [bytesAll, hio, ba]
        have hpt := parse_told _ hio hfp
        have hct : ∀ n, n + 1 = (ba (ordBytes ⟨pk, pkey, pval, pn, plo, phi⟩)).size → parseR ((ba (ordBytes ⟨pk, pkey, pval, pn, plo, phi⟩)).extract 0 n) = (ord0 0, 5) := fun n hn => by
          rw [baSize] at hn
          have h := cut_told _ hio hfp
          rw [List.dropLast_eq_take, ← hn, Nat.add_sub_cancel] at h
          rw [ba_extract, List.drop_zero, parseR, if_neg (by rw [h]; rintro ⟨h, _⟩; cases h)]
        have hsz : (ba (ordBytes ⟨pk, pkey, pval, pn, plo, phi⟩)).size ≤ 513 ∧ 1 ≤ (ba (ordBytes ⟨pk, pkey, pval, pn, plo, phi⟩)).size := by
          rw [baSize]
          refine ⟨ordBytes_le hio, ?_⟩
          unfold ordBytes
          rw [List.length_append, numBytes_length]
          omega
        have hord2 : ∀ o ∈ os.take (k + 1), isOrd o = true := by
          intro o ho
          rw [List.take_add_one, hpk, List.mem_append] at ho
          rcases ho with ho | ho
          · exact Hord.out o ho
          · simp at ho; rw [ho]; exact hio
        have hcat : ALL ++ ba (ordBytes ⟨pk, pkey, pval, pn, plo, phi⟩) = ba ((os.take (k + 1)).flatMap ordBytes) := by
          rw [HALL.out, ba_append, List.take_add_one, hpk]; simp
        have hsA : ALL.size ≤ 51300 := by
          rw [HALL.out, baSize]
          have := rowBytes_le (os.take k) (by rw [List.all_eq_true]; exact Hord.out)
          have h2 : (os.take k).length ≤ 100 := by rw [List.length_take]; omega
          omega
        have hall2 : allA (ALL ++ ba (ordBytes ⟨pk, pkey, pval, pn, plo, phi⟩)) = (os.take (k + 1), 0) := by
          rw [hcat]
          refine all_told _ (fun o ho => ⟨hord2 o ho, Hfit.out o (List.mem_of_mem_take ho)⟩) ?_
          rw [List.length_take]; omega
        have hal := all_at _ _ k ⟨pk, pkey, pval, pn, plo, phi⟩ hall2 (by rw [ByteArray.size_append]; omega) (by rw [List.length_take]; omega) (by rw [List.getElem?_take, if_pos (by omega)]; exact hpk)
        have hinj : bytesAll [⟨ok, okey, oval, on, olo, ohi⟩] = (ba (ordBytes ⟨pk, pkey, pval, pn, plo, phi⟩), 0) ∧ (⟨ok, okey, oval, on, olo, ohi⟩ : Ord) = ⟨pk, pkey, pval, pn, plo, phi⟩ ∨ (∃ BO, bytesAll [⟨ok, okey, oval, on, olo, ohi⟩] = (BO, 0) ∧ BO ≠ ba (ordBytes ⟨pk, pkey, pval, pn, plo, phi⟩)) ∧ (⟨ok, okey, oval, on, olo, ohi⟩ : Ord) ≠ ⟨pk, pkey, pval, pn, plo, phi⟩ ∨ bytesAll [⟨ok, okey, oval, on, olo, ohi⟩] = (⟨#[]⟩, 1) := by
          by_cases ho : isOrd ⟨ok, okey, oval, on, olo, ohi⟩ = true
          · by_cases he : (⟨ok, okey, oval, on, olo, ohi⟩ : Ord) = ⟨pk, pkey, pval, pn, plo, phi⟩
            · exact .inl ⟨by rw [he]; exact hbp, he⟩
            · refine .inr (.inl ⟨⟨ba (ordBytes ⟨ok, okey, oval, on, olo, ohi⟩), by simp [bytesAll, ho, ba], ?_⟩, he⟩)
              rw [Ne, ba_inj, told_inj ho Hf.out hio hfp]
              exact he
          · exact .inr (.inr (by simp [bytesAll, ho]))
        rw [hio] at his
        generalize ba (ordBytes ⟨pk, pkey, pval, pn, plo, phi⟩) = BP at hbp hpt hct hsz hcat hal hinj
        have hbr := fun W g hg => bytes_row ⟨pk, pkey, pval, pn, plo, phi⟩ W g hg hfp BP 0 hbp
        have hp1 : ∀ W, Calls Try.prog 16 #[.string BP] W fun e w' => e = .returned (.tuple #[(.agg #[.int .i64 pk, .string pkey, .string pval, .int .u64 pn, .string plo, .string phi]), .int .i64 0]) ∧ Below W.heap.size W w' := fun W => by
          have h := parse_any BP W
          rw [hpt] at h
          exact h
        have hp2 : ∀ n, n + 1 = BP.size → ∀ W, Calls Try.prog 16 #[.string (BP.extract 0 n)] W fun e w' => e = .returned (.tuple #[.agg #[.int .i64 0, .string ⟨#[]⟩, .string ⟨#[]⟩, .int .u64 0, .string ⟨#[]⟩, .string ⟨#[]⟩], .int .i64 5]) ∧ Below W.heap.size W w' := fun n hn W => by
          have h := parse_any (BP.extract 0 n) W
          rw [hct n hn] at h
          exact h
        have hn0 : ∀ W : World, (binOp .neq 24 (.agg #[.int .i64 pk, .string pkey, .string pval, .int .u64 pn, .string plo, .string phi]) (.agg #[.int .i64 pk, .string pkey, .string pval, .int .u64 pn, .string plo, .string phi])).run Try.prog W = .ok (.bool false) W := fun W => (neq_ord ⟨pk, pkey, pval, pn, plo, phi⟩ ⟨pk, pkey, pval, pn, plo, phi⟩ W).trans (by simp)
        have His := Lib.hid his
        have Hbr := Lib.hid hbr
        have Hp1 := Lib.hid hp1
        have Hp2 := Lib.hid hp2
        have Hal := Lib.hid hal
        have Hcat := Lib.hid hcat
        have Hord2 := Lib.hid hord2
        clear his hbr hp1 hp2 hal hbp hpt hct hfp hcat hord2 hall2 hpk hio
        rcases hinj with ⟨hbo, heo⟩ | ⟨⟨BO, hbo, hne⟩, heo⟩ | hbo
        · skip
          have hbo1 := fun W g hg => bytes_row ⟨ok, okey, oval, on, olo, ohi⟩ W g hg Hf.out BP 0 hbo
          have hbo2 := fun W g hg => bytes_row_drew ⟨ok, okey, oval, on, olo, ohi⟩ W g hg Hf.out BP 0 hbo
          have Hbo1 := Lib.hid hbo1
          have Hbo2 := Lib.hid hbo2
          have hq0 : ∀ W : World, (binOp .eql 24 (.agg #[.int .i64 ok, .string okey, .string oval, .int .u64 on, .string olo, .string ohi]) (.agg #[.int .i64 pk, .string pkey, .string pval, .int .u64 pn, .string plo, .string phi])).run Try.prog W = .ok (.bool true) W := fun W => (eql_ord ⟨ok, okey, oval, on, olo, ohi⟩ ⟨pk, pkey, pval, pn, plo, phi⟩ W).trans (by simp only [heo]; simp)
          clear hbo hbo1 hbo2 heo
          go_wp2_with (first | (go_at_call 13; (with_reducible refine (His.out _).mono ?_); rintro e w2 ⟨rfl, hb2⟩; have hb := below_next hb hb2; have hz := hz.below hb2; have hq := hq.below hb2; have q0 := hq.c0; have q1 := hq.c1; have q2 := hq.c2; have q3 := hq.c3; have q4 := hq.c4; have q5 := hq.c5; have HX2 := Lib.hid hb2; clear hb2) | (go_at_call 12; (with_reducible refine (Hbr.out _ _ ?_).mono ?_); (first | exact rfl | simp); rintro e w3 ⟨rfl, hb3⟩; have hb := below_next hb hb3; have hz := hz.below hb3; have hq := hq.below hb3; have HX3 := Lib.hid hb3; clear hb3) | (go_at_call 16; (with_reducible refine (Hp1.out _).mono ?_); rintro e w4 ⟨rfl, hb4⟩; have hb := below_next hb hb4; have hz := hz.below hb4; have hq := hq.below hb4; have HX4 := Lib.hid hb4; clear hb4))
          have hbn := below_alloc (o := (.cells #[.int .i64 pk, .string pkey, .string pval, .int .u64 pn, .string plo, .string phi] 24)) (Below.refl w4.heap.size w4)
          have hb := below_next hb hbn; have hz := hz.below hbn; have hq := hq.below hbn; have ht := OrdAt.new w4 ⟨pk, pkey, pval, pn, plo, phi⟩
          have q0 := hq.c0; have q1 := hq.c1; have q2 := hq.c2; have q3 := hq.c3; have q4 := hq.c4; have q5 := hq.c5
          have t0 := ht.c0; have t1 := ht.c1; have t2 := ht.c2; have t3 := ht.c3; have t4 := ht.c4; have t5 := ht.c5
          refine rg_start (n := 14) (fun w' => w'.cell? ⟨w4.heap.size, 0, none⟩ = some (.int .i64 pk) ∧ w'.cell? ⟨w4.heap.size, 1, none⟩ = some (.string pkey) ∧ w'.cell? ⟨w4.heap.size, 2, none⟩ = some (.string pval) ∧ w'.cell? ⟨w4.heap.size, 3, none⟩ = some (.int .u64 pn) ∧ w'.cell? ⟨w4.heap.size, 4, none⟩ = some (.string plo) ∧ w'.cell? ⟨w4.heap.size, 5, none⟩ = some (.string phi) ∧ w'.cell? ⟨bl, off + k * 6, none⟩ = some (.int .i64 pk) ∧ w'.cell? ⟨bl, off + k * 6 + 1, none⟩ = some (.string pkey) ∧ w'.cell? ⟨bl, off + k * 6 + 2, none⟩ = some (.string pval) ∧ w'.cell? ⟨bl, off + k * 6 + 3, none⟩ = some (.int .u64 pn) ∧ w'.cell? ⟨bl, off + k * 6 + 4, none⟩ = some (.string plo) ∧ w'.cell? ⟨bl, off + k * 6 + 5, none⟩ = some (.string phi)) #[false, false, false, false, false, false, false, false, false, false, false, false, false, false] (by kernel_rfl) rfl rfl ⟨t0, t1, t2, t3, t4, t5, q0, q1, q2, q3, q4, q5⟩ (fun hHeld => ?_)
          refine rg_take (i := 0) (N := (some 50)) (v := ?_) (a' := ?_) #[true, false, false, false, false, false, false, false, false, false, false, false, false, false] rfl rfl (by kernel_rfl) (fun _ _ _ h => h) (by rfl) ?_ hHeld ?_ ?_
          rotate_left 2
          · rintro w' ⟨s0, s1, s2, s3, s4, s5, s6, s7, s8, s9, s10, s11⟩
            go_simp
            try with_reducible rfl
          · simp only [Act.put, List.setIfInBounds_toArray, List.set_cons_zero, List.set_cons_succ]
            rfl
          refine rg_take (i := 1) (N := (some 51)) (v := ?_) (a' := ?_) #[true, true, false, false, false, false, false, false, false, false, false, false, false, false] rfl rfl (by kernel_rfl) (fun _ _ _ h => h) (by rfl) ?_ hHeld ?_ ?_
          rotate_left 2
          · rintro w' ⟨s0, s1, s2, s3, s4, s5, s6, s7, s8, s9, s10, s11⟩
            go_simp
            try with_reducible rfl
          · simp only [Act.put, List.setIfInBounds_toArray, List.set_cons_zero, List.set_cons_succ]
            rfl
          refine rg_take (i := 2) (N := (some 52)) (v := ?_) (a' := ?_) #[true, true, true, false, false, false, false, false, false, false, false, false, false, false] rfl rfl (by kernel_rfl) (fun _ _ _ h => h) (by rfl) ?_ hHeld ?_ ?_
          rotate_left 2
          · rintro w' ⟨s0, s1, s2, s3, s4, s5, s6, s7, s8, s9, s10, s11⟩
            go_simp
            try with_reducible rfl
          · simp only [Act.put, List.setIfInBounds_toArray, List.set_cons_zero, List.set_cons_succ]
            rfl
          refine rg_take (i := 3) (N := (some 53)) (v := ?_) (a' := ?_) #[true, true, true, true, false, false, false, false, false, false, false, false, false, false] rfl rfl (by kernel_rfl) (fun _ _ _ h => h) (by rfl) ?_ hHeld ?_ ?_
          rotate_left 2
          · rintro w' ⟨s0, s1, s2, s3, s4, s5, s6, s7, s8, s9, s10, s11⟩
            go_simp
            try with_reducible rfl
          · simp only [Act.put, List.setIfInBounds_toArray, List.set_cons_zero, List.set_cons_succ]
            rfl
          refine rg_take (i := 4) (N := (some 54)) (v := ?_) (a' := ?_) #[true, true, true, true, true, false, false, false, false, false, false, false, false, false] rfl rfl (by kernel_rfl) (fun _ _ _ h => h) (by rfl) ?_ hHeld ?_ ?_
          rotate_left 2
          · rintro w' ⟨s0, s1, s2, s3, s4, s5, s6, s7, s8, s9, s10, s11⟩
            go_simp
            try with_reducible rfl
          · simp only [Act.put, List.setIfInBounds_toArray, List.set_cons_zero, List.set_cons_succ]
            rfl
          refine rg_take (i := 5) (N := (some 55)) (v := ?_) (a' := ?_) #[true, true, true, true, true, true, false, false, false, false, false, false, false, false] rfl rfl (by kernel_rfl) (fun _ _ _ h => h) (by rfl) ?_ hHeld ?_ ?_
          rotate_left 2
          · rintro w' ⟨s0, s1, s2, s3, s4, s5, s6, s7, s8, s9, s10, s11⟩
            go_simp
            try with_reducible rfl
          · simp only [Act.put, List.setIfInBounds_toArray, List.set_cons_zero, List.set_cons_succ]
            rfl
          refine rg_take (i := 6) (N := (some 56)) (v := ?_) (a' := ?_) #[true, true, true, true, true, true, true, false, false, false, false, false, false, false] rfl rfl (by kernel_rfl) (fun _ _ _ h => h) (by rfl) ?_ hHeld ?_ ?_
          rotate_left 2
          · rintro w' ⟨s0, s1, s2, s3, s4, s5, s6, s7, s8, s9, s10, s11⟩
            go_simp
            try with_reducible rfl
          · simp only [Act.put, List.setIfInBounds_toArray, List.set_cons_zero, List.set_cons_succ]
            rfl
          refine rg_take (i := 7) (N := (some 57)) (v := ?_) (a' := ?_) #[true, true, true, true, true, true, true, true, false, false, false, false, false, false] rfl rfl (by kernel_rfl) (fun _ _ _ h => h) (by rfl) ?_ hHeld ?_ ?_
          rotate_left 2
          · rintro w' ⟨s0, s1, s2, s3, s4, s5, s6, s7, s8, s9, s10, s11⟩
            go_simp
            try with_reducible rfl
          · simp only [Act.put, List.setIfInBounds_toArray, List.set_cons_zero, List.set_cons_succ]
            rfl
          refine rg_take (i := 8) (N := (some 58)) (v := ?_) (a' := ?_) #[true, true, true, true, true, true, true, true, true, false, false, false, false, false] rfl rfl (by kernel_rfl) (fun _ _ _ h => h) (by rfl) ?_ hHeld ?_ ?_
          rotate_left 2
          · rintro w' ⟨s0, s1, s2, s3, s4, s5, s6, s7, s8, s9, s10, s11⟩
            go_simp
            try with_reducible rfl
          · simp only [Act.put, List.setIfInBounds_toArray, List.set_cons_zero, List.set_cons_succ]
            rfl
          refine rg_take (i := 9) (N := (some 59)) (v := ?_) (a' := ?_) #[true, true, true, true, true, true, true, true, true, true, false, false, false, false] rfl rfl (by kernel_rfl) (fun _ _ _ h => h) (by rfl) ?_ hHeld ?_ ?_
          rotate_left 2
          · rintro w' ⟨s0, s1, s2, s3, s4, s5, s6, s7, s8, s9, s10, s11⟩
            go_simp
            try with_reducible rfl
          · simp only [Act.put, List.setIfInBounds_toArray, List.set_cons_zero, List.set_cons_succ]
            rfl
          refine rg_take (i := 10) (N := (some 60)) (v := ?_) (a' := ?_) #[true, true, true, true, true, true, true, true, true, true, true, false, false, false] rfl rfl (by kernel_rfl) (fun _ _ _ h => h) (by rfl) ?_ hHeld ?_ ?_
          rotate_left 2
          · rintro w' ⟨s0, s1, s2, s3, s4, s5, s6, s7, s8, s9, s10, s11⟩
            go_simp
            try with_reducible rfl
          · simp only [Act.put, List.setIfInBounds_toArray, List.set_cons_zero, List.set_cons_succ]
            rfl
          refine rg_take (i := 11) (N := (some 61)) (v := ?_) (a' := ?_) #[true, true, true, true, true, true, true, true, true, true, true, true, false, false] rfl rfl (by kernel_rfl) (fun _ _ _ h => h) (by rfl) ?_ hHeld ?_ ?_
          rotate_left 2
          · rintro w' ⟨s0, s1, s2, s3, s4, s5, s6, s7, s8, s9, s10, s11⟩
            go_simp
            try with_reducible rfl
          · simp only [Act.put, List.setIfInBounds_toArray, List.set_cons_zero, List.set_cons_succ]
            rfl
          refine rg_take (i := 12) (N := (some 62)) (v := ?_) (a' := ?_) #[true, true, true, true, true, true, true, true, true, true, true, true, true, false] rfl rfl (by kernel_rfl) (fun _ _ _ h => h) (by rfl) ?_ hHeld ?_ ?_
          rotate_left 2
          · rintro w' ⟨s0, s1, s2, s3, s4, s5, s6, s7, s8, s9, s10, s11⟩
            go_simp
            try with_reducible rfl
          · simp only [Act.put, List.setIfInBounds_toArray, List.set_cons_zero, List.set_cons_succ]
            rfl
          refine rg_take (i := 13) (N := (some 63)) (v := ?_) (a' := ?_) #[true, true, true, true, true, true, true, true, true, true, true, true, true, true] rfl rfl (by kernel_rfl) (fun _ _ _ h => h) (by rfl) ?_ hHeld ?_ ?_
          rotate_left 2
          · rintro w' ⟨s0, s1, s2, s3, s4, s5, s6, s7, s8, s9, s10, s11⟩
            go_simp
            try with_reducible rfl
          · simp only [Act.put, List.setIfInBounds_toArray, List.set_cons_zero, List.set_cons_succ]
            rfl
          refine rg_done (by kernel_rfl) ?_
          have hr := below_next (HBR.out) (below_next (below_next (below_next HX2.out HX3.out) HX4.out) hbn)
          clear HX2 HX3 HX4
          have z0 := hz.c0; have z1 := hz.c1; have z2 := hz.c2; have z3 := hz.c3; have z4 := hz.c4; have z5 := hz.c5
          go_wp2_with (go_at_call 12; (first | (with_reducible refine (Hbo2.out _ _ ?_).mono ?_) | (with_reducible refine (Hbo1.out _ _ ?_).mono ?_)); (first | exact rfl | simp); rintro e w5 ⟨rfl, hb5⟩; have hb := below_next hb hb5; have hr := below_next hr hb5; have hz := hz.below hb5; have hq := hq.below hb5; clear hb5)
          have q0 := hq.c0; have q1 := hq.c1; have q2 := hq.c2; have q3 := hq.c3; have q4 := hq.c4; have q5 := hq.c5
          have z0 := hz.c0; have z1 := hz.c1; have z2 := hz.c2; have z3 := hz.c3; have z4 := hz.c4; have z5 := hz.c5
          refine rg_start (n := 14) (fun w' => w'.cell? ⟨w.heap.size, 0, none⟩ = some (.int .i64 ok) ∧ w'.cell? ⟨w.heap.size, 1, none⟩ = some (.string okey) ∧ w'.cell? ⟨w.heap.size, 2, none⟩ = some (.string oval) ∧ w'.cell? ⟨w.heap.size, 3, none⟩ = some (.int .u64 on) ∧ w'.cell? ⟨w.heap.size, 4, none⟩ = some (.string olo) ∧ w'.cell? ⟨w.heap.size, 5, none⟩ = some (.string ohi) ∧ w'.cell? ⟨bl, off + k * 6, none⟩ = some (.int .i64 pk) ∧ w'.cell? ⟨bl, off + k * 6 + 1, none⟩ = some (.string pkey) ∧ w'.cell? ⟨bl, off + k * 6 + 2, none⟩ = some (.string pval) ∧ w'.cell? ⟨bl, off + k * 6 + 3, none⟩ = some (.int .u64 pn) ∧ w'.cell? ⟨bl, off + k * 6 + 4, none⟩ = some (.string plo) ∧ w'.cell? ⟨bl, off + k * 6 + 5, none⟩ = some (.string phi)) #[false, false, false, false, false, false, false, false, false, false, false, false, false, false] (by kernel_rfl) rfl rfl ⟨z0, z1, z2, z3, z4, z5, q0, q1, q2, q3, q4, q5⟩ (fun hHeld => ?_)
          refine rg_take (i := 0) (N := (some 70)) (v := ?_) (a' := ?_) #[true, false, false, false, false, false, false, false, false, false, false, false, false, false] rfl rfl (by kernel_rfl) (fun _ _ _ h => h) (by rfl) ?_ hHeld ?_ ?_
          rotate_left 2
          · rintro w' ⟨s0, s1, s2, s3, s4, s5, s6, s7, s8, s9, s10, s11⟩
            go_simp
            try with_reducible rfl
          · simp only [Act.put, List.setIfInBounds_toArray, List.set_cons_zero, List.set_cons_succ]
            rfl
          refine rg_take (i := 1) (N := (some 71)) (v := ?_) (a' := ?_) #[true, true, false, false, false, false, false, false, false, false, false, false, false, false] rfl rfl (by kernel_rfl) (fun _ _ _ h => h) (by rfl) ?_ hHeld ?_ ?_
          rotate_left 2
          · rintro w' ⟨s0, s1, s2, s3, s4, s5, s6, s7, s8, s9, s10, s11⟩
            go_simp
            try with_reducible rfl
          · simp only [Act.put, List.setIfInBounds_toArray, List.set_cons_zero, List.set_cons_succ]
            rfl
          refine rg_take (i := 2) (N := (some 72)) (v := ?_) (a' := ?_) #[true, true, true, false, false, false, false, false, false, false, false, false, false, false] rfl rfl (by kernel_rfl) (fun _ _ _ h => h) (by rfl) ?_ hHeld ?_ ?_
          rotate_left 2
          · rintro w' ⟨s0, s1, s2, s3, s4, s5, s6, s7, s8, s9, s10, s11⟩
            go_simp
            try with_reducible rfl
          · simp only [Act.put, List.setIfInBounds_toArray, List.set_cons_zero, List.set_cons_succ]
            rfl
          refine rg_take (i := 3) (N := (some 73)) (v := ?_) (a' := ?_) #[true, true, true, true, false, false, false, false, false, false, false, false, false, false] rfl rfl (by kernel_rfl) (fun _ _ _ h => h) (by rfl) ?_ hHeld ?_ ?_
          rotate_left 2
          · rintro w' ⟨s0, s1, s2, s3, s4, s5, s6, s7, s8, s9, s10, s11⟩
            go_simp
            try with_reducible rfl
          · simp only [Act.put, List.setIfInBounds_toArray, List.set_cons_zero, List.set_cons_succ]
            rfl
          refine rg_take (i := 4) (N := (some 74)) (v := ?_) (a' := ?_) #[true, true, true, true, true, false, false, false, false, false, false, false, false, false] rfl rfl (by kernel_rfl) (fun _ _ _ h => h) (by rfl) ?_ hHeld ?_ ?_
          rotate_left 2
          · rintro w' ⟨s0, s1, s2, s3, s4, s5, s6, s7, s8, s9, s10, s11⟩
            go_simp
            try with_reducible rfl
          · simp only [Act.put, List.setIfInBounds_toArray, List.set_cons_zero, List.set_cons_succ]
            rfl
          refine rg_take (i := 5) (N := (some 75)) (v := ?_) (a' := ?_) #[true, true, true, true, true, true, false, false, false, false, false, false, false, false] rfl rfl (by kernel_rfl) (fun _ _ _ h => h) (by rfl) ?_ hHeld ?_ ?_
          rotate_left 2
          · rintro w' ⟨s0, s1, s2, s3, s4, s5, s6, s7, s8, s9, s10, s11⟩
            go_simp
            try with_reducible rfl
          · simp only [Act.put, List.setIfInBounds_toArray, List.set_cons_zero, List.set_cons_succ]
            rfl
          refine rg_take (i := 6) (N := (some 76)) (v := ?_) (a' := ?_) #[true, true, true, true, true, true, true, false, false, false, false, false, false, false] rfl rfl (by kernel_rfl) (fun _ _ _ h => h) (by rfl) ?_ hHeld ?_ ?_
          rotate_left 2
          · rintro w' ⟨s0, s1, s2, s3, s4, s5, s6, s7, s8, s9, s10, s11⟩
            go_simp
            try with_reducible rfl
          · simp only [Act.put, List.setIfInBounds_toArray, List.set_cons_zero, List.set_cons_succ]
            rfl
          refine rg_take (i := 7) (N := (some 77)) (v := ?_) (a' := ?_) #[true, true, true, true, true, true, true, true, false, false, false, false, false, false] rfl rfl (by kernel_rfl) (fun _ _ _ h => h) (by rfl) ?_ hHeld ?_ ?_
          rotate_left 2
          · rintro w' ⟨s0, s1, s2, s3, s4, s5, s6, s7, s8, s9, s10, s11⟩
            go_simp
            try with_reducible rfl
          · simp only [Act.put, List.setIfInBounds_toArray, List.set_cons_zero, List.set_cons_succ]
            rfl
          refine rg_take (i := 8) (N := (some 78)) (v := ?_) (a' := ?_) #[true, true, true, true, true, true, true, true, true, false, false, false, false, false] rfl rfl (by kernel_rfl) (fun _ _ _ h => h) (by rfl) ?_ hHeld ?_ ?_
          rotate_left 2
          · rintro w' ⟨s0, s1, s2, s3, s4, s5, s6, s7, s8, s9, s10, s11⟩
            go_simp
            try with_reducible rfl
          · simp only [Act.put, List.setIfInBounds_toArray, List.set_cons_zero, List.set_cons_succ]
            rfl
          refine rg_take (i := 9) (N := (some 79)) (v := ?_) (a' := ?_) #[true, true, true, true, true, true, true, true, true, true, false, false, false, false] rfl rfl (by kernel_rfl) (fun _ _ _ h => h) (by rfl) ?_ hHeld ?_ ?_
          rotate_left 2
          · rintro w' ⟨s0, s1, s2, s3, s4, s5, s6, s7, s8, s9, s10, s11⟩
            go_simp
            try with_reducible rfl
          · simp only [Act.put, List.setIfInBounds_toArray, List.set_cons_zero, List.set_cons_succ]
            rfl
          refine rg_take (i := 10) (N := (some 80)) (v := ?_) (a' := ?_) #[true, true, true, true, true, true, true, true, true, true, true, false, false, false] rfl rfl (by kernel_rfl) (fun _ _ _ h => h) (by rfl) ?_ hHeld ?_ ?_
          rotate_left 2
          · rintro w' ⟨s0, s1, s2, s3, s4, s5, s6, s7, s8, s9, s10, s11⟩
            go_simp
            try with_reducible rfl
          · simp only [Act.put, List.setIfInBounds_toArray, List.set_cons_zero, List.set_cons_succ]
            rfl
          refine rg_take (i := 11) (N := (some 81)) (v := ?_) (a' := ?_) #[true, true, true, true, true, true, true, true, true, true, true, true, false, false] rfl rfl (by kernel_rfl) (fun _ _ _ h => h) (by rfl) ?_ hHeld ?_ ?_
          rotate_left 2
          · rintro w' ⟨s0, s1, s2, s3, s4, s5, s6, s7, s8, s9, s10, s11⟩
            go_simp
            try with_reducible rfl
          · simp only [Act.put, List.setIfInBounds_toArray, List.set_cons_zero, List.set_cons_succ]
            rfl
          refine rg_take (i := 12) (N := (some 82)) (v := ?_) (a' := ?_) #[true, true, true, true, true, true, true, true, true, true, true, true, true, false] rfl rfl (by kernel_rfl) (fun _ _ _ h => h) (by rfl) ?_ hHeld ?_ ?_
          rotate_left 2
          · rintro w' ⟨s0, s1, s2, s3, s4, s5, s6, s7, s8, s9, s10, s11⟩
            go_simp
            try with_reducible rfl
          · simp only [Act.put, List.setIfInBounds_toArray, List.set_cons_zero, List.set_cons_succ]
            rfl
          refine rg_take (i := 13) (N := (some 83)) (v := ?_) (a' := ?_) #[true, true, true, true, true, true, true, true, true, true, true, true, true, true] rfl rfl (by kernel_rfl) (fun _ _ _ h => h) (by rfl) ?_ hHeld ?_ ?_
          rotate_left 2
          · rintro w' ⟨s0, s1, s2, s3, s4, s5, s6, s7, s8, s9, s10, s11⟩
            go_simp
            try with_reducible rfl
          · simp only [Act.put, List.setIfInBounds_toArray, List.set_cons_zero, List.set_cons_succ]
            rfl
          refine rg_done (by kernel_rfl) ?_
          go_wp2_with (go_at_call 18; (with_reducible refine (Hal.out _).mono ?_); rintro e w6 ⟨⟨g, cap2, rfl, h6⟩, hb6⟩; have hb6 := below_next (Below.refl _ w5).drew hb6; have hb := below_next hb hb6; have hr := below_next hr hb6; have hz := hz.below hb6; have hq := hq.below hb6; clear hb6)
          all_goals try (exfalso; omega)
          have q0 := hq.c0; have q1 := hq.c1; have q2 := hq.c2; have q3 := hq.c3; have q4 := hq.c4; have q5 := hq.c5
          have g0 := h6.c0; have g1 := h6.c1; have g2 := h6.c2; have g3 := h6.c3; have g4 := h6.c4; have g5 := h6.c5
          have hkk : (k : Int) < (k : Int) + 1 := by omega
          have hwk : IntKind.i64.wrap ((k : Int) + 1) = (k : Int) + 1 := by simp [IntKind.wrap, IntKind.bits, IntKind.signed]; omega
          refine rg_start (n := 20) (fun w' => w'.cell? ⟨g, k * 6, none⟩ = some (.int .i64 pk) ∧ w'.cell? ⟨g, k * 6 + 1, none⟩ = some (.string pkey) ∧ w'.cell? ⟨g, k * 6 + 2, none⟩ = some (.string pval) ∧ w'.cell? ⟨g, k * 6 + 3, none⟩ = some (.int .u64 pn) ∧ w'.cell? ⟨g, k * 6 + 4, none⟩ = some (.string plo) ∧ w'.cell? ⟨g, k * 6 + 5, none⟩ = some (.string phi) ∧ w'.cell? ⟨bl, off + k * 6, none⟩ = some (.int .i64 pk) ∧ w'.cell? ⟨bl, off + k * 6 + 1, none⟩ = some (.string pkey) ∧ w'.cell? ⟨bl, off + k * 6 + 2, none⟩ = some (.string pval) ∧ w'.cell? ⟨bl, off + k * 6 + 3, none⟩ = some (.int .u64 pn) ∧ w'.cell? ⟨bl, off + k * 6 + 4, none⟩ = some (.string plo) ∧ w'.cell? ⟨bl, off + k * 6 + 5, none⟩ = some (.string phi)) #[false, false, false, false, false, false, false, false, false, false, false, false, false, false, false, false, false, false, false, false] (by kernel_rfl) rfl rfl ⟨g0, g1, g2, g3, g4, g5, q0, q1, q2, q3, q4, q5⟩ (fun hHeld => ?_)
          refine rg_take (i := 0) (N := (some 92)) (v := ?_) (a' := ?_) #[true, false, false, false, false, false, false, false, false, false, false, false, false, false, false, false, false, false, false, false] rfl rfl (by kernel_rfl) (fun _ _ _ h => h) (by rfl) ?_ hHeld ?_ ?_
          rotate_left 2
          · rintro w' ⟨s0, s1, s2, s3, s4, s5, s6, s7, s8, s9, s10, s11⟩
            go_simp
            try with_reducible rfl
          · simp only [Act.put, List.setIfInBounds_toArray, List.set_cons_zero, List.set_cons_succ]
            rfl
          refine rg_take (i := 1) (N := (some 93)) (v := ?_) (a' := ?_) #[true, true, false, false, false, false, false, false, false, false, false, false, false, false, false, false, false, false, false, false] rfl rfl (by kernel_rfl) (fun _ _ _ h => h) (by rfl) ?_ hHeld ?_ ?_
          rotate_left 2
          · rintro w' ⟨s0, s1, s2, s3, s4, s5, s6, s7, s8, s9, s10, s11⟩
            go_simp
            try with_reducible rfl
          · simp only [Act.put, List.setIfInBounds_toArray, List.set_cons_zero, List.set_cons_succ]
            rfl
          refine rg_take (i := 2) (N := (some 94)) (v := ?_) (a' := ?_) #[true, true, true, false, false, false, false, false, false, false, false, false, false, false, false, false, false, false, false, false] rfl rfl (by kernel_rfl) (fun _ _ _ h => h) (by rfl) ?_ hHeld ?_ ?_
          rotate_left 2
          · rintro w' ⟨s0, s1, s2, s3, s4, s5, s6, s7, s8, s9, s10, s11⟩
            go_simp
            try with_reducible rfl
          · simp only [Act.put, List.setIfInBounds_toArray, List.set_cons_zero, List.set_cons_succ]
            rfl
          refine rg_take (i := 3) (N := (some 95)) (v := ?_) (a' := ?_) #[true, true, true, true, false, false, false, false, false, false, false, false, false, false, false, false, false, false, false, false] rfl rfl (by kernel_rfl) (fun _ _ _ h => h) (by rfl) ?_ hHeld ?_ ?_
          rotate_left 2
          · rintro w' ⟨s0, s1, s2, s3, s4, s5, s6, s7, s8, s9, s10, s11⟩
            go_simp
            try with_reducible rfl
          · simp only [Act.put, List.setIfInBounds_toArray, List.set_cons_zero, List.set_cons_succ]
            rfl
          refine rg_take (i := 4) (N := (some 96)) (v := ?_) (a' := ?_) #[true, true, true, true, true, false, false, false, false, false, false, false, false, false, false, false, false, false, false, false] rfl rfl (by kernel_rfl) (fun _ _ _ h => h) (by rfl) ?_ hHeld ?_ ?_
          rotate_left 2
          · rintro w' ⟨s0, s1, s2, s3, s4, s5, s6, s7, s8, s9, s10, s11⟩
            go_simp
            try with_reducible rfl
          · simp only [Act.put, List.setIfInBounds_toArray, List.set_cons_zero, List.set_cons_succ]
            rfl
          refine rg_take (i := 5) (N := (some 97)) (v := ?_) (a' := ?_) #[true, true, true, true, true, true, false, false, false, false, false, false, false, false, false, false, false, false, false, false] rfl rfl (by kernel_rfl) (fun _ _ _ h => h) (by rfl) ?_ hHeld ?_ ?_
          rotate_left 2
          · rintro w' ⟨s0, s1, s2, s3, s4, s5, s6, s7, s8, s9, s10, s11⟩
            go_simp
            try with_reducible rfl
          · simp only [Act.put, List.setIfInBounds_toArray, List.set_cons_zero, List.set_cons_succ]
            rfl
          refine rg_take (i := 6) (N := (some 98)) (v := ?_) (a' := ?_) #[true, true, true, true, true, true, true, false, false, false, false, false, false, false, false, false, false, false, false, false] rfl rfl (by kernel_rfl) (fun _ _ _ h => h) (by rfl) ?_ hHeld ?_ ?_
          rotate_left 2
          · rintro w' ⟨s0, s1, s2, s3, s4, s5, s6, s7, s8, s9, s10, s11⟩
            go_simp
            try with_reducible rfl
          · simp only [Act.put, List.setIfInBounds_toArray, List.set_cons_zero, List.set_cons_succ]
            rfl
          refine rg_take (i := 7) (N := (some 99)) (v := ?_) (a' := ?_) #[true, true, true, true, true, true, true, true, false, false, false, false, false, false, false, false, false, false, false, false] rfl rfl (by kernel_rfl) (fun _ _ _ h => h) (by rfl) ?_ hHeld ?_ ?_
          rotate_left 2
          · rintro w' ⟨s0, s1, s2, s3, s4, s5, s6, s7, s8, s9, s10, s11⟩
            go_simp
            try with_reducible rfl
          · simp only [Act.put, List.setIfInBounds_toArray, List.set_cons_zero, List.set_cons_succ]
            rfl
          refine rg_take (i := 8) (N := (some 100)) (v := ?_) (a' := ?_) #[true, true, true, true, true, true, true, true, true, false, false, false, false, false, false, false, false, false, false, false] rfl rfl (by kernel_rfl) (fun _ _ _ h => h) (by rfl) ?_ hHeld ?_ ?_
          rotate_left 2
          · rintro w' ⟨s0, s1, s2, s3, s4, s5, s6, s7, s8, s9, s10, s11⟩
            go_simp
            try with_reducible rfl
          · simp only [Act.put, List.setIfInBounds_toArray, List.set_cons_zero, List.set_cons_succ]
            rfl
          refine rg_take (i := 9) (N := (some 101)) (v := ?_) (a' := ?_) #[true, true, true, true, true, true, true, true, true, true, false, false, false, false, false, false, false, false, false, false] rfl rfl (by kernel_rfl) (fun _ _ _ h => h) (by rfl) ?_ hHeld ?_ ?_
          rotate_left 2
          · rintro w' ⟨s0, s1, s2, s3, s4, s5, s6, s7, s8, s9, s10, s11⟩
            go_simp
            try with_reducible rfl
          · simp only [Act.put, List.setIfInBounds_toArray, List.set_cons_zero, List.set_cons_succ]
            rfl
          refine rg_take (i := 10) (N := (some 102)) (v := ?_) (a' := ?_) #[true, true, true, true, true, true, true, true, true, true, true, false, false, false, false, false, false, false, false, false] rfl rfl (by kernel_rfl) (fun _ _ _ h => h) (by rfl) ?_ hHeld ?_ ?_
          rotate_left 2
          · rintro w' ⟨s0, s1, s2, s3, s4, s5, s6, s7, s8, s9, s10, s11⟩
            go_simp
            try with_reducible rfl
          · simp only [Act.put, List.setIfInBounds_toArray, List.set_cons_zero, List.set_cons_succ]
            rfl
          refine rg_take (i := 11) (N := (some 103)) (v := ?_) (a' := ?_) #[true, true, true, true, true, true, true, true, true, true, true, true, false, false, false, false, false, false, false, false] rfl rfl (by kernel_rfl) (fun _ _ _ h => h) (by rfl) ?_ hHeld ?_ ?_
          rotate_left 2
          · rintro w' ⟨s0, s1, s2, s3, s4, s5, s6, s7, s8, s9, s10, s11⟩
            go_simp
            try with_reducible rfl
          · simp only [Act.put, List.setIfInBounds_toArray, List.set_cons_zero, List.set_cons_succ]
            rfl
          refine rg_take (i := 12) (N := (some 104)) (v := ?_) (a' := ?_) #[true, true, true, true, true, true, true, true, true, true, true, true, true, false, false, false, false, false, false, false] rfl rfl (by kernel_rfl) (fun _ _ _ h => h) (by rfl) ?_ hHeld ?_ ?_
          rotate_left 2
          · rintro w' ⟨s0, s1, s2, s3, s4, s5, s6, s7, s8, s9, s10, s11⟩
            go_simp
            try with_reducible rfl
          · simp only [Act.put, List.setIfInBounds_toArray, List.set_cons_zero, List.set_cons_succ]
            rfl
          refine rg_take (i := 13) (N := (some 105)) (v := ?_) (a' := ?_) #[true, true, true, true, true, true, true, true, true, true, true, true, true, true, false, false, false, false, false, false] rfl rfl (by kernel_rfl) (fun _ _ _ h => h) (by rfl) ?_ hHeld ?_ ?_
          rotate_left 2
          · rintro w' ⟨s0, s1, s2, s3, s4, s5, s6, s7, s8, s9, s10, s11⟩
            go_simp
            try with_reducible rfl
          · simp only [Act.put, List.setIfInBounds_toArray, List.set_cons_zero, List.set_cons_succ]
            rfl
          refine rg_take (i := 14) (N := (some 106)) (v := ?_) (a' := ?_) #[true, true, true, true, true, true, true, true, true, true, true, true, true, true, true, false, false, false, false, false] rfl rfl (by kernel_rfl) (fun _ _ _ h => h) (by rfl) ?_ hHeld ?_ ?_
          rotate_left 2
          · rintro w' ⟨s0, s1, s2, s3, s4, s5, s6, s7, s8, s9, s10, s11⟩
            go_simp
            try with_reducible rfl
          · simp only [Act.put, List.setIfInBounds_toArray, List.set_cons_zero, List.set_cons_succ]
            rfl
          refine rg_take (i := 15) (N := (some 107)) (v := ?_) (a' := ?_) #[true, true, true, true, true, true, true, true, true, true, true, true, true, true, true, true, false, false, false, false] rfl rfl (by kernel_rfl) (fun _ _ _ h => h) (by rfl) ?_ hHeld ?_ ?_
          rotate_left 2
          · rintro w' ⟨s0, s1, s2, s3, s4, s5, s6, s7, s8, s9, s10, s11⟩
            go_simp
            try with_reducible rfl
          · simp only [Act.put, List.setIfInBounds_toArray, List.set_cons_zero, List.set_cons_succ]
            rfl
          refine rg_take (i := 16) (N := (some 108)) (v := ?_) (a' := ?_) #[true, true, true, true, true, true, true, true, true, true, true, true, true, true, true, true, true, false, false, false] rfl rfl (by kernel_rfl) (fun _ _ _ h => h) (by rfl) ?_ hHeld ?_ ?_
          rotate_left 2
          · rintro w' ⟨s0, s1, s2, s3, s4, s5, s6, s7, s8, s9, s10, s11⟩
            go_simp
            try with_reducible rfl
          · simp only [Act.put, List.setIfInBounds_toArray, List.set_cons_zero, List.set_cons_succ]
            rfl
          refine rg_take (i := 17) (N := (some 109)) (v := ?_) (a' := ?_) #[true, true, true, true, true, true, true, true, true, true, true, true, true, true, true, true, true, true, false, false] rfl rfl (by kernel_rfl) (fun _ _ _ h => h) (by rfl) ?_ hHeld ?_ ?_
          rotate_left 2
          · rintro w' ⟨s0, s1, s2, s3, s4, s5, s6, s7, s8, s9, s10, s11⟩
            go_simp
            try with_reducible rfl
          · simp only [Act.put, List.setIfInBounds_toArray, List.set_cons_zero, List.set_cons_succ]
            rfl
          refine rg_take (i := 18) (N := (some 110)) (v := ?_) (a' := ?_) #[true, true, true, true, true, true, true, true, true, true, true, true, true, true, true, true, true, true, true, false] rfl rfl (by kernel_rfl) (fun _ _ _ h => h) (by rfl) ?_ hHeld ?_ ?_
          rotate_left 2
          · rintro w' ⟨s0, s1, s2, s3, s4, s5, s6, s7, s8, s9, s10, s11⟩
            go_simp
            try with_reducible rfl
          · simp only [Act.put, List.setIfInBounds_toArray, List.set_cons_zero, List.set_cons_succ]
            rfl
          refine rg_take (i := 19) (N := (some 111)) (v := ?_) (a' := ?_) #[true, true, true, true, true, true, true, true, true, true, true, true, true, true, true, true, true, true, true, true] rfl rfl (by kernel_rfl) (fun _ _ _ h => h) (by rfl) ?_ hHeld ?_ ?_
          rotate_left 2
          · rintro w' ⟨s0, s1, s2, s3, s4, s5, s6, s7, s8, s9, s10, s11⟩
            go_simp
            try with_reducible rfl
          · simp only [Act.put, List.setIfInBounds_toArray, List.set_cons_zero, List.set_cons_succ]
            rfl
          refine rg_done (by kernel_rfl) ?_
          go_wp2_with (go_at_call 16; (with_reducible refine (Hp2.out _ ?_ _).mono ?_); (omega); rintro e w7 ⟨rfl, hb7⟩; have hb7 := below_next (Below.refl _ w6).drew hb7; have hr := below_next hr hb7; clear hb7)
          all_goals try (exfalso; omega)
          refine ⟨⟨k + 1, ALL ++ BP, by omega, by simp, rfl, Hcat.out, Hord2.out, below_alloc hr⟩, ?_⟩
          simp [intOf]
          omega
        · skip
          have hbo1 := fun W g hg => bytes_row ⟨ok, okey, oval, on, olo, ohi⟩ W g hg Hf.out BO 0 hbo
          have hbo2 := fun W g hg => bytes_row_drew ⟨ok, okey, oval, on, olo, ohi⟩ W g hg Hf.out BO 0 hbo
          have Hbo1 := Lib.hid hbo1
          have Hbo2 := Lib.hid hbo2
          have hq0 : ∀ W : World, (binOp .eql 24 (.agg #[.int .i64 ok, .string okey, .string oval, .int .u64 on, .string olo, .string ohi]) (.agg #[.int .i64 pk, .string pkey, .string pval, .int .u64 pn, .string plo, .string phi])).run Try.prog W = .ok (.bool false) W := fun W => (eql_ord ⟨ok, okey, oval, on, olo, ohi⟩ ⟨pk, pkey, pval, pn, plo, phi⟩ W).trans (by simp only [heo]; simp)
          clear hbo hbo1 hbo2 heo
          have hne1 : ¬ BO.toList = BP.toList := fun h => hne (bytes_inj.1 h)
          have hne2 : (BO.toList == BP.toList) = false := beq_false_of_ne hne1
          go_wp2_with (first | (go_at_call 13; (with_reducible refine (His.out _).mono ?_); rintro e w2 ⟨rfl, hb2⟩; have hb := below_next hb hb2; have hz := hz.below hb2; have hq := hq.below hb2; have q0 := hq.c0; have q1 := hq.c1; have q2 := hq.c2; have q3 := hq.c3; have q4 := hq.c4; have q5 := hq.c5; have HX2 := Lib.hid hb2; clear hb2) | (go_at_call 12; (with_reducible refine (Hbr.out _ _ ?_).mono ?_); (first | exact rfl | simp); rintro e w3 ⟨rfl, hb3⟩; have hb := below_next hb hb3; have hz := hz.below hb3; have hq := hq.below hb3; have HX3 := Lib.hid hb3; clear hb3) | (go_at_call 16; (with_reducible refine (Hp1.out _).mono ?_); rintro e w4 ⟨rfl, hb4⟩; have hb := below_next hb hb4; have hz := hz.below hb4; have hq := hq.below hb4; have HX4 := Lib.hid hb4; clear hb4))
          have hbn := below_alloc (o := (.cells #[.int .i64 pk, .string pkey, .string pval, .int .u64 pn, .string plo, .string phi] 24)) (Below.refl w4.heap.size w4)
          have hb := below_next hb hbn; have hz := hz.below hbn; have hq := hq.below hbn; have ht := OrdAt.new w4 ⟨pk, pkey, pval, pn, plo, phi⟩
          have q0 := hq.c0; have q1 := hq.c1; have q2 := hq.c2; have q3 := hq.c3; have q4 := hq.c4; have q5 := hq.c5
          have t0 := ht.c0; have t1 := ht.c1; have t2 := ht.c2; have t3 := ht.c3; have t4 := ht.c4; have t5 := ht.c5
          refine rg_start (n := 14) (fun w' => w'.cell? ⟨w4.heap.size, 0, none⟩ = some (.int .i64 pk) ∧ w'.cell? ⟨w4.heap.size, 1, none⟩ = some (.string pkey) ∧ w'.cell? ⟨w4.heap.size, 2, none⟩ = some (.string pval) ∧ w'.cell? ⟨w4.heap.size, 3, none⟩ = some (.int .u64 pn) ∧ w'.cell? ⟨w4.heap.size, 4, none⟩ = some (.string plo) ∧ w'.cell? ⟨w4.heap.size, 5, none⟩ = some (.string phi) ∧ w'.cell? ⟨bl, off + k * 6, none⟩ = some (.int .i64 pk) ∧ w'.cell? ⟨bl, off + k * 6 + 1, none⟩ = some (.string pkey) ∧ w'.cell? ⟨bl, off + k * 6 + 2, none⟩ = some (.string pval) ∧ w'.cell? ⟨bl, off + k * 6 + 3, none⟩ = some (.int .u64 pn) ∧ w'.cell? ⟨bl, off + k * 6 + 4, none⟩ = some (.string plo) ∧ w'.cell? ⟨bl, off + k * 6 + 5, none⟩ = some (.string phi)) #[false, false, false, false, false, false, false, false, false, false, false, false, false, false] (by kernel_rfl) rfl rfl ⟨t0, t1, t2, t3, t4, t5, q0, q1, q2, q3, q4, q5⟩ (fun hHeld => ?_)
          refine rg_take (i := 0) (N := (some 50)) (v := ?_) (a' := ?_) #[true, false, false, false, false, false, false, false, false, false, false, false, false, false] rfl rfl (by kernel_rfl) (fun _ _ _ h => h) (by rfl) ?_ hHeld ?_ ?_
          rotate_left 2
          · rintro w' ⟨s0, s1, s2, s3, s4, s5, s6, s7, s8, s9, s10, s11⟩
            go_simp
            try with_reducible rfl
          · simp only [Act.put, List.setIfInBounds_toArray, List.set_cons_zero, List.set_cons_succ]
            rfl
          refine rg_take (i := 1) (N := (some 51)) (v := ?_) (a' := ?_) #[true, true, false, false, false, false, false, false, false, false, false, false, false, false] rfl rfl (by kernel_rfl) (fun _ _ _ h => h) (by rfl) ?_ hHeld ?_ ?_
          rotate_left 2
          · rintro w' ⟨s0, s1, s2, s3, s4, s5, s6, s7, s8, s9, s10, s11⟩
            go_simp
            try with_reducible rfl
          · simp only [Act.put, List.setIfInBounds_toArray, List.set_cons_zero, List.set_cons_succ]
            rfl
          refine rg_take (i := 2) (N := (some 52)) (v := ?_) (a' := ?_) #[true, true, true, false, false, false, false, false, false, false, false, false, false, false] rfl rfl (by kernel_rfl) (fun _ _ _ h => h) (by rfl) ?_ hHeld ?_ ?_
          rotate_left 2
          · rintro w' ⟨s0, s1, s2, s3, s4, s5, s6, s7, s8, s9, s10, s11⟩
            go_simp
            try with_reducible rfl
          · simp only [Act.put, List.setIfInBounds_toArray, List.set_cons_zero, List.set_cons_succ]
            rfl
          refine rg_take (i := 3) (N := (some 53)) (v := ?_) (a' := ?_) #[true, true, true, true, false, false, false, false, false, false, false, false, false, false] rfl rfl (by kernel_rfl) (fun _ _ _ h => h) (by rfl) ?_ hHeld ?_ ?_
          rotate_left 2
          · rintro w' ⟨s0, s1, s2, s3, s4, s5, s6, s7, s8, s9, s10, s11⟩
            go_simp
            try with_reducible rfl
          · simp only [Act.put, List.setIfInBounds_toArray, List.set_cons_zero, List.set_cons_succ]
            rfl
          refine rg_take (i := 4) (N := (some 54)) (v := ?_) (a' := ?_) #[true, true, true, true, true, false, false, false, false, false, false, false, false, false] rfl rfl (by kernel_rfl) (fun _ _ _ h => h) (by rfl) ?_ hHeld ?_ ?_
          rotate_left 2
          · rintro w' ⟨s0, s1, s2, s3, s4, s5, s6, s7, s8, s9, s10, s11⟩
            go_simp
            try with_reducible rfl
          · simp only [Act.put, List.setIfInBounds_toArray, List.set_cons_zero, List.set_cons_succ]
            rfl
          refine rg_take (i := 5) (N := (some 55)) (v := ?_) (a' := ?_) #[true, true, true, true, true, true, false, false, false, false, false, false, false, false] rfl rfl (by kernel_rfl) (fun _ _ _ h => h) (by rfl) ?_ hHeld ?_ ?_
          rotate_left 2
          · rintro w' ⟨s0, s1, s2, s3, s4, s5, s6, s7, s8, s9, s10, s11⟩
            go_simp
            try with_reducible rfl
          · simp only [Act.put, List.setIfInBounds_toArray, List.set_cons_zero, List.set_cons_succ]
            rfl
          refine rg_take (i := 6) (N := (some 56)) (v := ?_) (a' := ?_) #[true, true, true, true, true, true, true, false, false, false, false, false, false, false] rfl rfl (by kernel_rfl) (fun _ _ _ h => h) (by rfl) ?_ hHeld ?_ ?_
          rotate_left 2
          · rintro w' ⟨s0, s1, s2, s3, s4, s5, s6, s7, s8, s9, s10, s11⟩
            go_simp
            try with_reducible rfl
          · simp only [Act.put, List.setIfInBounds_toArray, List.set_cons_zero, List.set_cons_succ]
            rfl
          refine rg_take (i := 7) (N := (some 57)) (v := ?_) (a' := ?_) #[true, true, true, true, true, true, true, true, false, false, false, false, false, false] rfl rfl (by kernel_rfl) (fun _ _ _ h => h) (by rfl) ?_ hHeld ?_ ?_
          rotate_left 2
          · rintro w' ⟨s0, s1, s2, s3, s4, s5, s6, s7, s8, s9, s10, s11⟩
            go_simp
            try with_reducible rfl
          · simp only [Act.put, List.setIfInBounds_toArray, List.set_cons_zero, List.set_cons_succ]
            rfl
          refine rg_take (i := 8) (N := (some 58)) (v := ?_) (a' := ?_) #[true, true, true, true, true, true, true, true, true, false, false, false, false, false] rfl rfl (by kernel_rfl) (fun _ _ _ h => h) (by rfl) ?_ hHeld ?_ ?_
          rotate_left 2
          · rintro w' ⟨s0, s1, s2, s3, s4, s5, s6, s7, s8, s9, s10, s11⟩
            go_simp
            try with_reducible rfl
          · simp only [Act.put, List.setIfInBounds_toArray, List.set_cons_zero, List.set_cons_succ]
            rfl
          refine rg_take (i := 9) (N := (some 59)) (v := ?_) (a' := ?_) #[true, true, true, true, true, true, true, true, true, true, false, false, false, false] rfl rfl (by kernel_rfl) (fun _ _ _ h => h) (by rfl) ?_ hHeld ?_ ?_
          rotate_left 2
          · rintro w' ⟨s0, s1, s2, s3, s4, s5, s6, s7, s8, s9, s10, s11⟩
            go_simp
            try with_reducible rfl
          · simp only [Act.put, List.setIfInBounds_toArray, List.set_cons_zero, List.set_cons_succ]
            rfl
          refine rg_take (i := 10) (N := (some 60)) (v := ?_) (a' := ?_) #[true, true, true, true, true, true, true, true, true, true, true, false, false, false] rfl rfl (by kernel_rfl) (fun _ _ _ h => h) (by rfl) ?_ hHeld ?_ ?_
          rotate_left 2
          · rintro w' ⟨s0, s1, s2, s3, s4, s5, s6, s7, s8, s9, s10, s11⟩
            go_simp
            try with_reducible rfl
          · simp only [Act.put, List.setIfInBounds_toArray, List.set_cons_zero, List.set_cons_succ]
            rfl
          refine rg_take (i := 11) (N := (some 61)) (v := ?_) (a' := ?_) #[true, true, true, true, true, true, true, true, true, true, true, true, false, false] rfl rfl (by kernel_rfl) (fun _ _ _ h => h) (by rfl) ?_ hHeld ?_ ?_
          rotate_left 2
          · rintro w' ⟨s0, s1, s2, s3, s4, s5, s6, s7, s8, s9, s10, s11⟩
            go_simp
            try with_reducible rfl
          · simp only [Act.put, List.setIfInBounds_toArray, List.set_cons_zero, List.set_cons_succ]
            rfl
          refine rg_take (i := 12) (N := (some 62)) (v := ?_) (a' := ?_) #[true, true, true, true, true, true, true, true, true, true, true, true, true, false] rfl rfl (by kernel_rfl) (fun _ _ _ h => h) (by rfl) ?_ hHeld ?_ ?_
          rotate_left 2
          · rintro w' ⟨s0, s1, s2, s3, s4, s5, s6, s7, s8, s9, s10, s11⟩
            go_simp
            try with_reducible rfl
          · simp only [Act.put, List.setIfInBounds_toArray, List.set_cons_zero, List.set_cons_succ]
            rfl
          refine rg_take (i := 13) (N := (some 63)) (v := ?_) (a' := ?_) #[true, true, true, true, true, true, true, true, true, true, true, true, true, true] rfl rfl (by kernel_rfl) (fun _ _ _ h => h) (by rfl) ?_ hHeld ?_ ?_
          rotate_left 2
          · rintro w' ⟨s0, s1, s2, s3, s4, s5, s6, s7, s8, s9, s10, s11⟩
            go_simp
            try with_reducible rfl
          · simp only [Act.put, List.setIfInBounds_toArray, List.set_cons_zero, List.set_cons_succ]
            rfl
          refine rg_done (by kernel_rfl) ?_
          have hr := below_next (HBR.out) (below_next (below_next (below_next HX2.out HX3.out) HX4.out) hbn)
          clear HX2 HX3 HX4
          have z0 := hz.c0; have z1 := hz.c1; have z2 := hz.c2; have z3 := hz.c3; have z4 := hz.c4; have z5 := hz.c5
          go_wp2_with (go_at_call 12; (first | (with_reducible refine (Hbo2.out _ _ ?_).mono ?_) | (with_reducible refine (Hbo1.out _ _ ?_).mono ?_)); (first | exact rfl | simp); rintro e w5 ⟨rfl, hb5⟩; have hb := below_next hb hb5; have hr := below_next hr hb5; have hz := hz.below hb5; have hq := hq.below hb5; clear hb5)
          have q0 := hq.c0; have q1 := hq.c1; have q2 := hq.c2; have q3 := hq.c3; have q4 := hq.c4; have q5 := hq.c5
          have z0 := hz.c0; have z1 := hz.c1; have z2 := hz.c2; have z3 := hz.c3; have z4 := hz.c4; have z5 := hz.c5
          refine rg_start (n := 14) (fun w' => w'.cell? ⟨w.heap.size, 0, none⟩ = some (.int .i64 ok) ∧ w'.cell? ⟨w.heap.size, 1, none⟩ = some (.string okey) ∧ w'.cell? ⟨w.heap.size, 2, none⟩ = some (.string oval) ∧ w'.cell? ⟨w.heap.size, 3, none⟩ = some (.int .u64 on) ∧ w'.cell? ⟨w.heap.size, 4, none⟩ = some (.string olo) ∧ w'.cell? ⟨w.heap.size, 5, none⟩ = some (.string ohi) ∧ w'.cell? ⟨bl, off + k * 6, none⟩ = some (.int .i64 pk) ∧ w'.cell? ⟨bl, off + k * 6 + 1, none⟩ = some (.string pkey) ∧ w'.cell? ⟨bl, off + k * 6 + 2, none⟩ = some (.string pval) ∧ w'.cell? ⟨bl, off + k * 6 + 3, none⟩ = some (.int .u64 pn) ∧ w'.cell? ⟨bl, off + k * 6 + 4, none⟩ = some (.string plo) ∧ w'.cell? ⟨bl, off + k * 6 + 5, none⟩ = some (.string phi)) #[false, false, false, false, false, false, false, false, false, false, false, false, false, false] (by kernel_rfl) rfl rfl ⟨z0, z1, z2, z3, z4, z5, q0, q1, q2, q3, q4, q5⟩ (fun hHeld => ?_)
          refine rg_take (i := 0) (N := (some 70)) (v := ?_) (a' := ?_) #[true, false, false, false, false, false, false, false, false, false, false, false, false, false] rfl rfl (by kernel_rfl) (fun _ _ _ h => h) (by rfl) ?_ hHeld ?_ ?_
          rotate_left 2
          · rintro w' ⟨s0, s1, s2, s3, s4, s5, s6, s7, s8, s9, s10, s11⟩
            go_simp
            try with_reducible rfl
          · simp only [Act.put, List.setIfInBounds_toArray, List.set_cons_zero, List.set_cons_succ]
            rfl
          refine rg_take (i := 1) (N := (some 71)) (v := ?_) (a' := ?_) #[true, true, false, false, false, false, false, false, false, false, false, false, false, false] rfl rfl (by kernel_rfl) (fun _ _ _ h => h) (by rfl) ?_ hHeld ?_ ?_
          rotate_left 2
          · rintro w' ⟨s0, s1, s2, s3, s4, s5, s6, s7, s8, s9, s10, s11⟩
            go_simp
            try with_reducible rfl
          · simp only [Act.put, List.setIfInBounds_toArray, List.set_cons_zero, List.set_cons_succ]
            rfl
          refine rg_take (i := 2) (N := (some 72)) (v := ?_) (a' := ?_) #[true, true, true, false, false, false, false, false, false, false, false, false, false, false] rfl rfl (by kernel_rfl) (fun _ _ _ h => h) (by rfl) ?_ hHeld ?_ ?_
          rotate_left 2
          · rintro w' ⟨s0, s1, s2, s3, s4, s5, s6, s7, s8, s9, s10, s11⟩
            go_simp
            try with_reducible rfl
          · simp only [Act.put, List.setIfInBounds_toArray, List.set_cons_zero, List.set_cons_succ]
            rfl
          refine rg_take (i := 3) (N := (some 73)) (v := ?_) (a' := ?_) #[true, true, true, true, false, false, false, false, false, false, false, false, false, false] rfl rfl (by kernel_rfl) (fun _ _ _ h => h) (by rfl) ?_ hHeld ?_ ?_
          rotate_left 2
          · rintro w' ⟨s0, s1, s2, s3, s4, s5, s6, s7, s8, s9, s10, s11⟩
            go_simp
            try with_reducible rfl
          · simp only [Act.put, List.setIfInBounds_toArray, List.set_cons_zero, List.set_cons_succ]
            rfl
          refine rg_take (i := 4) (N := (some 74)) (v := ?_) (a' := ?_) #[true, true, true, true, true, false, false, false, false, false, false, false, false, false] rfl rfl (by kernel_rfl) (fun _ _ _ h => h) (by rfl) ?_ hHeld ?_ ?_
          rotate_left 2
          · rintro w' ⟨s0, s1, s2, s3, s4, s5, s6, s7, s8, s9, s10, s11⟩
            go_simp
            try with_reducible rfl
          · simp only [Act.put, List.setIfInBounds_toArray, List.set_cons_zero, List.set_cons_succ]
            rfl
          refine rg_take (i := 5) (N := (some 75)) (v := ?_) (a' := ?_) #[true, true, true, true, true, true, false, false, false, false, false, false, false, false] rfl rfl (by kernel_rfl) (fun _ _ _ h => h) (by rfl) ?_ hHeld ?_ ?_
          rotate_left 2
          · rintro w' ⟨s0, s1, s2, s3, s4, s5, s6, s7, s8, s9, s10, s11⟩
            go_simp
            try with_reducible rfl
          · simp only [Act.put, List.setIfInBounds_toArray, List.set_cons_zero, List.set_cons_succ]
            rfl
          refine rg_take (i := 6) (N := (some 76)) (v := ?_) (a' := ?_) #[true, true, true, true, true, true, true, false, false, false, false, false, false, false] rfl rfl (by kernel_rfl) (fun _ _ _ h => h) (by rfl) ?_ hHeld ?_ ?_
          rotate_left 2
          · rintro w' ⟨s0, s1, s2, s3, s4, s5, s6, s7, s8, s9, s10, s11⟩
            go_simp
            try with_reducible rfl
          · simp only [Act.put, List.setIfInBounds_toArray, List.set_cons_zero, List.set_cons_succ]
            rfl
          refine rg_take (i := 7) (N := (some 77)) (v := ?_) (a' := ?_) #[true, true, true, true, true, true, true, true, false, false, false, false, false, false] rfl rfl (by kernel_rfl) (fun _ _ _ h => h) (by rfl) ?_ hHeld ?_ ?_
          rotate_left 2
          · rintro w' ⟨s0, s1, s2, s3, s4, s5, s6, s7, s8, s9, s10, s11⟩
            go_simp
            try with_reducible rfl
          · simp only [Act.put, List.setIfInBounds_toArray, List.set_cons_zero, List.set_cons_succ]
            rfl
          refine rg_take (i := 8) (N := (some 78)) (v := ?_) (a' := ?_) #[true, true, true, true, true, true, true, true, true, false, false, false, false, false] rfl rfl (by kernel_rfl) (fun _ _ _ h => h) (by rfl) ?_ hHeld ?_ ?_
          rotate_left 2
          · rintro w' ⟨s0, s1, s2, s3, s4, s5, s6, s7, s8, s9, s10, s11⟩
            go_simp
            try with_reducible rfl
          · simp only [Act.put, List.setIfInBounds_toArray, List.set_cons_zero, List.set_cons_succ]
            rfl
          refine rg_take (i := 9) (N := (some 79)) (v := ?_) (a' := ?_) #[true, true, true, true, true, true, true, true, true, true, false, false, false, false] rfl rfl (by kernel_rfl) (fun _ _ _ h => h) (by rfl) ?_ hHeld ?_ ?_
          rotate_left 2
          · rintro w' ⟨s0, s1, s2, s3, s4, s5, s6, s7, s8, s9, s10, s11⟩
            go_simp
            try with_reducible rfl
          · simp only [Act.put, List.setIfInBounds_toArray, List.set_cons_zero, List.set_cons_succ]
            rfl
          refine rg_take (i := 10) (N := (some 80)) (v := ?_) (a' := ?_) #[true, true, true, true, true, true, true, true, true, true, true, false, false, false] rfl rfl (by kernel_rfl) (fun _ _ _ h => h) (by rfl) ?_ hHeld ?_ ?_
          rotate_left 2
          · rintro w' ⟨s0, s1, s2, s3, s4, s5, s6, s7, s8, s9, s10, s11⟩
            go_simp
            try with_reducible rfl
          · simp only [Act.put, List.setIfInBounds_toArray, List.set_cons_zero, List.set_cons_succ]
            rfl
          refine rg_take (i := 11) (N := (some 81)) (v := ?_) (a' := ?_) #[true, true, true, true, true, true, true, true, true, true, true, true, false, false] rfl rfl (by kernel_rfl) (fun _ _ _ h => h) (by rfl) ?_ hHeld ?_ ?_
          rotate_left 2
          · rintro w' ⟨s0, s1, s2, s3, s4, s5, s6, s7, s8, s9, s10, s11⟩
            go_simp
            try with_reducible rfl
          · simp only [Act.put, List.setIfInBounds_toArray, List.set_cons_zero, List.set_cons_succ]
            rfl
          refine rg_take (i := 12) (N := (some 82)) (v := ?_) (a' := ?_) #[true, true, true, true, true, true, true, true, true, true, true, true, true, false] rfl rfl (by kernel_rfl) (fun _ _ _ h => h) (by rfl) ?_ hHeld ?_ ?_
          rotate_left 2
          · rintro w' ⟨s0, s1, s2, s3, s4, s5, s6, s7, s8, s9, s10, s11⟩
            go_simp
            try with_reducible rfl
          · simp only [Act.put, List.setIfInBounds_toArray, List.set_cons_zero, List.set_cons_succ]
            rfl
          refine rg_take (i := 13) (N := (some 83)) (v := ?_) (a' := ?_) #[true, true, true, true, true, true, true, true, true, true, true, true, true, true] rfl rfl (by kernel_rfl) (fun _ _ _ h => h) (by rfl) ?_ hHeld ?_ ?_
          rotate_left 2
          · rintro w' ⟨s0, s1, s2, s3, s4, s5, s6, s7, s8, s9, s10, s11⟩
            go_simp
            try with_reducible rfl
          · simp only [Act.put, List.setIfInBounds_toArray, List.set_cons_zero, List.set_cons_succ]
            rfl
          refine rg_done (by kernel_rfl) ?_
          go_wp2_with (go_at_call 18; (with_reducible refine (Hal.out _).mono ?_); rintro e w6 ⟨⟨g, cap2, rfl, h6⟩, hb6⟩; have hb6 := below_next (Below.refl _ w5).drew hb6; have hb := below_next hb hb6; have hr := below_next hr hb6; have hz := hz.below hb6; have hq := hq.below hb6; clear hb6)
          all_goals try (exfalso; omega)
          have q0 := hq.c0; have q1 := hq.c1; have q2 := hq.c2; have q3 := hq.c3; have q4 := hq.c4; have q5 := hq.c5
          have g0 := h6.c0; have g1 := h6.c1; have g2 := h6.c2; have g3 := h6.c3; have g4 := h6.c4; have g5 := h6.c5
          have hkk : (k : Int) < (k : Int) + 1 := by omega
          have hwk : IntKind.i64.wrap ((k : Int) + 1) = (k : Int) + 1 := by simp [IntKind.wrap, IntKind.bits, IntKind.signed]; omega
          refine rg_start (n := 20) (fun w' => w'.cell? ⟨g, k * 6, none⟩ = some (.int .i64 pk) ∧ w'.cell? ⟨g, k * 6 + 1, none⟩ = some (.string pkey) ∧ w'.cell? ⟨g, k * 6 + 2, none⟩ = some (.string pval) ∧ w'.cell? ⟨g, k * 6 + 3, none⟩ = some (.int .u64 pn) ∧ w'.cell? ⟨g, k * 6 + 4, none⟩ = some (.string plo) ∧ w'.cell? ⟨g, k * 6 + 5, none⟩ = some (.string phi) ∧ w'.cell? ⟨bl, off + k * 6, none⟩ = some (.int .i64 pk) ∧ w'.cell? ⟨bl, off + k * 6 + 1, none⟩ = some (.string pkey) ∧ w'.cell? ⟨bl, off + k * 6 + 2, none⟩ = some (.string pval) ∧ w'.cell? ⟨bl, off + k * 6 + 3, none⟩ = some (.int .u64 pn) ∧ w'.cell? ⟨bl, off + k * 6 + 4, none⟩ = some (.string plo) ∧ w'.cell? ⟨bl, off + k * 6 + 5, none⟩ = some (.string phi)) #[false, false, false, false, false, false, false, false, false, false, false, false, false, false, false, false, false, false, false, false] (by kernel_rfl) rfl rfl ⟨g0, g1, g2, g3, g4, g5, q0, q1, q2, q3, q4, q5⟩ (fun hHeld => ?_)
          refine rg_take (i := 0) (N := (some 92)) (v := ?_) (a' := ?_) #[true, false, false, false, false, false, false, false, false, false, false, false, false, false, false, false, false, false, false, false] rfl rfl (by kernel_rfl) (fun _ _ _ h => h) (by rfl) ?_ hHeld ?_ ?_
          rotate_left 2
          · rintro w' ⟨s0, s1, s2, s3, s4, s5, s6, s7, s8, s9, s10, s11⟩
            go_simp
            try with_reducible rfl
          · simp only [Act.put, List.setIfInBounds_toArray, List.set_cons_zero, List.set_cons_succ]
            rfl
          refine rg_take (i := 1) (N := (some 93)) (v := ?_) (a' := ?_) #[true, true, false, false, false, false, false, false, false, false, false, false, false, false, false, false, false, false, false, false] rfl rfl (by kernel_rfl) (fun _ _ _ h => h) (by rfl) ?_ hHeld ?_ ?_
          rotate_left 2
          · rintro w' ⟨s0, s1, s2, s3, s4, s5, s6, s7, s8, s9, s10, s11⟩
            go_simp
            try with_reducible rfl
          · simp only [Act.put, List.setIfInBounds_toArray, List.set_cons_zero, List.set_cons_succ]
            rfl
          refine rg_take (i := 2) (N := (some 94)) (v := ?_) (a' := ?_) #[true, true, true, false, false, false, false, false, false, false, false, false, false, false, false, false, false, false, false, false] rfl rfl (by kernel_rfl) (fun _ _ _ h => h) (by rfl) ?_ hHeld ?_ ?_
          rotate_left 2
          · rintro w' ⟨s0, s1, s2, s3, s4, s5, s6, s7, s8, s9, s10, s11⟩
            go_simp
            try with_reducible rfl
          · simp only [Act.put, List.setIfInBounds_toArray, List.set_cons_zero, List.set_cons_succ]
            rfl
          refine rg_take (i := 3) (N := (some 95)) (v := ?_) (a' := ?_) #[true, true, true, true, false, false, false, false, false, false, false, false, false, false, false, false, false, false, false, false] rfl rfl (by kernel_rfl) (fun _ _ _ h => h) (by rfl) ?_ hHeld ?_ ?_
          rotate_left 2
          · rintro w' ⟨s0, s1, s2, s3, s4, s5, s6, s7, s8, s9, s10, s11⟩
            go_simp
            try with_reducible rfl
          · simp only [Act.put, List.setIfInBounds_toArray, List.set_cons_zero, List.set_cons_succ]
            rfl
          refine rg_take (i := 4) (N := (some 96)) (v := ?_) (a' := ?_) #[true, true, true, true, true, false, false, false, false, false, false, false, false, false, false, false, false, false, false, false] rfl rfl (by kernel_rfl) (fun _ _ _ h => h) (by rfl) ?_ hHeld ?_ ?_
          rotate_left 2
          · rintro w' ⟨s0, s1, s2, s3, s4, s5, s6, s7, s8, s9, s10, s11⟩
            go_simp
            try with_reducible rfl
          · simp only [Act.put, List.setIfInBounds_toArray, List.set_cons_zero, List.set_cons_succ]
            rfl
          refine rg_take (i := 5) (N := (some 97)) (v := ?_) (a' := ?_) #[true, true, true, true, true, true, false, false, false, false, false, false, false, false, false, false, false, false, false, false] rfl rfl (by kernel_rfl) (fun _ _ _ h => h) (by rfl) ?_ hHeld ?_ ?_
          rotate_left 2
          · rintro w' ⟨s0, s1, s2, s3, s4, s5, s6, s7, s8, s9, s10, s11⟩
            go_simp
            try with_reducible rfl
          · simp only [Act.put, List.setIfInBounds_toArray, List.set_cons_zero, List.set_cons_succ]
            rfl
          refine rg_take (i := 6) (N := (some 98)) (v := ?_) (a' := ?_) #[true, true, true, true, true, true, true, false, false, false, false, false, false, false, false, false, false, false, false, false] rfl rfl (by kernel_rfl) (fun _ _ _ h => h) (by rfl) ?_ hHeld ?_ ?_
          rotate_left 2
          · rintro w' ⟨s0, s1, s2, s3, s4, s5, s6, s7, s8, s9, s10, s11⟩
            go_simp
            try with_reducible rfl
          · simp only [Act.put, List.setIfInBounds_toArray, List.set_cons_zero, List.set_cons_succ]
            rfl
          refine rg_take (i := 7) (N := (some 99)) (v := ?_) (a' := ?_) #[true, true, true, true, true, true, true, true, false, false, false, false, false, false, false, false, false, false, false, false] rfl rfl (by kernel_rfl) (fun _ _ _ h => h) (by rfl) ?_ hHeld ?_ ?_
          rotate_left 2
          · rintro w' ⟨s0, s1, s2, s3, s4, s5, s6, s7, s8, s9, s10, s11⟩
            go_simp
            try with_reducible rfl
          · simp only [Act.put, List.setIfInBounds_toArray, List.set_cons_zero, List.set_cons_succ]
            rfl
          refine rg_take (i := 8) (N := (some 100)) (v := ?_) (a' := ?_) #[true, true, true, true, true, true, true, true, true, false, false, false, false, false, false, false, false, false, false, false] rfl rfl (by kernel_rfl) (fun _ _ _ h => h) (by rfl) ?_ hHeld ?_ ?_
          rotate_left 2
          · rintro w' ⟨s0, s1, s2, s3, s4, s5, s6, s7, s8, s9, s10, s11⟩
            go_simp
            try with_reducible rfl
          · simp only [Act.put, List.setIfInBounds_toArray, List.set_cons_zero, List.set_cons_succ]
            rfl
          refine rg_take (i := 9) (N := (some 101)) (v := ?_) (a' := ?_) #[true, true, true, true, true, true, true, true, true, true, false, false, false, false, false, false, false, false, false, false] rfl rfl (by kernel_rfl) (fun _ _ _ h => h) (by rfl) ?_ hHeld ?_ ?_
          rotate_left 2
          · rintro w' ⟨s0, s1, s2, s3, s4, s5, s6, s7, s8, s9, s10, s11⟩
            go_simp
            try with_reducible rfl
          · simp only [Act.put, List.setIfInBounds_toArray, List.set_cons_zero, List.set_cons_succ]
            rfl
          refine rg_take (i := 10) (N := (some 102)) (v := ?_) (a' := ?_) #[true, true, true, true, true, true, true, true, true, true, true, false, false, false, false, false, false, false, false, false] rfl rfl (by kernel_rfl) (fun _ _ _ h => h) (by rfl) ?_ hHeld ?_ ?_
          rotate_left 2
          · rintro w' ⟨s0, s1, s2, s3, s4, s5, s6, s7, s8, s9, s10, s11⟩
            go_simp
            try with_reducible rfl
          · simp only [Act.put, List.setIfInBounds_toArray, List.set_cons_zero, List.set_cons_succ]
            rfl
          refine rg_take (i := 11) (N := (some 103)) (v := ?_) (a' := ?_) #[true, true, true, true, true, true, true, true, true, true, true, true, false, false, false, false, false, false, false, false] rfl rfl (by kernel_rfl) (fun _ _ _ h => h) (by rfl) ?_ hHeld ?_ ?_
          rotate_left 2
          · rintro w' ⟨s0, s1, s2, s3, s4, s5, s6, s7, s8, s9, s10, s11⟩
            go_simp
            try with_reducible rfl
          · simp only [Act.put, List.setIfInBounds_toArray, List.set_cons_zero, List.set_cons_succ]
            rfl
          refine rg_take (i := 12) (N := (some 104)) (v := ?_) (a' := ?_) #[true, true, true, true, true, true, true, true, true, true, true, true, true, false, false, false, false, false, false, false] rfl rfl (by kernel_rfl) (fun _ _ _ h => h) (by rfl) ?_ hHeld ?_ ?_
          rotate_left 2
          · rintro w' ⟨s0, s1, s2, s3, s4, s5, s6, s7, s8, s9, s10, s11⟩
            go_simp
            try with_reducible rfl
          · simp only [Act.put, List.setIfInBounds_toArray, List.set_cons_zero, List.set_cons_succ]
            rfl
          refine rg_take (i := 13) (N := (some 105)) (v := ?_) (a' := ?_) #[true, true, true, true, true, true, true, true, true, true, true, true, true, true, false, false, false, false, false, false] rfl rfl (by kernel_rfl) (fun _ _ _ h => h) (by rfl) ?_ hHeld ?_ ?_
          rotate_left 2
          · rintro w' ⟨s0, s1, s2, s3, s4, s5, s6, s7, s8, s9, s10, s11⟩
            go_simp
            try with_reducible rfl
          · simp only [Act.put, List.setIfInBounds_toArray, List.set_cons_zero, List.set_cons_succ]
            rfl
          refine rg_take (i := 14) (N := (some 106)) (v := ?_) (a' := ?_) #[true, true, true, true, true, true, true, true, true, true, true, true, true, true, true, false, false, false, false, false] rfl rfl (by kernel_rfl) (fun _ _ _ h => h) (by rfl) ?_ hHeld ?_ ?_
          rotate_left 2
          · rintro w' ⟨s0, s1, s2, s3, s4, s5, s6, s7, s8, s9, s10, s11⟩
            go_simp
            try with_reducible rfl
          · simp only [Act.put, List.setIfInBounds_toArray, List.set_cons_zero, List.set_cons_succ]
            rfl
          refine rg_take (i := 15) (N := (some 107)) (v := ?_) (a' := ?_) #[true, true, true, true, true, true, true, true, true, true, true, true, true, true, true, true, false, false, false, false] rfl rfl (by kernel_rfl) (fun _ _ _ h => h) (by rfl) ?_ hHeld ?_ ?_
          rotate_left 2
          · rintro w' ⟨s0, s1, s2, s3, s4, s5, s6, s7, s8, s9, s10, s11⟩
            go_simp
            try with_reducible rfl
          · simp only [Act.put, List.setIfInBounds_toArray, List.set_cons_zero, List.set_cons_succ]
            rfl
          refine rg_take (i := 16) (N := (some 108)) (v := ?_) (a' := ?_) #[true, true, true, true, true, true, true, true, true, true, true, true, true, true, true, true, true, false, false, false] rfl rfl (by kernel_rfl) (fun _ _ _ h => h) (by rfl) ?_ hHeld ?_ ?_
          rotate_left 2
          · rintro w' ⟨s0, s1, s2, s3, s4, s5, s6, s7, s8, s9, s10, s11⟩
            go_simp
            try with_reducible rfl
          · simp only [Act.put, List.setIfInBounds_toArray, List.set_cons_zero, List.set_cons_succ]
            rfl
          refine rg_take (i := 17) (N := (some 109)) (v := ?_) (a' := ?_) #[true, true, true, true, true, true, true, true, true, true, true, true, true, true, true, true, true, true, false, false] rfl rfl (by kernel_rfl) (fun _ _ _ h => h) (by rfl) ?_ hHeld ?_ ?_
          rotate_left 2
          · rintro w' ⟨s0, s1, s2, s3, s4, s5, s6, s7, s8, s9, s10, s11⟩
            go_simp
            try with_reducible rfl
          · simp only [Act.put, List.setIfInBounds_toArray, List.set_cons_zero, List.set_cons_succ]
            rfl
          refine rg_take (i := 18) (N := (some 110)) (v := ?_) (a' := ?_) #[true, true, true, true, true, true, true, true, true, true, true, true, true, true, true, true, true, true, true, false] rfl rfl (by kernel_rfl) (fun _ _ _ h => h) (by rfl) ?_ hHeld ?_ ?_
          rotate_left 2
          · rintro w' ⟨s0, s1, s2, s3, s4, s5, s6, s7, s8, s9, s10, s11⟩
            go_simp
            try with_reducible rfl
          · simp only [Act.put, List.setIfInBounds_toArray, List.set_cons_zero, List.set_cons_succ]
            rfl
          refine rg_take (i := 19) (N := (some 111)) (v := ?_) (a' := ?_) #[true, true, true, true, true, true, true, true, true, true, true, true, true, true, true, true, true, true, true, true] rfl rfl (by kernel_rfl) (fun _ _ _ h => h) (by rfl) ?_ hHeld ?_ ?_
          rotate_left 2
          · rintro w' ⟨s0, s1, s2, s3, s4, s5, s6, s7, s8, s9, s10, s11⟩
            go_simp
            try with_reducible rfl
          · simp only [Act.put, List.setIfInBounds_toArray, List.set_cons_zero, List.set_cons_succ]
            rfl
          refine rg_done (by kernel_rfl) ?_
          go_wp2_with (go_at_call 16; (with_reducible refine (Hp2.out _ ?_ _).mono ?_); (omega); rintro e w7 ⟨rfl, hb7⟩; have hb7 := below_next (Below.refl _ w6).drew hb7; have hr := below_next hr hb7; clear hb7)
          all_goals try (exfalso; omega)
          refine ⟨⟨k + 1, ALL ++ BP, by omega, by simp, rfl, Hcat.out, Hord2.out, below_alloc hr⟩, ?_⟩
          simp [intOf]
          omega
        · skip
          have hbo1 := fun W g hg => bytes_row ⟨ok, okey, oval, on, olo, ohi⟩ W g hg Hf.out ⟨#[]⟩ 1 hbo
          have hbo2 := fun W g hg => bytes_row_drew ⟨ok, okey, oval, on, olo, ohi⟩ W g hg Hf.out ⟨#[]⟩ 1 hbo
          have Hbo1 := Lib.hid hbo1
          have Hbo2 := Lib.hid hbo2
          clear hbo hbo1 hbo2
          go_wp2_with (first | (go_at_call 13; (with_reducible refine (His.out _).mono ?_); rintro e w2 ⟨rfl, hb2⟩; have hb := below_next hb hb2; have hz := hz.below hb2; have hq := hq.below hb2; have q0 := hq.c0; have q1 := hq.c1; have q2 := hq.c2; have q3 := hq.c3; have q4 := hq.c4; have q5 := hq.c5; have HX2 := Lib.hid hb2; clear hb2) | (go_at_call 12; (with_reducible refine (Hbr.out _ _ ?_).mono ?_); (first | exact rfl | simp); rintro e w3 ⟨rfl, hb3⟩; have hb := below_next hb hb3; have hz := hz.below hb3; have hq := hq.below hb3; have HX3 := Lib.hid hb3; clear hb3) | (go_at_call 16; (with_reducible refine (Hp1.out _).mono ?_); rintro e w4 ⟨rfl, hb4⟩; have hb := below_next hb hb4; have hz := hz.below hb4; have hq := hq.below hb4; have HX4 := Lib.hid hb4; clear hb4))
          have hbn := below_alloc (o := (.cells #[.int .i64 pk, .string pkey, .string pval, .int .u64 pn, .string plo, .string phi] 24)) (Below.refl w4.heap.size w4)
          have hb := below_next hb hbn; have hz := hz.below hbn; have hq := hq.below hbn; have ht := OrdAt.new w4 ⟨pk, pkey, pval, pn, plo, phi⟩
          have q0 := hq.c0; have q1 := hq.c1; have q2 := hq.c2; have q3 := hq.c3; have q4 := hq.c4; have q5 := hq.c5
          have t0 := ht.c0; have t1 := ht.c1; have t2 := ht.c2; have t3 := ht.c3; have t4 := ht.c4; have t5 := ht.c5
          refine rg_start (n := 14) (fun w' => w'.cell? ⟨w4.heap.size, 0, none⟩ = some (.int .i64 pk) ∧ w'.cell? ⟨w4.heap.size, 1, none⟩ = some (.string pkey) ∧ w'.cell? ⟨w4.heap.size, 2, none⟩ = some (.string pval) ∧ w'.cell? ⟨w4.heap.size, 3, none⟩ = some (.int .u64 pn) ∧ w'.cell? ⟨w4.heap.size, 4, none⟩ = some (.string plo) ∧ w'.cell? ⟨w4.heap.size, 5, none⟩ = some (.string phi) ∧ w'.cell? ⟨bl, off + k * 6, none⟩ = some (.int .i64 pk) ∧ w'.cell? ⟨bl, off + k * 6 + 1, none⟩ = some (.string pkey) ∧ w'.cell? ⟨bl, off + k * 6 + 2, none⟩ = some (.string pval) ∧ w'.cell? ⟨bl, off + k * 6 + 3, none⟩ = some (.int .u64 pn) ∧ w'.cell? ⟨bl, off + k * 6 + 4, none⟩ = some (.string plo) ∧ w'.cell? ⟨bl, off + k * 6 + 5, none⟩ = some (.string phi)) #[false, false, false, false, false, false, false, false, false, false, false, false, false, false] (by kernel_rfl) rfl rfl ⟨t0, t1, t2, t3, t4, t5, q0, q1, q2, q3, q4, q5⟩ (fun hHeld => ?_)
          refine rg_take (i := 0) (N := (some 50)) (v := ?_) (a' := ?_) #[true, false, false, false, false, false, false, false, false, false, false, false, false, false] rfl rfl (by kernel_rfl) (fun _ _ _ h => h) (by rfl) ?_ hHeld ?_ ?_
          rotate_left 2
          · rintro w' ⟨s0, s1, s2, s3, s4, s5, s6, s7, s8, s9, s10, s11⟩
            go_simp
            try with_reducible rfl
          · simp only [Act.put, List.setIfInBounds_toArray, List.set_cons_zero, List.set_cons_succ]
            rfl
          refine rg_take (i := 1) (N := (some 51)) (v := ?_) (a' := ?_) #[true, true, false, false, false, false, false, false, false, false, false, false, false, false] rfl rfl (by kernel_rfl) (fun _ _ _ h => h) (by rfl) ?_ hHeld ?_ ?_
          rotate_left 2
          · rintro w' ⟨s0, s1, s2, s3, s4, s5, s6, s7, s8, s9, s10, s11⟩
            go_simp
            try with_reducible rfl
          · simp only [Act.put, List.setIfInBounds_toArray, List.set_cons_zero, List.set_cons_succ]
            rfl
          refine rg_take (i := 2) (N := (some 52)) (v := ?_) (a' := ?_) #[true, true, true, false, false, false, false, false, false, false, false, false, false, false] rfl rfl (by kernel_rfl) (fun _ _ _ h => h) (by rfl) ?_ hHeld ?_ ?_
          rotate_left 2
          · rintro w' ⟨s0, s1, s2, s3, s4, s5, s6, s7, s8, s9, s10, s11⟩
            go_simp
            try with_reducible rfl
          · simp only [Act.put, List.setIfInBounds_toArray, List.set_cons_zero, List.set_cons_succ]
            rfl
          refine rg_take (i := 3) (N := (some 53)) (v := ?_) (a' := ?_) #[true, true, true, true, false, false, false, false, false, false, false, false, false, false] rfl rfl (by kernel_rfl) (fun _ _ _ h => h) (by rfl) ?_ hHeld ?_ ?_
          rotate_left 2
          · rintro w' ⟨s0, s1, s2, s3, s4, s5, s6, s7, s8, s9, s10, s11⟩
            go_simp
            try with_reducible rfl
          · simp only [Act.put, List.setIfInBounds_toArray, List.set_cons_zero, List.set_cons_succ]
            rfl
          refine rg_take (i := 4) (N := (some 54)) (v := ?_) (a' := ?_) #[true, true, true, true, true, false, false, false, false, false, false, false, false, false] rfl rfl (by kernel_rfl) (fun _ _ _ h => h) (by rfl) ?_ hHeld ?_ ?_
          rotate_left 2
          · rintro w' ⟨s0, s1, s2, s3, s4, s5, s6, s7, s8, s9, s10, s11⟩
            go_simp
            try with_reducible rfl
          · simp only [Act.put, List.setIfInBounds_toArray, List.set_cons_zero, List.set_cons_succ]
            rfl
          refine rg_take (i := 5) (N := (some 55)) (v := ?_) (a' := ?_) #[true, true, true, true, true, true, false, false, false, false, false, false, false, false] rfl rfl (by kernel_rfl) (fun _ _ _ h => h) (by rfl) ?_ hHeld ?_ ?_
          rotate_left 2
          · rintro w' ⟨s0, s1, s2, s3, s4, s5, s6, s7, s8, s9, s10, s11⟩
            go_simp
            try with_reducible rfl
          · simp only [Act.put, List.setIfInBounds_toArray, List.set_cons_zero, List.set_cons_succ]
            rfl
          refine rg_take (i := 6) (N := (some 56)) (v := ?_) (a' := ?_) #[true, true, true, true, true, true, true, false, false, false, false, false, false, false] rfl rfl (by kernel_rfl) (fun _ _ _ h => h) (by rfl) ?_ hHeld ?_ ?_
          rotate_left 2
          · rintro w' ⟨s0, s1, s2, s3, s4, s5, s6, s7, s8, s9, s10, s11⟩
            go_simp
            try with_reducible rfl
          · simp only [Act.put, List.setIfInBounds_toArray, List.set_cons_zero, List.set_cons_succ]
            rfl
          refine rg_take (i := 7) (N := (some 57)) (v := ?_) (a' := ?_) #[true, true, true, true, true, true, true, true, false, false, false, false, false, false] rfl rfl (by kernel_rfl) (fun _ _ _ h => h) (by rfl) ?_ hHeld ?_ ?_
          rotate_left 2
          · rintro w' ⟨s0, s1, s2, s3, s4, s5, s6, s7, s8, s9, s10, s11⟩
            go_simp
            try with_reducible rfl
          · simp only [Act.put, List.setIfInBounds_toArray, List.set_cons_zero, List.set_cons_succ]
            rfl
          refine rg_take (i := 8) (N := (some 58)) (v := ?_) (a' := ?_) #[true, true, true, true, true, true, true, true, true, false, false, false, false, false] rfl rfl (by kernel_rfl) (fun _ _ _ h => h) (by rfl) ?_ hHeld ?_ ?_
          rotate_left 2
          · rintro w' ⟨s0, s1, s2, s3, s4, s5, s6, s7, s8, s9, s10, s11⟩
            go_simp
            try with_reducible rfl
          · simp only [Act.put, List.setIfInBounds_toArray, List.set_cons_zero, List.set_cons_succ]
            rfl
          refine rg_take (i := 9) (N := (some 59)) (v := ?_) (a' := ?_) #[true, true, true, true, true, true, true, true, true, true, false, false, false, false] rfl rfl (by kernel_rfl) (fun _ _ _ h => h) (by rfl) ?_ hHeld ?_ ?_
          rotate_left 2
          · rintro w' ⟨s0, s1, s2, s3, s4, s5, s6, s7, s8, s9, s10, s11⟩
            go_simp
            try with_reducible rfl
          · simp only [Act.put, List.setIfInBounds_toArray, List.set_cons_zero, List.set_cons_succ]
            rfl
          refine rg_take (i := 10) (N := (some 60)) (v := ?_) (a' := ?_) #[true, true, true, true, true, true, true, true, true, true, true, false, false, false] rfl rfl (by kernel_rfl) (fun _ _ _ h => h) (by rfl) ?_ hHeld ?_ ?_
          rotate_left 2
          · rintro w' ⟨s0, s1, s2, s3, s4, s5, s6, s7, s8, s9, s10, s11⟩
            go_simp
            try with_reducible rfl
          · simp only [Act.put, List.setIfInBounds_toArray, List.set_cons_zero, List.set_cons_succ]
            rfl
          refine rg_take (i := 11) (N := (some 61)) (v := ?_) (a' := ?_) #[true, true, true, true, true, true, true, true, true, true, true, true, false, false] rfl rfl (by kernel_rfl) (fun _ _ _ h => h) (by rfl) ?_ hHeld ?_ ?_
          rotate_left 2
          · rintro w' ⟨s0, s1, s2, s3, s4, s5, s6, s7, s8, s9, s10, s11⟩
            go_simp
            try with_reducible rfl
          · simp only [Act.put, List.setIfInBounds_toArray, List.set_cons_zero, List.set_cons_succ]
            rfl
          refine rg_take (i := 12) (N := (some 62)) (v := ?_) (a' := ?_) #[true, true, true, true, true, true, true, true, true, true, true, true, true, false] rfl rfl (by kernel_rfl) (fun _ _ _ h => h) (by rfl) ?_ hHeld ?_ ?_
          rotate_left 2
          · rintro w' ⟨s0, s1, s2, s3, s4, s5, s6, s7, s8, s9, s10, s11⟩
            go_simp
            try with_reducible rfl
          · simp only [Act.put, List.setIfInBounds_toArray, List.set_cons_zero, List.set_cons_succ]
            rfl
          refine rg_take (i := 13) (N := (some 63)) (v := ?_) (a' := ?_) #[true, true, true, true, true, true, true, true, true, true, true, true, true, true] rfl rfl (by kernel_rfl) (fun _ _ _ h => h) (by rfl) ?_ hHeld ?_ ?_
          rotate_left 2
          · rintro w' ⟨s0, s1, s2, s3, s4, s5, s6, s7, s8, s9, s10, s11⟩
            go_simp
            try with_reducible rfl
          · simp only [Act.put, List.setIfInBounds_toArray, List.set_cons_zero, List.set_cons_succ]
            rfl
          refine rg_done (by kernel_rfl) ?_
          have hr := below_next (HBR.out) (below_next (below_next (below_next HX2.out HX3.out) HX4.out) hbn)
          clear HX2 HX3 HX4
          have z0 := hz.c0; have z1 := hz.c1; have z2 := hz.c2; have z3 := hz.c3; have z4 := hz.c4; have z5 := hz.c5
          go_wp2_with (go_at_call 12; (first | (with_reducible refine (Hbo2.out _ _ ?_).mono ?_) | (with_reducible refine (Hbo1.out _ _ ?_).mono ?_)); (first | exact rfl | simp); rintro e w5 ⟨rfl, hb5⟩; have hb := below_next hb hb5; have hr := below_next hr hb5; have hz := hz.below hb5; have hq := hq.below hb5; clear hb5)
          have q0 := hq.c0; have q1 := hq.c1; have q2 := hq.c2; have q3 := hq.c3; have q4 := hq.c4; have q5 := hq.c5
          have z0 := hz.c0; have z1 := hz.c1; have z2 := hz.c2; have z3 := hz.c3; have z4 := hz.c4; have z5 := hz.c5
          refine rg_start (n := 14) (fun w' => w'.cell? ⟨w.heap.size, 0, none⟩ = some (.int .i64 ok) ∧ w'.cell? ⟨w.heap.size, 1, none⟩ = some (.string okey) ∧ w'.cell? ⟨w.heap.size, 2, none⟩ = some (.string oval) ∧ w'.cell? ⟨w.heap.size, 3, none⟩ = some (.int .u64 on) ∧ w'.cell? ⟨w.heap.size, 4, none⟩ = some (.string olo) ∧ w'.cell? ⟨w.heap.size, 5, none⟩ = some (.string ohi) ∧ w'.cell? ⟨bl, off + k * 6, none⟩ = some (.int .i64 pk) ∧ w'.cell? ⟨bl, off + k * 6 + 1, none⟩ = some (.string pkey) ∧ w'.cell? ⟨bl, off + k * 6 + 2, none⟩ = some (.string pval) ∧ w'.cell? ⟨bl, off + k * 6 + 3, none⟩ = some (.int .u64 pn) ∧ w'.cell? ⟨bl, off + k * 6 + 4, none⟩ = some (.string plo) ∧ w'.cell? ⟨bl, off + k * 6 + 5, none⟩ = some (.string phi)) #[false, false, false, false, false, false, false, false, false, false, false, false, false, false] (by kernel_rfl) rfl rfl ⟨z0, z1, z2, z3, z4, z5, q0, q1, q2, q3, q4, q5⟩ (fun hHeld => ?_)
          refine rg_take (i := 0) (N := (some 70)) (v := ?_) (a' := ?_) #[true, false, false, false, false, false, false, false, false, false, false, false, false, false] rfl rfl (by kernel_rfl) (fun _ _ _ h => h) (by rfl) ?_ hHeld ?_ ?_
          rotate_left 2
          · rintro w' ⟨s0, s1, s2, s3, s4, s5, s6, s7, s8, s9, s10, s11⟩
            go_simp
            try with_reducible rfl
          · simp only [Act.put, List.setIfInBounds_toArray, List.set_cons_zero, List.set_cons_succ]
            rfl
          refine rg_take (i := 1) (N := (some 71)) (v := ?_) (a' := ?_) #[true, true, false, false, false, false, false, false, false, false, false, false, false, false] rfl rfl (by kernel_rfl) (fun _ _ _ h => h) (by rfl) ?_ hHeld ?_ ?_
          rotate_left 2
          · rintro w' ⟨s0, s1, s2, s3, s4, s5, s6, s7, s8, s9, s10, s11⟩
            go_simp
            try with_reducible rfl
          · simp only [Act.put, List.setIfInBounds_toArray, List.set_cons_zero, List.set_cons_succ]
            rfl
          refine rg_take (i := 2) (N := (some 72)) (v := ?_) (a' := ?_) #[true, true, true, false, false, false, false, false, false, false, false, false, false, false] rfl rfl (by kernel_rfl) (fun _ _ _ h => h) (by rfl) ?_ hHeld ?_ ?_
          rotate_left 2
          · rintro w' ⟨s0, s1, s2, s3, s4, s5, s6, s7, s8, s9, s10, s11⟩
            go_simp
            try with_reducible rfl
          · simp only [Act.put, List.setIfInBounds_toArray, List.set_cons_zero, List.set_cons_succ]
            rfl
          refine rg_skip (i := 3) (N := (some 73)) (a' := ?_) #[true, true, true, true, false, false, false, false, false, false, false, false, false, false] rfl rfl (by kernel_rfl) (fun _ _ _ h => h) (by rfl) hHeld ?_ ?_
          rotate_left
          · simp only [Act.put, List.setIfInBounds_toArray, List.set_cons_zero, List.set_cons_succ]
            rfl
          refine rg_skip (i := 4) (N := (some 74)) (a' := ?_) #[true, true, true, true, true, false, false, false, false, false, false, false, false, false] rfl rfl (by kernel_rfl) (fun _ _ _ h => h) (by rfl) hHeld ?_ ?_
          rotate_left
          · simp only [Act.put, List.setIfInBounds_toArray, List.set_cons_zero, List.set_cons_succ]
            rfl
          refine rg_skip (i := 5) (N := (some 75)) (a' := ?_) #[true, true, true, true, true, true, false, false, false, false, false, false, false, false] rfl rfl (by kernel_rfl) (fun _ _ _ h => h) (by rfl) hHeld ?_ ?_
          rotate_left
          · simp only [Act.put, List.setIfInBounds_toArray, List.set_cons_zero, List.set_cons_succ]
            rfl
          refine rg_skip (i := 6) (N := (some 76)) (a' := ?_) #[true, true, true, true, true, true, true, false, false, false, false, false, false, false] rfl rfl (by kernel_rfl) (fun _ _ _ h => h) (by rfl) hHeld ?_ ?_
          rotate_left
          · simp only [Act.put, List.setIfInBounds_toArray, List.set_cons_zero, List.set_cons_succ]
            rfl
          refine rg_skip (i := 7) (N := (some 77)) (a' := ?_) #[true, true, true, true, true, true, true, true, false, false, false, false, false, false] rfl rfl (by kernel_rfl) (fun _ _ _ h => h) (by rfl) hHeld ?_ ?_
          rotate_left
          · simp only [Act.put, List.setIfInBounds_toArray, List.set_cons_zero, List.set_cons_succ]
            rfl
          refine rg_skip (i := 8) (N := (some 78)) (a' := ?_) #[true, true, true, true, true, true, true, true, true, false, false, false, false, false] rfl rfl (by kernel_rfl) (fun _ _ _ h => h) (by rfl) hHeld ?_ ?_
          rotate_left
          · simp only [Act.put, List.setIfInBounds_toArray, List.set_cons_zero, List.set_cons_succ]
            rfl
          refine rg_skip (i := 9) (N := (some 79)) (a' := ?_) #[true, true, true, true, true, true, true, true, true, true, false, false, false, false] rfl rfl (by kernel_rfl) (fun _ _ _ h => h) (by rfl) hHeld ?_ ?_
          rotate_left
          · simp only [Act.put, List.setIfInBounds_toArray, List.set_cons_zero, List.set_cons_succ]
            rfl
          refine rg_skip (i := 10) (N := (some 80)) (a' := ?_) #[true, true, true, true, true, true, true, true, true, true, true, false, false, false] rfl rfl (by kernel_rfl) (fun _ _ _ h => h) (by rfl) hHeld ?_ ?_
          rotate_left
          · simp only [Act.put, List.setIfInBounds_toArray, List.set_cons_zero, List.set_cons_succ]
            rfl
          refine rg_skip (i := 11) (N := (some 81)) (a' := ?_) #[true, true, true, true, true, true, true, true, true, true, true, true, false, false] rfl rfl (by kernel_rfl) (fun _ _ _ h => h) (by rfl) hHeld ?_ ?_
          rotate_left
          · simp only [Act.put, List.setIfInBounds_toArray, List.set_cons_zero, List.set_cons_succ]
            rfl
          refine rg_skip (i := 12) (N := (some 82)) (a' := ?_) #[true, true, true, true, true, true, true, true, true, true, true, true, true, false] rfl rfl (by kernel_rfl) (fun _ _ _ h => h) (by rfl) hHeld ?_ ?_
          rotate_left
          · simp only [Act.put, List.setIfInBounds_toArray, List.set_cons_zero, List.set_cons_succ]
            rfl
          refine rg_take (i := 13) (N := (some 83)) (v := ?_) (a' := ?_) #[true, true, true, true, true, true, true, true, true, true, true, true, true, true] rfl rfl (by kernel_rfl) (fun _ _ _ h => h) (by rfl) ?_ hHeld ?_ ?_
          rotate_left 2
          · rintro w' ⟨s0, s1, s2, s3, s4, s5, s6, s7, s8, s9, s10, s11⟩
            go_simp
            try with_reducible rfl
          · simp only [Act.put, List.setIfInBounds_toArray, List.set_cons_zero, List.set_cons_succ]
            rfl
          refine rg_done (by kernel_rfl) ?_
          go_wp2_with (go_at_call 18; (with_reducible refine (Hal.out _).mono ?_); rintro e w6 ⟨⟨g, cap2, rfl, h6⟩, hb6⟩; have hb6 := below_next (Below.refl _ w5).drew hb6; have hb := below_next hb hb6; have hr := below_next hr hb6; have hz := hz.below hb6; have hq := hq.below hb6; clear hb6)
          all_goals try (exfalso; omega)
          have q0 := hq.c0; have q1 := hq.c1; have q2 := hq.c2; have q3 := hq.c3; have q4 := hq.c4; have q5 := hq.c5
          have g0 := h6.c0; have g1 := h6.c1; have g2 := h6.c2; have g3 := h6.c3; have g4 := h6.c4; have g5 := h6.c5
          have hkk : (k : Int) < (k : Int) + 1 := by omega
          have hwk : IntKind.i64.wrap ((k : Int) + 1) = (k : Int) + 1 := by simp [IntKind.wrap, IntKind.bits, IntKind.signed]; omega
          refine rg_start (n := 20) (fun w' => w'.cell? ⟨g, k * 6, none⟩ = some (.int .i64 pk) ∧ w'.cell? ⟨g, k * 6 + 1, none⟩ = some (.string pkey) ∧ w'.cell? ⟨g, k * 6 + 2, none⟩ = some (.string pval) ∧ w'.cell? ⟨g, k * 6 + 3, none⟩ = some (.int .u64 pn) ∧ w'.cell? ⟨g, k * 6 + 4, none⟩ = some (.string plo) ∧ w'.cell? ⟨g, k * 6 + 5, none⟩ = some (.string phi) ∧ w'.cell? ⟨bl, off + k * 6, none⟩ = some (.int .i64 pk) ∧ w'.cell? ⟨bl, off + k * 6 + 1, none⟩ = some (.string pkey) ∧ w'.cell? ⟨bl, off + k * 6 + 2, none⟩ = some (.string pval) ∧ w'.cell? ⟨bl, off + k * 6 + 3, none⟩ = some (.int .u64 pn) ∧ w'.cell? ⟨bl, off + k * 6 + 4, none⟩ = some (.string plo) ∧ w'.cell? ⟨bl, off + k * 6 + 5, none⟩ = some (.string phi)) #[false, false, false, false, false, false, false, false, false, false, false, false, false, false, false, false, false, false, false, false] (by kernel_rfl) rfl rfl ⟨g0, g1, g2, g3, g4, g5, q0, q1, q2, q3, q4, q5⟩ (fun hHeld => ?_)
          refine rg_take (i := 0) (N := (some 92)) (v := ?_) (a' := ?_) #[true, false, false, false, false, false, false, false, false, false, false, false, false, false, false, false, false, false, false, false] rfl rfl (by kernel_rfl) (fun _ _ _ h => h) (by rfl) ?_ hHeld ?_ ?_
          rotate_left 2
          · rintro w' ⟨s0, s1, s2, s3, s4, s5, s6, s7, s8, s9, s10, s11⟩
            go_simp
            try with_reducible rfl
          · simp only [Act.put, List.setIfInBounds_toArray, List.set_cons_zero, List.set_cons_succ]
            rfl
          refine rg_take (i := 1) (N := (some 93)) (v := ?_) (a' := ?_) #[true, true, false, false, false, false, false, false, false, false, false, false, false, false, false, false, false, false, false, false] rfl rfl (by kernel_rfl) (fun _ _ _ h => h) (by rfl) ?_ hHeld ?_ ?_
          rotate_left 2
          · rintro w' ⟨s0, s1, s2, s3, s4, s5, s6, s7, s8, s9, s10, s11⟩
            go_simp
            try with_reducible rfl
          · simp only [Act.put, List.setIfInBounds_toArray, List.set_cons_zero, List.set_cons_succ]
            rfl
          refine rg_take (i := 2) (N := (some 94)) (v := ?_) (a' := ?_) #[true, true, true, false, false, false, false, false, false, false, false, false, false, false, false, false, false, false, false, false] rfl rfl (by kernel_rfl) (fun _ _ _ h => h) (by rfl) ?_ hHeld ?_ ?_
          rotate_left 2
          · rintro w' ⟨s0, s1, s2, s3, s4, s5, s6, s7, s8, s9, s10, s11⟩
            go_simp
            try with_reducible rfl
          · simp only [Act.put, List.setIfInBounds_toArray, List.set_cons_zero, List.set_cons_succ]
            rfl
          refine rg_take (i := 3) (N := (some 95)) (v := ?_) (a' := ?_) #[true, true, true, true, false, false, false, false, false, false, false, false, false, false, false, false, false, false, false, false] rfl rfl (by kernel_rfl) (fun _ _ _ h => h) (by rfl) ?_ hHeld ?_ ?_
          rotate_left 2
          · rintro w' ⟨s0, s1, s2, s3, s4, s5, s6, s7, s8, s9, s10, s11⟩
            go_simp
            try with_reducible rfl
          · simp only [Act.put, List.setIfInBounds_toArray, List.set_cons_zero, List.set_cons_succ]
            rfl
          refine rg_take (i := 4) (N := (some 96)) (v := ?_) (a' := ?_) #[true, true, true, true, true, false, false, false, false, false, false, false, false, false, false, false, false, false, false, false] rfl rfl (by kernel_rfl) (fun _ _ _ h => h) (by rfl) ?_ hHeld ?_ ?_
          rotate_left 2
          · rintro w' ⟨s0, s1, s2, s3, s4, s5, s6, s7, s8, s9, s10, s11⟩
            go_simp
            try with_reducible rfl
          · simp only [Act.put, List.setIfInBounds_toArray, List.set_cons_zero, List.set_cons_succ]
            rfl
          refine rg_take (i := 5) (N := (some 97)) (v := ?_) (a' := ?_) #[true, true, true, true, true, true, false, false, false, false, false, false, false, false, false, false, false, false, false, false] rfl rfl (by kernel_rfl) (fun _ _ _ h => h) (by rfl) ?_ hHeld ?_ ?_
          rotate_left 2
          · rintro w' ⟨s0, s1, s2, s3, s4, s5, s6, s7, s8, s9, s10, s11⟩
            go_simp
            try with_reducible rfl
          · simp only [Act.put, List.setIfInBounds_toArray, List.set_cons_zero, List.set_cons_succ]
            rfl
          refine rg_take (i := 6) (N := (some 98)) (v := ?_) (a' := ?_) #[true, true, true, true, true, true, true, false, false, false, false, false, false, false, false, false, false, false, false, false] rfl rfl (by kernel_rfl) (fun _ _ _ h => h) (by rfl) ?_ hHeld ?_ ?_
          rotate_left 2
          · rintro w' ⟨s0, s1, s2, s3, s4, s5, s6, s7, s8, s9, s10, s11⟩
            go_simp
            try with_reducible rfl
          · simp only [Act.put, List.setIfInBounds_toArray, List.set_cons_zero, List.set_cons_succ]
            rfl
          refine rg_take (i := 7) (N := (some 99)) (v := ?_) (a' := ?_) #[true, true, true, true, true, true, true, true, false, false, false, false, false, false, false, false, false, false, false, false] rfl rfl (by kernel_rfl) (fun _ _ _ h => h) (by rfl) ?_ hHeld ?_ ?_
          rotate_left 2
          · rintro w' ⟨s0, s1, s2, s3, s4, s5, s6, s7, s8, s9, s10, s11⟩
            go_simp
            try with_reducible rfl
          · simp only [Act.put, List.setIfInBounds_toArray, List.set_cons_zero, List.set_cons_succ]
            rfl
          refine rg_take (i := 8) (N := (some 100)) (v := ?_) (a' := ?_) #[true, true, true, true, true, true, true, true, true, false, false, false, false, false, false, false, false, false, false, false] rfl rfl (by kernel_rfl) (fun _ _ _ h => h) (by rfl) ?_ hHeld ?_ ?_
          rotate_left 2
          · rintro w' ⟨s0, s1, s2, s3, s4, s5, s6, s7, s8, s9, s10, s11⟩
            go_simp
            try with_reducible rfl
          · simp only [Act.put, List.setIfInBounds_toArray, List.set_cons_zero, List.set_cons_succ]
            rfl
          refine rg_take (i := 9) (N := (some 101)) (v := ?_) (a' := ?_) #[true, true, true, true, true, true, true, true, true, true, false, false, false, false, false, false, false, false, false, false] rfl rfl (by kernel_rfl) (fun _ _ _ h => h) (by rfl) ?_ hHeld ?_ ?_
          rotate_left 2
          · rintro w' ⟨s0, s1, s2, s3, s4, s5, s6, s7, s8, s9, s10, s11⟩
            go_simp
            try with_reducible rfl
          · simp only [Act.put, List.setIfInBounds_toArray, List.set_cons_zero, List.set_cons_succ]
            rfl
          refine rg_take (i := 10) (N := (some 102)) (v := ?_) (a' := ?_) #[true, true, true, true, true, true, true, true, true, true, true, false, false, false, false, false, false, false, false, false] rfl rfl (by kernel_rfl) (fun _ _ _ h => h) (by rfl) ?_ hHeld ?_ ?_
          rotate_left 2
          · rintro w' ⟨s0, s1, s2, s3, s4, s5, s6, s7, s8, s9, s10, s11⟩
            go_simp
            try with_reducible rfl
          · simp only [Act.put, List.setIfInBounds_toArray, List.set_cons_zero, List.set_cons_succ]
            rfl
          refine rg_take (i := 11) (N := (some 103)) (v := ?_) (a' := ?_) #[true, true, true, true, true, true, true, true, true, true, true, true, false, false, false, false, false, false, false, false] rfl rfl (by kernel_rfl) (fun _ _ _ h => h) (by rfl) ?_ hHeld ?_ ?_
          rotate_left 2
          · rintro w' ⟨s0, s1, s2, s3, s4, s5, s6, s7, s8, s9, s10, s11⟩
            go_simp
            try with_reducible rfl
          · simp only [Act.put, List.setIfInBounds_toArray, List.set_cons_zero, List.set_cons_succ]
            rfl
          refine rg_take (i := 12) (N := (some 104)) (v := ?_) (a' := ?_) #[true, true, true, true, true, true, true, true, true, true, true, true, true, false, false, false, false, false, false, false] rfl rfl (by kernel_rfl) (fun _ _ _ h => h) (by rfl) ?_ hHeld ?_ ?_
          rotate_left 2
          · rintro w' ⟨s0, s1, s2, s3, s4, s5, s6, s7, s8, s9, s10, s11⟩
            go_simp
            try with_reducible rfl
          · simp only [Act.put, List.setIfInBounds_toArray, List.set_cons_zero, List.set_cons_succ]
            rfl
          refine rg_take (i := 13) (N := (some 105)) (v := ?_) (a' := ?_) #[true, true, true, true, true, true, true, true, true, true, true, true, true, true, false, false, false, false, false, false] rfl rfl (by kernel_rfl) (fun _ _ _ h => h) (by rfl) ?_ hHeld ?_ ?_
          rotate_left 2
          · rintro w' ⟨s0, s1, s2, s3, s4, s5, s6, s7, s8, s9, s10, s11⟩
            go_simp
            try with_reducible rfl
          · simp only [Act.put, List.setIfInBounds_toArray, List.set_cons_zero, List.set_cons_succ]
            rfl
          refine rg_take (i := 14) (N := (some 106)) (v := ?_) (a' := ?_) #[true, true, true, true, true, true, true, true, true, true, true, true, true, true, true, false, false, false, false, false] rfl rfl (by kernel_rfl) (fun _ _ _ h => h) (by rfl) ?_ hHeld ?_ ?_
          rotate_left 2
          · rintro w' ⟨s0, s1, s2, s3, s4, s5, s6, s7, s8, s9, s10, s11⟩
            go_simp
            try with_reducible rfl
          · simp only [Act.put, List.setIfInBounds_toArray, List.set_cons_zero, List.set_cons_succ]
            rfl
          refine rg_take (i := 15) (N := (some 107)) (v := ?_) (a' := ?_) #[true, true, true, true, true, true, true, true, true, true, true, true, true, true, true, true, false, false, false, false] rfl rfl (by kernel_rfl) (fun _ _ _ h => h) (by rfl) ?_ hHeld ?_ ?_
          rotate_left 2
          · rintro w' ⟨s0, s1, s2, s3, s4, s5, s6, s7, s8, s9, s10, s11⟩
            go_simp
            try with_reducible rfl
          · simp only [Act.put, List.setIfInBounds_toArray, List.set_cons_zero, List.set_cons_succ]
            rfl
          refine rg_take (i := 16) (N := (some 108)) (v := ?_) (a' := ?_) #[true, true, true, true, true, true, true, true, true, true, true, true, true, true, true, true, true, false, false, false] rfl rfl (by kernel_rfl) (fun _ _ _ h => h) (by rfl) ?_ hHeld ?_ ?_
          rotate_left 2
          · rintro w' ⟨s0, s1, s2, s3, s4, s5, s6, s7, s8, s9, s10, s11⟩
            go_simp
            try with_reducible rfl
          · simp only [Act.put, List.setIfInBounds_toArray, List.set_cons_zero, List.set_cons_succ]
            rfl
          refine rg_take (i := 17) (N := (some 109)) (v := ?_) (a' := ?_) #[true, true, true, true, true, true, true, true, true, true, true, true, true, true, true, true, true, true, false, false] rfl rfl (by kernel_rfl) (fun _ _ _ h => h) (by rfl) ?_ hHeld ?_ ?_
          rotate_left 2
          · rintro w' ⟨s0, s1, s2, s3, s4, s5, s6, s7, s8, s9, s10, s11⟩
            go_simp
            try with_reducible rfl
          · simp only [Act.put, List.setIfInBounds_toArray, List.set_cons_zero, List.set_cons_succ]
            rfl
          refine rg_take (i := 18) (N := (some 110)) (v := ?_) (a' := ?_) #[true, true, true, true, true, true, true, true, true, true, true, true, true, true, true, true, true, true, true, false] rfl rfl (by kernel_rfl) (fun _ _ _ h => h) (by rfl) ?_ hHeld ?_ ?_
          rotate_left 2
          · rintro w' ⟨s0, s1, s2, s3, s4, s5, s6, s7, s8, s9, s10, s11⟩
            go_simp
            try with_reducible rfl
          · simp only [Act.put, List.setIfInBounds_toArray, List.set_cons_zero, List.set_cons_succ]
            rfl
          refine rg_take (i := 19) (N := (some 111)) (v := ?_) (a' := ?_) #[true, true, true, true, true, true, true, true, true, true, true, true, true, true, true, true, true, true, true, true] rfl rfl (by kernel_rfl) (fun _ _ _ h => h) (by rfl) ?_ hHeld ?_ ?_
          rotate_left 2
          · rintro w' ⟨s0, s1, s2, s3, s4, s5, s6, s7, s8, s9, s10, s11⟩
            go_simp
            try with_reducible rfl
          · simp only [Act.put, List.setIfInBounds_toArray, List.set_cons_zero, List.set_cons_succ]
            rfl
          refine rg_done (by kernel_rfl) ?_
          go_wp2_with (go_at_call 16; (with_reducible refine (Hp2.out _ ?_ _).mono ?_); (omega); rintro e w7 ⟨rfl, hb7⟩; have hb7 := below_next (Below.refl _ w6).drew hb7; have hr := below_next hr hb7; clear hb7)
          all_goals try (exfalso; omega)
          refine ⟨⟨k + 1, ALL ++ BP, by omega, by simp, rfl, Hcat.out, Hord2.out, below_alloc hr⟩, ?_⟩
          simp [intOf]
          omega
    · have hall : os.take k = os := List.take_of_length_le (by omega)
      have hkI : (os.length : Int) ≤ (k : Int) := by omega
      have hby : ∀ W, Elems W A 6 (os.map Ord.cells) → Calls Try.prog 12 #[.slice A os.length cap] W fun e w' => e = .returned (.tuple #[.string ALL, .int .i64 0]) ∧ Below W.heap.size W w' := fun W hW => by
        have h := bytes_any A cap os W (by omega) hW Hfit.out
        have h1 : os.all isOrd = true := by rw [List.all_eq_true]; intro o ho; exact Hord.out o (by rw [hall]; exact ho)
        rw [show bytesAll os = (ALL, 0) by rw [bytesAll, if_pos h1, HALL.out, hall]; rfl] at h
        exact h
      have Hby := Lib.hid hby
      clear hby hall
      go_wp2_with (go_at_call 12; (with_reducible refine (Hby.out _ (He.out.below hb)).mono ?_); rintro e w2 ⟨rfl, hb2⟩)
      go_ret
      exact ⟨rfl, below_next hb hb2⟩


set_option maxRecDepth 100000 in
theorem back_any (A : Option Addr) (cap : Nat) (os : List Ord) (oo : Ord) (w : World) (he : Elems w A 6 (os.map Ord.cells)) (hfit : ∀ o ∈ os, o.fits) (hf : oo.fits) :
    Calls Try.prog 5 #[.slice A os.length cap, oo.v] w fun e w' => e = .returned (.bool true) ∧ Below w.heap.size w w' := by
  obtain ⟨ok, okey, oval, on, olo, ohi⟩ := oo
  by_cases hl : (os.length : Int) ≤ 100
  · exact back_short A cap os ok on okey oval olo ohi w hl he hfit hf
  · have hb := Below.alloc (Below.refl w.heap.size w) (Nat.le_refl _) (.cells #[.int .i64 ok, .string okey, .string oval, .int .u64 on, .string olo, .string ohi] 24)
    clear he hfit hf
    have hl : (100 : Int) < (os.length : Int) := by omega
    rw [Ord.v_def]
    dsimp only
    go_enter Try.func5, Try.ntmps5
    go_wp2_with (go_at_call 9; (with_reducible refine (awake_any _).mono ?_); rintro e w1 ⟨rfl, hb1⟩; have hb := below_next hb hb1)
    go_ret
    exact ⟨rfl, hb⟩

end Go.Proofs.Ytdfgdnaejnngoaa
