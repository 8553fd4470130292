import Derived.Test.YtdfgdnaejnngoaaTj
namespace Go.Proofs.Ytdfgdnaejnngoaa
open Go.RowKit
/-! TallyParts. -/
theorem E_info : (Try.prog.info? 67).map (fun i => (i.zero, i.size, i.bytes)) = some (some (.agg #[.int .i64 0, .int .i64 0, .string ⟨#[]⟩, .string ⟨#[]⟩, .int .u64 0, .string ⟨#[]⟩, .string ⟨#[]⟩, .int .i64 0, .slice none 0 0, .int .i64 0, .bool false, .string ⟨#[]⟩, .slice none 0 0, .int .i64 0, .int .i64 0, .int .i64 0, .int .i64 0, .int .i64 0, .int .i64 0, .int .i64 0, .int .i64 0, .int .i64 0]), 22, 248) := by kernel_rfl
theorem flat_get {α : Type} {k : Nat} (hk0 : 0 < k) : ∀ (rows : List (List α)), (∀ r ∈ rows, r.length = k) → ∀ (j : Nat) (u : α), rows.flatten[j]? = some u → ∃ i r jj, rows[i]? = some r ∧ r[jj]? = some u ∧ j = i * k + jj
  | [], _, j, u, h => by simp at h
  | r :: rows, hr, j, u, h => by
    rw [List.flatten_cons] at h
    have hrk := hr r (by simp)
    by_cases hj : j < k
    · rw [List.getElem?_append_left (by omega)] at h
      exact ⟨0, r, j, rfl, h, by omega⟩
    · rw [List.getElem?_append_right (by omega)] at h
      obtain ⟨i, r', jj, h1, h2, h3⟩ := flat_get hk0 rows (fun x hx => hr x (by simp [hx])) _ u h
      refine ⟨i + 1, r', jj, h1, h2, ?_⟩
      rw [Nat.succ_mul]
      omega
theorem Elems.flat {w : World} {b off k : Nat} {rows : List (List Value)} (hk0 : 0 < k) (h : Elems w (some ⟨b, off, none⟩) k rows) (hk : ∀ r ∈ rows, r.length = k) : ∀ j u, rows.flatten[j]? = some u → w.cell? ⟨b, off + j, none⟩ = some u := by
  intro j u hj
  obtain ⟨i, r, jj, h1, h2, rfl⟩ := flat_get hk0 rows hk j u hj
  obtain ⟨b', off', e, _, hc⟩ := h i r h1
  cases e
  rw [← Nat.add_assoc]
  exact hc jj u h2
theorem Elems.drop {w : World} {b off k : Nat} {rows : List (List Value)} (h : Elems w (some ⟨b, off, none⟩) k rows) (m : Nat) : Elems w (some ⟨b, off + m * k, none⟩) k (rows.drop m) := by
  intro i r hr
  rw [List.getElem?_drop] at hr
  obtain ⟨b', off', e, hlt, hc⟩ := h (m + i) r hr
  cases e
  refine ⟨b, off + m * k, rfl, hlt, fun j u hu => ?_⟩
  have := hc j u hu
  rw [Nat.add_mul, ← Nat.add_assoc] at this
  exact this
theorem Elems.take {w : World} {A : Option Addr} {k : Nat} {rows : List (List Value)} (h : Elems w A k rows) (m : Nat) : Elems w A k (rows.take m) := by
  intro i r hr
  rw [List.getElem?_take] at hr
  split at hr
  · exact h i r hr
  · cases hr
theorem oper_runTo {P : Program} {o : Oper} {a : Act} {w : World} {K : Act → World → Prop} {Q : Exit → Act → World → Prop} (N : Option Tmp) (hN : o.dst = N) (v : Value) (w' : World) (hrun : (execOp a.eval o).run P w = .ok (.value v) w') (h : K (a.put N v) w') : Oper.wp P o a w K Q := by
  subst hN
  unfold Oper.wp
  rw [hrun, Oper.upon_value]
  exact h
theorem ev_cells_one (e : Ev) : ∀ u ∈ e.cells, u.oneCell' = true := by
  have := e.one
  rw [Array.all_eq_true_iff_forall_mem] at this
  intro u hu
  exact this u (by simpa using hu)
abbrev OwnsE := OwnsG Ev.cells 22 67
/-- a row of one's own, and another row behind it -/
theorem ev_append {o : Oper} {a : Act} {w : World} {K : Act → World → Prop} {Q : Exit → Act → World → Prop} (N : Option Tmp) (hN : o.dst = N) (s x : Operand) (ho : o.op = .call { callee := .builtin .append, args := #[s, x], argTypes := #[51, 51] })
    (B : Nat) (v : Value) (l m : List Ev) (n : Nat) (ad : Addr) (c : Nat) (hn : m.length = n) (hs : a.eval s = v) (hx : a.eval x = .slice (some ad) n c) (hown : OwnsE w B v l) (hel : ∀ j u, ((m.map Ev.cells).flatten)[j]? = some u → w.cell? (ad.add j) = some u) (hl : l.length + m.length ≤ 1000) (hB : B ≤ w.heap.size)
    (h : ∀ v' w', OwnsE w' B v' (l ++ m) → Fr (fun k => B ≤ k) w w' → K (a.put N v') w') : Oper.wp Try.prog o a w K Q := by
  subst hn hN
  obtain ⟨i0, hi0, hz0, hz1, hz2⟩ := info_parts E_info
  refine wp_append_own w s x 51 ho B 67 i0 _ 22 248 Try.underlying51 hi0 hz0 hz1 hz2 rfl (by decide) v l.length _ hs hown ad m.length c ((m.map Ev.cells).flatten) hx (flatten_length Ev.clen m) hel ?_ ?_ ?_ hB ?_
  · intro u hu
    obtain ⟨r, hr, hu⟩ := List.mem_flatten.1 hu
    obtain ⟨e, _, rfl⟩ := List.mem_map.1 hr
    exact ev_cells_one e u hu
  · unfold maxLen; omega
  · omega
  · intro v' w' h1 h2 _
    refine h v' w' ?_ ((Fr.refl _ w).grown h2 (fun i hi e => (hown.lt i e).1))
    unfold OwnsE OwnsG
    rw [List.map_append, List.flatten_append, List.length_append]
    exact h1
/-- the parts of a row that came in -/
theorem row_parts {w : World} {ad : Addr} {l : List Ev} {kk cap : Nat} (hkk : kk ≤ l.length) (hcap : l.length ≤ cap) (h : Elems w (some ad) 22 (l.map Ev.cells)) :
    (∀ j u, (((l.take kk).map Ev.cells).flatten)[j]? = some u → w.cell? (ad.add j) = some u) ∧ (∀ j u, (((l.drop kk).map Ev.cells).flatten)[j]? = some u → w.cell? ((if cap = kk then ad else ad.add (kk * 22)).add j) = some u) ∧ Elems w (some (if cap = kk then ad else ad.add (kk * 22))) 22 ((l.drop kk).map Ev.cells) := by
  have h22 : ∀ (m : List Ev), ∀ r ∈ m.map Ev.cells, r.length = 22 := fun m r hr => by obtain ⟨e, _, rfl⟩ := List.mem_map.1 hr; rfl
  cases l with
  | nil => exact ⟨fun j u hj => by simp at hj, fun j u hj => by simp at hj, fun i r hr => by simp at hr⟩
  | cons e l =>
    obtain ⟨b, off, e1, _⟩ := h 0 e.cells rfl
    cases e1
    have hdrop : Elems w (some (if cap = kk then ⟨b, off, none⟩ else (⟨b, off, none⟩ : Addr).add (kk * 22))) 22 (((e :: l).drop kk).map Ev.cells) := by
      by_cases hc : cap = kk
      · have : (e :: l).drop kk = [] := List.drop_eq_nil_of_le (by omega)
        rw [this]
        exact Elems.nil _ _ _
      · rw [if_neg hc, Addr.add_mid, List.map_drop]
        exact h.drop kk
    refine ⟨fun j u hj => ?_, fun j u hj => ?_, hdrop⟩
    · rw [Addr.add_mid]
      have ht := h.take kk
      rw [← List.map_take] at ht
      exact ht.flat (by decide) (h22 _) j u hj
    · by_cases hc : cap = kk
      · have : (e :: l).drop kk = [] := List.drop_eq_nil_of_le (by omega)
        rw [this] at hj
        simp at hj
      · rw [if_neg hc, Addr.add_mid] at hdrop ⊢
        rw [Addr.add_mid]
        exact hdrop.flat (by decide) (h22 _) j u hj
theorem sumE_parts (l : List Ev) (k : Nat) (i : Nat) : sumE (l.take k) i + sumE (l.drop k) i = sumE l i := by
  rw [← sumE_append, List.take_append_drop]
theorem at_mod (x : Int) (n : Nat) (hn : n ≤ 1000) : ∃ k : Nat, k ≤ n ∧ wrap64 ((IntKind.u64.wrap x).tmod ((n : Int) + 1)) = (k : Int) := by
  have h0 : 0 ≤ IntKind.u64.wrap x := by
    simp [IntKind.wrap, IntKind.bits, IntKind.signed]
    omega
  have e : (IntKind.u64.wrap x).tmod ((n : Int) + 1) = (IntKind.u64.wrap x) % ((n : Int) + 1) := Int.tmod_eq_emod_of_nonneg h0
  have h1 := Int.emod_nonneg (IntKind.u64.wrap x) (show ((n : Int) + 1) ≠ 0 by omega)
  have h2 := Int.emod_lt_of_pos (IntKind.u64.wrap x) (show (0 : Int) < (n : Int) + 1 by omega)
  rw [e]
  generalize IntKind.u64.wrap x % ((n : Int) + 1) = y at *
  obtain ⟨k, rfl⟩ := Int.eq_ofNat_of_zero_le h1
  refine ⟨k, by omega, ?_⟩
  unfold wrap64
  omega
set_option maxHeartbeats 4000000 in
set_option maxRecDepth 100000 in
theorem parts_any (A : Option Addr) (cap : Nat) (l : List Ev) (at_ : Int) (w : World) (hel : Elems w A 22 (l.map Ev.cells)) (hcap : l.length ≤ cap) (hnil : A = none → cap = 0) : Calls Try.prog 8 #[.slice A l.length cap, .int .i64 at_] w
    fun e' w' => e' = .returned (.bool true) ∧ Below w.heap.size w w' := by
  have haw := fun W => awake_any W
  have HAW := Lib.hid haw
  have HE := Lib.hid hel
  clear haw hel
  by_cases h100 : 100 < l.length
  · have h100I : (100 : Int) < (l.length : Int) := by omega
    go_enter Try.func8, Try.ntmps8
    go_wp2_with (go_at_call 20; (with_reducible refine (HAW.out _).mono ?_); rintro e w1 ⟨rfl, hb1⟩)
    go_ret
    exact ⟨rfl, hb1⟩
  have h100I : (l.length : Int) ≤ 100 := by omega
  go_enter Try.func8, Try.ntmps8
  go_wp2_with (go_at_call 20; (with_reducible refine (HAW.out _).mono ?_); rintro e w1 ⟨rfl, hb1⟩)
  go_loopw [5] (fun i wr => ∃ k : Nat, i = .int .i64 k ∧ k ≤ l.length ∧ (∀ e ∈ l.take k, e.good) ∧ Below w.heap.size w wr) (fun i _ => l.length + 1 - (intOf i).toNat)
  case atStart => exact ⟨0, rfl, Nat.zero_le _, by simp, hb1⟩
  case round =>
    obtain ⟨k, rfl, hk, hgd, hbel⟩ := hrel
    by_cases hkl : k < l.length
    · have hkI : (k : Int) < (l.length : Int) := by omega
      obtain ⟨e, he⟩ := get_lt hkl
      obtain ⟨b, off, rfl, hblt, hcells⟩ := HE.out k e.cells (by simp [he])
      have hR : wr.rangeAt b (off + k * 22) e.cells := fun j u hj => (hbel.cell (p := ⟨b, _, none⟩) hblt).trans (hcells j u hj)
      have hlg := fun W => long_any e W
      have hgl := fun h => isLongE_good (e := e) h
      have hcl := Ev.clen e
      rw [Ev.v_eq] at hlg
      generalize e.cells = cs at hR hlg hcl
      generalize isLongE e = lg at hlg hgl
      have HR := Lib.hid hR
      have HLG := Lib.hid hlg
      have HGL := Lib.hid hgl
      have HGD := Lib.hid hgd
      have HEE := Lib.hid he
      clear hR hlg hgl hgd he
      cases lg
      · have HG1 := Lib.hid (HGL.out rfl)
        go_wp2_with (first | (refine wpList_load_mid rfl 67 (Operand.tmp 26) rfl b (off + k * 22) rfl cs _ HR.out Try.underlying67 rfl (by rw [hcl]; kernel_rfl) ?_) | (go_at_call 21; (with_reducible refine (HLG.out _).mono ?_); rintro e w2 ⟨rfl, hb2⟩))
        refine ⟨⟨k + 1, by go_num, by omega, fun x hx => ?_, below_next hbel hb2⟩, ?_⟩
        · rw [List.take_add_one, HEE.out, Option.toList_some, List.mem_append, List.mem_singleton] at hx
          rcases hx with hx | rfl
          · exact HGD.out x hx
          · exact HG1.out
        · simp [intOf]
          omega
      · go_wp2_with (first | (refine wpList_load_mid rfl 67 (Operand.tmp 26) rfl b (off + k * 22) rfl cs _ HR.out Try.underlying67 rfl (by rw [hcl]; kernel_rfl) ?_) | (go_at_call 21; (with_reducible refine (HLG.out _).mono ?_); rintro e w2 ⟨rfl, hb2⟩))
        go_ret
        exact ⟨rfl, below_next hbel hb2⟩
    · obtain rfl : k = l.length := by omega
      rw [List.take_length] at hgd
      obtain ⟨kk, hkk, hK⟩ := at_mod at_ l.length (by omega)
      have hkI : (kk : Int) ≤ (cap : Int) := by omega
      have hkL : (kk : Int) ≤ (l.length : Int) := by omega
      have hLC : (l.length : Int) ≤ (cap : Int) := by omega
      have ht : (l.take kk).length = kk := by rw [List.length_take]; omega
      have hd : (l.drop kk).length = l.length - kk := by rw [List.length_drop]
      have hg1 : ∀ e ∈ l.take kk, e.good := fun e he => hgd e (List.mem_of_mem_take he)
      have hg2 : ∀ e ∈ l.drop kk, e.good := fun e he => hgd e (List.mem_of_mem_drop he)
      have hof1 := fun W h => of_any A cap (l.take kk) W h hg1 (by omega)
      rw [ht] at hof1
      have hof2 := fun A2 c2 W h => of_any A2 c2 (l.drop kk) W h hg2 (by omega)
      rw [hd] at hof2
      have hof3 := fun W h => of_any A cap l W h hgd (by omega)
      have hof4 := fun A2 c2 W h => of_any A2 c2 (l.drop kk ++ l.take kk) W h (fun e he => by rcases List.mem_append.1 he with h | h; exact hg2 e h; exact hg1 e h) (by rw [List.length_append]; omega)
      have hs4 : sumE (l.drop kk ++ l.take kk) = sumE l := funext fun i => by rw [sumE_append, ← sumE_parts l kk i]; omega
      have hl4 : (l.drop kk ++ l.take kk).length = l.length := by rw [List.length_append, hd, ht]; omega
      rw [hs4, hl4] at hof4
      have HL4 := Lib.hid hl4
      clear hl4
      have hr1 := sumE_range _ hg1
      have hr2 := sumE_range _ hg2
      have hr3 := sumE_range _ hgd
      have hsum := sumE_parts l kk
      have hj : sumT [sumE (l.take kk), sumE (l.drop kk)] = sumE l := funext fun i => by simp [sumT, ← hsum i]
      have hjo := fun (W : World) => join_any (some ⟨W.heap.size, 0, none⟩) 2 [sumE (l.take kk), sumE (l.drop kk)] (W.alloc (.cells (tC (sumE (l.take kk)) ++ tC (sumE (l.drop kk))).toArray 71)) (Elems.of_block (heap_alloc_new W _) (by simp [tC_len]) (by simp)) (fun v hv i _ => by
        simp only [List.mem_cons, List.not_mem_nil, or_false] at hv
        rcases hv with rfl | rfl
        · have := hr1 i; omega
        · have := hr2 i; omega) (by simp)
      rw [hj] at hjo
      simp only [List.length_cons, List.length_nil, Nat.zero_add, Nat.reduceAdd] at hjo
      have hle := fun W => less_any (sumE l) (sumE (l.take kk)) W (fun i _ => by have := hr3 i; omega) (fun i _ => by have := hr1 i; omega)
      have hok : okW (sumE l) (sumE (l.take kk)) (-1) (plL 21) = true := List.all_eq_true.2 fun i _ => by
        have := hsum i
        have := hr2 i
        simp
        omega
      have hlv : lessV (sumE l) (sumE (l.take kk)) = sumE (l.drop kk) := by
        unfold lessV
        rw [hok, if_pos rfl]
        funext i
        have := hsum i
        omega
      rw [hok, hlv] at hle
      generalize sumE (l.take kk) = V1 at hof1 hle hjo
      generalize sumE (l.drop kk) = V2 at hof2 hle hjo
      generalize sumE l = V at hof3 hof4 hle hjo
      have hst1 := fun W zs hz => any_store 71 V1 W zs tally_size hz
      have hst2 := fun W zs hz => any_store 71 V2 W zs tally_size hz
      have hst3 := fun W zs hz => any_store 71 V W zs tally_size hz
      have hL := fun V : Nat → Int => (show (Try.prog.info? 71).map (·.size) = some (nv 25 V).toList.length by rw [nv_len]; exact tally_size)
      have HL := Lib.hid hL
      have heq1 := fun W => eql_tally V W
      have heq2 := fun W => eql_tally V2 W
      have HQ1 := Lib.hid heq1
      have HQ2 := Lib.hid heq2
      clear hL heq1 heq2
      have hsz1 := nv_size 25 V1
      have hsz2 := nv_size 25 V2
      have hsz3 := nv_size 25 V
      have HO1 := Lib.hid hof1
      have HO2 := Lib.hid hof2
      have HO3 := Lib.hid hof3
      have HO4 := Lib.hid hof4
      have HJO := Lib.hid hjo
      have HLE := Lib.hid hle
      have HT := Lib.hid ht
      have HD := Lib.hid hd
      clear hof1 hof2 hof3 hof4 hjo hle ht hd hg1 hg2 hr1 hr2 hr3 hsum hj hok hlv hs4 hgd
      cases A with
      | none =>
        obtain rfl : l = [] := by
          cases l with
          | nil => rfl
          | cons e l =>
            obtain ⟨b, off, e1, _⟩ := HE.out 0 e.cells rfl
            cases e1
        obtain rfl : cap = 0 := hnil rfl
        obtain rfl : kk = 0 := by simpa using hkk
        go_wp2_with fail
        refine (HO1.out _ (fun i r h => by simp at h)).mono ?_
        rintro e w2 ⟨rfl, hb2⟩
        have hB2 := below_alloc (o := .cells (nv 25 V1) 71) (below_next hbel hb2)
        have HA2 := Lib.hid (VAt.new (T := 71) (n := 25) w2 V1)
        clear hb2
        go_wp2_with fail
        refine (HO2.out none 0 _ (fun i r h => by simp at h)).mono ?_
        rintro e w3 ⟨rfl, hb3⟩
        have hB3 := below_alloc (o := .cells (nv 25 V2) 71) (below_next hB2 hb3)
        have HA3 := Lib.hid ((HA2.out.below hb3).fr ((Fr.refl (fun _ => False) _).alloc (.cells (nv 25 V2) 71)) id)
        have HC3 := Lib.hid (VAt.new (T := 71) (n := 25) w3 V2)
        clear hb3
        go_wp2_with fail
        refine (HO3.out _ (fun i r h => by simp at h)).mono ?_
        rintro e w4 ⟨rfl, hb4⟩
        have hB4 := below_alloc (o := .cells (nv 25 V) 71) (below_next hB3 hb4)
        have HA4 := Lib.hid ((HA3.out.below hb4).fr ((Fr.refl (fun _ => False) _).alloc (.cells (nv 25 V) 71)) id)
        have HC4 := Lib.hid ((HC3.out.below hb4).fr ((Fr.refl (fun _ => False) _).alloc (.cells (nv 25 V) 71)) id)
        have HT4 := Lib.hid (VAt.new (T := 71) (n := 25) w4 V)
        clear hb4
        go_wp2_with (first | (refine wpList_load_w (by rfl) 71 (Operand.tmp 9) rfl w4.heap.size 0 rfl (nv 25 V).toList _ HT4.out.range Try.underlying71 rfl (HL.out V) ?_) | (refine wpList_load_w (by rfl) 71 (Operand.tmp 7) rfl w2.heap.size 0 rfl (nv 25 V1).toList _ HA4.out.range Try.underlying71 rfl (HL.out V1) ?_) | (go_at_call 32; (with_reducible refine (HLE.out _).mono ?_); rintro e w5 ⟨rfl, hb5⟩))
        have hB5 := below_alloc (o := .cells (nv 25 V2) 71) (below_next hB4 hb5)
        have HA5 := Lib.hid ((HA4.out.below hb5).fr ((Fr.refl (fun _ => False) _).alloc (.cells (nv 25 V2) 71)) id)
        have HC5 := Lib.hid ((HC4.out.below hb5).fr ((Fr.refl (fun _ => False) _).alloc (.cells (nv 25 V2) 71)) id)
        have HT5 := Lib.hid ((HT4.out.below hb5).fr ((Fr.refl (fun _ => False) _).alloc (.cells (nv 25 V2) 71)) id)
        have HX5 := Lib.hid (VAt.new (T := 71) (n := 25) w5 V2)
        clear hb5 hB2 hB3 hB4
        generalize w5.alloc (.cells (nv 25 V2) 71) = W5 at *
        have hw5 := hB5.size
        refine rg_start (n := 10) (fun w' => True) #[false, false, false, false, false, false, false, false, false, false] (by kernel_rfl) rfl rfl trivial (fun hHeld => ?_)
        refine rg_take (i := 1) (N := (some 54)) (v := ?_) (a' := ?_) #[false, true, false, false, false, false, false, false, false, false] rfl rfl (by kernel_rfl) (fun _ _ _ h => h) (by rfl) ?_ hHeld ?_ ?_
        rotate_left 2
        · rintro w' _s
          go_simp
          try with_reducible rfl
        · simp only [Act.put, List.setIfInBounds_toArray, List.set_cons_zero, List.set_cons_succ]
          rfl
        refine rg_take (i := 2) (N := (some 55)) (v := ?_) (a' := ?_) #[false, true, true, false, false, false, false, false, false, false] rfl rfl (by kernel_rfl) (fun _ _ _ h => h) (by rfl) ?_ hHeld ?_ ?_
        rotate_left 2
        · rintro w' _s
          go_simp
          try with_reducible rfl
        · simp only [Act.put, List.setIfInBounds_toArray, List.set_cons_zero, List.set_cons_succ]
          rfl
        refine rg_take (i := 3) (N := (some 56)) (v := ?_) (a' := ?_) #[false, true, true, true, false, false, false, false, false, false] rfl rfl (by kernel_rfl) (fun _ _ _ h => h) (by rfl) ?_ hHeld ?_ ?_
        rotate_left 2
        · rintro w' _s
          go_simp
          try with_reducible rfl
        · simp only [Act.put, List.setIfInBounds_toArray, List.set_cons_zero, List.set_cons_succ]
          rfl
        refine rg_take (i := 5) (N := (some 58)) (v := ?_) (a' := ?_) #[false, true, true, true, false, true, false, false, false, false] rfl rfl (by kernel_rfl) (fun _ _ _ h => h) (by rfl) ?_ hHeld ?_ ?_
        rotate_left 2
        · rintro w' _s
          go_simp
          try with_reducible rfl
        · simp only [Act.put, List.setIfInBounds_toArray, List.set_cons_zero, List.set_cons_succ]
          rfl
        refine rg_take (i := 6) (N := (some 59)) (v := ?_) (a' := ?_) #[false, true, true, true, false, true, true, false, false, false] rfl rfl (by kernel_rfl) (fun _ _ _ h => h) (by rfl) ?_ hHeld ?_ ?_
        rotate_left 2
        · rintro w' _s
          go_simp
          try with_reducible rfl
        · simp only [Act.put, List.setIfInBounds_toArray, List.set_cons_zero, List.set_cons_succ]
          rfl
        refine rg_take (i := 7) (N := (some 60)) (v := ?_) (a' := ?_) #[false, true, true, true, false, true, true, true, false, false] rfl rfl (by kernel_rfl) (fun _ _ _ h => h) (by rfl) ?_ hHeld ?_ ?_
        rotate_left 2
        · rintro w' _s
          go_simp
          try with_reducible rfl
        · simp only [Act.put, List.setIfInBounds_toArray, List.set_cons_zero, List.set_cons_succ]
          rfl
        refine rg_one (i := 0) #[true, true, true, true, false, true, true, true, false, false] rfl (by kernel_rfl) (by rfl) (fun K hK => ?_)
        repeat go_step
        refine hK.out _ _ ?_ (fun hHeld => ?_)
        · trivial
        clear hK K
        refine rg_one (i := 4) #[true, true, true, true, true, true, true, true, false, false] rfl (by kernel_rfl) (by rfl) (fun K hK => ?_)
        repeat go_step
        refine hK.out _ _ ?_ (fun hHeld => ?_)
        · trivial
        clear hK K
        refine rg_one (i := 8) #[true, true, true, true, true, true, true, true, true, false] rfl (by kernel_rfl) (by rfl) (fun K hK => ?_)
        repeat go_step
        refine hK.out _ _ ?_ (fun hHeld => ?_)
        · trivial
        clear hK K
        refine rg_take (i := 9) (N := (some 12)) (v := ?_) (a' := ?_) #[true, true, true, true, true, true, true, true, true, true] rfl rfl (by kernel_rfl) (fun _ _ _ h => h) (by rfl) ?_ hHeld ?_ ?_
        rotate_left 2
        · rintro w' _s
          go_simp
          try with_reducible rfl
        · simp only [Act.put, List.setIfInBounds_toArray, List.set_cons_zero, List.set_cons_succ]
          rfl
        refine rg_done (by kernel_rfl) ?_
        go_wp2
        have hB7 := (below_alloc (o := .cells #[] 67) hB5).drew
        have HA7 := Lib.hid (HA5.out.fr ((Fr.refl (fun _ => False) _).alloc (.cells #[] 67)) id).drew
        have HC7 := Lib.hid (HC5.out.fr ((Fr.refl (fun _ => False) _).alloc (.cells #[] 67)) id).drew
        have HT7 := Lib.hid (HT5.out.fr ((Fr.refl (fun _ => False) _).alloc (.cells #[] 67)) id).drew
        have HX7 := Lib.hid (HX5.out.fr ((Fr.refl (fun _ => False) _).alloc (.cells #[] 67)) id).drew
        have HO7 := Lib.hid (OwnsG.empty (f := Ev.cells) (k := 22) (heap_alloc_new W5 (.cells #[] 67)) (Nat.le_refl W5.heap.size)).drew
        generalize (W5.alloc (.cells #[] 67)).drew = w7 at *
        have hgu : Try.prog.eqGuardType Try.prog.depth 71 = false := by kernel_rfl
        refine rg_start (n := 21) (fun w' => VAt 71 25 w' w2.heap.size V1 ∧ VAt 71 25 w' w3.heap.size V2 ∧ VAt 71 25 w' w4.heap.size V ∧ VAt 71 25 w' w5.heap.size V2 ∧ OwnsE w' W5.heap.size (.slice (some ⟨W5.heap.size, 0, none⟩) 0 0) ([] : List Ev) ∧ Below w.heap.size w w') #[false, false, false, false, false, false, false, false, false, false, false, false, false, false, false, false, false, false, false, false, false] (by kernel_rfl) rfl rfl ⟨HA7.out.drew, HC7.out.drew, HT7.out.drew, HX7.out.drew, HO7.out, hB7.drew⟩ (fun hHeld => ?_)
        refine rg_take (i := 0) (N := (some 62)) (v := ?_) (a' := ?_) #[true, false, false, false, false, false, false, false, false, false, false, false, false, false, false, false, false, false, false, false, false] rfl rfl (by kernel_rfl) (fun _ _ _ h => h) (by rfl) ?_ hHeld ?_ ?_
        rotate_left 2
        · rintro w' ⟨s0, s1, s2, s3, s4, s5⟩
          (refine Eq.trans (b := Result.ok (Next.value (.agg (nv 25 V1))) w') ?_ ?_; exact exec_loadn (n := 25) (k := 25) rfl rfl s0 (by omega) Try.underlying71 rfl tally_size; with_reducible rfl)
        · simp only [Act.put, List.setIfInBounds_toArray, List.set_cons_zero, List.set_cons_succ]
          rfl
        refine rg_take (i := 1) (N := (some 63)) (v := ?_) (a' := ?_) #[true, true, false, false, false, false, false, false, false, false, false, false, false, false, false, false, false, false, false, false, false] rfl rfl (by kernel_rfl) (fun _ _ _ h => h) (by rfl) ?_ hHeld ?_ ?_
        rotate_left 2
        · rintro w' ⟨s0, s1, s2, s3, s4, s5⟩
          (refine Eq.trans (b := Result.ok (Next.value (.agg (nv 25 V2))) w') ?_ ?_; exact exec_loadn (n := 25) (k := 25) rfl rfl s1 (by omega) Try.underlying71 rfl tally_size; with_reducible rfl)
        · simp only [Act.put, List.setIfInBounds_toArray, List.set_cons_zero, List.set_cons_succ]
          rfl
        refine rg_take (i := 4) (N := (some 66)) (v := ?_) (a' := ?_) #[true, true, false, false, true, false, false, false, false, false, false, false, false, false, false, false, false, false, false, false, false] rfl rfl (by kernel_rfl) (fun _ _ _ h => h) (by rfl) ?_ hHeld ?_ ?_
        rotate_left 2
        · rintro w' ⟨s0, s1, s2, s3, s4, s5⟩
          (refine Eq.trans (b := Result.ok (Next.value (.agg (nv 25 V))) w') ?_ ?_; exact exec_loadn (n := 25) (k := 25) rfl rfl s2 (by omega) Try.underlying71 rfl tally_size; with_reducible rfl)
        · simp only [Act.put, List.setIfInBounds_toArray, List.set_cons_zero, List.set_cons_succ]
          rfl
        refine rg_one (i := 2) #[true, true, true, false, true, false, false, false, false, false, false, false, false, false, false, false, false, false, false, false, false] rfl (by kernel_rfl) (by rfl) (fun K hK => ?_)
        obtain ⟨s0, s1, s2, s3, s4, s5⟩ := hHeld
        (refine oper_runTo (some 64) rfl (.slice (some ⟨w7.heap.size, 0, none⟩) 2 2) (w7.drew.alloc (.cells (tC V1 ++ tC V2).toArray 71)) (by kernel_rfl) ?_; simp only [Act.put, List.setIfInBounds_toArray, List.set_cons_zero, List.set_cons_succ])
        repeat go_step
        refine hK.out _ _ ?_ (fun hHeld => ?_)
        · exact ⟨s0.fr ((Fr.refl (fun _ => False) _).alloc _) id, s1.fr ((Fr.refl (fun _ => False) _).alloc _) id, s2.fr ((Fr.refl (fun _ => False) _).alloc _) id, s3.fr ((Fr.refl (fun _ => False) _).alloc _) id, s4.alloc _, below_alloc s5⟩
        clear hK K
        clear s0 s1 s2 s3 s4 s5
        refine rg_one (i := 3) #[true, true, true, true, true, false, false, false, false, false, false, false, false, false, false, false, false, false, false, false, false] rfl (by kernel_rfl) (by rfl) (fun K hK => ?_)
        obtain ⟨s0, s1, s2, s3, s4, s5⟩ := hHeld
        repeat go_step
        (refine (HJO.out w7.drew).mono ?_; rintro e w8 ⟨rfl, hb8⟩)
        try dsimp only
        refine hK.out _ _ ?_ (fun hHeld => ?_)
        · exact ⟨s0.below hb8, s1.below hb8, s2.below hb8, s3.below hb8, s4.below hb8, below_next s5 hb8⟩
        clear hK K
        clear s0 s1 s2 s3 s4 s5
        refine rg_take (i := 5) (N := (some 67)) (v := ?_) (a' := ?_) #[true, true, true, true, true, true, false, false, false, false, false, false, false, false, false, false, false, false, false, false, false] rfl rfl (by kernel_rfl) (fun _ _ _ h => h) (by rfl) ?_ hHeld ?_ ?_
        rotate_left 2
        · rintro w' ⟨s0, s1, s2, s3, s4, s5⟩
          (have heq := HQ1.out; go_simp; try with_reducible rfl)
        · simp only [Act.put, List.setIfInBounds_toArray, List.set_cons_zero, List.set_cons_succ]
          rfl
        refine rg_take (i := 6) (N := (some 68)) (v := ?_) (a' := ?_) #[true, true, true, true, true, true, true, false, false, false, false, false, false, false, false, false, false, false, false, false, false] rfl rfl (by kernel_rfl) (fun _ _ _ h => h) (by rfl) ?_ hHeld ?_ ?_
        rotate_left 2
        · rintro w' ⟨s0, s1, s2, s3, s4, s5⟩
          go_simp
          try with_reducible rfl
        · simp only [Act.put, List.setIfInBounds_toArray, List.set_cons_zero, List.set_cons_succ]
          rfl
        refine rg_take (i := 7) (N := (some 69)) (v := ?_) (a' := ?_) #[true, true, true, true, true, true, true, true, false, false, false, false, false, false, false, false, false, false, false, false, false] rfl rfl (by kernel_rfl) (fun _ _ _ h => h) (by rfl) ?_ hHeld ?_ ?_
        rotate_left 2
        · rintro w' ⟨s0, s1, s2, s3, s4, s5⟩
          go_simp
          try with_reducible rfl
        · simp only [Act.put, List.setIfInBounds_toArray, List.set_cons_zero, List.set_cons_succ]
          rfl
        refine rg_take (i := 8) (N := (some 70)) (v := ?_) (a' := ?_) #[true, true, true, true, true, true, true, true, true, false, false, false, false, false, false, false, false, false, false, false, false] rfl rfl (by kernel_rfl) (fun _ _ _ h => h) (by rfl) ?_ hHeld ?_ ?_
        rotate_left 2
        · rintro w' ⟨s0, s1, s2, s3, s4, s5⟩
          go_simp
          try with_reducible rfl
        · simp only [Act.put, List.setIfInBounds_toArray, List.set_cons_zero, List.set_cons_succ]
          rfl
        refine rg_take (i := 9) (N := (some 71)) (v := ?_) (a' := ?_) #[true, true, true, true, true, true, true, true, true, true, false, false, false, false, false, false, false, false, false, false, false] rfl rfl (by kernel_rfl) (fun _ _ _ h => h) (by rfl) ?_ hHeld ?_ ?_
        rotate_left 2
        · rintro w' ⟨s0, s1, s2, s3, s4, s5⟩
          go_simp
          try with_reducible rfl
        · simp only [Act.put, List.setIfInBounds_toArray, List.set_cons_zero, List.set_cons_succ]
          rfl
        refine rg_take (i := 10) (N := (some 72)) (v := ?_) (a' := ?_) #[true, true, true, true, true, true, true, true, true, true, true, false, false, false, false, false, false, false, false, false, false] rfl rfl (by kernel_rfl) (fun _ _ _ h => h) (by rfl) ?_ hHeld ?_ ?_
        rotate_left 2
        · rintro w' ⟨s0, s1, s2, s3, s4, s5⟩
          (refine Eq.trans (b := Result.ok (Next.value (.agg (nv 25 V2))) w') ?_ ?_; exact exec_loadn (n := 25) (k := 25) rfl rfl s3 (by omega) Try.underlying71 rfl tally_size; with_reducible rfl)
        · simp only [Act.put, List.setIfInBounds_toArray, List.set_cons_zero, List.set_cons_succ]
          rfl
        refine rg_take (i := 11) (N := (some 73)) (v := ?_) (a' := ?_) #[true, true, true, true, true, true, true, true, true, true, true, true, false, false, false, false, false, false, false, false, false] rfl rfl (by kernel_rfl) (fun _ _ _ h => h) (by rfl) ?_ hHeld ?_ ?_
        rotate_left 2
        · rintro w' ⟨s0, s1, s2, s3, s4, s5⟩
          (refine Eq.trans (b := Result.ok (Next.value (.agg (nv 25 V2))) w') ?_ ?_; exact exec_loadn (n := 25) (k := 25) rfl rfl s1 (by omega) Try.underlying71 rfl tally_size; with_reducible rfl)
        · simp only [Act.put, List.setIfInBounds_toArray, List.set_cons_zero, List.set_cons_succ]
          rfl
        refine rg_take (i := 12) (N := (some 74)) (v := ?_) (a' := ?_) #[true, true, true, true, true, true, true, true, true, true, true, true, true, false, false, false, false, false, false, false, false] rfl rfl (by kernel_rfl) (fun _ _ _ h => h) (by rfl) ?_ hHeld ?_ ?_
        rotate_left 2
        · rintro w' ⟨s0, s1, s2, s3, s4, s5⟩
          (have heq := HQ2.out; go_simp; try with_reducible rfl)
        · simp only [Act.put, List.setIfInBounds_toArray, List.set_cons_zero, List.set_cons_succ]
          rfl
        refine rg_take (i := 13) (N := (some 75)) (v := ?_) (a' := ?_) #[true, true, true, true, true, true, true, true, true, true, true, true, true, true, false, false, false, false, false, false, false] rfl rfl (by kernel_rfl) (fun _ _ _ h => h) (by rfl) ?_ hHeld ?_ ?_
        rotate_left 2
        · rintro w' ⟨s0, s1, s2, s3, s4, s5⟩
          go_simp
          try with_reducible rfl
        · simp only [Act.put, List.setIfInBounds_toArray, List.set_cons_zero, List.set_cons_succ]
          rfl
        refine rg_take (i := 14) (N := (some 76)) (v := ?_) (a' := ?_) #[true, true, true, true, true, true, true, true, true, true, true, true, true, true, true, false, false, false, false, false, false] rfl rfl (by kernel_rfl) (fun _ _ _ h => h) (by rfl) ?_ hHeld ?_ ?_
        rotate_left 2
        · rintro w' ⟨s0, s1, s2, s3, s4, s5⟩
          go_simp
          try with_reducible rfl
        · simp only [Act.put, List.setIfInBounds_toArray, List.set_cons_zero, List.set_cons_succ]
          rfl
        refine rg_take (i := 15) (N := (some 77)) (v := ?_) (a' := ?_) #[true, true, true, true, true, true, true, true, true, true, true, true, true, true, true, true, false, false, false, false, false] rfl rfl (by kernel_rfl) (fun _ _ _ h => h) (by rfl) ?_ hHeld ?_ ?_
        rotate_left 2
        · rintro w' ⟨s0, s1, s2, s3, s4, s5⟩
          go_simp
          try with_reducible rfl
        · simp only [Act.put, List.setIfInBounds_toArray, List.set_cons_zero, List.set_cons_succ]
          rfl
        refine rg_take (i := 17) (N := (some 79)) (v := ?_) (a' := ?_) #[true, true, true, true, true, true, true, true, true, true, true, true, true, true, true, true, false, true, false, false, false] rfl rfl (by kernel_rfl) (fun _ _ _ h => h) (by rfl) ?_ hHeld ?_ ?_
        rotate_left 2
        · rintro w' ⟨s0, s1, s2, s3, s4, s5⟩
          (refine Eq.trans (b := Result.ok (Next.value (.agg (nv 25 V))) w') ?_ ?_; exact exec_loadn (n := 25) (k := 25) rfl rfl s2 (by omega) Try.underlying71 rfl tally_size; with_reducible rfl)
        · simp only [Act.put, List.setIfInBounds_toArray, List.set_cons_zero, List.set_cons_succ]
          rfl
        refine rg_one (i := 16) #[true, true, true, true, true, true, true, true, true, true, true, true, true, true, true, true, true, true, false, false, false] rfl (by kernel_rfl) (by rfl) (fun K hK => ?_)
        obtain ⟨s0, s1, s2, s3, s4, s5⟩ := hHeld
        repeat go_step
        (refine (HO4.out (some ⟨W5.heap.size, 0, none⟩) 0 _ (s4.elems Ev.clen)).mono ?_; rintro e w9 ⟨rfl, hb9⟩)
        try dsimp only
        refine hK.out _ _ ?_ (fun hHeld => ?_)
        · exact ⟨s0.below hb9, s1.below hb9, s2.below hb9, s3.below hb9, s4.below hb9, below_next s5 hb9⟩
        clear hK K
        clear s0 s1 s2 s3 s4 s5
        refine rg_take (i := 18) (N := (some 80)) (v := ?_) (a' := ?_) #[true, true, true, true, true, true, true, true, true, true, true, true, true, true, true, true, true, true, true, false, false] rfl rfl (by kernel_rfl) (fun _ _ _ h => h) (by rfl) ?_ hHeld ?_ ?_
        rotate_left 2
        · rintro w' ⟨s0, s1, s2, s3, s4, s5⟩
          (have heq := HQ1.out; go_simp; try with_reducible rfl)
        · simp only [Act.put, List.setIfInBounds_toArray, List.set_cons_zero, List.set_cons_succ]
          rfl
        refine rg_take (i := 19) (N := (some 81)) (v := ?_) (a' := ?_) #[true, true, true, true, true, true, true, true, true, true, true, true, true, true, true, true, true, true, true, true, false] rfl rfl (by kernel_rfl) (fun _ _ _ h => h) (by rfl) ?_ hHeld ?_ ?_
        rotate_left 2
        · rintro w' ⟨s0, s1, s2, s3, s4, s5⟩
          go_simp
          try with_reducible rfl
        · simp only [Act.put, List.setIfInBounds_toArray, List.set_cons_zero, List.set_cons_succ]
          rfl
        refine rg_take (i := 20) (N := (some 4)) (v := ?_) (a' := ?_) #[true, true, true, true, true, true, true, true, true, true, true, true, true, true, true, true, true, true, true, true, true] rfl rfl (by kernel_rfl) (fun _ _ _ h => h) (by rfl) ?_ hHeld ?_ ?_
        rotate_left 2
        · rintro w' ⟨s0, s1, s2, s3, s4, s5⟩
          go_simp
          try with_reducible rfl
        · simp only [Act.put, List.setIfInBounds_toArray, List.set_cons_zero, List.set_cons_succ]
          rfl
        refine rg_done (by kernel_rfl) ?_
        go_wp2
        go_ret
        exact ⟨rfl, hHeld.2.2.2.2.2⟩
      | some ad =>
      have hed := fun W h => (row_parts (w := W) (ad := ad) hkk hcap h).2.2
      have hnt := fun W h => (row_parts (w := W) (ad := ad) hkk hcap h).1
      have hnd := fun W h => (row_parts (w := W) (ad := ad) hkk hcap h).2.1
      have hA2 : (if cap = kk then some ad else some (ad.add (kk * 22))) = some (if cap = kk then ad else ad.add (kk * 22)) := by split <;> rfl
      generalize (if cap = kk then ad else ad.add (kk * 22)) = ad2 at hed hnd hA2
      have HED := Lib.hid hed
      have HNT := Lib.hid hnt
      have HND := Lib.hid hnd
      clear hed hnt hnd
      go_wp2_with fail
      refine (HO1.out _ (by rw [List.map_take]; exact (HE.out.below hbel).take kk)).mono ?_
      rintro e w2 ⟨rfl, hb2⟩
      have hB2 := below_alloc (o := .cells (nv 25 V1) 71) (below_next hbel hb2)
      have HA2 := Lib.hid (VAt.new (T := 71) (n := 25) w2 V1)
      clear hb2
      go_wp2_with fail
      refine (HO2.out _ _ _ (HED.out _ (HE.out.below hB2))).mono ?_
      rintro e w3 ⟨rfl, hb3⟩
      have hB3 := below_alloc (o := .cells (nv 25 V2) 71) (below_next hB2 hb3)
      have HA3 := Lib.hid ((HA2.out.below hb3).fr ((Fr.refl (fun _ => False) _).alloc (.cells (nv 25 V2) 71)) id)
      have HC3 := Lib.hid (VAt.new (T := 71) (n := 25) w3 V2)
      clear hb3
      go_wp2_with fail
      refine (HO3.out _ (HE.out.below hB3)).mono ?_
      rintro e w4 ⟨rfl, hb4⟩
      have hB4 := below_alloc (o := .cells (nv 25 V) 71) (below_next hB3 hb4)
      have HA4 := Lib.hid ((HA3.out.below hb4).fr ((Fr.refl (fun _ => False) _).alloc (.cells (nv 25 V) 71)) id)
      have HC4 := Lib.hid ((HC3.out.below hb4).fr ((Fr.refl (fun _ => False) _).alloc (.cells (nv 25 V) 71)) id)
      have HT4 := Lib.hid (VAt.new (T := 71) (n := 25) w4 V)
      clear hb4
      go_wp2_with (first | (refine wpList_load_w (by rfl) 71 (Operand.tmp 9) rfl w4.heap.size 0 rfl (nv 25 V).toList _ HT4.out.range Try.underlying71 rfl (HL.out V) ?_) | (refine wpList_load_w (by rfl) 71 (Operand.tmp 7) rfl w2.heap.size 0 rfl (nv 25 V1).toList _ HA4.out.range Try.underlying71 rfl (HL.out V1) ?_) | (go_at_call 32; (with_reducible refine (HLE.out _).mono ?_); rintro e w5 ⟨rfl, hb5⟩))
      have hB5 := below_alloc (o := .cells (nv 25 V2) 71) (below_next hB4 hb5)
      have HA5 := Lib.hid ((HA4.out.below hb5).fr ((Fr.refl (fun _ => False) _).alloc (.cells (nv 25 V2) 71)) id)
      have HC5 := Lib.hid ((HC4.out.below hb5).fr ((Fr.refl (fun _ => False) _).alloc (.cells (nv 25 V2) 71)) id)
      have HT5 := Lib.hid ((HT4.out.below hb5).fr ((Fr.refl (fun _ => False) _).alloc (.cells (nv 25 V2) 71)) id)
      have HX5 := Lib.hid (VAt.new (T := 71) (n := 25) w5 V2)
      clear hb5 hB2 hB3 hB4
      generalize w5.alloc (.cells (nv 25 V2) 71) = W5 at *
      have hw5 := hB5.size
      refine rg_start (n := 10) (fun w' => True) #[false, false, false, false, false, false, false, false, false, false] (by kernel_rfl) rfl rfl trivial (fun hHeld => ?_)
      refine rg_take (i := 1) (N := (some 54)) (v := ?_) (a' := ?_) #[false, true, false, false, false, false, false, false, false, false] rfl rfl (by kernel_rfl) (fun _ _ _ h => h) (by rfl) ?_ hHeld ?_ ?_
      rotate_left 2
      · rintro w' _s
        go_simp
        try with_reducible rfl
      · simp only [Act.put, List.setIfInBounds_toArray, List.set_cons_zero, List.set_cons_succ]
        rfl
      refine rg_take (i := 2) (N := (some 55)) (v := ?_) (a' := ?_) #[false, true, true, false, false, false, false, false, false, false] rfl rfl (by kernel_rfl) (fun _ _ _ h => h) (by rfl) ?_ hHeld ?_ ?_
      rotate_left 2
      · rintro w' _s
        go_simp
        try with_reducible rfl
      · simp only [Act.put, List.setIfInBounds_toArray, List.set_cons_zero, List.set_cons_succ]
        rfl
      refine rg_take (i := 3) (N := (some 56)) (v := ?_) (a' := ?_) #[false, true, true, true, false, false, false, false, false, false] rfl rfl (by kernel_rfl) (fun _ _ _ h => h) (by rfl) ?_ hHeld ?_ ?_
      rotate_left 2
      · rintro w' _s
        go_simp
        try with_reducible rfl
      · simp only [Act.put, List.setIfInBounds_toArray, List.set_cons_zero, List.set_cons_succ]
        rfl
      refine rg_take (i := 5) (N := (some 58)) (v := ?_) (a' := ?_) #[false, true, true, true, false, true, false, false, false, false] rfl rfl (by kernel_rfl) (fun _ _ _ h => h) (by rfl) ?_ hHeld ?_ ?_
      rotate_left 2
      · rintro w' _s
        go_simp
        try with_reducible rfl
      · simp only [Act.put, List.setIfInBounds_toArray, List.set_cons_zero, List.set_cons_succ]
        rfl
      refine rg_take (i := 6) (N := (some 59)) (v := ?_) (a' := ?_) #[false, true, true, true, false, true, true, false, false, false] rfl rfl (by kernel_rfl) (fun _ _ _ h => h) (by rfl) ?_ hHeld ?_ ?_
      rotate_left 2
      · rintro w' _s
        go_simp
        try with_reducible rfl
      · simp only [Act.put, List.setIfInBounds_toArray, List.set_cons_zero, List.set_cons_succ]
        rfl
      refine rg_take (i := 7) (N := (some 60)) (v := ?_) (a' := ?_) #[false, true, true, true, false, true, true, true, false, false] rfl rfl (by kernel_rfl) (fun _ _ _ h => h) (by rfl) ?_ hHeld ?_ ?_
      rotate_left 2
      · rintro w' _s
        go_simp
        try with_reducible rfl
      · simp only [Act.put, List.setIfInBounds_toArray, List.set_cons_zero, List.set_cons_succ]
        rfl
      refine rg_one (i := 0) #[true, true, true, true, false, true, true, true, false, false] rfl (by kernel_rfl) (by rfl) (fun K hK => ?_)
      repeat go_step
      refine hK.out _ _ ?_ (fun hHeld => ?_)
      · trivial
      clear hK K
      refine rg_one (i := 4) #[true, true, true, true, true, true, true, true, false, false] rfl (by kernel_rfl) (by rfl) (fun K hK => ?_)
      (refine ev_append (some 57) rfl (Operand.tmp 53) (Operand.tmp 56) rfl W5.heap.size (.slice (some ⟨W5.heap.size, 0, none⟩) 0 0) [] (l.drop kk) (l.length - kk) ad2 (cap - kk) HD.out rfl rfl (OwnsG.empty (heap_new_at rfl) (Nat.le_refl _)) (HND.out _ (HE.out.below (below_alloc hB5.drew))) (by rw [HD.out]; simp; omega) (by simp) ?_; intro v6 w6 ho6 hf6; rw [List.nil_append] at ho6; obtain ⟨A6, c6, rfl⟩ := ho6.slice; have HO6 := Lib.hid ho6; have hB6 := (below_alloc (o := .cells #[] 67) hB5.drew).trans (hf6.to_below (B := w.heap.size) (by simp; omega) (fun i hi h => by omega)); have HF6 := Lib.hid (((Fr.refl (fun k => W5.heap.size ≤ k) W5.drew).alloc (.cells #[] 67)).tr hf6); clear ho6 hf6; simp only [Act.put, List.setIfInBounds_toArray, List.set_cons_zero, List.set_cons_succ])
      repeat go_step
      refine hK.out _ _ ?_ (fun hHeld => ?_)
      · trivial
      clear hK K
      refine rg_one (i := 8) #[true, true, true, true, true, true, true, true, true, false] rfl (by kernel_rfl) (by rfl) (fun K hK => ?_)
      (refine ev_append (some 61) rfl (Operand.tmp 57) (Operand.tmp 60) rfl W5.heap.size (.slice A6 (l.drop kk).length c6) (l.drop kk) (l.take kk) kk ad cap HT.out rfl rfl HO6.out (HNT.out _ (HE.out.below hB6)) (by rw [HD.out, HT.out]; omega) HF6.out.size ?_; intro v7 w7 ho7 hf7; obtain ⟨A7, c7, rfl⟩ := ho7.slice; rw [HL4.out] at ho7 ⊢; have HO7 := Lib.hid ho7; have hB7 := hB6.trans (hf7.to_below (B := w.heap.size) hB6.size (fun i hi h => by omega)); have HF7 := Lib.hid (HF6.out.tr hf7); clear ho7 hf7; simp only [Act.put, List.setIfInBounds_toArray, List.set_cons_zero, List.set_cons_succ])
      repeat go_step
      refine hK.out _ _ ?_ (fun hHeld => ?_)
      · trivial
      clear hK K
      refine rg_take (i := 9) (N := (some 12)) (v := ?_) (a' := ?_) #[true, true, true, true, true, true, true, true, true, true] rfl rfl (by kernel_rfl) (fun _ _ _ h => h) (by rfl) ?_ hHeld ?_ ?_
      rotate_left 2
      · rintro w' _s
        go_simp
        try with_reducible rfl
      · simp only [Act.put, List.setIfInBounds_toArray, List.set_cons_zero, List.set_cons_succ]
        rfl
      refine rg_done (by kernel_rfl) ?_
      go_wp2
      have hgu : Try.prog.eqGuardType Try.prog.depth 71 = false := by kernel_rfl
      have hno : ∀ i, W5.heap.size ≤ i → i ≠ w2.heap.size ∧ i ≠ w3.heap.size ∧ i ≠ w4.heap.size ∧ i ≠ w5.heap.size := fun i hi => by
        have := HA5.out.lt
        have := HC5.out.lt
        have := HT5.out.lt
        have := HX5.out.lt
        omega
      refine rg_start (n := 21) (fun w' => VAt 71 25 w' w2.heap.size V1 ∧ VAt 71 25 w' w3.heap.size V2 ∧ VAt 71 25 w' w4.heap.size V ∧ VAt 71 25 w' w5.heap.size V2 ∧ OwnsE w' W5.heap.size (.slice A7 l.length c7) (l.drop kk ++ l.take kk) ∧ Below w.heap.size w w') #[false, false, false, false, false, false, false, false, false, false, false, false, false, false, false, false, false, false, false, false, false] (by kernel_rfl) rfl rfl ⟨(HA5.out.drew.fr HF7.out (fun h => (hno _ h).1 rfl)).drew, (HC5.out.drew.fr HF7.out (fun h => (hno _ h).2.1 rfl)).drew, (HT5.out.drew.fr HF7.out (fun h => (hno _ h).2.2.1 rfl)).drew, (HX5.out.drew.fr HF7.out (fun h => (hno _ h).2.2.2 rfl)).drew, HO7.out, hB7.drew⟩ (fun hHeld => ?_)
      refine rg_take (i := 0) (N := (some 62)) (v := ?_) (a' := ?_) #[true, false, false, false, false, false, false, false, false, false, false, false, false, false, false, false, false, false, false, false, false] rfl rfl (by kernel_rfl) (fun _ _ _ h => h) (by rfl) ?_ hHeld ?_ ?_
      rotate_left 2
      · rintro w' ⟨s0, s1, s2, s3, s4, s5⟩
        (refine Eq.trans (b := Result.ok (Next.value (.agg (nv 25 V1))) w') ?_ ?_; exact exec_loadn (n := 25) (k := 25) rfl rfl s0 (by omega) Try.underlying71 rfl tally_size; with_reducible rfl)
      · simp only [Act.put, List.setIfInBounds_toArray, List.set_cons_zero, List.set_cons_succ]
        rfl
      refine rg_take (i := 1) (N := (some 63)) (v := ?_) (a' := ?_) #[true, true, false, false, false, false, false, false, false, false, false, false, false, false, false, false, false, false, false, false, false] rfl rfl (by kernel_rfl) (fun _ _ _ h => h) (by rfl) ?_ hHeld ?_ ?_
      rotate_left 2
      · rintro w' ⟨s0, s1, s2, s3, s4, s5⟩
        (refine Eq.trans (b := Result.ok (Next.value (.agg (nv 25 V2))) w') ?_ ?_; exact exec_loadn (n := 25) (k := 25) rfl rfl s1 (by omega) Try.underlying71 rfl tally_size; with_reducible rfl)
      · simp only [Act.put, List.setIfInBounds_toArray, List.set_cons_zero, List.set_cons_succ]
        rfl
      refine rg_take (i := 4) (N := (some 66)) (v := ?_) (a' := ?_) #[true, true, false, false, true, false, false, false, false, false, false, false, false, false, false, false, false, false, false, false, false] rfl rfl (by kernel_rfl) (fun _ _ _ h => h) (by rfl) ?_ hHeld ?_ ?_
      rotate_left 2
      · rintro w' ⟨s0, s1, s2, s3, s4, s5⟩
        (refine Eq.trans (b := Result.ok (Next.value (.agg (nv 25 V))) w') ?_ ?_; exact exec_loadn (n := 25) (k := 25) rfl rfl s2 (by omega) Try.underlying71 rfl tally_size; with_reducible rfl)
      · simp only [Act.put, List.setIfInBounds_toArray, List.set_cons_zero, List.set_cons_succ]
        rfl
      refine rg_one (i := 2) #[true, true, true, false, true, false, false, false, false, false, false, false, false, false, false, false, false, false, false, false, false] rfl (by kernel_rfl) (by rfl) (fun K hK => ?_)
      obtain ⟨s0, s1, s2, s3, s4, s5⟩ := hHeld
      (refine oper_runTo (some 64) rfl (.slice (some ⟨w7.heap.size, 0, none⟩) 2 2) (w7.drew.alloc (.cells (tC V1 ++ tC V2).toArray 71)) (by kernel_rfl) ?_; simp only [Act.put, List.setIfInBounds_toArray, List.set_cons_zero, List.set_cons_succ])
      repeat go_step
      refine hK.out _ _ ?_ (fun hHeld => ?_)
      · exact ⟨s0.fr ((Fr.refl (fun _ => False) _).alloc _) id, s1.fr ((Fr.refl (fun _ => False) _).alloc _) id, s2.fr ((Fr.refl (fun _ => False) _).alloc _) id, s3.fr ((Fr.refl (fun _ => False) _).alloc _) id, s4.alloc _, below_alloc s5⟩
      clear hK K
      clear s0 s1 s2 s3 s4 s5
      refine rg_one (i := 3) #[true, true, true, true, true, false, false, false, false, false, false, false, false, false, false, false, false, false, false, false, false] rfl (by kernel_rfl) (by rfl) (fun K hK => ?_)
      obtain ⟨s0, s1, s2, s3, s4, s5⟩ := hHeld
      repeat go_step
      (refine (HJO.out w7.drew).mono ?_; rintro e w8 ⟨rfl, hb8⟩)
      try dsimp only
      refine hK.out _ _ ?_ (fun hHeld => ?_)
      · exact ⟨s0.below hb8, s1.below hb8, s2.below hb8, s3.below hb8, s4.below hb8, below_next s5 hb8⟩
      clear hK K
      clear s0 s1 s2 s3 s4 s5
      refine rg_take (i := 5) (N := (some 67)) (v := ?_) (a' := ?_) #[true, true, true, true, true, true, false, false, false, false, false, false, false, false, false, false, false, false, false, false, false] rfl rfl (by kernel_rfl) (fun _ _ _ h => h) (by rfl) ?_ hHeld ?_ ?_
      rotate_left 2
      · rintro w' ⟨s0, s1, s2, s3, s4, s5⟩
        (have heq := HQ1.out; go_simp; try with_reducible rfl)
      · simp only [Act.put, List.setIfInBounds_toArray, List.set_cons_zero, List.set_cons_succ]
        rfl
      refine rg_take (i := 6) (N := (some 68)) (v := ?_) (a' := ?_) #[true, true, true, true, true, true, true, false, false, false, false, false, false, false, false, false, false, false, false, false, false] rfl rfl (by kernel_rfl) (fun _ _ _ h => h) (by rfl) ?_ hHeld ?_ ?_
      rotate_left 2
      · rintro w' ⟨s0, s1, s2, s3, s4, s5⟩
        go_simp
        try with_reducible rfl
      · simp only [Act.put, List.setIfInBounds_toArray, List.set_cons_zero, List.set_cons_succ]
        rfl
      refine rg_take (i := 7) (N := (some 69)) (v := ?_) (a' := ?_) #[true, true, true, true, true, true, true, true, false, false, false, false, false, false, false, false, false, false, false, false, false] rfl rfl (by kernel_rfl) (fun _ _ _ h => h) (by rfl) ?_ hHeld ?_ ?_
      rotate_left 2
      · rintro w' ⟨s0, s1, s2, s3, s4, s5⟩
        go_simp
        try with_reducible rfl
      · simp only [Act.put, List.setIfInBounds_toArray, List.set_cons_zero, List.set_cons_succ]
        rfl
      refine rg_take (i := 8) (N := (some 70)) (v := ?_) (a' := ?_) #[true, true, true, true, true, true, true, true, true, false, false, false, false, false, false, false, false, false, false, false, false] rfl rfl (by kernel_rfl) (fun _ _ _ h => h) (by rfl) ?_ hHeld ?_ ?_
      rotate_left 2
      · rintro w' ⟨s0, s1, s2, s3, s4, s5⟩
        go_simp
        try with_reducible rfl
      · simp only [Act.put, List.setIfInBounds_toArray, List.set_cons_zero, List.set_cons_succ]
        rfl
      refine rg_take (i := 9) (N := (some 71)) (v := ?_) (a' := ?_) #[true, true, true, true, true, true, true, true, true, true, false, false, false, false, false, false, false, false, false, false, false] rfl rfl (by kernel_rfl) (fun _ _ _ h => h) (by rfl) ?_ hHeld ?_ ?_
      rotate_left 2
      · rintro w' ⟨s0, s1, s2, s3, s4, s5⟩
        go_simp
        try with_reducible rfl
      · simp only [Act.put, List.setIfInBounds_toArray, List.set_cons_zero, List.set_cons_succ]
        rfl
      refine rg_take (i := 10) (N := (some 72)) (v := ?_) (a' := ?_) #[true, true, true, true, true, true, true, true, true, true, true, false, false, false, false, false, false, false, false, false, false] rfl rfl (by kernel_rfl) (fun _ _ _ h => h) (by rfl) ?_ hHeld ?_ ?_
      rotate_left 2
      · rintro w' ⟨s0, s1, s2, s3, s4, s5⟩
        (refine Eq.trans (b := Result.ok (Next.value (.agg (nv 25 V2))) w') ?_ ?_; exact exec_loadn (n := 25) (k := 25) rfl rfl s3 (by omega) Try.underlying71 rfl tally_size; with_reducible rfl)
      · simp only [Act.put, List.setIfInBounds_toArray, List.set_cons_zero, List.set_cons_succ]
        rfl
      refine rg_take (i := 11) (N := (some 73)) (v := ?_) (a' := ?_) #[true, true, true, true, true, true, true, true, true, true, true, true, false, false, false, false, false, false, false, false, false] rfl rfl (by kernel_rfl) (fun _ _ _ h => h) (by rfl) ?_ hHeld ?_ ?_
      rotate_left 2
      · rintro w' ⟨s0, s1, s2, s3, s4, s5⟩
        (refine Eq.trans (b := Result.ok (Next.value (.agg (nv 25 V2))) w') ?_ ?_; exact exec_loadn (n := 25) (k := 25) rfl rfl s1 (by omega) Try.underlying71 rfl tally_size; with_reducible rfl)
      · simp only [Act.put, List.setIfInBounds_toArray, List.set_cons_zero, List.set_cons_succ]
        rfl
      refine rg_take (i := 12) (N := (some 74)) (v := ?_) (a' := ?_) #[true, true, true, true, true, true, true, true, true, true, true, true, true, false, false, false, false, false, false, false, false] rfl rfl (by kernel_rfl) (fun _ _ _ h => h) (by rfl) ?_ hHeld ?_ ?_
      rotate_left 2
      · rintro w' ⟨s0, s1, s2, s3, s4, s5⟩
        (have heq := HQ2.out; go_simp; try with_reducible rfl)
      · simp only [Act.put, List.setIfInBounds_toArray, List.set_cons_zero, List.set_cons_succ]
        rfl
      refine rg_take (i := 13) (N := (some 75)) (v := ?_) (a' := ?_) #[true, true, true, true, true, true, true, true, true, true, true, true, true, true, false, false, false, false, false, false, false] rfl rfl (by kernel_rfl) (fun _ _ _ h => h) (by rfl) ?_ hHeld ?_ ?_
      rotate_left 2
      · rintro w' ⟨s0, s1, s2, s3, s4, s5⟩
        go_simp
        try with_reducible rfl
      · simp only [Act.put, List.setIfInBounds_toArray, List.set_cons_zero, List.set_cons_succ]
        rfl
      refine rg_take (i := 14) (N := (some 76)) (v := ?_) (a' := ?_) #[true, true, true, true, true, true, true, true, true, true, true, true, true, true, true, false, false, false, false, false, false] rfl rfl (by kernel_rfl) (fun _ _ _ h => h) (by rfl) ?_ hHeld ?_ ?_
      rotate_left 2
      · rintro w' ⟨s0, s1, s2, s3, s4, s5⟩
        go_simp
        try with_reducible rfl
      · simp only [Act.put, List.setIfInBounds_toArray, List.set_cons_zero, List.set_cons_succ]
        rfl
      refine rg_take (i := 15) (N := (some 77)) (v := ?_) (a' := ?_) #[true, true, true, true, true, true, true, true, true, true, true, true, true, true, true, true, false, false, false, false, false] rfl rfl (by kernel_rfl) (fun _ _ _ h => h) (by rfl) ?_ hHeld ?_ ?_
      rotate_left 2
      · rintro w' ⟨s0, s1, s2, s3, s4, s5⟩
        go_simp
        try with_reducible rfl
      · simp only [Act.put, List.setIfInBounds_toArray, List.set_cons_zero, List.set_cons_succ]
        rfl
      refine rg_take (i := 17) (N := (some 79)) (v := ?_) (a' := ?_) #[true, true, true, true, true, true, true, true, true, true, true, true, true, true, true, true, false, true, false, false, false] rfl rfl (by kernel_rfl) (fun _ _ _ h => h) (by rfl) ?_ hHeld ?_ ?_
      rotate_left 2
      · rintro w' ⟨s0, s1, s2, s3, s4, s5⟩
        (refine Eq.trans (b := Result.ok (Next.value (.agg (nv 25 V))) w') ?_ ?_; exact exec_loadn (n := 25) (k := 25) rfl rfl s2 (by omega) Try.underlying71 rfl tally_size; with_reducible rfl)
      · simp only [Act.put, List.setIfInBounds_toArray, List.set_cons_zero, List.set_cons_succ]
        rfl
      refine rg_one (i := 16) #[true, true, true, true, true, true, true, true, true, true, true, true, true, true, true, true, true, true, false, false, false] rfl (by kernel_rfl) (by rfl) (fun K hK => ?_)
      obtain ⟨s0, s1, s2, s3, s4, s5⟩ := hHeld
      repeat go_step
      ((with_reducible refine (HO4.out _ _ _ (s4.elems Ev.clen)).mono ?_); rintro e w9 ⟨rfl, hb9⟩)
      try dsimp only
      refine hK.out _ _ ?_ (fun hHeld => ?_)
      · exact ⟨s0.below hb9, s1.below hb9, s2.below hb9, s3.below hb9, s4.below hb9, below_next s5 hb9⟩
      clear hK K
      clear s0 s1 s2 s3 s4 s5
      refine rg_take (i := 18) (N := (some 80)) (v := ?_) (a' := ?_) #[true, true, true, true, true, true, true, true, true, true, true, true, true, true, true, true, true, true, true, false, false] rfl rfl (by kernel_rfl) (fun _ _ _ h => h) (by rfl) ?_ hHeld ?_ ?_
      rotate_left 2
      · rintro w' ⟨s0, s1, s2, s3, s4, s5⟩
        (have heq := HQ1.out; go_simp; try with_reducible rfl)
      · simp only [Act.put, List.setIfInBounds_toArray, List.set_cons_zero, List.set_cons_succ]
        rfl
      refine rg_take (i := 19) (N := (some 81)) (v := ?_) (a' := ?_) #[true, true, true, true, true, true, true, true, true, true, true, true, true, true, true, true, true, true, true, true, false] rfl rfl (by kernel_rfl) (fun _ _ _ h => h) (by rfl) ?_ hHeld ?_ ?_
      rotate_left 2
      · rintro w' ⟨s0, s1, s2, s3, s4, s5⟩
        go_simp
        try with_reducible rfl
      · simp only [Act.put, List.setIfInBounds_toArray, List.set_cons_zero, List.set_cons_succ]
        rfl
      refine rg_take (i := 20) (N := (some 4)) (v := ?_) (a' := ?_) #[true, true, true, true, true, true, true, true, true, true, true, true, true, true, true, true, true, true, true, true, true] rfl rfl (by kernel_rfl) (fun _ _ _ h => h) (by rfl) ?_ hHeld ?_ ?_
      rotate_left 2
      · rintro w' ⟨s0, s1, s2, s3, s4, s5⟩
        go_simp
        try with_reducible rfl
      · simp only [Act.put, List.setIfInBounds_toArray, List.set_cons_zero, List.set_cons_succ]
        rfl
      refine rg_done (by kernel_rfl) ?_
      go_wp2
      go_ret
      exact ⟨rfl, hHeld.2.2.2.2.2⟩
end Go.Proofs.Ytdfgdnaejnngoaa
