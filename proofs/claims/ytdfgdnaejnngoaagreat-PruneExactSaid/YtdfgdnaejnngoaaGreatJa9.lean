import Derived.Test.YtdfgdnaejnngoaaGreatJa8
import Derived.Maps.OwnSet
import Derived.Test.YtdfgdnaejnngoaaGreatJa6
namespace Go.Proofs.YtdfgdnaejnngoaaGreat
open Go.RowKit
/-! prune.IsPlain. -/
theorem del_absent {l : List Itm} {k : ByteArray} (h : getL l k = none) : delR k l = l := by
  induction l with
  | nil => rfl
  | cons x l ih =>
    rw [getL_cons] at h
    split at h
    · cases h
    · next e =>
      unfold delR at ih ⊢
      rw [List.filter_cons, ih h]
      simp [e]
theorem rowsO_last {c : Int} {ls : List (List Itm)} {l : List Itm} {o : Ord} (hr : Rises l) (hl : ls[ls.length - 1]? = some l) :
    ∃ l', (rowsO c ls l o)[(rowsO c ls l o).length - 1]? = some l' ∧ (errO c l o = 0 → l' = stepI l o) ∧ (rowsO c ls l o).length ≤ ls.length + 1 ∧ l'.length ≤ l.length + 1 := by
  have hpos : 0 < ls.length := by
    rcases Nat.eq_zero_or_pos ls.length with e | e
    · rw [List.getElem?_eq_none (by omega)] at hl; cases hl
    · exact e
  unfold rowsO errO
  by_cases ho : isOrd o = true
  · rw [if_pos ho, if_pos ho]
    cases hm : msgO o with
    | some m =>
      dsimp only
      have hsI : stepI l o = if isMsg m = true then doL l m else l := by unfold stepI; rw [hm]
      unfold rowsU
      by_cases ha : addsU c l m = true
      · rw [if_pos ha]
        have he : errU c l m = 0 := by unfold addsU at ha; simp at ha; exact ha.1
        have hg : isMsg m = true := by
          cases h : isMsg m with
          | true => rfl
          | false => unfold errU at he; rw [h] at he; simp at he
        refine ⟨doL l m, by simp, fun _ => by rw [hsI, if_pos hg], by simp, put_len hr _ _⟩
      · rw [if_neg ha]
        refine ⟨l, hl, fun he => ?_, by omega, by omega⟩
        have ha2 : addsU c l m = false := by simpa using ha
        unfold addsU at ha2
        rw [he] at ha2
        simp at ha2
        rw [hsI]
        split
        · next hg =>
          unfold doL
          rw [ha2.2, applyO_del hg ha2.1]
          exact (del_absent ha2.2).symm
        · rfl
    | none =>
      dsimp only
      have hsI : stepI l o = l := by unfold stepI; rw [hm]
      split
      · exact ⟨l, hl, fun _ => hsI.symm, by omega, by omega⟩
      · exact ⟨l, rfl, fun _ => hsI.symm, by simp, by omega⟩
  · rw [if_neg ho, if_neg ho]
    exact ⟨l, hl, fun h => absurd h (by decide), by omega, by omega⟩
theorem plain_drop {c : Int} {os : List Ord} {k : Nat} {o : Ord} (now : List Itm) (h : os[k]? = some o) : plainL c now (os.drop k) = (decide (errO c now o = 0) && plainL c (stepI now o) (os.drop (k + 1))) := by
  have : os.drop k = o :: os.drop (k + 1) := by
    obtain ⟨hk, rfl⟩ := List.getElem?_eq_some_iff.1 h
    exact List.drop_eq_getElem_cons hk
  rw [this, plainL]
set_option maxHeartbeats 2000000 in
set_option maxRecDepth 100000 in
theorem isPlain_ok (N : Int) (A : Option Addr) (cap : Nat) (os : List Ord) (w : World) (h1 : 64 ≤ N) (h2 : N ≤ 512) (hel : Elems w A 6 (os.map Ord.cells)) (hl : os.length ≤ 1000) (hn : okN os) :
    Calls Tryz.prog 26 #[.agg (planA N), .slice A os.length cap] w fun e w' => e = .returned (.bool (plainL (pCap N) [] os)) ∧ Below w.heap.size w w' := by
  have hnw := fun W => new_ok N W h1 h2
  rw [planA_def] at hnw ⊢
  have HNW := Lib.hid hnw
  have HEL := Lib.hid hel
  have HN := Lib.hid hn
  have eF : ∀ (e : Int) (has : Bool) (vv : ByteArray) (A : Option Addr) (m c : Nat) (x y : Int) (W : World), (Instr.field 35 (.agg #[.int .i64 e, .bool has, .string vv, .slice A m c, .int .i64 x, .int .i64 y, .int .i64 0, .int .i64 0, .int .i64 0, .int .i64 0, .int .i64 0, .int .i64 0, .int .i64 0]) 0).run Tryz.prog W = .ok (.int .i64 e) W := fun e has vv A m c x y W => by kernel_rfl
  obtain ⟨R, hR⟩ : ∃ R, plainL (pCap N) [] os = R := ⟨_, rfl⟩
  rw [hR]
  have HR := Lib.hid hR
  clear hnw hel hn hR h1 h2
  go_enter Tryz.func26, Tryz.ntmps26
  go_wp2_with (go_at_call 42; (with_reducible refine (HNW.out _).mono ?_); rintro e w1 ⟨bm, g, rfl, hm1, hbm, hg1, hb1⟩; have HM1 := Lib.hid hm1; have HBM := Lib.hid hbm; have HG1 := Lib.hid hg1; have HB1 := Lib.hid (below_next (below_alloc (Below.refl _ w)) hb1); clear hb1 hm1 hbm hg1)
  have hbw : w.heap.size ≤ bm := by have := HBM.out; simp at this; omega
  have hgw : w.heap.size ≤ g := by have := HG1.out; simp at this; omega
  go_loopw [17, 8] (fun i _ wr => ∃ (k g' : Nat) (ls : List (List Itm)), i = .int .i64 k ∧ k ≤ os.length ∧ ModelAt wr bm g' N ls ∧ w.heap.size ≤ g' ∧ ls[ls.length - 1]? = some (itemsO (os.take k)) ∧ ls.length ≤ k + 1 ∧ plainL (pCap N) (itemsO (os.take k)) (os.drop k) = R ∧ Below w.heap.size w wr) (fun i _ _ => os.length + 1 - (intOf i).toNat)
  case atStart => exact ⟨0, g, [[]], rfl, Nat.zero_le _, HM1.out, hgw, rfl, Nat.le_refl _, HR.out, HB1.out⟩
  case round =>
    obtain ⟨k, g', ls, rfl, hk, hmo, hg', hlast, hlsl, hpl, hbel⟩ := hrel
    by_cases hkl : k < os.length
    · have hkI : (k : Int) < (os.length : Int) := by omega
      obtain ⟨o, ho⟩ := get_lt hkl
      obtain ⟨b, off, rfl, hblt, d0, d1, d2, d3, d4, d5⟩ := ord_row (HEL.out.below hbel) ho
      obtain ⟨n0, n1⟩ := HN.out o (List.mem_of_getElem? ho)
      have hri : Rises (itemsO (os.take k)) := rises_items _
      have hln : (itemsO (os.take k)).length ≤ 1000 := by
        have := items_len (os.take k) (l := []) trivial
        rw [List.length_take] at this
        unfold itemsO
        simp at this
        omega
      have hdo : ∀ W, Below wr.heap.size wr W → Calls Tryz.prog 12 #[.pointer (some ⟨bm, 0, none⟩), o.v] W fun e w' => ∃ (has : Bool) (val : ByteArray) (A : Option Addr) (m c : Nat) (x y : Int) (g2 : Nat), e = .returned (.agg #[.int .i64 (errO (pCap N) (itemsO (os.take k)) o), .bool has, .string val, .slice A m c, .int .i64 x, .int .i64 y, .int .i64 0, .int .i64 0, .int .i64 0, .int .i64 0, .int .i64 0, .int .i64 0, .int .i64 0]) ∧ ModelAt w' bm g2 N (rowsO (pCap N) ls (itemsO (os.take k)) o) ∧ w.heap.size ≤ g2 ∧ Below w.heap.size w w' := fun W hW => by
        refine (mdlDo_any bm g' N ls _ o W (hmo.below hW) hlast (by omega) (by omega) n0 n1).mono ?_
        rintro e w' ⟨A, m, c, rfl, _, g2, hm2, hg2, hf2⟩
        have hWw := below_next hbel hW
        refine ⟨_, _, A, m, c, _, _, g2, by rw [← ansO_err]; rfl, hm2, ?_, hWw.trans (hf2.to_below hWw.size (fun i hi e => by omega))⟩
        have := hWw.size
        omega
      obtain ⟨l', hl', hst, hlen', _⟩ := rowsO_last (c := pCap N) (o := o) hri hlast
      rw [plain_drop _ ho] at hpl
      generalize rowsO (pCap N) ls (itemsO (os.take k)) o = R2 at *
      have hit := items_take ho
      rw [← hit] at hst hpl
      generalize errO (pCap N) (itemsO (os.take k)) o = E at *
      have HDO := Lib.hid hdo
      have HST := Lib.hid hst
      have HPL := Lib.hid hpl
      have HL2 := Lib.hid hl'
      have HLN := Lib.hid (show R2.length ≤ k + 1 + 1 by omega)
      clear hdo hst hpl hl' hit hri hln hmo hlast hbel ho n0 n1 hlsl hlen'
      obtain ⟨kind, key, val, n, lo, hi⟩ := o
      rw [Ord.v_def] at HDO
      dsimp only at d0 d1 d2 d3 d4 d5
      by_cases hE : E = 0
      · subst hE
        go_wp2_with (go_at_call 12; (with_reducible refine (HDO.out _ (below_alloc (Below.refl _ wr))).mono ?_); rintro e w3 ⟨has, vv, A3, m3, c3, x3, y3, g3, rfl, hm3, hg3, hb3⟩; have HM3 := Lib.hid hm3; have HG3 := Lib.hid hg3; have HB3 := Lib.hid hb3; clear hm3 hg3 hb3)
        have hp := HPL.out
        rw [decide_true, Bool.true_and] at hp
        refine ⟨⟨k + 1, g3, R2, by go_num, by omega, HM3.out, HG3.out, by rw [HL2.out, HST.out (by first | trivial | rfl)], HLN.out, hp, HB3.out⟩, ?_⟩
        simp [intOf]
        omega
      · have hE2 : (E != 0) = true := by simp [hE]
        have hRf : R = false := by rw [← HPL.out, decide_eq_false hE]; rfl
        subst hRf
        clear hE
        go_wp2_with (go_at_call 12; (with_reducible refine (HDO.out _ (below_alloc (Below.refl _ wr))).mono ?_); rintro e w3 ⟨has, vv, A3, m3, c3, x3, y3, g3, rfl, hm3, hg3, hb3⟩; have HB3 := Lib.hid hb3; clear hm3 hg3 hb3)
        go_ret
        exact ⟨rfl, HB3.out⟩
    · obtain rfl : k = os.length := by omega
      rw [List.drop_length] at hpl
      have hRt : R = true := by rw [← hpl]; rfl
      subst hRt
      have HB := Lib.hid hbel
      clear hbel hmo hlast hlsl hpl
      go_wp2
      go_ret
      exact ⟨rfl, HB.out⟩
set_option maxRecDepth 100000 in
theorem isPlain_none (p : Pl) (A : Option Addr) (cap n : Nat) (w : World) (hp : okPlan p = false) :
    Calls Tryz.prog 26 #[p.v, .slice A n cap] w fun e w' => e = .returned (.bool false) ∧ Below w.heap.size w w' := by
  have hnw := fun W => new_bad p W hp
  rw [Pl.v_def] at hnw ⊢
  have HNW := Lib.hid hnw
  clear hnw hp
  obtain ⟨x0, x1, x2, x3, x4, x5, x6⟩ := p
  dsimp only at HNW ⊢
  go_enter Tryz.func26, Tryz.ntmps26
  go_wp2_with (go_at_call 42; (with_reducible refine (HNW.out _).mono ?_); rintro e w1 ⟨rfl, hb1⟩; have HB1 := Lib.hid (below_next (below_alloc (Below.refl _ w)) hb1); clear hb1)
  go_ret
  exact ⟨rfl, HB1.out⟩
end Go.Proofs.YtdfgdnaejnngoaaGreat
namespace Go.Proofs.YtdfgdnaejnngoaaGreat
open Go.RowKit Go.Maps
/-! prune.Alive. -/
def natC (n : Nat) : List Value := [.int .i64 n]
theorem natLen (n : Nat) : (natC n).length = 1 := rfl
theorem natOne (x : Nat) : ∀ u ∈ natC x, u.oneCell' = true := by
  intro u hu
  simp [natC] at hu
  subst hu
  rfl
theorem ordLen (o : Ord) : o.cells.length = 6 := rfl
theorem ordOne (x : Ord) : ∀ u ∈ x.cells, u.oneCell' = true := by
  intro u hu
  simp [Ord.cells] at hu
  rcases hu with rfl | rfl | rfl | rfl | rfl | rfl <;> rfl
theorem intInfo : (Tryz.prog.info? 3).map (fun i => (i.zero, i.size, i.bytes)) = some (some (.int .i64 0), 1, 8) := by kernel_rfl
theorem ordInfo : (Tryz.prog.info? 39).map (fun i => (i.zero, i.size, i.bytes)) = some (some (.agg #[.int .i64 0, .string ⟨#[]⟩, .string ⟨#[]⟩, .int .u64 0, .string ⟨#[]⟩, .string ⟨#[]⟩]), 6, 80) := by kernel_rfl
abbrev OwnsN := OwnsG natC 1 3
abbrev OwnsO := OwnsG Ord.cells 6 39
theorem nat_append {ops : Array Oper} {rest : List Oper} {o : Oper} {a : Act} {w : World} {Q : Exit → Act → World → Prop} (hgd : o.guard = none) (N : Option Tmp) (hN : o.dst = N) (s x : Operand) (ho : o.op = .call { callee := .builtin .append, args := #[s, x], argTypes := #[56, 56] })
    (B : Nat) (v : Value) (l m : List Nat) (n : Nat) (ad : Addr) (c : Nat) (hn : m.length = n) (hs : a.eval s = v) (hx : a.eval x = .slice (some ad) n c) (hown : OwnsN w B v l) (hel : ∀ j u, ((m.map natC).flatten)[j]? = some u → w.cell? (ad.add j) = some u) (hl : l.length + m.length ≤ 100000) (hB : B ≤ w.heap.size) (n2 : Nat) (hn2 : (l ++ m).length = n2)
    (h : ∀ A' c' w', OwnsN w' B (.slice A' n2 c') (l ++ m) → Fr (fun k => v.ownBlock = some k) w w' → wpList Tryz.prog ops Q rest (a.put N (.slice A' n2 c')) w') : wpList Tryz.prog ops Q (o :: rest) a w := by
  subst hn hN hn2
  obtain ⟨i0, hi0, hz0, hz1, hz2⟩ := info_parts intInfo
  refine wpList_append_own w hgd s x 56 ho B 3 i0 _ 1 8 Tryz.underlying56 hi0 hz0 hz1 hz2 rfl (by decide) v l.length _ hs hown ad m.length c ((m.map natC).flatten) hx (flatten_length natLen m) hel ?_ ?_ ?_ hB ?_
  · intro u hu
    obtain ⟨r, hr, hu⟩ := List.mem_flatten.1 hu
    obtain ⟨e, _, rfl⟩ := List.mem_map.1 hr
    exact natOne e u hu
  · unfold maxLen; omega
  · omega
  · intro v' w' h1 h2 _
    have ho : OwnsN w' B v' (l ++ m) := by
      unfold OwnsN OwnsG
      rw [List.map_append, List.flatten_append, List.length_append]
      exact h1
    obtain ⟨A', c', rfl⟩ := ho.slice
    exact h A' c' w' ho ((Fr.refl _ w).grown h2 (fun i hi e => e))
theorem ord_append {ops : Array Oper} {rest : List Oper} {o : Oper} {a : Act} {w : World} {Q : Exit → Act → World → Prop} (hgd : o.guard = none) (N : Option Tmp) (hN : o.dst = N) (s x : Operand) (ho : o.op = .call { callee := .builtin .append, args := #[s, x], argTypes := #[47, 47] })
    (B : Nat) (v : Value) (l m : List Ord) (n : Nat) (ad : Addr) (c : Nat) (hn : m.length = n) (hs : a.eval s = v) (hx : a.eval x = .slice (some ad) n c) (hown : OwnsO w B v l) (hel : ∀ j u, ((m.map Ord.cells).flatten)[j]? = some u → w.cell? (ad.add j) = some u) (hl : l.length + m.length ≤ 100000) (hB : B ≤ w.heap.size) (n2 : Nat) (hn2 : (l ++ m).length = n2)
    (h : ∀ A' c' w', OwnsO w' B (.slice A' n2 c') (l ++ m) → Fr (fun k => v.ownBlock = some k) w w' → wpList Tryz.prog ops Q rest (a.put N (.slice A' n2 c')) w') : wpList Tryz.prog ops Q (o :: rest) a w := by
  subst hn hN hn2
  obtain ⟨i0, hi0, hz0, hz1, hz2⟩ := info_parts ordInfo
  refine wpList_append_own w hgd s x 47 ho B 39 i0 _ 6 80 Tryz.underlying47 hi0 hz0 hz1 hz2 rfl (by decide) v l.length _ hs hown ad m.length c ((m.map Ord.cells).flatten) hx (flatten_length ordLen m) hel ?_ ?_ ?_ hB ?_
  · intro u hu
    obtain ⟨r, hr, hu⟩ := List.mem_flatten.1 hu
    obtain ⟨e, _, rfl⟩ := List.mem_map.1 hr
    exact ordOne e u hu
  · unfold maxLen; omega
  · omega
  · intro v' w' h1 h2 _
    have ho : OwnsO w' B v' (l ++ m) := by
      unfold OwnsO OwnsG
      rw [List.map_append, List.flatten_append, List.length_append]
      exact h1
    obtain ⟨A', c', rfl⟩ := ho.slice
    exact h A' c' w' ho ((Fr.refl _ w).grown h2 (fun i hi e => e))
/-- where a key was told last -/
def lastK (os : List Ord) (key : ByteArray) : Nat → Option Nat
  | 0 => none
  | k + 1 => if (os[k]?).any (resetB key) = true then some k else lastK os key k
theorem lastK_spec (os : List Ord) (key : ByteArray) : ∀ n : Nat, (∀ m, lastK os key n = some m → m < n ∧ (os[m]?).any (resetB key) = true) ∧ ∀ j, j < n → (os[j]?).any (resetB key) = true → ∃ m, lastK os key n = some m ∧ j ≤ m
  | 0 => ⟨fun m h => by simp [lastK] at h, fun j h => by omega⟩
  | n + 1 => by
    obtain ⟨ih1, ih2⟩ := lastK_spec os key n
    rw [lastK]
    by_cases h : (os[n]?).any (resetB key) = true
    · rw [if_pos h]
      refine ⟨fun m e => ?_, fun j hj _ => ⟨n, rfl, by omega⟩⟩
      cases e
      exact ⟨Nat.lt_succ_self _, h⟩
    · rw [if_neg h]
      refine ⟨fun m e => ?_, fun j hj hr => ?_⟩
      · have := ih1 m e
        exact ⟨by omega, this.2⟩
      · by_cases e : j = n
        · subst e; exact absurd hr h
        · exact ih2 j (by omega) hr
theorem alive_last {os : List Ord} {k : Nat} {o : Ord} (ho : os[k]? = some o) : aliveB o (os.drop (k + 1)) = ((decide (o.kind = 1) || decide (o.kind = 3)) && (match lastK os o.key os.length with | none => true | some m => decide (m ≤ k))) := by
  unfold aliveB
  obtain ⟨h1, h2⟩ := lastK_spec os o.key os.length
  have hkl := (List.getElem?_eq_some_iff.1 ho).1
  congr 1
  cases hl : lastK os o.key os.length with
  | none =>
    dsimp only
    rw [Bool.not_eq_true', List.any_eq_false]
    intro x hx hr
    obtain ⟨j, hj⟩ := List.getElem?_of_mem hx
    rw [List.getElem?_drop] at hj
    have hjl := (List.getElem?_eq_some_iff.1 hj).1
    obtain ⟨m, hm, _⟩ := h2 (k + 1 + j) hjl (by rw [hj]; exact hr)
    rw [hl] at hm
    cases hm
  | some m =>
    dsimp only
    obtain ⟨g1, g2⟩ := h1 m hl
    by_cases hmk : m ≤ k
    · rw [decide_eq_true hmk, Bool.not_eq_true', List.any_eq_false]
      intro x hx hr
      obtain ⟨j, hj⟩ := List.getElem?_of_mem hx
      rw [List.getElem?_drop] at hj
      have hjl := (List.getElem?_eq_some_iff.1 hj).1
      obtain ⟨m', hm', hle⟩ := h2 (k + 1 + j) hjl (by rw [hj]; exact hr)
      rw [hl] at hm'
      cases hm'
      omega
    · rw [decide_eq_false hmk, Bool.not_eq_false', List.any_eq_true]
      obtain ⟨x, hx⟩ := get_lt g1
      rw [hx] at g2
      refine ⟨x, List.mem_of_getElem? (i := m - (k + 1)) (by rw [List.getElem?_drop, show k + 1 + (m - (k + 1)) = m by omega]; exact hx), by simpa using g2⟩
/-! The map. -/
def keyL (k : ByteArray) : Lit := .string k.data.toList
theorem keyL_lit (k : ByteArray) : WideAt.IsKeyLit (keyL k) := trivial
theorem keyL_inj {a b : ByteArray} (h : keyL a = keyL b) : a = b := by
  unfold keyL at h
  obtain ⟨⟨a⟩⟩ := a
  obtain ⟨⟨b⟩⟩ := b
  simpa using h
theorem lawS : Keyed Tryz.prog 9 := string_keyed Tryz.underlying9
theorem zeroI (w : World) : (zeroValue 3).run Tryz.prog w = .ok (.int .i64 0) w := by kernel_rfl
def EndD (D : DataW Unit) (f : ByteArray → Option Nat) : Prop := IsMap D ∧ ∀ k, has D (keyL k) = (f k).isSome ∧ ∀ m : Nat, f k = some m → D.atKey (keyL k) (.lit (.int .i64 0)) = .lit (.int .i64 m)
theorem EndD.put {D : DataW Unit} {f : ByteArray → Option Nat} (h : EndD D f) (key : ByteArray) (i : Nat) : EndD (D.put (keyL key) (.lit (.int .i64 i))) (fun k => if k = key then some i else f k) := by
  refine ⟨h.1.put _ _, fun k => ?_⟩
  by_cases e : k = key
  · subst e
    dsimp only
    rw [if_pos rfl]
    refine ⟨by rw [has_put_same h.1 (keyL_lit _)]; rfl, fun m hm => ?_⟩
    cases hm
    exact atKey_put_same h.1 (keyL_lit _) _ _
  · dsimp only
    rw [if_neg e]
    have hne : keyL k ≠ keyL key := fun h => e (keyL_inj h)
    refine ⟨by rw [has_put_other hne]; exact (h.2 k).1, fun m hm => ?_⟩
    rw [atKey_put_other hne]
    exact (h.2 k).2 m hm
theorem EndD.nil : EndD (.map []) (fun _ => none) := ⟨isMap_empty, fun k => ⟨rfl, fun m h => by cases h⟩⟩
abbrev MapAt (w : World) (b n : Nat) (D : DataW Unit) : Prop := w.ownsMap Tryz.prog 9 (plainElem Tryz.prog 3) b n D
theorem MapAt.fr {S : Nat → Prop} {w w' : World} {b n : Nat} {D : DataW Unit} (h : MapAt w b n D) (hf : Fr S w w') (hs : ¬ S b) : MapAt w' b n D := by
  obtain ⟨es, clock, hb, rest⟩ := h
  exact ⟨es, clock, hf.row hs hb, rest⟩
end Go.Proofs.YtdfgdnaejnngoaaGreat
namespace Go.Proofs.YtdfgdnaejnngoaaGreat
open Go.RowKit Go.Maps
theorem nat_ge {w : World} {B q : Nat} {v : Value} {l : List Nat} (h : OwnsN w B v l) (hq : q < B) (e : v.ownBlock = some q) : False := by
  rcases h.2 with ⟨he, _⟩ | ⟨g, cap', cur, he, hb, _⟩
  · rw [he] at e; cases e
  · rw [he] at e
    simp only [Value.ownBlock, Option.some.injEq] at e
    omega
theorem nat_news {W : World} {b k : Nat} {T : TypeId} {fz : Nat × Nat} (h : W.heap[b]? = some (.cells #[.int .i64 (k : Int)] T fz)) : ∀ j u, (([k].map natC).flatten)[j]? = some u → W.cell? ((⟨b, 0, none⟩ : Addr).add j) = some u := by
  intro j u hj
  rcases j with _ | j
  · simp [natC] at hj
    subst hj
    rw [Addr.add_mid, Lib.cell_of_heap h]
    rfl
  · simp [natC] at hj
def okK (os : List Ord) : Prop := ∀ o ∈ os, o.key.size ≤ 512
set_option maxHeartbeats 2000000 in
set_option maxRecDepth 100000 in
theorem alive_any (A : Option Addr) (cap : Nat) (os : List Ord) (w : World) (hel : Elems w A 6 (os.map Ord.cells)) (hl : os.length ≤ 1000) (hks : okK os) :
    Calls Tryz.prog 23 #[.slice A os.length cap] w fun e w' => ∃ A' c', e = .returned (.slice A' (aliveL 0 os).length c') ∧ OwnsN w' w.heap.size (.slice A' (aliveL 0 os).length c') (aliveL 0 os) ∧ Below w.heap.size w w' := by
  have HEL := Lib.hid hel
  have HKS := Lib.hid hks
  have hmm := @run_makeMap Tryz.prog
  clear hel hks
  go_enter Tryz.func23, Tryz.ntmps23
  go_wp2
  go_loopw [14, 4, 5] (fun i _ _ wr => ∃ (k : Nat) (D : DataW Unit), i = .int .i64 k ∧ k ≤ os.length ∧ MapAt wr w.heap.size k D ∧ EndD D (fun key => lastK os key k) ∧ Below w.heap.size w wr) (fun i _ _ _ => os.length + 1 - (intOf i).toNat)
  case atStart => exact ⟨0, .map [], rfl, Nat.zero_le _, World.ownsMap_made _ _ _ _, EndD.nil, below_alloc (Below.refl _ w)⟩
  case round =>
    obtain ⟨k, D, rfl, hk, hmp, hD, hbel⟩ := hrel
    by_cases hkl : k < os.length
    · have hkI : (k : Int) < (os.length : Int) := by omega
      obtain ⟨o, ho⟩ := get_lt hkl
      obtain ⟨b, off, rfl, hblt, d0, d1, d2, d3, d4, d5⟩ := ord_row (HEL.out.below hbel) ho
      have hkey : keyOf Tryz.prog 9 (.string o.key) = some (keyL o.key) := WideMaps.keyOf_string_mk Tryz.underlying9 (by have := HKS.out o (List.mem_of_getElem? ho); unfold maxLen; omega)
      have hwf : (Lit.int .i64 (k : Int)).wf = true := by
        simp only [Lit.wf, IntKind.min, IntKind.max, IntKind.signed, IntKind.bits, Bool.and_eq_true, decide_eq_true_eq, if_true]
        omega
      have hst : EndD (if o.kind = 1 ∨ o.kind = 2 then D.put (keyL o.key) (.lit (.int .i64 k)) else D) (fun key => lastK os key (k + 1)) := by
        have hf : (fun key => lastK os key (k + 1)) = fun key => if resetB key o = true then some k else lastK os key k := by
          funext key
          rw [lastK, ho]
          rfl
        rw [hf]
        by_cases hc : o.kind = 1 ∨ o.kind = 2
        · rw [if_pos hc]
          have := hD.put o.key k
          have hg : (fun key => if resetB key o = true then some k else lastK os key k) = fun key => if key = o.key then some k else lastK os key k := by
            funext key
            by_cases e : key = o.key
            · subst e
              rw [if_pos rfl, if_pos (by unfold resetB; rcases hc with h | h <;> simp [h])]
            · have e' : ¬ o.key = key := fun h => e h.symm
              rw [if_neg e, if_neg (by unfold resetB; simp [e'])]
          rw [hg]
          exact this
        · rw [if_neg hc]
          have hg : (fun key => if resetB key o = true then some k else lastK os key k) = fun key => lastK os key k := by
            funext key
            rw [if_neg]
            unfold resetB
            intro h
            simp at h
            exact hc h.2
          rw [hg]
          exact hD
      have HM := Lib.hid hmp
      have HB := Lib.hid hbel
      have HK := Lib.hid hkey
      have HST := Lib.hid hst
      clear hmp hbel hkey hst hD ho
      obtain ⟨kind, key, val, n, lo, hi⟩ := o
      dsimp only at d0 d1 d2 d3 d4 d5 HK HST
      have hwfI := hwf
      by_cases hc : kind = 1 ∨ kind = 2
      · rw [if_pos hc] at HST
        have fin : ∀ w2 : World, (wr.alloc (.cells #[.int .i64 kind, .string key, .string val, .int .u64 n, .string lo, .string hi] 39)).grownBy w2 (some w.heap.size) → Below w.heap.size w w2 := fun w2 hg => (below_alloc HB.out).trans ((Fr.refl (fun q => q = w.heap.size) _).grown hg (fun i hi e => by cases e; rfl) |>.to_below (below_alloc HB.out).size (fun i hi e => by omega))
        have FIN := Lib.hid fin
        clear fin hwfI
        rcases hc with rfl | rfl
        all_goals
          go_wp2_with (at_mapUpdate; refine wpList_mapUpdate_own _ rfl _ _ _ 108 rfl 9 3 lawS Tryz.underlying108 _ w.heap.size k D rfl (HM.out.alloc _) (by unfold maxLen; omega) _ _ _ rfl rfl HK.out _ [] (plainElem_int Tryz.underlying3 hwf) ?_; intro w2 hown2 hgrow2; have HO2 := Lib.hid hown2; have HG2 := Lib.hid hgrow2; clear hown2 hgrow2)
          refine ⟨⟨k + 1, _, by go_num, by omega, HO2.out, HST.out, FIN.out _ HG2.out⟩, ?_⟩
          simp [intOf]
          omega
      · rw [if_neg hc] at HST
        have e1 : (kind == 1) = false := by simp; omega
        have e2 : (kind == 2) = false := by simp; omega
        clear hc hwf hwfI
        go_wp2
        refine ⟨⟨k + 1, D, by go_num, by omega, (HM.out.alloc _).mono (Nat.le_succ _), HST.out, below_alloc HB.out⟩, ?_⟩
        simp [intOf]
        omega
    · obtain rfl : k = os.length := by omega
      have HM := Lib.hid hmp
      have HB := Lib.hid hbel
      have HD := Lib.hid hD
      clear hmp hbel hD
      go_wp2
      go_loopw [34, 6, 7, 8, 9, 10] (fun i v _ _ _ _ w2 => ∃ (k c2 : Nat) (A2 : Option Addr) (L : List Nat), i = .int .i64 k ∧ k ≤ os.length ∧ v = .slice A2 L.length c2 ∧ OwnsN w2 (w.heap.size + 1) (.slice A2 L.length c2) L ∧ L.length ≤ k ∧ aliveL 0 os = L ++ aliveL k (os.drop k) ∧ MapAt w2 w.heap.size os.length D ∧ Below w.heap.size w w2) (fun i _ _ _ _ _ _ => os.length + 1 - (intOf i).toNat)
      case atStart => exact ⟨0, 0, none, [], rfl, Nat.zero_le _, rfl, OwnsG.nil _ _, Nat.le_refl _, rfl, HM.out, HB.out⟩
      case round =>
        rename World => wr2
        obtain ⟨k, c2, A2, L, rfl, hk, rfl, how, hLk, hal, hmp, hbel⟩ := hrel
        by_cases hkl : k < os.length
        · have hkI : (k : Int) < (os.length : Int) := by omega
          obtain ⟨o, ho⟩ := get_lt hkl
          obtain ⟨b, off, rfl, hblt, d0, d1, d2, d3, d4, d5⟩ := ord_row (HEL.out.below hbel) ho
          have hkey : keyOf Tryz.prog 9 (.string o.key) = some (keyL o.key) := WideMaps.keyOf_string_mk Tryz.underlying9 (by have := HKS.out o (List.mem_of_getElem? ho); unfold maxLen; omega)
          have hlk := alive_last ho
          have hdr : os.drop k = o :: os.drop (k + 1) := by
            obtain ⟨hk', rfl⟩ := List.getElem?_eq_some_iff.1 ho
            exact List.drop_eq_getElem_cons hk'
          rw [hdr, aliveL, hlk] at hal
          obtain ⟨hhas, hatk⟩ := HD.out.2 o.key
          dsimp only at hhas hatk
          have hlt2 := hmp.lt
          generalize lastK os o.key os.length = lk at *
          have HOW := Lib.hid how
          have HB2 := Lib.hid hbel
          have HM2 := Lib.hid hmp
          have HB4 := Lib.hid (fun o1 o2 => below_alloc (o := o2) (below_alloc (o := o1) hbel))
          have HK := Lib.hid hkey
          have HAT := Lib.hid hatk
          have HLT := Lib.hid hlt2
          clear how hbel hmp hkey hatk hlk hdr ho hlt2
          obtain ⟨kind, key, val, n, lo, hi⟩ := o
          dsimp only at d0 d1 d2 d3 d4 d5 HK HAT hhas hal
          by_cases hc : kind = 1 ∨ kind = 3
          · have hkk : (decide (kind = 1) || decide (kind = 3)) = true := by simpa using hc
            rw [hkk, Bool.true_and] at hal
            clear hkk
            cases lk with
            | none =>
              dsimp only at hal
              rw [if_pos rfl, ← List.singleton_append, ← List.append_assoc] at hal
              have HAL := Lib.hid hal
              have hh : has D (keyL key) = false := hhas
              clear hal hhas
              rcases hc with rfl | rfl
              all_goals
                go_wp2_with (first
                  | (at_lookup; refine wpList_lookup_own_ok_int _ rfl _ _ 108 rfl 9 3 .i64 lawS Tryz.underlying108 Tryz.underlying3 (zeroI _) w.heap.size os.length D rfl (HM2.out.alloc _) _ _ rfl HK.out ?_; intro c hat _; clear hat)
                  | (at_builtin; go_loud (refine nat_append rfl (some 66) rfl _ _ rfl (w.heap.size + 1) (.slice A2 L.length c2) L [k] 1 ⟨wr2.heap.size + 1, 0, none⟩ 1 rfl rfl (by simp [Act.eval]) ((HOW.out.alloc _).alloc _) (nat_news (heap_new_at (by simp))) (by simp; omega) (by have := HB2.out.size; have := HLT.out; simp; omega) (L.length + 1) (by simp) ?_; intro A3 c3 w3 ho3 hf3; have HO3 := Lib.hid ho3; have HF3 := Lib.hid hf3; clear ho3 hf3)))
                refine ⟨⟨k + 1, c3, A3, L ++ [k], by go_num, by omega, by simp, by rw [List.length_append]; exact HO3.out, by simp; omega, HAL.out, MapAt.fr ((HM2.out.alloc _).alloc _) HF3.out (fun e => nat_ge HOW.out (Nat.lt_succ_self _) e), (HB4.out _ _).trans (HF3.out.to_below (HB4.out _ _).size (fun i hi e => nat_ge HOW.out (by omega) e))⟩, ?_⟩
                simp [intOf]
                omega
            | some m =>
              have hh : has D (keyL key) = true := hhas
              dsimp only at hal
              by_cases hmk : m ≤ k
              · rw [if_pos (decide_eq_true hmk), ← List.singleton_append, ← List.append_assoc] at hal
                have HAL := Lib.hid hal
                have hmI : (m : Int) ≤ (k : Int) := by omega
                clear hal hhas hmk
                rcases hc with rfl | rfl
                all_goals
                  go_wp2_with (first
                    | (at_lookup; refine wpList_lookup_own_ok_int _ rfl _ _ 108 rfl 9 3 .i64 lawS Tryz.underlying108 Tryz.underlying3 (zeroI _) w.heap.size os.length D rfl (HM2.out.alloc _) _ _ rfl HK.out ?_; intro c hat _; have hcm : c = (m : Int) := (by have := HAT.out m rfl; rw [hat] at this; simpa using this); subst hcm; clear hat)
                    | (at_builtin; go_loud (refine nat_append rfl (some 66) rfl _ _ rfl (w.heap.size + 1) (.slice A2 L.length c2) L [k] 1 ⟨wr2.heap.size + 1, 0, none⟩ 1 rfl rfl (by simp [Act.eval]) ((HOW.out.alloc _).alloc _) (nat_news (heap_new_at (by simp))) (by simp; omega) (by have := HB2.out.size; have := HLT.out; simp; omega) (L.length + 1) (by simp) ?_; intro A3 c3 w3 ho3 hf3; have HO3 := Lib.hid ho3; have HF3 := Lib.hid hf3; clear ho3 hf3)))
                  refine ⟨⟨k + 1, c3, A3, L ++ [k], by go_num, by omega, by simp, by rw [List.length_append]; exact HO3.out, by simp; omega, HAL.out, MapAt.fr ((HM2.out.alloc _).alloc _) HF3.out (fun e => nat_ge HOW.out (Nat.lt_succ_self _) e), (HB4.out _ _).trans (HF3.out.to_below (HB4.out _ _).size (fun i hi e => nat_ge HOW.out (by omega) e))⟩, ?_⟩
                  simp [intOf]
                  omega
              · rw [if_neg (by rw [decide_eq_false hmk]; decide)] at hal
                have HAL := Lib.hid hal
                have hmI : ¬ (m : Int) ≤ (k : Int) := by omega
                clear hal hhas hmk
                rcases hc with rfl | rfl
                all_goals
                  go_wp2_with ((at_lookup; refine wpList_lookup_own_ok_int _ rfl _ _ 108 rfl 9 3 .i64 lawS Tryz.underlying108 Tryz.underlying3 (zeroI _) w.heap.size os.length D rfl (HM2.out.alloc _) _ _ rfl HK.out ?_; intro c hat _; have hcm : c = (m : Int) := (by have := HAT.out m rfl; rw [hat] at this; simpa using this); subst hcm; clear hat))
                  refine ⟨⟨k + 1, c2, A2, L, by go_num, by omega, rfl, HOW.out.alloc _, by omega, HAL.out, HM2.out.alloc _, below_alloc HB2.out⟩, ?_⟩
                  simp [intOf]
                  omega
          · have hkk : (decide (kind = 1) || decide (kind = 3)) = false := by simpa using hc
            rw [hkk, Bool.false_and, if_neg (by decide)] at hal
            have HAL := Lib.hid hal
            have e1 : (kind == 1) = false := by simp; omega
            have e3 : (kind == 3) = false := by simp; omega
            clear hkk hal hc hhas
            go_wp2_with ((at_lookup; refine wpList_lookup_own_ok_int _ rfl _ _ 108 rfl 9 3 .i64 lawS Tryz.underlying108 Tryz.underlying3 (zeroI _) w.heap.size os.length D rfl (HM2.out.alloc _) _ _ rfl HK.out ?_; intro c hat _; clear hat))
            refine ⟨⟨k + 1, c2, A2, L, by go_num, by omega, rfl, HOW.out.alloc _, by omega, HAL.out, HM2.out.alloc _, below_alloc HB2.out⟩, ?_⟩
            simp [intOf]
            omega
        · obtain rfl : k = os.length := by omega
          rw [List.drop_length] at hal
          simp only [aliveL, List.append_nil] at hal
          have HOW := Lib.hid how
          have HB2 := Lib.hid hbel
          have HAL := Lib.hid hal
          clear how hbel hal
          go_wp2
          go_ret
          rw [HAL.out]
          exact ⟨A2, c2, rfl, HOW.out.base (Nat.le_succ _), HB2.out⟩
end Go.Proofs.YtdfgdnaejnngoaaGreat
namespace Go.Proofs.YtdfgdnaejnngoaaGreat
open Go.RowKit
/-! prune.Prune. -/
theorem alive_at {os : List Ord} {k j : Nat} (h : (aliveL 0 os)[k]? = some j) : ∃ o, (pruneL os)[k]? = some o ∧ os[j]? = some o := by
  have hg := alive_get os []
  have h1 := congrArg (fun l : List (Option Ord) => l[k]?) hg
  simp only [List.length_nil, List.nil_append, List.getElem?_map] at h1
  rw [h] at h1
  cases hp : (pruneL os)[k]? with
  | none => rw [hp] at h1; simp at h1
  | some o =>
    rw [hp] at h1
    simp at h1
    exact ⟨o, rfl, h1⟩
theorem ord_news {W : World} {b : Nat} {o : Ord} {T : TypeId} {fz : Nat × Nat} (h : W.heap[b]? = some (.cells #[.int .i64 o.kind, .string o.key, .string o.val, .int .u64 o.n, .string o.lo, .string o.hi] T fz)) : ∀ j u, (([o].map Ord.cells).flatten)[j]? = some u → W.cell? ((⟨b, 0, none⟩ : Addr).add j) = some u := by
  intro j u hj
  rw [Addr.add_mid, Lib.cell_of_heap h, Nat.zero_add]
  simpa [Ord.cells] using hj
theorem ord_ge {w : World} {B q : Nat} {v : Value} {l : List Ord} (h : OwnsO w B v l) (hq : q < B) (e : v.ownBlock = some q) : False := by
  rcases h.2 with ⟨he, _⟩ | ⟨g, cap', cur, he, hb, _⟩
  · rw [he] at e; cases e
  · rw [he] at e
    simp only [Value.ownBlock, Option.some.injEq] at e
    omega
set_option maxHeartbeats 2000000 in
set_option maxRecDepth 100000 in
theorem prune_any (A : Option Addr) (cap : Nat) (os : List Ord) (w : World) (hel : Elems w A 6 (os.map Ord.cells)) (hl : os.length ≤ 1000) (hks : okK os) :
    Calls Tryz.prog 25 #[.slice A os.length cap] w fun e w' => ∃ A' c', e = .returned (.slice A' (pruneL os).length c') ∧ OwnsO w' w.heap.size (.slice A' (pruneL os).length c') (pruneL os) ∧ Below w.heap.size w w' := by
  have hal := alive_any A cap os w hel hl hks
  have hlen := alive_len os 0
  have hsub := (prune_sub os).length_le
  have HAL := Lib.hid hal
  have HEL := Lib.hid hel
  have HLEN := Lib.hid hlen
  clear hal hel hks
  go_enter Tryz.func25, Tryz.ntmps25
  go_wp2_with (go_at_call 23; (with_reducible refine HAL.out.mono ?_); rintro e w1 ⟨A1, c1, rfl, ho1, hb1⟩; have HO1 := Lib.hid ho1; have HB1 := Lib.hid hb1; clear ho1 hb1)
  have hL := HLEN.out
  go_loopw [9, 3, 5] (fun i v _ wr => ∃ (k c2 : Nat) (A2 : Option Addr), i = .int .i64 k ∧ k ≤ (aliveL 0 os).length ∧ v = .slice A2 ((pruneL os).take k).length c2 ∧ OwnsO wr w1.heap.size (.slice A2 ((pruneL os).take k).length c2) ((pruneL os).take k) ∧ Below w1.heap.size w1 wr) (fun i _ _ _ => (aliveL 0 os).length + 1 - (intOf i).toNat)
  case atStart => exact ⟨0, 0, none, rfl, Nat.zero_le _, rfl, OwnsG.nil _ _, Below.refl _ _⟩
  case round =>
    obtain ⟨k, c2, A2, rfl, hk, rfl, how, hbel⟩ := hrel
    by_cases hkl : k < (aliveL 0 os).length
    · have hkI : (k : Int) < ((aliveL 0 os).length : Int) := by omega
      obtain ⟨j, hj⟩ := get_lt hkl
      obtain ⟨o, hp, ho⟩ := alive_at hj
      have hjl := (List.getElem?_eq_some_iff.1 ho).1
      have hjI : (j : Int) < (os.length : Int) := by omega
      obtain ⟨g, rfl, hBg, hgl, hcap, hcells⟩ := (HO1.out.below hbel).row natLen hj
      have e0 := hcells 0 _ rfl
      simp only [Nat.mul_one, Nat.add_zero] at e0
      obtain ⟨b, off, rfl, hblt, d0, d1, d2, d3, d4, d5⟩ := ord_row (HEL.out.below (below_next HB1.out hbel)) ho
      have htk := take_snocR hp
      have hpl : ((pruneL os).take k).length ≤ 1000 := by rw [List.length_take]; omega
      have HOW := Lib.hid how
      have HB := Lib.hid hbel
      have HTK := Lib.hid htk
      clear how hbel htk hp ho hj hcells
      generalize (pruneL os).take k = P at *
      obtain ⟨kind, key, val, n, lo, hi⟩ := o
      dsimp only at d0 d1 d2 d3 d4 d5
      go_wp2_with (at_builtin; go_loud (refine ord_append rfl (some 19) rfl _ _ rfl w1.heap.size (.slice A2 P.length c2) P [⟨kind, key, val, n, lo, hi⟩] 1 ⟨wr.heap.size, 0, none⟩ 1 rfl rfl (by simp [Act.eval]) (HOW.out.alloc _) (ord_news (o := ⟨kind, key, val, n, lo, hi⟩) (heap_alloc_new _ _)) (by simp; omega) (by have := HB.out.size; simp; omega) (P.length + 1) (by simp) ?_; intro A3 c3 w3 ho3 hf3; have HO3 := Lib.hid ho3; have HF3 := Lib.hid hf3; clear ho3 hf3))
      have hb3 := fun o : Obj => below_alloc (o := o) HB.out
      refine ⟨⟨k + 1, c3, A3, by go_num, by omega, by rw [HTK.out, List.length_append]; rfl, by rw [HTK.out, List.length_append]; exact HO3.out, (hb3 _).trans (HF3.out.to_below (hb3 _).size (fun i hi e => ord_ge HOW.out hi e))⟩, ?_⟩
      simp [intOf]
      omega
    · obtain rfl : k = (aliveL 0 os).length := by omega
      rw [hL, List.take_length] at how
      rw [hL, List.take_length]
      have HOW := Lib.hid how
      have HB := Lib.hid hbel
      clear how hbel
      go_wp2
      go_ret
      exact ⟨A2, c2, rfl, HOW.out.base HB1.out.size, below_next HB1.out HB.out⟩
end Go.Proofs.YtdfgdnaejnngoaaGreat
namespace Go.Proofs.YtdfgdnaejnngoaaGreat
open Go.RowKit
/-! grangerref09.Same; grangerlaw33.great, awake. -/
theorem neq_itm (a b : Itm) (w : World) : (binOp .neq 41 a.v b.v).run Tryz.prog w = .ok (.bool (!decide (a = b))) w := by
  have u9 := Tryz.underlying9
  have a9 := Tryz.isAgg9
  have z9 := Tryz.sizeOf9
  have hS : Tryz.prog.underlying 41 = some (.struct (Tryz.prog.fieldsOf 41)) := by kernel_rfl
  have hp : Tryz.prog.stoodInHeld 41 = false := by kernel_rfl
  rw [Itm.v_def, Itm.v_def]
  rw [run_neq_struct, show (10000 : Nat) = 9999 + 1 from rfl, run_equalIn_agg w 9999 41 _ _ hS hp]
  simp only [Program.fieldsOf, Tryz.underlying41]
  go_simp
  obtain ⟨key, val⟩ := a
  obtain ⟨key', val'⟩ := b
  by_cases h2 : key = key' <;> by_cases h3 : val = val' <;> simp [h2, h3, bytes_inj]
set_option maxHeartbeats 1000000 in
set_option maxRecDepth 100000 in
theorem refSame_any (A B : Option Addr) (ca cb : Nat) (la lb : List Itm) (w : World) (ha : Elems w A 2 (la.map Itm.cells)) (hb : Elems w B 2 (lb.map Itm.cells)) (hl : la.length ≤ 80000) (hl2 : lb.length ≤ 80000) :
    Calls Tryz.prog 28 #[.slice A la.length ca, .slice B lb.length cb] w fun e w' => e = .returned (.bool (decide (la = lb))) ∧ Below w.heap.size w w' := by
  by_cases hn : la.length = lb.length
  · have HA := Lib.hid ha
    have HB := Lib.hid hb
    have hq := fun a b W => neq_itm a b W
    simp only [Itm.v_def] at hq
    have HQ := Lib.hid hq
    have hgu : Tryz.prog.eqGuardType Tryz.prog.depth 41 = false := by kernel_rfl
    obtain ⟨R, hR⟩ : ∃ R, decide (la = lb) = R := ⟨_, rfl⟩
    rw [hR]
    have HR := Lib.hid hR
    have HN := Lib.hid hn
    rw [← hn]
    clear hq ha hb hR hl2 hn
    go_enter Tryz.func28, Tryz.ntmps28
    go_wp2
    go_loopw [5] (fun i wr => ∃ k : Nat, i = .int .i64 k ∧ k ≤ la.length ∧ la.take k = lb.take k ∧ Below w.heap.size w wr) (fun i _ => la.length + 1 - (intOf i).toNat)
    case atStart => exact ⟨0, rfl, Nat.zero_le _, rfl, (by repeat (first | assumption | exact Below.refl _ _ | (refine below_step (w := ?_) ?_ ?_ ?_; rotate_left 2; assumption) | refine Below.drew ?_ | refine below_drewN ?_ _ | refine Below.alloc ?_ ?_ _ | refine Below.setCell ?_ ?_ _ | (focus (simp; done)) | (focus (simp; omega)) | omega))⟩
    case round =>
      obtain ⟨k, rfl, hk, htk, hbel⟩ := hrel
      by_cases hkl : k < la.length
      · have hkI : (k : Int) < (la.length : Int) := by omega
        obtain ⟨y, hy⟩ := get_lt hkl
        obtain ⟨z, hz⟩ := get_lt (l := lb) (i := k) (by have := HN.out; omega)
        obtain ⟨b1, o1, rfl, hlt1, d0, d1⟩ := itm_rowR (HA.out.below hbel) hy
        obtain ⟨b2, o2, rfl, hlt2, e0, e1⟩ := itm_rowR (HB.out.below hbel) hz
        have hqq := fun W => HQ.out y z W
        have htk2 : la.take (k + 1) = lb.take (k + 1) ↔ y = z := by
          rw [take_snocR hy, take_snocR hz, htk]
          simp
        have hne : y ≠ z → la ≠ lb := fun h e => by
          subst e
          rw [hy] at hz
          cases hz
          exact h rfl
        have HTK := Lib.hid htk2
        have HNE := Lib.hid hne
        have HBL := Lib.hid hbel
        clear htk htk2 hne hbel hy hz
        obtain ⟨yk, yv⟩ := y
        obtain ⟨zk, zv⟩ := z
        dsimp only at d0 d1 e0 e1 hqq
        by_cases hyz : (⟨yk, yv⟩ : Itm) = ⟨zk, zv⟩
        · have hyz' := hyz
          simp only [Itm.mk.injEq] at hyz'
          obtain ⟨rfl, rfl⟩ := hyz'
          simp only [decide_true, Bool.not_true] at hqq
          have HT2 := Lib.hid (HTK.out.2 rfl)
          clear hyz HTK HNE
          go_wp2
          go_quiet (fail)
          go_wp2
          refine ⟨⟨k + 1, by go_num, by omega, HT2.out, below_drewN HBL.out _⟩, ?_⟩
          simp [intOf]
          omega
        · rw [decide_eq_false hyz] at hqq
          simp only [Bool.not_false] at hqq
          have hRf : R = false := by rw [← HR.out]; exact decide_eq_false (HNE.out hyz)
          subst hRf
          clear hyz HTK HNE
          go_wp2
          go_quiet (fail)
          go_wp2
          go_ret
          exact ⟨rfl, below_drewN HBL.out _⟩
      · obtain rfl : k = la.length := by omega
        have hRt : R = true := by
          rw [← HR.out]
          rw [List.take_length, HN.out, List.take_length] at htk
          exact decide_eq_true htk
        subst hRt
        have HBL := Lib.hid hbel
        clear htk hbel
        go_wp2
        go_ret
        exact ⟨rfl, HBL.out⟩
  · have hne : la ≠ lb := fun e => hn (by rw [e])
    have hni : ((la.length : Int) != (lb.length : Int)) = true := by simp; omega
    rw [decide_eq_false hne]
    clear ha hb hne hn
    go_enter Tryz.func28, Tryz.ntmps28
    go_wp2
    go_ret
    exact ⟨rfl, (by repeat (first | assumption | exact Below.refl _ _ | (refine below_step (w := ?_) ?_ ?_ ?_; rotate_left 2; assumption) | refine Below.drew ?_ | refine below_drewN ?_ _ | refine Below.alloc ?_ ?_ _ | refine Below.setCell ?_ ?_ _ | (focus (simp; done)) | (focus (simp; omega)) | omega))⟩
end Go.Proofs.YtdfgdnaejnngoaaGreat
namespace Go.Proofs.YtdfgdnaejnngoaaGreat
open Go.RowKit
/-! The document's model: grangerref09.Weight, grangerref26.New, Now. -/
set_option maxHeartbeats 1000000 in
set_option maxRecDepth 100000 in
theorem refWeight_any (A : Option Addr) (cap : Nat) (l : List Itm) (w : World) (hel : Elems w A 2 (l.map Itm.cells)) (ho : ∀ x ∈ l, x.ok) (hl : l.length ≤ 80000) :
    Calls Tryz.prog 41 #[.slice A l.length cap] w fun e w' => e = .returned (.int .i64 (sumW l)) ∧ Below w.heap.size w w' := by
  have HEL := Lib.hid hel
  have HO := Lib.hid ho
  clear hel ho
  go_enter Tryz.func41, Tryz.ntmps41
  go_wp2
  go_loopw [3, 4] (fun s i wr => ∃ k : Nat, i = .int .i64 k ∧ k ≤ l.length ∧ s = .int .i64 (sumW (l.take k)) ∧ Below w.heap.size w wr) (fun _ i _ => l.length + 1 - (intOf i).toNat)
  case atStart => exact ⟨0, rfl, Nat.zero_le _, rfl, (by repeat (first | assumption | exact Below.refl _ _ | (refine below_step (w := ?_) ?_ ?_ ?_; rotate_left 2; assumption) | refine Below.drew ?_ | refine below_drewN ?_ _ | refine Below.alloc ?_ ?_ _ | refine Below.setCell ?_ ?_ _ | (focus (simp; done)) | (focus (simp; omega)) | omega))⟩
  case round =>
    obtain ⟨k, rfl, hk, rfl, hbel⟩ := hrel
    by_cases hkl : k < l.length
    · have hkI : (k : Int) < (l.length : Int) := by omega
      obtain ⟨x, hx⟩ := get_lt hkl
      obtain ⟨b, off, rfl, hlt, d0, d1⟩ := itm_rowR (HEL.out.below hbel) hx
      have hxo := HO.out x (List.mem_of_getElem? hx)
      obtain ⟨x0, x1, x2, x3⟩ := itW_ok hxo
      have hs := sumW_range (l.take k) (fun y hy => HO.out y (List.mem_of_mem_take hy))
      have htl : (l.take k).length ≤ 80000 := by rw [List.length_take]; omega
      have hst := sumW_take l k x hx
      have hiw : itW x = 2 + (x.key.size : Int) + (x.val.size : Int) := by unfold itW; omega
      rw [hiw] at hst
      have HST := Lib.hid hst
      have HB := Lib.hid hbel
      obtain ⟨xk, xv⟩ := x
      dsimp only at d0 d1 x2 x3 HST
      generalize sumW (l.take k) = sw at *
      have hw1 : IntKind.i64.wrap (sw + 2) = sw + 2 := by rw [IntKind.wrap_i64]; omega
      have hw2 : IntKind.i64.wrap (sw + 2 + (xk.size : Int)) = sw + 2 + (xk.size : Int) := by rw [IntKind.wrap_i64]; omega
      have hw3 : IntKind.i64.wrap (sw + 2 + (xk.size : Int) + (xv.size : Int)) = sw + 2 + (xk.size : Int) + (xv.size : Int) := by rw [IntKind.wrap_i64]; omega
      clear hst hbel hx hxo hs htl hiw x0 x1 x2 x3
      go_wp2
      go_quiet (fail)
      go_wp2
      refine ⟨⟨k + 1, by go_num, by omega, by rw [HST.out]; congr 1; omega, below_drewN HB.out _⟩, ?_⟩
      simp [intOf]
      omega
    · obtain rfl : k = l.length := by omega
      rw [List.take_length]
      have HB := Lib.hid hbel
      clear hbel
      go_wp2
      go_ret
      exact ⟨rfl, HB.out⟩
/-- the document's model in memory: a row of rows -/
structure RefAt (w : World) (bu : Nat) (c : Int) (ls : List (List Itm)) : Prop where
  row : ∃ (gr off cap : Nat) (vs : List Value), w.heap[bu]? = some (.cells #[.int .i64 c, .slice (some ⟨gr, off, none⟩) vs.length cap] 83 (0, 0)) ∧ vs.length = ls.length ∧ vs.length ≤ cap ∧ (∃ cs, w.heap[gr]? = some (.cells cs 29 (0, 0))) ∧ (∀ (j : Nat) (v : Value), vs[j]? = some v → w.cell? ⟨gr, off + j, none⟩ = some v) ∧ ∀ (j : Nat) (v : Value) (l : List Itm), vs[j]? = some v → ls[j]? = some l → ∃ A cp, v = .slice A l.length cp ∧ Elems w A 2 (l.map Itm.cells)
  pos : 0 < ls.length
theorem RefAt.lt {w : World} {bu : Nat} {c : Int} {ls : List (List Itm)} (h : RefAt w bu c ls) : bu < w.heap.size := by
  obtain ⟨gr, off, cap, vs, h1, _⟩ := h.row
  exact lt_of_row h1
theorem RefAt.below {w w' : World} {bu : Nat} {c : Int} {ls : List (List Itm)} (h : RefAt w bu c ls) (hb : Below w.heap.size w w') : RefAt w' bu c ls := by
  obtain ⟨gr, off, cap, vs, h1, h2, h3, ⟨cs, h4⟩, h5, h6⟩ := h.row
  refine ⟨⟨gr, off, cap, vs, box_below h1 hb, h2, h3, ⟨cs, box_below h4 hb⟩, fun j v hv => (hb.cell (p := ⟨gr, _, none⟩) (lt_of_row h4)).trans (h5 j v hv), fun j v l hv hl => ?_⟩, h.pos⟩
  obtain ⟨A, cp, hc, he⟩ := h6 j v l hv hl
  exact ⟨A, cp, hc, he.below hb⟩
set_option maxRecDepth 100000 in
theorem refNew_any (c : Int) (w : World) : Calls Tryz.prog 33 #[.int .i64 c] w fun e w' => ∃ bu, e = .returned (.pointer (some ⟨bu, 0, none⟩)) ∧ RefAt w' bu c [[]] ∧ w.heap.size ≤ bu ∧ Below w.heap.size w w' := by
  go_enter Tryz.func33, Tryz.ntmps33
  go_wp2
  go_ret
  have h1 : ((w.alloc (.cells #[] 41)).alloc (.cells #[.slice (some ⟨w.heap.size, 0, none⟩) 0 0] 29)).heap[w.heap.size + 1]? = some (.cells #[.slice (some ⟨w.heap.size, 0, none⟩) 0 0] 29 (0, 0)) := heap_new_at (by simp)
  refine ⟨w.heap.size + 2, rfl, ⟨⟨w.heap.size + 1, 0, 1, [.slice (some ⟨w.heap.size, 0, none⟩) 0 0], heap_new_at (by simp), rfl, Nat.le_refl _, ⟨_, ((Fr.refl (fun _ => False) _).alloc _).row id h1⟩, fun j v hv => ?_, fun j v l hv hl => ?_⟩, by simp⟩, by omega, below_alloc (below_alloc (below_alloc (Below.refl _ w)))⟩
  · rcases j with _ | j
    · simp at hv
      subst hv
      rw [Lib.cell_of_heap (((Fr.refl (fun _ => False) _).alloc _).row id h1)]
      rfl
    · simp at hv
  · rcases j with _ | j
    · simp at hv hl
      subst hv hl
      exact ⟨_, _, rfl, by intro i r hr; simp at hr⟩
    · simp at hv
set_option maxRecDepth 100000 in
theorem refNow_any (bu : Nat) (c : Int) (ls : List (List Itm)) (l : List Itm) (w : World) (h : RefAt w bu c ls) (hl : ls[ls.length - 1]? = some l) (hn : ls.length ≤ 90000) :
    Calls Tryz.prog 40 #[.pointer (some ⟨bu, 0, none⟩)] w fun e w' => ∃ A cp, e = .returned (.slice A l.length cp) ∧ Elems w' A 2 (l.map Itm.cells) ∧ Below w.heap.size w w' := by
  obtain ⟨gr, off, cap, vs, h1, h2, h3, h4, h5, h6⟩ := h.row
  have hp := h.pos
  obtain ⟨v, hv⟩ := get_lt (l := vs) (i := ls.length - 1) (by omega)
  obtain ⟨A, cp, rfl, he⟩ := h6 _ v l hv hl
  have hc := h5 _ _ hv
  obtain ⟨m, hm⟩ : ∃ m, vs.length = m + 1 := ⟨vs.length - 1, by omega⟩
  have hlm : ls.length - 1 = m := by omega
  rw [hlm] at hc
  have c1 : w.cell? ⟨bu, 1, none⟩ = some (.slice (some ⟨gr, off, none⟩) (m + 1) cap) := by rw [Lib.cell_of_heap h1, ← hm]; rfl
  have hw1 : IntKind.i64.wrap ((m : Int) + 1 - 1) = (m : Int) := by rw [IntKind.wrap_i64]; omega
  have hw2 : IntKind.i64.wrap (m : Int) = (m : Int) := by rw [IntKind.wrap_i64]; omega
  have hnI : (m : Int) < (m : Int) + 1 := by omega
  have HE := Lib.hid he
  clear h h1 h2 h3 h4 h5 h6 hl he hlm hp hv hm
  go_enter Tryz.func40, Tryz.ntmps40
  go_wp2
  go_quiet (fail)
  go_wp2
  go_ret
  exact ⟨A, cp, rfl, HE.out.below (below_drewN (Below.refl _ w) _), below_drewN (Below.refl _ w) _⟩
/-- a block that is none of the document's model -/
theorem ref_other {w w' : World} {bu q : Nat} {c : Int} {ls : List (List Itm)} {cs : List Value} {T : TypeId} (h : RefAt w bu c ls) (hq : w.heap[q]? = some (.cells cs.toArray T (0, 0))) (h1 : T ≠ 83) (h2 : T ≠ 29)
    (hns : ∀ i a b, cs[i]? = some (.string a) → cs[i + 1]? = some (.string b) → False) (hf : Fr (fun k => k = q) w w') : RefAt w' bu c ls := by
  obtain ⟨gr, off, cap, vs, r1, r2, r3, ⟨cr, r4⟩, r5, r6⟩ := h.row
  refine ⟨⟨gr, off, cap, vs, hf.row (fun e => kinds_ne r1 hq h1.symm e) r1, r2, r3, ⟨cr, hf.row (fun e => kinds_ne r4 hq h2.symm e) r4⟩, fun j v hv => hf.cell (lt_of_row r4) (fun e => kinds_ne r4 hq h2.symm e) (r5 j v hv), fun j v l hv hl => ?_⟩, h.pos⟩
  obtain ⟨A, cp, rfl, he⟩ := r6 j v l hv hl
  refine ⟨A, cp, rfl, fun i r hr => ?_⟩
  obtain ⟨b, o, e2, hlt, hc⟩ := he i r hr
  rw [List.getElem?_map, Option.map_eq_some_iff] at hr
  obtain ⟨x, hx, rfl⟩ := hr
  have hb : ¬ b = q := by
    rintro rfl
    have c0 := hc 0 _ rfl
    have c1 := hc 1 _ rfl
    rw [Lib.cell_of_heap hq] at c0 c1
    refine hns (o + i * 2) x.key x.val ?_ ?_
    · simpa using c0
    · simpa using c1
  exact ⟨b, o, e2, Nat.lt_of_lt_of_le hlt hf.size, fun j u hu => hf.cell hlt hb (hc j u hu)⟩
end Go.Proofs.YtdfgdnaejnngoaaGreat
namespace Go.Proofs.YtdfgdnaejnngoaaGreat
open Go.RowKit
/-! grangerref26.update. -/
def rowV (v : Value) : List Value := [v]
theorem rowVlen (v : Value) : (rowV v).length = 1 := rfl
theorem V_info : (Tryz.prog.info? 29).map (fun i => (i.zero, i.size, i.bytes)) = some (some (.slice none 0 0), 1, 24) := by kernel_rfl
abbrev OwnsV := OwnsG rowV 1 29
theorem rowV_flat : ∀ m : List Value, (m.map rowV).flatten = m
  | [] => rfl
  | x :: m => by
    show x :: (m.map rowV).flatten = x :: m
    rw [rowV_flat m]
theorem val_append {ops : Array Oper} {rest : List Oper} {o : Oper} {a : Act} {w : World} {Q : Exit → Act → World → Prop} (hgd : o.guard = none) (N : Option Tmp) (hN : o.dst = N) (s x : Operand) (ho : o.op = .call { callee := .builtin .append, args := #[s, x], argTypes := #[81, 81] })
    (B : Nat) (v : Value) (l m : List Value) (n : Nat) (ad : Addr) (c : Nat) (hn : m.length = n) (hs : a.eval s = v) (hx : a.eval x = .slice (some ad) n c) (hown : OwnsV w B v l) (hone : ∀ u ∈ m, u.oneCell' = true) (hel : ∀ j u, m[j]? = some u → w.cell? (ad.add j) = some u) (hl : l.length + m.length ≤ 100000) (hB : B ≤ w.heap.size) (n2 : Nat) (hn2 : (l ++ m).length = n2)
    (h : ∀ A' c' w', OwnsV w' B (.slice A' n2 c') (l ++ m) → Fr (fun k => v.ownBlock = some k) w w' → wpList Tryz.prog ops Q rest (a.put N (.slice A' n2 c')) w') : wpList Tryz.prog ops Q (o :: rest) a w := by
  subst hn hN hn2
  obtain ⟨i0, hi0, hz0, hz1, hz2⟩ := info_parts V_info
  have hfl := rowV_flat m
  refine wpList_append_own w hgd s x 81 ho B 29 i0 _ 1 24 Tryz.underlying81 hi0 hz0 hz1 hz2 rfl (by decide) v l.length _ hs hown ad m.length c ((m.map rowV).flatten) hx (flatten_length rowVlen m) (by rw [hfl]; exact hel) (by rw [hfl]; exact hone) ?_ ?_ hB ?_
  · unfold maxLen; omega
  · omega
  · intro v' w' h1 h2 _
    have ho : OwnsV w' B v' (l ++ m) := by
      unfold OwnsV OwnsG
      rw [List.map_append, List.flatten_append, List.length_append]
      exact h1
    obtain ⟨A', c', rfl⟩ := ho.slice
    exact h A' c' w' ho ((Fr.refl _ w).grown h2 (fun i hi e => e))
theorem val_ge {w : World} {B q : Nat} {v : Value} {l : List Value} (h : OwnsV w B v l) (hq : q < B) (e : v.ownBlock = some q) : False := by
  rcases h.2 with ⟨he, _⟩ | ⟨g, cap', cur, he, hb, _⟩
  · rw [he] at e; cases e
  · rw [he] at e
    simp only [Value.ownBlock, Option.some.injEq] at e
    omega
def RefUpd (bu : Nat) (c err : Int) (ls' : List (List Itm)) (w : World) (e : Ending) (w' : World) : Prop := e = .returned (.int .i64 err) ∧ RefAt w' bu c ls' ∧ Fr (fun k => k = bu) w w'
theorem refupd_keep {w w' : World} {bu : Nat} {c err : Int} {ls : List (List Itm)} (h : RefAt w bu c ls) (hb : Below w.heap.size w w') : RefUpd bu c err ls w (.returned (.int .i64 err)) w' := ⟨rfl, h.below hb, Fr.of_below hb⟩
/-- items lie in no model of the document's -/
theorem elems_bu {w w' : World} {bu : Nat} {A : Option Addr} {l : List Itm} {c : Int} {sv : Option Addr} {sn sc : Nat} (h : Elems w A 2 (l.map Itm.cells)) (hrow : w.heap[bu]? = some (.cells #[.int .i64 c, .slice sv sn sc] 83 (0, 0))) (hf : Fr (fun k => k = bu) w w') : Elems w' A 2 (l.map Itm.cells) := by
  intro i r hr
  obtain ⟨b, off, e, hlt, hc⟩ := h i r hr
  rw [List.getElem?_map, Option.map_eq_some_iff] at hr
  obtain ⟨x, hx, rfl⟩ := hr
  have hb : ¬ b = bu := by
    rintro rfl
    have c0 := hc 0 _ rfl
    rw [Lib.cell_of_heap hrow] at c0
    generalize off + i * 2 + 0 = q at c0
    rcases q with _ | _ | q <;> simp at c0
  exact ⟨b, off, e, Nat.lt_of_lt_of_le hlt hf.size, fun j u hu => hf.cell hlt hb (hc j u hu)⟩
theorem ref_add {w wr w6 w9 : World} {bu : Nat} {c : Int} {ls : List (List Itm)} {l' : List Itm} {vs : List Value} {A5 A9 : Option Addr} {c5 c9 : Nat} {sv : Option Addr} {sn sc : Nat} (hbu : bu < w.heap.size) (hbw : Below w.heap.size w wr) (hb6 : Below wr.heap.size wr w6) (hb9 : Below w6.heap.size w6 w9) (hrow : w9.heap[bu]? = some (.cells #[.int .i64 c, .slice sv sn sc] 83 (0, 0)))
    (hvl : vs.length = ls.length) (hvs : ∀ (j : Nat) (v : Value) (l : List Itm), vs[j]? = some v → ls[j]? = some l → ∃ A cp, v = .slice A l.length cp ∧ Elems wr A 2 (l.map Itm.cells)) (hel : Elems w6 A5 2 (l'.map Itm.cells)) (ho9 : OwnsV w9 w6.heap.size (.slice A9 (vs.length + 1) c9) (vs ++ [.slice A5 l'.length c5])) :
    RefUpd bu c 0 (ls ++ [l']) w (.returned (.int .i64 0)) (w9.setCell ⟨bu, 1, none⟩ (.slice A9 (vs.length + 1) c9)) := by
  have hf : Fr (fun k => k = bu) w9 (w9.setCell ⟨bu, 1, none⟩ (.slice A9 (vs.length + 1) c9)) := (Fr.refl (fun k => k = bu) w9).setCell (p := ⟨bu, 1, none⟩) (fun _ => rfl) _
  have hs1 := hbw.size
  have hs2 := hb6.size
  have hb69 := below_next hb6 hb9
  obtain ⟨v0, hv0⟩ := get_lt (l := vs ++ [.slice A5 l'.length c5]) (i := 0) (by simp)
  obtain ⟨g9, rfl, hBg, hgl, hcap, _⟩ := ho9.row rowVlen hv0
  have hcs9 : ∃ cs, (w9.setCell ⟨bu, 1, none⟩ (.slice (some ⟨g9, 0, none⟩) (vs.length + 1) c9)).heap[g9]? = some (.cells cs 29 (0, 0)) := by
    rcases ho9.2 with ⟨he, _⟩ | ⟨g', cap', cur, he, hb, hgg, _⟩
    · simp at he
    · simp only [Value.slice.injEq, Option.some.injEq, Addr.mk.injEq] at he
      obtain ⟨⟨rfl, _⟩, _⟩ := he
      exact ⟨cur, hf.row (by omega) hgg⟩
  refine ⟨rfl, ⟨⟨g9, 0, c9, vs ++ [.slice A5 l'.length c5], ?_, by simp [hvl], by simpa using hcap, hcs9, fun j v hv => ?_, fun j v l hv hl => ?_⟩, by simp⟩, (Fr.of_below (below_next hbw hb69)).trans hf (fun i _ e => e)⟩
  · have := setCell_row hrow 1 (.slice (some ⟨g9, 0, none⟩) (vs.length + 1) c9)
    simpa using this
  · obtain ⟨g', hg', _, _, _, hcells⟩ := ho9.row rowVlen hv
    cases hg'
    have := hcells 0 v rfl
    rw [Nat.zero_add]
    exact hf.cell hgl (by omega) (by simpa using this)
  · by_cases hj : j < vs.length
    · rw [List.getElem?_append_left hj] at hv
      rw [List.getElem?_append_left (by omega)] at hl
      obtain ⟨A, cp, rfl, he⟩ := hvs j v l hv hl
      exact ⟨A, cp, rfl, elems_bu (he.below hb69) hrow hf⟩
    · have hjl := (List.getElem?_eq_some_iff.1 hv).1
      simp at hjl
      obtain rfl : j = vs.length := by omega
      rw [List.getElem?_append_right (by omega), Nat.sub_self] at hv
      rw [List.getElem?_append_right (by omega), hvl, Nat.sub_self] at hl
      simp at hv hl
      subst hv hl
      exact ⟨A5, c5, rfl, elems_bu (hel.below hb9) hrow hf⟩
set_option maxHeartbeats 2000000 in
set_option maxRecDepth 100000 in
theorem refUpdate_any (bu : Nat) (c : Int) (ls : List (List Itm)) (l : List Itm) (x : Mg) (w : World) (h : RefAt w bu c ls) (hl : ls[ls.length - 1]? = some l) (hn : ls.length ≤ 90000) (hln : l.length ≤ 60000) (hri : Rises l) (hok : ∀ y ∈ l, y.ok) :
    Calls Tryz.prog 65 #[.pointer (some ⟨bu, 0, none⟩), x.v] w (RefUpd bu c (errU c l x) (rowsU c ls l x) w) := by
  have his := fun W => ref08Is_any x W
  cases hm : isMsg x with
  | false =>
    have he : errU c l x = 1 := by unfold errU; rw [hm]; rfl
    have ha : addsU c l x = false := by unfold addsU; rw [he]; rfl
    have hr : rowsU c ls l x = ls := by unfold rowsU; rw [ha]; rfl
    rw [he, hr]
    rw [hm] at his
    have HI := Lib.hid his
    have HR := Lib.hid h
    clear his h hl hri hok hm he ha hr
    rw [Mg.v_def] at HI ⊢
    obtain ⟨kind, key, val⟩ := x
    dsimp only at HI ⊢
    go_enter Tryz.func65, Tryz.ntmps65
    go_wp2_with (go_at_call 60; (with_reducible refine (HI.out _).mono ?_); rintro e w1 ⟨rfl, hb1⟩; have HB1 := Lib.hid (below_next (below_alloc (Below.refl _ w)) hb1); clear hb1)
    go_ret
    exact refupd_keep HR.out HB1.out
  | true =>
    rw [hm] at his
    obtain ⟨kind, key, val⟩ := x
    obtain ⟨E, hE⟩ : ∃ E, errU c l ⟨kind, key, val⟩ = E := ⟨_, rfl⟩
    obtain ⟨R, hR⟩ : ∃ R, rowsU c ls l ⟨kind, key, val⟩ = R := ⟨_, rfl⟩
    have hek : E = if kind = 2 ∧ getL l key = none then 0 else if kind = 3 ∧ (getL l key).any (fun v => decide (v.size ≠ 8)) = true then 10 else if sumW (doL l ⟨kind, key, val⟩) ≤ c then 0 else 9 := by rw [← hE]; unfold errU; rw [hm]; rfl
    have hend : ∀ err W, E = err → (err ≠ 0 ∨ kind = 2 ∧ getL l key = none) → Below w.heap.size w W → RefUpd bu c E R w (.returned (.int .i64 err)) W := fun err W h1 h2 h3 => by
      have ha : addsU c l ⟨kind, key, val⟩ = false := by
        unfold addsU
        rw [hE, h1]
        rcases h2 with h2 | ⟨h2, h4⟩
        · rw [decide_eq_false h2]; rfl
        · dsimp only
          rw [h2, h4]; simp
      have hr : R = ls := by rw [← hR]; unfold rowsU; rw [ha]; rfl
      rw [h1, hr]
      exact refupd_keep h h3
    have hadd : E = 0 → ¬ (kind = 2 ∧ getL l key = none) → R = ls ++ [doL l ⟨kind, key, val⟩] := fun h0 h1 => by
      rw [← hR]
      unfold rowsU
      rw [if_pos]
      unfold addsU
      rw [hE, h0]
      dsimp only
      by_cases h2 : kind = 2
      · have h3 : getL l key ≠ none := fun e => h1 ⟨h2, e⟩
        simp [h3]
      · simp [h2]
    have hnow := fun W (hW : Below w.heap.size w W) => refNow_any bu c ls l W (h.below hW) hl hn
    have hwi : ∀ (W : World) A cp vb, Elems W A 2 (l.map Itm.cells) → W.heap[vb]? = some (.cells #[.int .i64 kind, .string key, .string val] 90 (0, 0)) → Calls Tryz.prog 61 #[.slice A l.length cp, .slice (some ⟨vb, 0, none⟩) 1 1] W (RefWith l ⟨kind, key, val⟩ W) := fun W A cp vb h1 h2 =>
      refWith_any A cp vb 0 1 l ⟨kind, key, val⟩ W h1 hri hok (by omega) hm (lt_of_row h2) (by rw [Lib.cell_of_heap h2]; rfl) (by rw [Lib.cell_of_heap h2]; rfl) (by rw [Lib.cell_of_heap h2]; rfl)
    have hdo : ∀ y ∈ doL l ⟨kind, key, val⟩, y.ok := oks_do hok hm
    have hdl : (doL l ⟨kind, key, val⟩).length ≤ 60001 := by
      have : (doL l ⟨kind, key, val⟩).length ≤ l.length + 1 := put_len hri _ _
      omega
    have hwt := fun W A cp h1 => refWeight_any A cp (doL l ⟨kind, key, val⟩) W h1 hdo (by omega)
    have HI := Lib.hid his
    have HRF := Lib.hid h
    have HBUL := Lib.hid h.lt
    have HN := Lib.hid hnow
    have HWI := Lib.hid hwi
    have HWT := Lib.hid hwt
    have HEK := Lib.hid hek
    have HEND := Lib.hid hend
    have HADD := Lib.hid hadd
    have HRI := Lib.hid hri
    rw [hE, hR]
    clear his hnow hwi hwt hek hend hadd hE hR hm hok hdo hl
    rw [Mg.v_def] at HI ⊢
    dsimp only at HI ⊢
    go_enter Tryz.func65, Tryz.ntmps65
    go_wp2_with (first
      | (go_at_call 60; (with_reducible refine (HI.out _).mono ?_); rintro e w1 ⟨rfl, hb1⟩; have HX1 := Lib.hid (box_cells hb1); have HB1 := Lib.hid (below_next (below_alloc (Below.refl _ w)) hb1); clear hb1)
      | (go_at_call 40; (with_reducible refine (HN.out _ HB1.out).mono ?_); rintro e w2 ⟨A2, c2, rfl, hel2, hb2⟩; have HE2 := Lib.hid hel2; have HX2 := Lib.hid (box_below HX1.out hb2); have HB2 := Lib.hid (below_next HB1.out hb2); clear hel2 hb2))
    go_loopw [7, 6] (fun i h wr => ∃ k : Nat, i = .int .i64 k ∧ k ≤ l.length ∧ h = .bool (getL (l.take k) key).isSome ∧ (kind = 3 → ∀ v, getL (l.take k) key = some v → v.size = 8) ∧ Below w2.heap.size w2 wr) (fun i _ _ => l.length + 1 - (intOf i).toNat)
    case atStart => exact ⟨0, rfl, Nat.zero_le _, rfl, (fun _ v hv => by rw [List.take_zero, getL_nil] at hv; cases hv), Below.refl _ _⟩
    case round =>
      obtain ⟨k, rfl, hk, rfl, h8s, hbel⟩ := hrel
      have hbx := box_below HX2.out hbel
      obtain ⟨q0, q1, q2⟩ : wr.cell? ⟨w.heap.size, 0, none⟩ = some (.int .i64 kind) ∧ wr.cell? ⟨w.heap.size, 1, none⟩ = some (.string key) ∧ wr.cell? ⟨w.heap.size, 2, none⟩ = some (.string val) := by refine ⟨?_, ?_, ?_⟩ <;> (rw [Lib.cell_of_heap hbx]; rfl)
      have hxl := lt_of_row hbx
      have HX := Lib.hid hbx
      have HBEL := Lib.hid hbel
      have HBW := Lib.hid (below_next HB2.out hbel)
      by_cases hkl : k < l.length
      · have hkI : (k : Int) < (l.length : Int) := by omega
        obtain ⟨y, hy⟩ := get_lt hkl
        obtain ⟨b, off, rfl, hlt, d0, d1⟩ := itm_rowR (HE2.out.below hbel) hy
        have hgt := get_take HRI.out hy key
        have hq : (y.key.toList == key.toList) = decide (y.key = key) := eqB
        have hmem := getL_of_mem HRI.out (List.mem_of_getElem? hy)
        have HGT := Lib.hid hgt
        have H8 := Lib.hid h8s
        have HMEM := Lib.hid hmem
        clear hgt hbel hbx hy h8s hmem
        obtain ⟨yk, yv⟩ := y
        dsimp only at d0 d1 hq HGT HMEM
        by_cases e : yk = key
        · subst e
          rw [decide_eq_true rfl] at hq
          rw [if_pos rfl] at HGT
          by_cases h3 : kind = 3
          · subst h3
            by_cases h8 : yv.size = 8
            · have f8 : ((yv.size : Int) != 8) = false := by simp; omega
              go_wp2
              go_quiet (fail)
              go_wp2
              refine ⟨⟨k + 1, by go_num, by omega, by rw [HGT.out]; rfl, (fun _ v hv => by rw [HGT.out] at hv; cases hv; exact h8), below_drewN HBEL.out _⟩, ?_⟩
              simp [intOf]
              omega
            · have f8 : ((yv.size : Int) != 8) = true := by simp; omega
              have he : E = 10 := by
                rw [HEK.out, if_neg (fun h => by cases h.1), if_pos ⟨rfl, by rw [HMEM.out]; simp [h8]⟩]
              have HE10 := Lib.hid he
              clear he
              go_wp2
              go_quiet (fail)
              go_wp2
              go_ret
              exact HEND.out 10 _ HE10.out (.inl (by decide)) (below_drewN HBW.out _)
          · have f3 : (kind == 3) = false := by simp [h3]
            go_wp2
            go_quiet (fail)
            go_wp2
            refine ⟨⟨k + 1, by go_num, by omega, by rw [HGT.out]; rfl, (fun h => absurd h h3), below_drewN HBEL.out _⟩, ?_⟩
            simp [intOf]
            omega
        · rw [decide_eq_false e] at hq
          rw [if_neg e] at HGT
          go_wp2
          go_quiet (fail)
          go_wp2
          refine ⟨⟨k + 1, by go_num, by omega, by rw [HGT.out], (fun h v hv => by rw [HGT.out] at hv; exact H8.out h v hv), below_drewN HBEL.out _⟩, ?_⟩
          simp [intOf]
          omega
      · obtain rfl : k = l.length := by omega
        rw [List.take_length] at h8s
        rw [List.take_length]
        by_cases hdel : kind = 2 ∧ getL l key = none
        · obtain ⟨rfl, hg⟩ := hdel
          have he : E = 0 := by rw [HEK.out, if_pos ⟨rfl, hg⟩]
          have HE0 := Lib.hid he
          rw [hg]
          clear h8s hbel hbx he
          go_wp2
          go_ret
          exact HEND.out 0 _ HE0.out (.inr ⟨by first | trivial | rfl, hg⟩) HBW.out
        · have h10 : ¬ (kind = 3 ∧ (getL l key).any (fun v => decide (v.size ≠ 8)) = true) := by
            rintro ⟨h3, ha⟩
            cases hg : getL l key with
            | none => rw [hg] at ha; cases ha
            | some v => rw [hg] at ha; have := h8s h3 v hg; simp [this] at ha
          have he2 : E = if sumW (doL l ⟨kind, key, val⟩) ≤ c then 0 else 9 := by rw [HEK.out, if_neg hdel, if_neg h10]
          have HE3 := Lib.hid he2
          have HND := Lib.hid hdel
          obtain ⟨cr, hcr⟩ : ∃ cr, wr.heap[bu]? = some cr := ⟨_, (HRF.out.below HBW.out).row.choose_spec.choose_spec.choose_spec.choose_spec.1⟩
          have hcase : (kind = 2 ∧ (getL l key).isSome = true) ∨ (kind == 2) = false := by
            by_cases h2 : kind = 2
            · left
              cases hg : getL l key with
              | none => exact absurd ⟨h2, hg⟩ hdel
              | some v => exact ⟨h2, rfl⟩
            · right; simp [h2]
          obtain ⟨gr, off, cap, vs, r1, r2, r3, r4, r5, r6⟩ := (HRF.out.below HBW.out).row
          have u0 : wr.cell? ⟨bu, 0, none⟩ = some (.int .i64 c) := by rw [Lib.cell_of_heap r1]; rfl
          have hbul := lt_of_row r1
          have HR1 := Lib.hid r1
          have HR5 := Lib.hid r5
          have HR6 := Lib.hid r6
          have hvl : vs.length ≤ 90000 := by omega
          have hone : ∀ u ∈ vs, u.oneCell' = true := fun u hu => by
            obtain ⟨j, hj⟩ := List.getElem?_of_mem hu
            obtain ⟨lj, hlj⟩ := get_lt (l := ls) (i := j) (by have := (List.getElem?_eq_some_iff.1 hj).1; omega)
            obtain ⟨A, cp, rfl, _⟩ := r6 j u lj hj hlj
            rfl
          have HONE := Lib.hid hone
          have HR4L := Lib.hid (lt_of_row r4.choose_spec)
          clear hone
          have HR2 := Lib.hid r2
          have HR4 := Lib.hid r4
          clear h8s hbel hbx hdel h10 he2 cr hcr r1 r2 r3 r4 r5 r6
          rcases hcase with ⟨h2, hg⟩ | h2
          · subst h2
            rw [hg]
            go_wp2_with (go_at_call 61; (with_reducible refine (HWI.out _ _ _ _ ((HE2.out.below HBEL.out).below (below_alloc (Below.refl _ wr))) (heap_alloc_new wr _)).mono ?_); rintro e w5 ⟨hb5, A5, c5, rfl, ho5⟩; have HO5 := Lib.hid ho5; have HB5 := Lib.hid (below_next (below_alloc (Below.refl _ wr)) hb5); clear hb5 ho5)
            have B5 := HB5.out
            have v0 := keep_cell HB5.out hbul u0
            have hbul5 := keep_lt HB5.out hbul
            have hel5 := HO5.out.drew.elems Itm.clen
            refine rg_start (n := 7) (fun w' => w'.cell? ⟨bu, 0, none⟩ = some (.int .i64 c) ∧ bu < w'.heap.size ∧ Below wr.heap.size wr w') #[false, false, false, false, false, false, false] (by kernel_rfl) rfl rfl ⟨v0, hbul5, B5.drew⟩ (fun hHeld => ?_)
            refine rg_take (i := 0) (N := (some 55)) (v := ?_) (a' := ?_) #[true, false, false, false, false, false, false] rfl rfl (by kernel_rfl) (fun _ _ _ h => h) (by rfl) ?_ hHeld ?_ ?_
            rotate_left 2
            · rintro w' ⟨s0, s1, s2⟩
              go_simp
              try with_reducible rfl
            · simp only [Act.put, List.setIfInBounds_toArray, List.set_cons_zero, List.set_cons_succ]
              rfl
            refine rg_take (i := 2) (N := (some 57)) (v := ?_) (a' := ?_) #[true, false, true, false, false, false, false] rfl rfl (by kernel_rfl) (fun _ _ _ h => h) (by rfl) ?_ hHeld ?_ ?_
            rotate_left 2
            · rintro w' ⟨s0, s1, s2⟩
              go_simp
              try with_reducible rfl
            · simp only [Act.put, List.setIfInBounds_toArray, List.set_cons_zero, List.set_cons_succ]
              rfl
            refine rg_take (i := 3) (N := (some 58)) (v := ?_) (a' := ?_) #[true, false, true, true, false, false, false] rfl rfl (by kernel_rfl) (fun _ _ _ h => h) (by rfl) ?_ hHeld ?_ ?_
            rotate_left 2
            · rintro w' ⟨s0, s1, s2⟩
              go_simp
              try with_reducible rfl
            · simp only [Act.put, List.setIfInBounds_toArray, List.set_cons_zero, List.set_cons_succ]
              rfl
            refine rg_take (i := 4) (N := (some 59)) (v := ?_) (a' := ?_) #[true, false, true, true, true, false, false] rfl rfl (by kernel_rfl) (fun _ _ _ h => h) (by rfl) ?_ hHeld ?_ ?_
            rotate_left 2
            · rintro w' ⟨s0, s1, s2⟩
              go_simp
              try with_reducible rfl
            · simp only [Act.put, List.setIfInBounds_toArray, List.set_cons_zero, List.set_cons_succ]
              rfl
            refine rg_take (i := 5) (N := (some 60)) (v := ?_) (a' := ?_) #[true, false, true, true, true, true, false] rfl rfl (by kernel_rfl) (fun _ _ _ h => h) (by rfl) ?_ hHeld ?_ ?_
            rotate_left 2
            · rintro w' ⟨s0, s1, s2⟩
              go_simp
              try with_reducible rfl
            · simp only [Act.put, List.setIfInBounds_toArray, List.set_cons_zero, List.set_cons_succ]
              rfl
            refine rg_one (i := 1) #[true, true, true, true, true, true, false] rfl (by kernel_rfl) (by rfl) (fun K hK => ?_)
            obtain ⟨s0, s1, s2⟩ := hHeld
            repeat go_step
            ((with_reducible refine (HWT.out _ _ _ hel5).mono ?_); rintro e w6 ⟨rfl, hb6⟩; have HE6 := Lib.hid (hel5.below hb6))
            try dsimp only
            refine hK.out _ _ ?_ (fun hHeld => ?_)
            · (repeat (first | (with_reducible assumption) | (with_reducible apply And.intro) | (with_reducible refine keep_cell (w := ?_) ?_ ?_ ?_; rotate_left; with_reducible assumption) | (with_reducible refine keep_cell_alloc ?_ ?_) | (with_reducible refine keep_lt (w := ?_) ?_ ?_; rotate_left; with_reducible assumption) | (with_reducible refine keep_lt_alloc ?_) | (with_reducible refine below_next (w := ?_) ?_ ?_; rotate_left 2; with_reducible assumption) | (with_reducible refine below_alloc ?_) | (with_reducible refine Below.drew ?_) | (with_reducible refine keep_lt_drew ?_) | (with_reducible refine keep_cell_drew ?_)))
            clear hK K
            clear s0 s1 s2
            refine rg_take (i := 6) (N := (some 61)) (v := ?_) (a' := ?_) #[true, true, true, true, true, true, true] rfl rfl (by kernel_rfl) (fun _ _ _ h => h) (by rfl) ?_ hHeld ?_ ?_
            rotate_left 2
            · rintro w' ⟨s0, s1, s2⟩
              go_simp
              try with_reducible rfl
            · simp only [Act.put, List.setIfInBounds_toArray, List.set_cons_zero, List.set_cons_succ]
              rfl
            refine rg_done (by kernel_rfl) ?_
            obtain ⟨s0, s1, s2⟩ := hHeld
            have hrow6 := box_below HR1.out s2
            have u1 : w6.cell? ⟨bu, 1, none⟩ = some (.slice (some ⟨gr, off, none⟩) vs.length cap) := by rw [Lib.cell_of_heap hrow6]; rfl
            have HB6 := Lib.hid s2
            have HRW6 := Lib.hid hrow6
            clear hrow6 s2
            by_cases hcw : sumW (doL l ⟨2, key, val⟩) ≤ c
            · have he : E = 0 := by rw [HE3.out, if_pos hcw]
              have hR := HADD.out he HND.out
              have hcI : ¬ c < sumW (doL l ⟨2, key, val⟩) := by omega
              have HRR := Lib.hid hR
              have HEE := Lib.hid he
              clear he hR hcw
              go_wp2_with (first
                | (at_builtin; (refine val_append rfl (some 68) rfl _ _ rfl w6.heap.size (.slice (some ⟨w6.heap.size, 0, none⟩) 0 0) [] vs vs.length ⟨gr, off, none⟩ cap rfl rfl rfl (OwnsG.empty (heap_alloc_new w6 _) (Nat.le_refl _)) HONE.out (fun j u hu => by rw [Addr.add_mid]; exact keep_cell (below_alloc HB6.out) HR4L.out (HR5.out j u hu)) (by simp; omega) (by simp) vs.length (by simp) ?_; intro A7 c7 w7 ho7 hf7; have ho7' : OwnsV w7 w6.heap.size (.slice A7 vs.length c7) vs := ho7; have HO7 := Lib.hid ho7'; have HB7 := Lib.hid ((below_alloc (o := .cells #[] 29) (Below.refl _ w6)).trans (hf7.to_below (B := w6.heap.size) (by simp) (fun q hq e => by simp only [Value.ownBlock, Option.some.injEq] at e; omega))); clear ho7 ho7' hf7))
                | (at_builtin; (refine val_append rfl (some 71) rfl _ _ rfl w6.heap.size (.slice A7 vs.length c7) vs [.slice A5 (doL l ⟨2, key, val⟩).length c5] 1 ⟨w7.heap.size, 0, none⟩ 1 rfl rfl rfl (HO7.out.alloc _) (by intro u hu; simp at hu; subst hu; rfl) (fun j u hu => by rw [Addr.add_mid, Lib.cell_of_heap (heap_alloc_new w7 _)]; simpa using hu) (by simp; omega) (by have := HB7.out.size; simp; omega) (vs.length + 1) (by simp) ?_; intro A9 c9 w9 ho9 hf9; have HB9 := Lib.hid ((below_alloc HB7.out).trans (hf9.to_below (B := w6.heap.size) (by have := HB7.out.size; simp; omega) (fun q hq e => val_ge HO7.out hq e))); have hrow9 := box_below HRW6.out HB9.out; have z1 : w9.cell? ⟨bu, 1, none⟩ = some (.slice (some ⟨gr, off, none⟩) vs.length cap) := (by rw [Lib.cell_of_heap hrow9]; rfl); have y1 := Lib.frozen_of_heap hrow9 1; have HO9 := Lib.hid ho9; have HRW9 := Lib.hid hrow9; clear ho9 hf9 hrow9)))
              go_ret
              rw [HEE.out, HRR.out]
              exact ref_add HBUL.out HBW.out HB6.out HB9.out HRW9.out HR2.out HR6.out HE6.out HO9.out
            · have he : E = 9 := by rw [HE3.out, if_neg hcw]
              have hcI : c < sumW (doL l ⟨2, key, val⟩) := by omega
              have HE9 := Lib.hid he
              clear he hcw
              go_wp2
              go_ret
              exact HEND.out 9 _ HE9.out (.inl (by decide)) (below_next HBW.out HB6.out)
          · skip
            go_wp2_with (go_at_call 61; (with_reducible refine (HWI.out _ _ _ _ ((HE2.out.below HBEL.out).below (below_alloc (Below.refl _ wr))) (heap_alloc_new wr _)).mono ?_); rintro e w5 ⟨hb5, A5, c5, rfl, ho5⟩; have HO5 := Lib.hid ho5; have HB5 := Lib.hid (below_next (below_alloc (Below.refl _ wr)) hb5); clear hb5 ho5)
            have B5 := HB5.out
            have v0 := keep_cell HB5.out hbul u0
            have hbul5 := keep_lt HB5.out hbul
            have hel5 := HO5.out.drew.elems Itm.clen
            refine rg_start (n := 7) (fun w' => w'.cell? ⟨bu, 0, none⟩ = some (.int .i64 c) ∧ bu < w'.heap.size ∧ Below wr.heap.size wr w') #[false, false, false, false, false, false, false] (by kernel_rfl) rfl rfl ⟨v0, hbul5, B5.drew⟩ (fun hHeld => ?_)
            refine rg_take (i := 0) (N := (some 55)) (v := ?_) (a' := ?_) #[true, false, false, false, false, false, false] rfl rfl (by kernel_rfl) (fun _ _ _ h => h) (by rfl) ?_ hHeld ?_ ?_
            rotate_left 2
            · rintro w' ⟨s0, s1, s2⟩
              go_simp
              try with_reducible rfl
            · simp only [Act.put, List.setIfInBounds_toArray, List.set_cons_zero, List.set_cons_succ]
              rfl
            refine rg_take (i := 2) (N := (some 57)) (v := ?_) (a' := ?_) #[true, false, true, false, false, false, false] rfl rfl (by kernel_rfl) (fun _ _ _ h => h) (by rfl) ?_ hHeld ?_ ?_
            rotate_left 2
            · rintro w' ⟨s0, s1, s2⟩
              go_simp
              try with_reducible rfl
            · simp only [Act.put, List.setIfInBounds_toArray, List.set_cons_zero, List.set_cons_succ]
              rfl
            refine rg_take (i := 3) (N := (some 58)) (v := ?_) (a' := ?_) #[true, false, true, true, false, false, false] rfl rfl (by kernel_rfl) (fun _ _ _ h => h) (by rfl) ?_ hHeld ?_ ?_
            rotate_left 2
            · rintro w' ⟨s0, s1, s2⟩
              go_simp
              try with_reducible rfl
            · simp only [Act.put, List.setIfInBounds_toArray, List.set_cons_zero, List.set_cons_succ]
              rfl
            refine rg_take (i := 4) (N := (some 59)) (v := ?_) (a' := ?_) #[true, false, true, true, true, false, false] rfl rfl (by kernel_rfl) (fun _ _ _ h => h) (by rfl) ?_ hHeld ?_ ?_
            rotate_left 2
            · rintro w' ⟨s0, s1, s2⟩
              go_simp
              try with_reducible rfl
            · simp only [Act.put, List.setIfInBounds_toArray, List.set_cons_zero, List.set_cons_succ]
              rfl
            refine rg_take (i := 5) (N := (some 60)) (v := ?_) (a' := ?_) #[true, false, true, true, true, true, false] rfl rfl (by kernel_rfl) (fun _ _ _ h => h) (by rfl) ?_ hHeld ?_ ?_
            rotate_left 2
            · rintro w' ⟨s0, s1, s2⟩
              go_simp
              try with_reducible rfl
            · simp only [Act.put, List.setIfInBounds_toArray, List.set_cons_zero, List.set_cons_succ]
              rfl
            refine rg_one (i := 1) #[true, true, true, true, true, true, false] rfl (by kernel_rfl) (by rfl) (fun K hK => ?_)
            obtain ⟨s0, s1, s2⟩ := hHeld
            repeat go_step
            ((with_reducible refine (HWT.out _ _ _ hel5).mono ?_); rintro e w6 ⟨rfl, hb6⟩; have HE6 := Lib.hid (hel5.below hb6))
            try dsimp only
            refine hK.out _ _ ?_ (fun hHeld => ?_)
            · (repeat (first | (with_reducible assumption) | (with_reducible apply And.intro) | (with_reducible refine keep_cell (w := ?_) ?_ ?_ ?_; rotate_left; with_reducible assumption) | (with_reducible refine keep_cell_alloc ?_ ?_) | (with_reducible refine keep_lt (w := ?_) ?_ ?_; rotate_left; with_reducible assumption) | (with_reducible refine keep_lt_alloc ?_) | (with_reducible refine below_next (w := ?_) ?_ ?_; rotate_left 2; with_reducible assumption) | (with_reducible refine below_alloc ?_) | (with_reducible refine Below.drew ?_) | (with_reducible refine keep_lt_drew ?_) | (with_reducible refine keep_cell_drew ?_)))
            clear hK K
            clear s0 s1 s2
            refine rg_take (i := 6) (N := (some 61)) (v := ?_) (a' := ?_) #[true, true, true, true, true, true, true] rfl rfl (by kernel_rfl) (fun _ _ _ h => h) (by rfl) ?_ hHeld ?_ ?_
            rotate_left 2
            · rintro w' ⟨s0, s1, s2⟩
              go_simp
              try with_reducible rfl
            · simp only [Act.put, List.setIfInBounds_toArray, List.set_cons_zero, List.set_cons_succ]
              rfl
            refine rg_done (by kernel_rfl) ?_
            obtain ⟨s0, s1, s2⟩ := hHeld
            have hrow6 := box_below HR1.out s2
            have u1 : w6.cell? ⟨bu, 1, none⟩ = some (.slice (some ⟨gr, off, none⟩) vs.length cap) := by rw [Lib.cell_of_heap hrow6]; rfl
            have HB6 := Lib.hid s2
            have HRW6 := Lib.hid hrow6
            clear hrow6 s2
            by_cases hcw : sumW (doL l ⟨kind, key, val⟩) ≤ c
            · have he : E = 0 := by rw [HE3.out, if_pos hcw]
              have hR := HADD.out he HND.out
              have hcI : ¬ c < sumW (doL l ⟨kind, key, val⟩) := by omega
              have HRR := Lib.hid hR
              have HEE := Lib.hid he
              clear he hR hcw
              go_wp2_with (first
                | (at_builtin; (refine val_append rfl (some 68) rfl _ _ rfl w6.heap.size (.slice (some ⟨w6.heap.size, 0, none⟩) 0 0) [] vs vs.length ⟨gr, off, none⟩ cap rfl rfl rfl (OwnsG.empty (heap_alloc_new w6 _) (Nat.le_refl _)) HONE.out (fun j u hu => by rw [Addr.add_mid]; exact keep_cell (below_alloc HB6.out) HR4L.out (HR5.out j u hu)) (by simp; omega) (by simp) vs.length (by simp) ?_; intro A7 c7 w7 ho7 hf7; have ho7' : OwnsV w7 w6.heap.size (.slice A7 vs.length c7) vs := ho7; have HO7 := Lib.hid ho7'; have HB7 := Lib.hid ((below_alloc (o := .cells #[] 29) (Below.refl _ w6)).trans (hf7.to_below (B := w6.heap.size) (by simp) (fun q hq e => by simp only [Value.ownBlock, Option.some.injEq] at e; omega))); clear ho7 ho7' hf7))
                | (at_builtin; (refine val_append rfl (some 71) rfl _ _ rfl w6.heap.size (.slice A7 vs.length c7) vs [.slice A5 (doL l ⟨kind, key, val⟩).length c5] 1 ⟨w7.heap.size, 0, none⟩ 1 rfl rfl rfl (HO7.out.alloc _) (by intro u hu; simp at hu; subst hu; rfl) (fun j u hu => by rw [Addr.add_mid, Lib.cell_of_heap (heap_alloc_new w7 _)]; simpa using hu) (by simp; omega) (by have := HB7.out.size; simp; omega) (vs.length + 1) (by simp) ?_; intro A9 c9 w9 ho9 hf9; have HB9 := Lib.hid ((below_alloc HB7.out).trans (hf9.to_below (B := w6.heap.size) (by have := HB7.out.size; simp; omega) (fun q hq e => val_ge HO7.out hq e))); have hrow9 := box_below HRW6.out HB9.out; have z1 : w9.cell? ⟨bu, 1, none⟩ = some (.slice (some ⟨gr, off, none⟩) vs.length cap) := (by rw [Lib.cell_of_heap hrow9]; rfl); have y1 := Lib.frozen_of_heap hrow9 1; have HO9 := Lib.hid ho9; have HRW9 := Lib.hid hrow9; clear ho9 hf9 hrow9)))
              go_ret
              rw [HEE.out, HRR.out]
              exact ref_add HBUL.out HBW.out HB6.out HB9.out HRW9.out HR2.out HR6.out HE6.out HO9.out
            · have he : E = 9 := by rw [HE3.out, if_neg hcw]
              have hcI : c < sumW (doL l ⟨kind, key, val⟩) := by omega
              have HE9 := Lib.hid he
              clear he hcw
              go_wp2
              go_ret
              exact HEND.out 9 _ HE9.out (.inl (by decide)) (below_next HBW.out HB6.out)
end Go.Proofs.YtdfgdnaejnngoaaGreat
namespace Go.Proofs.YtdfgdnaejnngoaaGreat
open Go.RowKit
/-! The document's ranges; grangerref09.Within. -/
set_option maxRecDepth 100000 in
theorem refMay_any (lo hi : ByteArray) (w : World) : Calls Tryz.prog 67 #[.agg #[.string lo, .string hi]] w fun e w' => e = .returned (.bool (isRng lo hi)) ∧ Below w.heap.size w w' := by
  have hr : isRng lo hi = (decide ((lo.size : Int) ≤ 8) && (decide ((hi.size : Int) ≤ 8) && !(!hi.toList.isEmpty && Op.bytesLess hi.toList lo.toList))) := rfl
  rw [hr, isEmpty_size]
  clear hr
  generalize hb : Op.bytesLess hi.toList lo.toList = b
  by_cases h1 : (lo.size : Int) ≤ 8
  · have h1' : (lo.size : Int) < 9 := by omega
    by_cases h2 : (hi.size : Int) ≤ 8
    · have h2' : (hi.size : Int) < 9 := by omega
      rw [decide_eq_true h1, decide_eq_true h2]
      by_cases h3 : (hi.size : Int) = 0
      · have e3 : ((hi.size : Int) == 0) = true := by simp [h3]
        rw [decide_eq_true h3]
        clear h1 h2 h3
        go_enter Tryz.func67, Tryz.ntmps67
        go_wp2
        go_ret
        exact ⟨rfl, (by repeat (first | assumption | exact Below.refl _ _ | (refine below_step (w := ?_) ?_ ?_ ?_; rotate_left 2; assumption) | refine Below.drew ?_ | refine below_drewN ?_ _ | refine Below.alloc ?_ ?_ _ | refine Below.setCell ?_ ?_ _ | (focus (simp; done)) | (focus (simp; omega)) | omega))⟩
      · have e3 : ((hi.size : Int) == 0) = false := by rw [beq_eq_false_iff_ne]; exact h3
        rw [decide_eq_false h3]
        clear h1 h2 h3
        go_enter Tryz.func67, Tryz.ntmps67
        go_wp2
        go_ret
        exact ⟨by simp, (by repeat (first | assumption | exact Below.refl _ _ | (refine below_step (w := ?_) ?_ ?_ ?_; rotate_left 2; assumption) | refine Below.drew ?_ | refine below_drewN ?_ _ | refine Below.alloc ?_ ?_ _ | refine Below.setCell ?_ ?_ _ | (focus (simp; done)) | (focus (simp; omega)) | omega))⟩
    · have h2' : ¬ (hi.size : Int) < 9 := by omega
      rw [decide_eq_true h1, decide_eq_false h2]
      clear h1 h2
      go_enter Tryz.func67, Tryz.ntmps67
      go_wp2
      go_ret
      exact ⟨rfl, (by repeat (first | assumption | exact Below.refl _ _ | (refine below_step (w := ?_) ?_ ?_ ?_; rotate_left 2; assumption) | refine Below.drew ?_ | refine below_drewN ?_ _ | refine Below.alloc ?_ ?_ _ | refine Below.setCell ?_ ?_ _ | (focus (simp; done)) | (focus (simp; omega)) | omega))⟩
  · have h1' : ¬ (lo.size : Int) < 9 := by omega
    rw [decide_eq_false h1]
    clear h1
    go_enter Tryz.func67, Tryz.ntmps67
    go_wp2
    go_ret
    exact ⟨rfl, (by repeat (first | assumption | exact Below.refl _ _ | (refine below_step (w := ?_) ?_ ?_ ?_; rotate_left 2; assumption) | refine Below.drew ?_ | refine below_drewN ?_ _ | refine Below.alloc ?_ ?_ _ | refine Below.setCell ?_ ?_ _ | (focus (simp; done)) | (focus (simp; omega)) | omega))⟩
set_option maxRecDepth 100000 in
theorem refHas_any (lo hi k : ByteArray) (w : World) : Calls Tryz.prog 94 #[.agg #[.string lo, .string hi], .string k] w fun e w' => e = .returned (.bool (hasR lo hi k)) ∧ Below w.heap.size w w' := by
  have hi1 := fun W => ref07Is_any k W
  have h1 : klt k lo = Op.bytesLess k.toList lo.toList := rfl
  have h2 : klt k hi = Op.bytesLess k.toList hi.toList := rfl
  unfold hasR
  rw [h1, h2, isEmpty_size]
  clear h1 h2
  generalize isKey k = b1 at *
  generalize hb2 : Op.bytesLess k.toList lo.toList = b2 at *
  generalize hb3 : Op.bytesLess k.toList hi.toList = b3 at *
  have HI := Lib.hid hi1
  clear hi1
  cases b1 with
  | false =>
    go_enter Tryz.func94, Tryz.ntmps94
    go_wp2_with (go_at_call 66; (with_reducible refine (HI.out _).mono ?_); rintro e w1 ⟨rfl, hb1⟩)
    go_ret
    exact ⟨rfl, (by repeat (first | assumption | exact Below.refl _ _ | (refine below_step (w := ?_) ?_ ?_ ?_; rotate_left 2; assumption) | refine Below.drew ?_ | refine below_drewN ?_ _ | refine Below.alloc ?_ ?_ _ | refine Below.setCell ?_ ?_ _ | (focus (simp; done)) | (focus (simp; omega)) | omega))⟩
  | true =>
    cases b2 with
    | true =>
      go_enter Tryz.func94, Tryz.ntmps94
      go_wp2_with (go_at_call 66; (with_reducible refine (HI.out _).mono ?_); rintro e w1 ⟨rfl, hb1⟩; have hbx := box_cells hb1; have d0 : w1.cell? ⟨w.heap.size, 0, none⟩ = some (.string lo) := (by rw [Lib.cell_of_heap hbx]; rfl); have d1 : w1.cell? ⟨w.heap.size, 1, none⟩ = some (.string hi) := (by rw [Lib.cell_of_heap hbx]; rfl); clear hbx)
      go_ret
      exact ⟨rfl, (by repeat (first | assumption | exact Below.refl _ _ | (refine below_step (w := ?_) ?_ ?_ ?_; rotate_left 2; assumption) | refine Below.drew ?_ | refine below_drewN ?_ _ | refine Below.alloc ?_ ?_ _ | refine Below.setCell ?_ ?_ _ | (focus (simp; done)) | (focus (simp; omega)) | omega))⟩
    | false =>
      by_cases h3 : (hi.size : Int) = 0
      · have e3 : ((hi.size : Int) == 0) = true := by simp [h3]
        rw [decide_eq_true h3]
        clear h3
        go_enter Tryz.func94, Tryz.ntmps94
        go_wp2_with (go_at_call 66; (with_reducible refine (HI.out _).mono ?_); rintro e w1 ⟨rfl, hb1⟩; have hbx := box_cells hb1; have d0 : w1.cell? ⟨w.heap.size, 0, none⟩ = some (.string lo) := (by rw [Lib.cell_of_heap hbx]; rfl); have d1 : w1.cell? ⟨w.heap.size, 1, none⟩ = some (.string hi) := (by rw [Lib.cell_of_heap hbx]; rfl); clear hbx)
        go_ret
        exact ⟨rfl, (by repeat (first | assumption | exact Below.refl _ _ | (refine below_step (w := ?_) ?_ ?_ ?_; rotate_left 2; assumption) | refine Below.drew ?_ | refine below_drewN ?_ _ | refine Below.alloc ?_ ?_ _ | refine Below.setCell ?_ ?_ _ | (focus (simp; done)) | (focus (simp; omega)) | omega))⟩
      · have e3 : ((hi.size : Int) == 0) = false := by rw [beq_eq_false_iff_ne]; exact h3
        rw [decide_eq_false h3]
        clear h3
        go_enter Tryz.func94, Tryz.ntmps94
        go_wp2_with (go_at_call 66; (with_reducible refine (HI.out _).mono ?_); rintro e w1 ⟨rfl, hb1⟩; have hbx := box_cells hb1; have d0 : w1.cell? ⟨w.heap.size, 0, none⟩ = some (.string lo) := (by rw [Lib.cell_of_heap hbx]; rfl); have d1 : w1.cell? ⟨w.heap.size, 1, none⟩ = some (.string hi) := (by rw [Lib.cell_of_heap hbx]; rfl); clear hbx)
        go_ret
        exact ⟨rfl, (by repeat (first | assumption | exact Below.refl _ _ | (refine below_step (w := ?_) ?_ ?_ ?_; rotate_left 2; assumption) | refine Below.drew ?_ | refine below_drewN ?_ _ | refine Below.alloc ?_ ?_ _ | refine Below.setCell ?_ ?_ _ | (focus (simp; done)) | (focus (simp; omega)) | omega))⟩
set_option maxHeartbeats 1000000 in
set_option maxRecDepth 100000 in
theorem refWithin_any (A : Option Addr) (cap : Nat) (lo hi : ByteArray) (l : List Itm) (w : World) (hel : Elems w A 2 (l.map Itm.cells)) (hl : l.length ≤ 70000) : Calls Tryz.prog 68 #[.slice A l.length cap, .agg #[.string lo, .string hi]] w
    fun e w' => ∃ A' c', e = .returned (.slice A' (withinL lo hi l).length c') ∧ OwnsM w' w.heap.size (.slice A' (withinL lo hi l).length c') (withinL lo hi l) ∧ Below w.heap.size w w' := by
  have hha := fun k W => refHas_any lo hi k W
  have HEL := Lib.hid hel
  have HH := Lib.hid hha
  clear hel hha
  go_enter Tryz.func68, Tryz.ntmps68
  go_wp2
  have hb0 : Below w.heap.size w ((w.alloc (.cells #[.string lo, .string hi] 119)).alloc (.cells #[] 41)) := below_alloc (below_alloc (Below.refl _ w))
  have hx0 : ((w.alloc (.cells #[.string lo, .string hi] 119)).alloc (.cells #[] 41)).heap[w.heap.size]? = some (.cells #[.string lo, .string hi] 119 (0, 0)) := ((Fr.refl (fun _ => False) _).alloc _).row id (heap_alloc_new w _)
  have ho0 : OwnsM ((w.alloc (.cells #[.string lo, .string hi] 119)).alloc (.cells #[] 41)) (w.heap.size + 1) (.slice (some ⟨w.heap.size + 1, 0, none⟩) 0 0) [] := OwnsG.empty (heap_new_at (by simp)) (Nat.le_refl _)
  have HB0 := Lib.hid hb0
  have HX0 := Lib.hid hx0
  have HO0 := Lib.hid ho0
  clear hb0 hx0 ho0
  go_loopw [6, 5] (fun i v wr => ∃ (k c2 : Nat) (A2 : Option Addr), i = .int .i64 k ∧ k ≤ l.length ∧ v = .slice A2 (withinL lo hi (l.take k)).length c2 ∧ OwnsM wr (w.heap.size + 1) (.slice A2 (withinL lo hi (l.take k)).length c2) (withinL lo hi (l.take k)) ∧ Below w.heap.size w wr ∧ wr.heap[w.heap.size]? = some (.cells #[.string lo, .string hi] 119 (0, 0))) (fun i _ _ => l.length + 1 - (intOf i).toNat)
  case atStart => exact ⟨0, 0, _, rfl, Nat.zero_le _, rfl, HO0.out, HB0.out, HX0.out⟩
  case round =>
    obtain ⟨k, c2, A2, rfl, hk, rfl, how, hbel, hbox⟩ := hrel
    by_cases hkl : k < l.length
    · have hkI : (k : Int) < (l.length : Int) := by omega
      obtain ⟨y, hy⟩ := get_lt hkl
      obtain ⟨g, off, rfl, hglt, d0, d1⟩ := itm_rowR (HEL.out.below hbel) hy
      have x0 : wr.cell? ⟨w.heap.size, 0, none⟩ = some (.string lo) := by rw [Lib.cell_of_heap hbox]; rfl
      have x1 : wr.cell? ⟨w.heap.size, 1, none⟩ = some (.string hi) := by rw [Lib.cell_of_heap hbox]; rfl
      have hxl := lt_of_row hbox
      have hwt := within_take (lo := lo) (hi := hi) hy
      have hwl := within_len lo hi (l.take k)
      have htl : (l.take k).length ≤ 70000 := by rw [List.length_take]; omega
      have hha := fun W => HH.out y.key W
      have HOW := Lib.hid how
      have HBEL := Lib.hid hbel
      have HBX := Lib.hid hbox
      obtain ⟨hq, hhq⟩ : ∃ hq, hasR lo hi y.key = hq := ⟨_, rfl⟩
      rw [hhq] at hha hwt
      have HHA := Lib.hid hha
      have B0 : Below wr.heap.size wr wr.drew := (Below.refl _ wr).drew
      clear hha how hbel hbox hy hhq
      obtain ⟨yk, yv⟩ := y
      dsimp only at d0 d1 HHA
      generalize withinL lo hi (l.take k) = D at *
      have HWT := Lib.hid hwt
      clear hwt
      have g0 : wr.drew.cell? ⟨g, off + k * 2, none⟩ = some (.string yk) := d0
      have g1 : wr.drew.cell? ⟨g, off + k * 2 + 1, none⟩ = some (.string yv) := d1
      go_wp2
      refine rg_start (n := 7) (fun w' => w'.cell? ⟨w.heap.size, 0, none⟩ = some (.string lo) ∧ w'.cell? ⟨w.heap.size, 1, none⟩ = some (.string hi) ∧ w.heap.size < w'.heap.size ∧ w'.cell? ⟨g, off + k * 2, none⟩ = some (.string yk) ∧ w'.cell? ⟨g, off + k * 2 + 1, none⟩ = some (.string yv) ∧ g < w'.heap.size ∧ Below wr.heap.size wr w') #[false, false, false, false, false, false, false] (by kernel_rfl) rfl rfl ⟨x0, x1, hxl, g0, g1, hglt, B0⟩ (fun hHeld => ?_)
      refine rg_take (i := 0) (N := (some 14)) (v := ?_) (a' := ?_) #[true, false, false, false, false, false, false] rfl rfl (by kernel_rfl) (fun _ _ _ h => h) (by rfl) ?_ hHeld ?_ ?_
      rotate_left 2
      · rintro w' ⟨s0, s1, s2, s3, s4, s5, s6⟩
        go_simp
        try with_reducible rfl
      · simp only [Act.put, List.setIfInBounds_toArray, List.set_cons_zero, List.set_cons_succ]
        rfl
      refine rg_take (i := 1) (N := (some 15)) (v := ?_) (a' := ?_) #[true, true, false, false, false, false, false] rfl rfl (by kernel_rfl) (fun _ _ _ h => h) (by rfl) ?_ hHeld ?_ ?_
      rotate_left 2
      · rintro w' ⟨s0, s1, s2, s3, s4, s5, s6⟩
        go_simp
        try with_reducible rfl
      · simp only [Act.put, List.setIfInBounds_toArray, List.set_cons_zero, List.set_cons_succ]
        rfl
      refine rg_take (i := 2) (N := (some 16)) (v := ?_) (a' := ?_) #[true, true, true, false, false, false, false] rfl rfl (by kernel_rfl) (fun _ _ _ h => h) (by rfl) ?_ hHeld ?_ ?_
      rotate_left 2
      · rintro w' ⟨s0, s1, s2, s3, s4, s5, s6⟩
        go_simp
        try with_reducible rfl
      · simp only [Act.put, List.setIfInBounds_toArray, List.set_cons_zero, List.set_cons_succ]
        rfl
      refine rg_take (i := 3) (N := (some 17)) (v := ?_) (a' := ?_) #[true, true, true, true, false, false, false] rfl rfl (by kernel_rfl) (fun _ _ _ h => h) (by rfl) ?_ hHeld ?_ ?_
      rotate_left 2
      · rintro w' ⟨s0, s1, s2, s3, s4, s5, s6⟩
        go_simp
        try with_reducible rfl
      · simp only [Act.put, List.setIfInBounds_toArray, List.set_cons_zero, List.set_cons_succ]
        rfl
      refine rg_take (i := 4) (N := (some 18)) (v := ?_) (a' := ?_) #[true, true, true, true, true, false, false] rfl rfl (by kernel_rfl) (fun _ _ _ h => h) (by rfl) ?_ hHeld ?_ ?_
      rotate_left 2
      · rintro w' ⟨s0, s1, s2, s3, s4, s5, s6⟩
        go_simp
        try with_reducible rfl
      · simp only [Act.put, List.setIfInBounds_toArray, List.set_cons_zero, List.set_cons_succ]
        rfl
      refine rg_take (i := 5) (N := (some 19)) (v := ?_) (a' := ?_) #[true, true, true, true, true, true, false] rfl rfl (by kernel_rfl) (fun _ _ _ h => h) (by rfl) ?_ hHeld ?_ ?_
      rotate_left 2
      · rintro w' ⟨s0, s1, s2, s3, s4, s5, s6⟩
        go_simp
        try with_reducible rfl
      · simp only [Act.put, List.setIfInBounds_toArray, List.set_cons_zero, List.set_cons_succ]
        rfl
      refine rg_one (i := 6) #[true, true, true, true, true, true, true] rfl (by kernel_rfl) (by rfl) (fun K hK => ?_)
      obtain ⟨s0, s1, s2, s3, s4, s5, s6⟩ := hHeld
      repeat go_step
      ((with_reducible refine (HHA.out _).mono ?_); rintro e w1 ⟨rfl, hb1⟩)
      try dsimp only
      refine hK.out _ _ ?_ (fun hHeld => ?_)
      · (repeat (first | (with_reducible assumption) | (with_reducible apply And.intro) | (with_reducible refine keep_cell (w := ?_) ?_ ?_ ?_; rotate_left; with_reducible assumption) | (with_reducible refine keep_cell_alloc ?_ ?_) | (with_reducible refine keep_lt (w := ?_) ?_ ?_; rotate_left; with_reducible assumption) | (with_reducible refine keep_lt_alloc ?_) | (with_reducible refine below_next (w := ?_) ?_ ?_; rotate_left 2; with_reducible assumption) | (with_reducible refine below_alloc ?_) | (with_reducible refine Below.drew ?_) | (with_reducible refine keep_lt_drew ?_) | (with_reducible refine keep_cell_drew ?_)))
      clear hK K
      clear s0 s1 s2 s3 s4 s5 s6
      refine rg_done (by kernel_rfl) ?_
      obtain ⟨s0, s1, s2, s3, s4, s5, s6⟩ := hHeld
      have HB1 := Lib.hid s6
      clear s6
      cases hq with
      | false =>
        rw [if_neg (by decide)] at HWT
        go_wp2
        refine ⟨⟨k + 1, c2, A2, by go_num, by omega, by rw [HWT.out], by rw [HWT.out]; exact HOW.out.below HB1.out, below_next HBEL.out HB1.out, box_below HBX.out HB1.out⟩, ?_⟩
        simp [intOf]
        omega
      | true =>
        rw [if_pos rfl] at HWT
        go_wp2_with (at_builtin; (refine itm_append rfl (some 27) rfl _ _ rfl (w.heap.size + 1) (.slice A2 D.length c2) D [⟨yk, yv⟩] 1 ⟨w1.heap.size, 0, none⟩ 1 rfl rfl rfl (OwnsG.alloc (f := Itm.cells) (k := 2) (e := 41) (HOW.out.below HB1.out) _) (by simpa using ItmAt.cells (x := ⟨yk, yv⟩) (T := 41) (heap_alloc_new w1 _)) (by simp; omega) (by have := HB1.out.size; simp; omega) (D.length + 1) (by simp) ?_; intro A3 c3 w3 ho3 hf3; have HO3 := Lib.hid ho3; have HF3 := Lib.hid hf3; clear ho3 hf3))
        have hb1w : Below w.heap.size w (w1.alloc (.cells #[.string yk, .string yv] 41)) := below_alloc (below_next HBEL.out HB1.out)
        refine ⟨⟨k + 1, c3, A3, by go_num, by omega, by rw [HWT.out, List.length_append]; rfl, by rw [HWT.out, List.length_append]; exact HO3.out, hb1w.trans (HF3.out.to_below hb1w.size (fun q hq e => own_geR HOW.out (by omega) e)), HF3.out.row (fun e => own_geR HOW.out (Nat.lt_succ_self _) e) (box_below HBX.out (below_alloc HB1.out))⟩, ?_⟩
        simp [intOf]
        omega
    · obtain rfl : k = l.length := by omega
      rw [List.take_length] at how
      rw [List.take_length]
      have HOW := Lib.hid how
      have HB := Lib.hid hbel
      clear how hbel
      go_wp2
      go_ret
      exact ⟨A2, c2, rfl, HOW.out.base (Nat.le_succ _), HB.out⟩
end Go.Proofs.YtdfgdnaejnngoaaGreat
