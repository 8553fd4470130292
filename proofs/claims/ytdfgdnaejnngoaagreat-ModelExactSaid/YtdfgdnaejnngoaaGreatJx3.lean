import Derived.Test.YtdfgdnaejnngoaaGreatJx2
import Derived.Test.YtdfgdnaejnngoaaGreatJx1
import Derived.Lib.Builder
import Derived.Lib.AppendStr
import Derived.Lib.UnsafeStr
import Derived.Lib.Strings
import Derived.Lib.Slices
import Derived.Lib.Walk
import Derived.Deep.DrawnRows
import Derived.Maps.AppendAt
import Derived.IntWalk
import Derived.Laws.IdiomStrings
import Derived.Laws.CopyRow
import Derived.Laws.CopyOwn
import Derived.ArgAppend
set_option linter.unusedVariables false
set_option linter.unusedSimpArgs false
namespace Go.Proofs.YtdfgdnaejnngoaaGreat
open Go.RowKit

/-- a pen.Out in block b, its buffer in block G, holding bs; all from block B on -/
def OutAt (w : World) (B b : Nat) (G : Option Nat) (bs : List Value) : Prop :=
  B ≤ b ∧ ∃ p v, w.heap[b]? = some (.cells #[p, v] 180 (0, 0)) ∧ (p = .pointer none ∨ p = .pointer (some ⟨b, 0, none⟩)) ∧ w.ownsRow B 5 1 v bs.length bs ∧ v.ownBlock = G ∧ G ≠ some b

/-- what a method of it may turn, and where its buffer lies behind it -/
structure OutStep (w w' : World) (b : Nat) (G G' : Option Nat) : Prop where
  fr : Fr (fun k => k = b ∨ G = some k) w w'
  at_ : G' = G ∨ ∃ g, G' = some g ∧ w.heap.size ≤ g

theorem OutAt.lt {w : World} {B b : Nat} {G : Option Nat} {bs : List Value} (h : OutAt w B b G bs) : b < w.heap.size := by
  obtain ⟨_, p, v, hb, _⟩ := h
  exact lt_of_row hb
theorem OutAt.glt {w : World} {B b : Nat} {G : Option Nat} {bs : List Value} (h : OutAt w B b G bs) : ∀ g, G = some g → B ≤ g ∧ g < w.heap.size := by
  obtain ⟨_, p, v, hb, _, hown, hG, _⟩ := h
  intro g hg
  exact hown.lt g (hG.trans hg)
theorem OutStep.refl {w : World} {b : Nat} {G : Option Nat} : OutStep w w b G G := ⟨Fr.refl _ _, .inl rfl⟩
theorem OutStep.trans {a w w' : World} {b : Nat} {G G' G'' : Option Nat} (h : OutStep a w b G G') (k : OutStep w w' b G' G'') : OutStep a w' b G G'' := by
  refine ⟨h.fr.trans k.fr ?_, ?_⟩
  · rintro i hi (e | e)
    · exact .inl e
    · rcases h.at_ with e' | ⟨g, e', hg⟩
      · exact .inr (e' ▸ e)
      · rw [e'] at e; injection e with e; omega
  · rcases k.at_ with e | ⟨g, e, hg⟩
    · rcases h.at_ with e' | ⟨g, e', hg⟩
      · exact .inl (e.trans e')
      · exact .inr ⟨g, e.trans e', hg⟩
    · exact .inr ⟨g, e, Nat.le_trans h.fr.size hg⟩
theorem OutAt.fr {S : Nat → Prop} {w w' : World} {B b : Nat} {G : Option Nat} {bs : List Value} (h : OutAt w B b G bs) (hf : Fr S w w') (hb : ¬ S b) (hg : ∀ g, G = some g → ¬ S g) : OutAt w' B b G bs := by
  obtain ⟨hB, p, v, hbk, hp, hown, hG, hne⟩ := h
  refine ⟨hB, p, v, hf.row hb hbk, hp, ?_, hG, hne⟩
  refine ⟨hown.1, ?_⟩
  rcases hown.2 with h2 | ⟨g, cap, cur, hv, hBg, hh, r⟩
  · exact .inl h2
  · exact .inr ⟨g, cap, cur, hv, hBg, hf.row (hg g (by rw [← hG, hv]; rfl)) hh, r⟩
theorem OutAt.below {w w' : World} {B b : Nat} {G : Option Nat} {bs : List Value} (h : OutAt w B b G bs) (hb : Below w.heap.size w w') : OutAt w' B b G bs :=
  h.fr (S := fun _ => False) (Fr.of_below hb) (fun h => h) (fun _ _ h => h)
theorem OutAt.new (w : World) : OutAt (w.alloc (.cells #[.pointer none, .slice none 0 0] 180)) w.heap.size w.heap.size none [] :=
  ⟨Nat.le_refl _, _, _, heap_alloc_new w _, .inl rfl, World.ownsRow_nil _ _ _ _, rfl, by simp⟩

theorem info_byte : (Tryz.prog.info? 5).map (fun i => (i.zero, i.size, i.bytes)) = some (some (.int .u8 0), 1, 1) := by kernel_rfl
theorem info_builder : (Tryz.prog.info? 178).map (·.size) = some 2 := by kernel_rfl
theorem lies_builder : liesAt Tryz.prog Tryz.prog.depth 180 (2 / Tryz.prog.cellsOf 180) 0 178 1 = true := by kernel_rfl

set_option maxRecDepth 100000 in
theorem copyCheck_any (B b : Nat) (G : Option Nat) (bs : List Value) (w : World) (h : OutAt w B b G bs) :
    Calls Tryz.prog 157 #[.pointer (some ⟨b, 0, none⟩)] w fun e w' => e = .returned (.tuple #[]) ∧ OutAt w' B b G bs ∧ OutStep w w' b G G := by
  obtain ⟨j, hj, hjs⟩ := Option.map_eq_some_iff.1 info_builder
  obtain ⟨hB, p, v, hbk, hp, hown, hG, hne⟩ := h
  have hlt := lt_of_row hbk
  have hsh : w.shape? b = some (180, 2) := by simp [World.shape?, hbk]
  have h0 : w.cell? ⟨b, 0, none⟩ = some p := by rw [Lib.cell_of_heap hbk]; rfl
  have hfz := Lib.frozen_of_heap hbk 0
  rcases hp with rfl | rfl
  · have key : Calls Tryz.prog 157 #[.pointer (some ⟨b, 0, none⟩)] w fun e w' => e = .returned (.tuple #[]) ∧ w.setCell ⟨b, 0, none⟩ (.pointer (some ⟨b, 0, none⟩)) = w' := by
      clear hbk hown
      go_enter Tryz.func157, Tryz.ntmps157
      go_wp2
      rw [Lib.run_to_unsafe w ⟨b, 0, none⟩ Tryz.underlying176 Tryz.underlying216 hj (by rw [hjs]; decide) hsh (Nat.zero_lt_succ 1)]
      simp only [Result.andThen]
      rw [Oper.upon_value]
      go_wp2
      rw [run_callFunc_extern Tryz.func165 (by kernel_rfl) (by kernel_rfl) (by kernel_rfl) (e := Extern.AbiNoEscape.same) (by kernel_rfl)]
      rw [Lib.run_noEscape]
      simp only [Result.andThen]
      rw [Oper.upon_value]
      go_wp2
      rw [Lib.run_from_unsafe w ⟨b, 0, none⟩ Tryz.underlying216 Tryz.underlying176 hj hsh lies_builder]
      simp only [Result.andThen]
      rw [Oper.upon_value]
      go_wp2
      go_end0
      exact ⟨rfl, rfl⟩
    refine key.mono ?_
    rintro e w' ⟨rfl, rfl⟩
    refine ⟨rfl, ⟨hB, _, v, ?_, .inr rfl, ?_, hG, hne⟩, ⟨(Fr.refl _ _).setCell (fun _ => .inl rfl) _, .inl rfl⟩⟩
    · simp [World.setCell, Array.getElem?_modify, hbk]
    · exact hown.kept (row := some b) ⟨rfl, rfl, rfl, by simp [World.setCell], fun k _ hk => Below.heap_setCell _ _ _ _ (fun e => hk (by simp [e]))⟩ (Or.inr (by rw [hG]; exact hne))
  · have key : Calls Tryz.prog 157 #[.pointer (some ⟨b, 0, none⟩)] w fun e w' => e = .returned (.tuple #[]) ∧ w = w' := by
      clear hbk hown
      go_enter Tryz.func157, Tryz.ntmps157
      go_wp2
      rw [Lib.run_neq_ptr_same w _ Tryz.underlying176 hj]
      go_wp2
      go_end0
      exact ⟨rfl, rfl⟩
    refine key.mono ?_
    rintro e w' ⟨rfl, rfl⟩
    exact ⟨rfl, ⟨hB, _, v, hbk, .inr rfl, hown, hG, hne⟩, OutStep.refl⟩

/-- append of a string's bytes: where the new row lies -/
theorem run_append_string_at {P : Program} (w : World) (base : Nat) (t u ty e : TypeId) (i : TypeInfo) (ht : P.underlying t = some (.slice e)) (hu : P.underlying u = some .string) (hi : P.info? e = some i) (hz : i.zero = some (.int .u8 0))
    (hsize : i.size = 1) (hby : i.bytes = 1) (v : Value) (n : Nat) (xs : List Value) (hown : w.ownsRow base e 1 v n xs) (s : ByteArray)
    (h63 : n + s.size ≤ 1000000000000) (hbase : base ≤ w.heap.size) :
    ∃ v' w', (Builtin.append_ #[t, u] ty #[v, .string s]).run P w = .ok v' w' ∧ w'.ownsRow base e 1 v' (n + s.size) (xs ++ Lib.strCells s) ∧ w.grownBy w' v.ownBlock ∧ (v'.ownBlock = v.ownBlock ∨ v'.ownBlock = some w.heap.size) := by
  obtain ⟨v', w', hr, h1, h2, h3⟩ := Lib.run_append_own_string (P := P) w base t u ty e i ht hu hi hz hsize hby v n xs hown s (by unfold maxLen; omega) (by omega) hbase
  refine ⟨v', w', hr, h1, h2, ?_⟩
  have hxl : xs.length = n := by simpa using hown.1
  rcases hown.2 with ⟨rfl, rfl⟩ | ⟨g, cap, cur, rfl, hbg, hg, hnc, hcm, hcs, htake⟩
  · by_cases hm : s.size = 0
    · rw [h3.2 ⟨rfl, hm⟩]; exact .inl rfl
    · have hr2 := run_append_nil_string (P := P) w t u ty e i (.int .u8 0) ht hu hi hz s (by omega) (by omega) (by rw [hby]; omega)
      rw [hr2] at hr
      injection hr with hv _
      exact .inr (by rw [← hv]; rfl)
  · have hcs' : cur.size = cap := by simpa using hcs
    by_cases hroom : n + s.size ≤ cap
    · have hr2 := Lib.run_append_room_string (P := P) w t u ty e i ht hu hi hsize g n cap cur hg s hroom (by omega)
      rw [hr2] at hr
      injection hr with hv _
      exact .inl (by rw [← hv]; rfl)
    · have holds : ∀ j u, xs[j]? = some u → w.cell? ((⟨g, 0, none⟩ : Addr).add j) = some u := hown.cells (g := g) rfl
      have hr2 := Lib.run_append_grow_string (P := P) w t u ty e i (.int .u8 0) ht hu hi hz ⟨g, 0, none⟩ n cap xs (by rw [hsize]; simpa using hxl) holds s (by omega) (by omega) (by rw [hby]; exact growslice_fits (by omega) (by omega))
      rw [hr2] at hr
      injection hr with hv _
      exact .inr (by rw [← hv]; rfl)

theorem wpList_append_string_at {P : Program} (w : World) {ops : Array Oper} {rest : List Oper} {o : Oper} {a : Act} {Q : Exit → Act → World → Prop} (hgd : o.guard = none) (sl x : Operand) (t u : TypeId)
    (ho : o.op = .call { callee := .builtin .append, args := #[sl, x], argTypes := #[t, u] })
    (base : Nat) (e : TypeId) (i : TypeInfo) (ht : P.underlying t = some (.slice e)) (hu : P.underlying u = some .string) (hi : P.info? e = some i) (hz : i.zero = some (.int .u8 0))
    (hsize : i.size = 1) (hby : i.bytes = 1)
    (v : Value) (n : Nat) (xs : List Value) (hs : a.eval sl = v) (hown : w.ownsRow base e 1 v n xs) (s : ByteArray) (hx : a.eval x = .string s)
    (h63 : n + s.size ≤ 1000000000000) (hbase : base ≤ w.heap.size)
    (h : ∀ v' w', w'.ownsRow base e 1 v' (n + s.size) (xs ++ Lib.strCells s) → w.grownBy w' v.ownBlock → (v'.ownBlock = v.ownBlock ∨ v'.ownBlock = some w.heap.size) → wpList P ops Q rest (a.put o.dst v') w') : wpList P ops Q (o :: rest) a w := by
  refine wpList_plain hgd fun K hK => ?_
  obtain ⟨v', w', hr, h2, h3, h4⟩ := run_append_string_at (P := P) w base t u o.type e i ht hu hi hz hsize hby v n xs hown s h63 hbase
  unfold Oper.wp execOp
  simp only [ho, resolve, invoke, builtin, Sem.run_bind, Sem.run_pure, Result.andThen_ok, List.map_toArray, List.map_cons, List.map_nil, hs, hx, hr]
  exact hK _ _ (h v' w' h2 h3 h4)

/-- a new buffer laid into the field -/
theorem OutAt.put {w : World} {B b : Nat} {p v v' : Value} {bs' : List Value} {G' : Option Nat} (hB : B ≤ b) (hb : w.heap[b]? = some (.cells #[p, v] 180 (0, 0))) (hp : p = .pointer none ∨ p = .pointer (some ⟨b, 0, none⟩))
    (hown : w.ownsRow B 5 1 v' bs'.length bs') (hG : v'.ownBlock = G') : OutAt (w.setCell ⟨b, 1, none⟩ v') B b G' bs' := by
  have hne := Lib.ownBlock_ne hown hb (by decide)
  refine ⟨hB, p, v', ?_, hp, ?_, hG, hG ▸ hne⟩
  · simp [World.setCell, Array.getElem?_modify, hb]
  · exact hown.kept (row := some b) ⟨rfl, rfl, rfl, by simp [World.setCell], fun k _ hk => Below.heap_setCell _ _ _ _ (fun e => hk (by simp [e]))⟩ (Or.inr hne)

set_option maxHeartbeats 1000000 in
set_option maxRecDepth 100000 in
theorem writeByte_any (B b : Nat) (G : Option Nat) (bs : List Value) (c : Int) (w : World) (h : OutAt w B b G bs) (hlen : bs.length + 1 ≤ 1000000000000) (hBw : B ≤ w.heap.size) :
    Calls Tryz.prog 140 #[.pointer (some ⟨b, 0, none⟩), .int .u8 c] w fun e w' => e = .returned .nilIface ∧ ∃ G', OutAt w' B b G' (bs ++ [.int .u8 c]) ∧ OutStep w w' b G G' := by
  obtain ⟨i0, hi, hz0, hz1, hz2⟩ := info_parts info_byte
  go_enter Tryz.func140, Tryz.ntmps140
  go_wp2_with (go_at_call 157; (with_reducible refine (copyCheck_any B b G bs _ h).mono ?_))
  rintro e w1 ⟨rfl, h1, hb1⟩
  have h1' := h1
  obtain ⟨hB, p, v, hbk, hp, hown, hG, hne⟩ := h1
  have c1 : w1.cell? ⟨b, 1, none⟩ = some v := by rw [Lib.cell_of_heap hbk]; rfl
  go_wp2_with (at_builtin; refine wpList_append_own_at _ rfl _ _ 30 rfl B 5 i0 (.int .u8 0) 1 1 Tryz.underlying30 hi hz0 hz1 hz2 rfl (by decide) _ _ _ rfl (hown.alloc _) ⟨w1.heap.size, 0, none⟩ 1 1 [.int .u8 c] rfl rfl ?c1 ?c2 ?c3 ?c4 ?c5 ?_)
  case c1 =>
    intro j u hj
    match j, hj with
    | 0, hj => simp at hj; subst hj; simp [Addr.add]
  case c2 => intro u hu; simp at hu; subst hu; rfl
  case c3 => unfold maxLen; omega
  case c4 => omega
  case c5 => have := hb1.fr.size; simp; omega
  intro v' w2 hown' hgrow _ hat
  have hlt := lt_of_row hbk
  have hb2 : w2.heap[b]? = some (.cells #[p, v] 180 (0, 0)) := by
    rw [hgrow.block b (by simp; omega) (fun e => hne e.symm), Lib.alloc_old w1 _ b hlt]
    exact hbk
  have d1 : w2.cell? ⟨b, 1, none⟩ = some v := by rw [Lib.cell_of_heap hb2]; rfl
  have f1 : w2.frozen? ⟨b, 1, none⟩ = false := Lib.frozen_of_heap hb2 1
  obtain ⟨g, cap, rfl⟩ : ∃ g cap, v' = .slice (some ⟨g, 0, none⟩) (bs.length + 1) cap := by
    rcases hown'.2 with ⟨_, h0⟩ | ⟨g, cap, cur, hv, _⟩
    · omega
    · exact ⟨g, cap, hv⟩
  have Hg := Lib.hid hgrow
  have Ha := Lib.hid hat
  clear hgrow hat hown
  go_wp2
  go_ret
  refine ⟨rfl, some g, OutAt.put hB hb2 hp (bs' := bs ++ [.int .u8 c]) (by simpa using hown') rfl, ?_⟩
  refine hb1.trans ⟨(((Fr.refl _ w1).alloc _).grown Hg.out (fun i _ e => .inr e)).setCell (p := ⟨b, 1, none⟩) (fun _ => .inl rfl) _, ?_⟩
  rcases Ha.out with e | e
  · exact .inl (by rw [← e]; rfl)
  · exact .inr ⟨g, rfl, by have : g = w1.heap.size + 1 := by simpa [Value.ownBlock] using e
                           omega⟩
end Go.Proofs.YtdfgdnaejnngoaaGreat
namespace Go.Proofs.YtdfgdnaejnngoaaGreat
open Go.RowKit

/-- the writer holds the bytes l -/
def OutB (w : World) (B b : Nat) (G : Option Nat) (l : List UInt8) : Prop := OutAt w B b G (Lib.byteCells l)
theorem byteCells_append (l r : List UInt8) : Lib.byteCells (l ++ r) = Lib.byteCells l ++ Lib.byteCells r := by simp [Lib.byteCells]
theorem byteCells_one (x : UInt8) : Lib.byteCells [x] = [.int .u8 x.toNat] := by simp [Lib.byteCells]
theorem strCells_eq (s : ByteArray) : Lib.strCells s = Lib.byteCells s.data.toList := rfl

theorem writeByte_B (B b : Nat) (G : Option Nat) (l : List UInt8) (x : UInt8) (w : World) (h : OutB w B b G l) (hlen : l.length + 1 ≤ 1000000000000) (hBw : B ≤ w.heap.size) :
    Calls Tryz.prog 140 #[.pointer (some ⟨b, 0, none⟩), .int .u8 (x.toNat : Int)] w fun e w' => e = .returned .nilIface ∧ ∃ G', OutB w' B b G' (l ++ [x]) ∧ OutStep w w' b G G' := by
  refine (writeByte_any B b G (Lib.byteCells l) x.toNat w h (by rw [Lib.byteCells_length]; exact hlen) hBw).mono ?_
  rintro e w' ⟨he, G', h1, h2⟩
  exact ⟨he, G', by unfold OutB; rw [byteCells_append, byteCells_one]; exact h1, h2⟩

set_option maxHeartbeats 1000000 in
set_option maxRecDepth 100000 in
theorem writeString_B (B b : Nat) (G : Option Nat) (l : List UInt8) (s : ByteArray) (w : World) (h : OutB w B b G l) (hlen : l.length + s.size ≤ 1000000000000) (hBw : B ≤ w.heap.size) :
    Calls Tryz.prog 141 #[.pointer (some ⟨b, 0, none⟩), .string s] w fun e w' => e = .returned (.tuple #[.int .i64 s.size, .nilIface]) ∧ ∃ G', OutB w' B b G' (l ++ s.data.toList) ∧ OutStep w w' b G G' := by
  obtain ⟨i0, hi, hz0, hz1, hz2⟩ := info_parts info_byte
  unfold OutB at h
  go_enter Tryz.func141, Tryz.ntmps141
  go_wp2_with (go_at_call 157; (with_reducible refine (copyCheck_any B b G (Lib.byteCells l) _ h).mono ?_))
  rintro e w1 ⟨rfl, h1, hb1⟩
  obtain ⟨hB, p, v, hbk, hp, hown, hG, hne⟩ := h1
  have c1 : w1.cell? ⟨b, 1, none⟩ = some v := by rw [Lib.cell_of_heap hbk]; rfl
  go_wp2_with (at_builtin; refine wpList_append_string_at _ rfl _ _ 30 9 rfl B 5 i0 Tryz.underlying30 Tryz.underlying9 hi hz0 hz1 hz2 _ _ _ rfl hown s rfl ?c3 ?c5 ?_)
  case c3 => rw [Lib.byteCells_length]; exact hlen
  case c5 => have := hb1.fr.size; omega
  intro v' w2 hown' hgrow hat
  have hlt := lt_of_row hbk
  have hb2 : w2.heap[b]? = some (.cells #[p, v] 180 (0, 0)) := by
    rw [hgrow.block b hlt (fun e => hne e.symm)]
    exact hbk
  have d1 : w2.cell? ⟨b, 1, none⟩ = some v := by rw [Lib.cell_of_heap hb2]; rfl
  have f1 : w2.frozen? ⟨b, 1, none⟩ = false := Lib.frozen_of_heap hb2 1
  obtain ⟨ao, n', cap, rfl⟩ : ∃ ao n' cap, v' = .slice ao n' cap := by
    rcases hown'.2 with ⟨hv, _⟩ | ⟨g, cap, cur, hv, _⟩
    · exact ⟨_, _, _, hv⟩
    · exact ⟨_, _, _, hv⟩
  have Hg := Lib.hid hgrow
  have Ha := Lib.hid hat
  have Hw := Lib.hid hown'
  clear hgrow hat hown hown'
  go_wp2
  go_ret2
  refine ⟨rfl, _, OutAt.put hB hb2 hp (bs' := Lib.byteCells (l ++ s.data.toList)) (by rw [byteCells_append, ← strCells_eq]; simpa [Lib.strCells_length] using Hw.out) rfl, ?_⟩
  refine hb1.trans ⟨((Fr.refl _ w1).grown Hg.out (fun i _ e => .inr e)).setCell (p := ⟨b, 1, none⟩) (fun _ => .inl rfl) _, ?_⟩
  rcases Ha.out with e | e
  · exact .inl e
  · exact .inr ⟨_, e, Nat.le_refl _⟩

theorem unsafeString_none (W : World) (q : Option Addr) : (Builtin.unsafeString_ #[208, 3] 9 #[.pointer q, .int .i64 0]).run Tryz.prog W = .ok (.string .empty) W := Lib.run_unsafeString_none W _ _ _ q
theorem cells_byte : Tryz.prog.cellsOf 5 = 1 := by kernel_rfl

theorem fr_freeze {S : Nat → Prop} {a w : World} (h : Fr S a w) {p : Addr} (hp : p.block < a.heap.size → S p.block) (n : Nat) : Fr S a (w.freeze p n) := by
  unfold World.freeze
  split
  · exact h
  · refine h.trans (S' := fun k => k = p.block) ⟨rfl, rfl, rfl, by simp, fun k _ hn => ?_⟩ (fun i hi e => by subst e; exact hp hi)
    simp only [Array.getElem?_modify]
    rw [if_neg (fun e => hn e.symm)]

set_option maxHeartbeats 2000000 in
set_option maxRecDepth 100000 in
theorem builderString_full (B b : Nat) (G : Option Nat) (l : List UInt8) (w : World) (h : OutB w B b G l) (h0 : l ≠ []) :
    Calls Tryz.prog 145 #[.pointer (some ⟨b, 0, none⟩)] w fun e w' => e = .returned (.string ⟨l.toArray⟩) ∧ Fr (fun k => G = some k) w w' := by
  obtain ⟨hB, p, v, hbk, hp, hown, hG, hne⟩ := h
  have hl0 : l.length ≠ 0 := by simpa using h0
  rw [Lib.byteCells_length] at hown
  obtain ⟨g, cap, cur, rfl, hbg, hg, hnc, hcm, hcs, htake⟩ : ∃ g cap cur, v = .slice (some ⟨g, 0, none⟩) l.length cap ∧ B ≤ g ∧ w.heap[g]? = some (.cells cur 5 (0, 0)) ∧ l.length ≤ cap ∧ cap ≤ maxLen ∧ cur.size = cap * 1 ∧ cur.toList.take (l.length * 1) = Lib.byteCells l := by
    rcases hown.2 with ⟨_, hz⟩ | ⟨g, cap, cur, hv, r⟩
    · exact absurd hz hl0
    · exact ⟨g, cap, cur, hv, r⟩
  have c1 : w.drew.cell? ⟨b, 1, none⟩ = some (.slice (some ⟨g, 0, none⟩) l.length cap) := by
    have : w.drew.heap[b]? = some (.cells #[p, .slice (some ⟨g, 0, none⟩) l.length cap] 180 (0, 0)) := hbk
    rw [Lib.cell_of_heap this]; rfl
  have hSD : (Builtin.unsafeSliceData_ #[30] 208 #[.slice (some ⟨g, 0, none⟩) l.length cap]).run Tryz.prog w.drew = .ok (.pointer (some ⟨g, 0, none⟩)) w.drew :=
    Lib.run_unsafeSliceData_row _ _ _ _ _ _ (by omega)
  have hUS : (Builtin.unsafeString_ #[208, 3] 9 #[.pointer (some ⟨g, 0, none⟩), .int .i64 l.length]).run Tryz.prog w.drew = .ok (.string ⟨l.toArray⟩) (w.drew.freeze ⟨g, 0, none⟩ l.length) := by
    refine Lib.run_unsafeString_row w.drew 208 3 9 5 Tryz.underlying208 cells_byte g cur.size (by have hg' : w.drew.heap[g]? = some (.cells cur 5 (0, 0)) := hg; simp [World.shape?, hg']) l h0 (by omega) (by unfold maxLen at hcm; omega) ?_
    intro j x hx
    have := hown.cells (g := g) rfl j (.int .u8 x.toNat) (by simp [Lib.byteCells, hx])
    exact this
  clear hown htake hcs hcm hg
  go_enter Tryz.func145, Tryz.ntmps145
  go_wp2
  go_region
  all_goals (go_wp2; go_ret; exact ⟨rfl, fr_freeze (Fr.refl _ w).drew (p := ⟨g, 0, none⟩) (fun _ => by rw [← hG]; rfl) _⟩)

set_option maxHeartbeats 2000000 in
set_option maxRecDepth 100000 in
theorem builderString_nil (b : Nat) (S : Nat → Prop) (p : Value) (w : World) (hbk : w.heap[b]? = some (.cells #[p, .slice none 0 0] 180 (0, 0))) :
    Calls Tryz.prog 145 #[.pointer (some ⟨b, 0, none⟩)] w fun e w' => e = .returned (.string ⟨#[]⟩) ∧ Fr S w w' := by
  have hUS := unsafeString_none
  have c1 : w.drew.cell? ⟨b, 1, none⟩ = some (.slice none 0 0) := by
    have : w.drew.heap[b]? = some (.cells #[p, .slice none 0 0] 180 (0, 0)) := hbk
    rw [Lib.cell_of_heap this]; rfl
  have hSD : (Builtin.unsafeSliceData_ #[30] 208 #[.slice none 0 0]).run Tryz.prog w.drew = .ok (.pointer none) w.drew := rfl
  clear hbk
  go_enter Tryz.func145, Tryz.ntmps145
  go_wp2
  go_region
  all_goals (go_wp2; go_ret; exact ⟨rfl, (Fr.refl _ w).drew⟩)

set_option maxHeartbeats 2000000 in
set_option maxRecDepth 100000 in
theorem builderString_room (b g cap : Nat) (S : Nat → Prop) (p : Value) (cur : Array Value) (w : World) (hbk : w.heap[b]? = some (.cells #[p, .slice (some ⟨g, 0, none⟩) 0 cap] 180 (0, 0))) (hg : w.heap[g]? = some (.cells cur 5 (0, 0))) :
    Calls Tryz.prog 145 #[.pointer (some ⟨b, 0, none⟩)] w fun e w' => e = .returned (.string ⟨#[]⟩) ∧ Fr S w w' := by
  have hUS := unsafeString_none
  have hlt := lt_of_row hbk
  by_cases hc0 : cap = 0
  · subst hc0
    have c1 : w.drew.cell? ⟨b, 1, none⟩ = some (.slice (some ⟨g, 0, none⟩) 0 0) := by
      have : w.drew.heap[b]? = some (.cells #[p, .slice (some ⟨g, 0, none⟩) 0 0] 180 (0, 0)) := hbk
      rw [Lib.cell_of_heap this]; rfl
    have hSD : (Builtin.unsafeSliceData_ #[30] 208 #[.slice (some ⟨g, 0, none⟩) 0 0]).run Tryz.prog w.drew = .ok (.pointer (some ⟨w.drew.heap.size, 0, none⟩)) (w.drew.alloc (.view ⟨g, 0, none⟩ 5)) :=
      Lib.run_unsafeSliceData_zero w.drew _ _ 5 Tryz.underlying208 ⟨g, 0, none⟩ 0 (5, cur.size) (by have hg' : w.drew.heap[g]? = some (.cells cur 5 (0, 0)) := hg; simp [World.shape?, hg'])
    have c2 : (w.drew.alloc (.view ⟨g, 0, none⟩ 5)).cell? ⟨b, 1, none⟩ = some (.slice (some ⟨g, 0, none⟩) 0 0) := by
      have : (w.drew.alloc (.view ⟨g, 0, none⟩ 5)).heap[b]? = _ := (Lib.alloc_old w.drew _ b hlt).trans hbk
      rw [Lib.cell_of_heap this]; rfl
    have c3 : (w.alloc (.view ⟨g, 0, none⟩ 5)).drew.cell? ⟨b, 1, none⟩ = some (.slice (some ⟨g, 0, none⟩) 0 0) := c2
    have c0 : w.cell? ⟨b, 1, none⟩ = some (.slice (some ⟨g, 0, none⟩) 0 0) := c1
    clear hbk hg
    go_enter Tryz.func145, Tryz.ntmps145
    go_wp2
    go_region
    all_goals (go_wp2; go_ret; exact ⟨rfl, (Fr.refl _ w).drew.alloc _⟩)
  · have c1 : w.drew.cell? ⟨b, 1, none⟩ = some (.slice (some ⟨g, 0, none⟩) 0 cap) := by
      have : w.drew.heap[b]? = some (.cells #[p, .slice (some ⟨g, 0, none⟩) 0 cap] 180 (0, 0)) := hbk
      rw [Lib.cell_of_heap this]; rfl
    have hSD : (Builtin.unsafeSliceData_ #[30] 208 #[.slice (some ⟨g, 0, none⟩) 0 cap]).run Tryz.prog w.drew = .ok (.pointer (some ⟨g, 0, none⟩)) w.drew :=
      Lib.run_unsafeSliceData_row _ _ _ _ _ _ hc0
    clear hc0 hbk hg
    go_enter Tryz.func145, Tryz.ntmps145
    go_wp2
    go_region
    all_goals (go_wp2; go_ret; exact ⟨rfl, (Fr.refl _ w).drew⟩)

theorem builderString_B (B b : Nat) (G : Option Nat) (l : List UInt8) (w : World) (h : OutB w B b G l) :
    Calls Tryz.prog 145 #[.pointer (some ⟨b, 0, none⟩)] w fun e w' => e = .returned (.string ⟨l.toArray⟩) ∧ Fr (fun k => G = some k) w w' := by
  by_cases h0 : l = []
  · subst h0
    obtain ⟨hB, p, v, hbk, hp, hown, hG, hne⟩ := h
    rcases hown.2 with ⟨rfl, _⟩ | ⟨g, cap, cur, rfl, hbg, hg, _⟩
    · exact builderString_nil b _ p w hbk
    · exact builderString_room b g cap _ p cur w hbk hg
  · exact builderString_full B b G l w h h0

theorem outBytes_B (B b : Nat) (G : Option Nat) (l : List UInt8) (w : World) (h : OutB w B b G l) :
    Calls Tryz.prog 126 #[.pointer (some ⟨b, 0, none⟩)] w fun e w' => e = .returned (.string ⟨l.toArray⟩) ∧ Fr (fun k => G = some k) w w' := by
  have hc := builderString_B B b G l w h
  have Hc := Lib.hid hc
  clear hc h
  go_enter Tryz.func126, Tryz.ntmps126
  go_wp2_with (go_at_call 145; (with_reducible refine Hc.out.mono ?_); rintro e w' ⟨rfl, hf⟩)
  go_ret
  exact ⟨rfl, hf⟩

theorem outRaw_B (B b : Nat) (G : Option Nat) (l : List UInt8) (s : ByteArray) (w : World) (h : OutB w B b G l) (hlen : l.length + s.size ≤ 1000000000000) (hBw : B ≤ w.heap.size) :
    Calls Tryz.prog 123 #[.pointer (some ⟨b, 0, none⟩), .string s] w fun e w' => e = .returned (.tuple #[]) ∧ ∃ G', OutB w' B b G' (l ++ s.data.toList) ∧ OutStep w w' b G G' := by
  have hc := writeString_B B b G l s w h hlen hBw
  have Hc := Lib.hid hc
  clear hc h hlen
  go_enter Tryz.func123, Tryz.ntmps123
  go_wp2_with (go_at_call 141; (with_reducible refine Hc.out.mono ?_); rintro e w' ⟨rfl, hf⟩)
  go_end0
  exact ⟨rfl, hf⟩
end Go.Proofs.YtdfgdnaejnngoaaGreat
namespace Go.Proofs.YtdfgdnaejnngoaaGreat
open Go.RowKit

def fitsB (wd n : Int) : Bool := decide (0 ≤ n) && (decide (wd = 8) || decide (n < if wd = 1 then 256 else if wd = 2 then 65536 else 4294967296))

theorem fits_1 (n : Int) (w : World) : Calls Tryz.prog 144 #[.int .i64 1, .int .i64 n] w fun e w' => e = .returned (.bool (fitsB 1 n)) ∧ w = w' := by
  by_cases h0 : 0 ≤ n
  · go_enter Tryz.func144, Tryz.ntmps144
    go_wp2
    go_ret
    exact ⟨ret_bool (by simp [fitsB, h0]), rfl⟩
  · go_enter Tryz.func144, Tryz.ntmps144
    go_wp2
    go_ret
    exact ⟨ret_bool (by simp [fitsB]; omega), rfl⟩
theorem fits_2 (n : Int) (w : World) : Calls Tryz.prog 144 #[.int .i64 2, .int .i64 n] w fun e w' => e = .returned (.bool (fitsB 2 n)) ∧ w = w' := by
  by_cases h0 : 0 ≤ n
  · go_enter Tryz.func144, Tryz.ntmps144
    go_wp2
    go_ret
    exact ⟨ret_bool (by simp [fitsB, h0]), rfl⟩
  · go_enter Tryz.func144, Tryz.ntmps144
    go_wp2
    go_ret
    exact ⟨ret_bool (by simp [fitsB]; omega), rfl⟩
theorem fits_4 (n : Int) (w : World) : Calls Tryz.prog 144 #[.int .i64 4, .int .i64 n] w fun e w' => e = .returned (.bool (fitsB 4 n)) ∧ w = w' := by
  by_cases h0 : 0 ≤ n
  · go_enter Tryz.func144, Tryz.ntmps144
    go_wp2
    go_ret
    exact ⟨ret_bool (by simp [fitsB, h0]), rfl⟩
  · go_enter Tryz.func144, Tryz.ntmps144
    go_wp2
    go_ret
    exact ⟨ret_bool (by simp [fitsB]; omega), rfl⟩
theorem fits_8 (n : Int) (w : World) : Calls Tryz.prog 144 #[.int .i64 8, .int .i64 n] w fun e w' => e = .returned (.bool (fitsB 8 n)) ∧ w = w' := by
  by_cases h0 : 0 ≤ n
  · go_enter Tryz.func144, Tryz.ntmps144
    go_wp2
    go_ret
    exact ⟨ret_bool (by simp [fitsB, h0]), rfl⟩
  · go_enter Tryz.func144, Tryz.ntmps144
    go_wp2
    go_ret
    exact ⟨ret_bool (by simp [fitsB]; omega), rfl⟩
theorem fits_any (wd n : Int) (w : World) (h : isWidth wd = true) : Calls Tryz.prog 144 #[.int .i64 wd, .int .i64 n] w fun e w' => e = .returned (.bool (fitsB wd n)) ∧ w = w' := by
  have h' : wd = 1 ∨ wd = 2 ∨ wd = 4 ∨ wd = 8 := by simpa [isWidth] using h
  rcases h' with rfl | rfl | rfl | rfl
  · exact fits_1 n w
  · exact fits_2 n w
  · exact fits_4 n w
  · exact fits_8 n w

theorem numLit_any (wd n : Int) (b : Nat) (w : World) (h : isWidth wd = true) (hc : w.cell? ⟨b, 0, none⟩ = some (.int .i64 wd)) :
    Calls Tryz.prog 143 #[.int .i64 n, .pointer (some ⟨b, 0, none⟩)] w fun e w' => e = .returned (.bool (!fitsB wd n)) ∧ w = w' := by
  have hf := fun W => fits_any wd n W h
  have Hf := Lib.hid hf
  clear hf h
  go_enter Tryz.func143, Tryz.ntmps143
  go_wp2_with (go_at_call 144; (with_reducible refine (Hf.out _).mono ?_); rintro e w' ⟨rfl, rfl⟩)
  go_ret
  exact ⟨rfl, rfl⟩

theorem textLit_any (s : ByteArray) (w : World) : Calls Tryz.prog 139 #[.string s] w fun e w' => e = .returned (.bool (decide (255 < (s.size : Int)))) ∧ w = w' := by
  go_enter Tryz.func139, Tryz.ntmps139
  go_wp2
  go_ret
  exact ⟨rfl, rfl⟩

theorem textLit_pred (ss : List ByteArray) (w : World) : PredB Tryz.prog 139 #[] w (ss.map Value.string) (fun v => match v with | .string s => decide (255 < (s.size : Int)) | _ => false) := by
  intro W hb v hv
  obtain ⟨s, hs, rfl⟩ := List.mem_map.1 hv
  exact (textLit_any s W).mono fun e w' ⟨he, hw⟩ => ⟨he, hw ▸ Below.refl _ _⟩

theorem writeByte_C (B b : Nat) (G : Option Nat) (l : List UInt8) (c : Int) (x : UInt8) (w : World) (h : OutB w B b G l) (hlen : l.length + 1 ≤ 1000000000000) (hc : c = (x.toNat : Int)) (hBw : B ≤ w.heap.size) :
    Calls Tryz.prog 140 #[.pointer (some ⟨b, 0, none⟩), .int .u8 c] w fun e w' => e = .returned .nilIface ∧ ∃ G', OutB w' B b G' (l ++ [x]) ∧ OutStep w w' b G G' := by
  subst hc
  exact writeByte_B B b G l x w h hlen hBw

/-- a text with its length -/
def textBytes (s : ByteArray) : List UInt8 := UInt8.ofNat s.size :: s.data.toList
theorem textBytes_length (s : ByteArray) : (textBytes s).length = s.size + 1 := by
  simp [textBytes]

set_option maxHeartbeats 1000000 in
set_option maxRecDepth 100000 in
theorem outText_B (B b : Nat) (G : Option Nat) (l : List UInt8) (A : Option Addr) (cap : Nat) (ss : List ByteArray) (w : World) (h : OutB w B b G l) (hBw : B ≤ w.heap.size)
    (hl : ss.length ≤ 1000000000) (he : Elems w A 1 (ss.map fun s => [.string s])) (hA : ∀ ad, A = some ad → ad.block ≠ b ∧ G ≠ some ad.block)
    (hs : ∀ s ∈ ss, s.size ≤ 255) (hlen : l.length + (ss.flatMap textBytes).length ≤ 1000000000) :
    Calls Tryz.prog 121 #[.pointer (some ⟨b, 0, none⟩), .slice A ss.length cap] w fun e w' => e = .returned (.int .i64 0) ∧ ∃ G', OutB w' B b G' (l ++ ss.flatMap textBytes) ∧ OutStep w w' b G G' := by
  have hcf := containsFunc_str A cap ss (fun v => match v with | .string s => decide (255 < (s.size : Int)) | _ => false) 139 #[] w (enters_of Tryz.func139 (by kernel_rfl) rfl) hl he (textLit_pred ss w)
  have hany : (ss.any fun s => decide (255 < (s.size : Int))) = false := by
    rw [List.any_eq_false]
    intro s hm
    have := hs s hm
    simp; omega
  simp only [hany] at hcf
  have Hcf := Lib.hid hcf
  have Hlen := Lib.hid hlen
  have Hs := Lib.hid hs
  clear hcf hany hlen hs
  go_enter Tryz.func121, Tryz.ntmps121
  go_wp2_with (go_at_call 72; (with_reducible refine Hcf.out.mono ?_); rintro e w1 ⟨rfl, hb1⟩)
  go_loopw [15, 6] (fun i _ wr => ∃ (k : Nat) (G' : Option Nat), k ≤ ss.length ∧ i = .int .i64 k ∧ OutB wr B b G' (l ++ (ss.take k).flatMap textBytes) ∧ OutStep w wr b G G') (fun i _ _ => ss.length - (intOf i).toNat)
  case atStart => exact ⟨0, G, Nat.zero_le _, rfl, by unfold OutB at h ⊢; simpa using h.below hb1, ⟨Fr.of_below hb1, .inl rfl⟩⟩
  case round =>
    obtain ⟨k, G', hk, rfl, ho, hst⟩ := hrel
    have hsz : B ≤ wr.heap.size := Nat.le_trans hBw hst.fr.size
    by_cases hlt : k < ss.length
    · obtain ⟨s, hsk⟩ : ∃ s, ss[k]? = some s := ⟨ss[k], List.getElem?_eq_getElem hlt⟩
      have hmem := List.mem_of_getElem? hsk
      have hs255 := Hs.out s hmem
      have htk : (ss.take (k + 1)).flatMap textBytes = (ss.take k).flatMap textBytes ++ textBytes s := by
        rw [List.take_add_one, hsk]; simp
      have hle : ((ss.take k).flatMap textBytes).length + (textBytes s).length ≤ (ss.flatMap textBytes).length := by
        rw [← List.length_append, ← htk]
        conv => rhs; rw [← List.take_append_drop (k + 1) ss, List.flatMap_append, List.length_append]
        omega
      rw [textBytes_length] at hle
      have hlen := Hlen.out
      have he' : Elems wr A 1 (ss.map fun s => [.string s]) := he.fr hst.fr (fun ad ha hh => by
        rcases hh with e | e
        · exact (hA ad ha).1 e
        · exact (hA ad ha).2 e)
      obtain ⟨b', off, rfl, hbl, hc⟩ := he' k [.string s] (by simp [hsk])
      have hcell := hc 0 _ rfl
      simp only [Nat.mul_one, Nat.add_zero] at hcell
      have hwb := fun W h => writeByte_C B b G' (l ++ (ss.take k).flatMap textBytes) (s.size : Int) (UInt8.ofNat s.size) W h (by simp only [List.length_append]; omega)
      have hws := fun G'' W h => writeString_B B b G'' (l ++ (ss.take k).flatMap textBytes ++ [UInt8.ofNat s.size]) s W h (by simp only [List.length_append, List.length_cons, List.length_nil]; omega)
      have Hwb := Lib.hid hwb
      have Hws := Lib.hid hws
      have Htk := Lib.hid htk
      have Ho := Lib.hid ho
      have Hsk := Lib.hid hsk
      clear hwb hws hle hlen he he' hc htk ho hsk hA hmem
      go_wp2_with (go_at_call 140; (with_reducible refine (Hwb.out _ Ho.out (by simp; omega) hsz).mono ?_); rintro e w2 ⟨rfl, G2, ho2, hst2⟩)
      have hsz2 : B ≤ w2.heap.size := Nat.le_trans hsz hst2.fr.size
      have Ho2 := Lib.hid ho2
      clear ho2
      go_wp2_with (go_at_call 141; (with_reducible refine (Hws.out _ _ Ho2.out hsz2).mono ?_); rintro e w3 ⟨rfl, G3, ho3, hst3⟩)
      go_roundw
      case rel => exact ⟨k + 1, G3, by omega, by go_num, by rw [Htk.out]; have e : textBytes s = UInt8.ofNat s.size :: s.data.toList := rfl; rw [e]; simpa using ho3, hst.trans (hst2.trans hst3)⟩
      case measure => simp [intOf]; omega
    · have Ho := Lib.hid ho
      clear ho
      go_wp2
      go_ret
      exact ⟨rfl, G', by have := Ho.out; rwa [List.take_of_length_le (by omega)] at this, hst⟩
end Go.Proofs.YtdfgdnaejnngoaaGreat
namespace Go.Proofs.YtdfgdnaejnngoaaGreat
open Go.RowKit

/-- a number's bytes, the highest first -/
def numBytes (wd : Nat) (n : Nat) : List UInt8 := (List.range wd).reverse.map fun i => UInt8.ofNat (n / 256 ^ i)
theorem numBytes_length (wd n : Nat) : (numBytes wd n).length = wd := by simp [numBytes]
theorem numBytes_zero (n : Nat) : numBytes 0 n = [] := rfl
theorem numBytes_succ (wd n : Nat) : numBytes (wd + 1) n = UInt8.ofNat (n / 256 ^ wd) :: numBytes wd n := by
  simp [numBytes, List.range_succ]

theorem numLit_pred (wd : Int) (b : Nat) (ns : List Int) (w : World) (h : isWidth wd = true) (hb : b < w.heap.size) (hc : w.cell? ⟨b, 0, none⟩ = some (.int .i64 wd)) :
    PredB Tryz.prog 143 #[.pointer (some ⟨b, 0, none⟩)] w (ns.map fun n => Value.int .i64 n) (fun v => match v with | .int _ n => !fitsB wd n | _ => false) := by
  intro W hbel v hv
  obtain ⟨n, hs, rfl⟩ := List.mem_map.1 hv
  exact (numLit_any wd n b W h (keep_cell hbel hb hc)).mono fun e w' ⟨he, hw⟩ => ⟨he, hw ▸ Below.refl _ _⟩

theorem shr_byte (n j : Nat) (hj : j < 8) : Op.shift .shr .i64 (n : Int) .i64 (IntKind.i64.wrap (8 * (j : Int))) = pure (.int .i64 ((n / 256 ^ j : Nat) : Int)) := by
  have e : IntKind.i64.wrap (8 * (j : Int)) = 8 * (j : Int) := IntWalk.i64_in _ (by omega)
  rw [e, shift_shr_any _ _ _ _ (by omega)]
  have e2 : min (8 * (j : Int)).toNat IntKind.i64.bits = 8 * j := by
    have : IntKind.i64.bits = 64 := rfl
    omega
  have e3 : (256 : Nat) ^ j = 2 ^ (8 * j) := by rw [Nat.pow_mul]
  rw [e2, e3, Int.natCast_ediv, Int.natCast_pow]
  rfl
theorem byte_mod (q : Nat) : ((UInt8.ofNat q).toNat : Int) = (q : Int) % 256 := by
  simp [UInt8.toNat_ofNat']

theorem drew_size {B : Nat} {w : World} (h : B ≤ w.heap.size) : B ≤ w.drew.heap.size := h
theorem OutB_drew {w : World} {B b : Nat} {G : Option Nat} {l : List UInt8} (h : OutB w B b G l) : OutB w.drew B b G l := h
theorem OutStep_drew {w w' : World} {b : Nat} {G G' : Option Nat} (h : OutStep w.drew w' b G G') : OutStep w w' b G G' := ⟨⟨h.fr.os, h.fr.tape, h.fr.output, h.fr.size, h.fr.block⟩, h.at_⟩
theorem fitsB_nonneg {wd n : Int} (h : fitsB wd n = true) : 0 ≤ n := by simp [fitsB] at h; exact h.1

set_option maxHeartbeats 1000000 in
set_option maxRecDepth 100000 in
theorem outNum_B (B b : Nat) (G : Option Nat) (l : List UInt8) (A : Option Addr) (cap wd : Nat) (zs : List Int) (w : World) (h : OutB w B b G l) (hBw : B ≤ w.heap.size)
    (hwd : isWidth wd = true) (hl : zs.length ≤ 1000000) (he : Elems w A 1 (zs.map fun n => [.int .i64 n])) (hA : ∀ ad, A = some ad → ad.block ≠ b ∧ G ≠ some ad.block)
    (hs : ∀ n ∈ zs, fitsB wd n = true) (hn : ∀ n ∈ zs, n ≤ 9223372036854775807) (hlen : l.length + zs.length * 8 ≤ 1000000000) :
    Calls Tryz.prog 125 #[.pointer (some ⟨b, 0, none⟩), .int .i64 wd, .slice A zs.length cap] w fun e w' => e = .returned (.int .i64 0) ∧ ∃ G', OutB w' B b G' (l ++ zs.flatMap fun z => numBytes wd z.toNat) ∧ OutStep w w' b G G' := by
  have hw8 : wd ≤ 8 := by simp [isWidth] at hwd; omega
  have hcf := fun W h1 h2 h3 => containsFunc_int A cap zs (fun v => match v with | .int _ n => !fitsB wd n | _ => false) 143 #[.pointer (some ⟨w.heap.size, 0, none⟩)] W (enters_of Tryz.func143 (by kernel_rfl) rfl) (by omega) h1 (numLit_pred wd w.heap.size _ W hwd h2 h3)
  have hany : (zs.any fun n => !fitsB wd n) = false := by
    rw [List.any_eq_false]
    intro x hm
    simp [hs x hm]
  simp only [hany] at hcf
  have Hcf := Lib.hid hcf
  have Hlen := Lib.hid hlen
  have Hs := Lib.hid hs
  have Hn := Lib.hid hn
  have hiw := fun W => isWidth_any wd W
  simp only [hwd] at hiw
  have Hiw := Lib.hid hiw
  have He := Lib.hid he
  have HA := Lib.hid hA
  have H0 := Lib.hid h
  clear hcf hany hlen hs hiw hn he hA h
  go_enter Tryz.func125, Tryz.ntmps125
  go_wp2_with (go_at_call 128; (with_reducible refine (Hiw.out _).mono ?_); rintro e w1 ⟨rfl, rfl⟩)
  refine (Hcf.out _ (He.out.below (Below.alloc (Below.refl _ _) (Nat.le_refl _) _)) (by simp) (by simp)).mono ?_
  rintro e w1 ⟨rfl, hb1⟩
  obtain ⟨hlt1, hc1⟩ := new_cells hb1
  have hcw := hc1 0 _ rfl
  go_wp2
  have hb1' : Below w.heap.size w w1 := below_step (w := w.alloc (.cells #[.int .i64 wd] 3)) (Below.alloc (Below.refl _ _) (Nat.le_refl _) _) hb1 (by simp)
  have hst1 : OutStep w w1 b G G := ⟨Fr.of_below hb1', .inl rfl⟩
  have ho1 : OutB w1 B b G l := H0.out.below hb1'
  have hg1 : G ≠ some w.heap.size := fun e => by have := (OutAt.glt ho1 _ e).2; have := (OutAt.glt H0.out _ e).2; omega
  clear hc1 hb1 hb1' Hcf Hiw
  go_loopw [24, 8, 9] (fun i _ _ wr => ∃ (k : Nat) (G' : Option Nat), k ≤ zs.length ∧ i = .int .i64 k ∧ OutB wr B b G' (l ++ (zs.take k).flatMap fun z => numBytes wd z.toNat) ∧ OutStep w wr b G G' ∧ G' ≠ some w.heap.size ∧ w.heap.size < wr.heap.size ∧ wr.cell? ⟨w.heap.size, 0, none⟩ = some (.int .i64 wd)) (fun i _ _ _ => zs.length - (intOf i).toNat)
  case atStart => exact ⟨0, G, Nat.zero_le _, rfl, by simpa using ho1, hst1, hg1, hlt1, hcw⟩
  case round =>
    obtain ⟨k, G', hk, rfl, ho, hst, hgn, hlw, hcb⟩ := hrel
    clear hcw hlt1 hg1 hst1 ho1
    have Ho := Lib.hid ho
    clear ho
    by_cases hlt : k < zs.length
    · obtain ⟨z, hzk⟩ : ∃ s, zs[k]? = some s := ⟨zs[k], List.getElem?_eq_getElem hlt⟩
      have hmem := List.mem_of_getElem? hzk
      have hz0 := fitsB_nonneg (Hs.out z hmem)
      have hzm := Hn.out z hmem
      obtain ⟨n, rfl⟩ := Int.eq_ofNat_of_zero_le hz0
      have htk : ((zs.take (k + 1)).flatMap fun z => numBytes wd z.toNat) = ((zs.take k).flatMap fun z => numBytes wd z.toNat) ++ numBytes wd n := by
        rw [List.take_add_one, hzk]; simp
      have hLk : ((zs.take k).flatMap fun z => numBytes wd z.toNat).length = k * wd := by
        have : ∀ ys : List Int, (ys.flatMap fun z => numBytes wd z.toNat).length = ys.length * wd := fun ys => by
          induction ys with
          | nil => simp
          | cons y ys ih => simp only [List.flatMap_cons, List.length_append, ih, numBytes_length, List.length_cons]; rw [Nat.succ_mul]; omega
        rw [this, List.length_take]; congr 1; omega
      have hle : k * wd + wd ≤ zs.length * 8 := by
        have : (k + 1) * wd ≤ zs.length * 8 := Nat.mul_le_mul (by omega) hw8
        rw [Nat.succ_mul] at this; omega
      have he' : Elems wr A 1 (zs.map fun n => [.int .i64 n]) := He.out.fr hst.fr (fun ad ha hh => by
        rcases hh with e | e
        · exact (HA.out ad ha).1 e
        · exact (HA.out ad ha).2 e)
      obtain ⟨b', off, rfl, hbl, hc⟩ := he' k [.int .i64 (n : Int)] (by simp [hzk])
      have hcell := hc 0 _ rfl
      simp only [Nat.mul_one, Nat.add_zero] at hcell
      have hsz : B ≤ wr.heap.size := Nat.le_trans hBw hst.fr.size
      have Hzm := Lib.hid hzm
      have Htk := Lib.hid htk
      have Hle := Lib.hid hle
      have HLk := Lib.hid hLk
      clear hzm htk hle hLk he' hc hzk hmem hz0
      have HST := Lib.hid hst
      clear hst
      go_wp2
      obtain ⟨wo, rfl⟩ : ∃ wo : World, wo = wr := ⟨_, rfl⟩
      go_loopw [9] (fun i wr => ∃ (j : Nat) (G2 : Option Nat) (pre : List UInt8), j ≤ wd ∧ i = .int .i64 ((j : Int) - 1) ∧ numBytes wd n = pre ++ numBytes j n ∧ OutB wr B b G2 (l ++ ((zs.take k).flatMap fun z => numBytes wd z.toNat) ++ pre) ∧ OutStep wo wr b G' G2 ∧ G2 ≠ some w.heap.size ∧ w.heap.size < wr.heap.size ∧ wr.cell? ⟨w.heap.size, 0, none⟩ = some (.int .i64 wd)) (fun i _ => (intOf i + 1).toNat)
      case atStart => exact ⟨wd, G', [], Nat.le_refl _, rfl, rfl, by simpa using Ho.out, OutStep.refl, hgn, hlw, hcb⟩
      case round =>
        obtain ⟨j, G2, pre, hj, rfl, hpre, ho, hst, hgn2, hlw2, hcb2⟩ := hrel
        have Hpre := Lib.hid hpre
        have Ho2 := Lib.hid ho
        have HST2 := Lib.hid hst
        have hsz2 : B ≤ wr.heap.size := Nat.le_trans hsz hst.fr.size
        clear hpre ho hst hcb hcell
        cases j with
        | zero =>
          go_wp2
          go_roundw
          case rel => exact ⟨k + 1, G2, by omega, by go_num, by
            have h1 := Ho2.out
            have h2 := Hpre.out
            rw [numBytes_zero, List.append_nil] at h2
            rw [Htk.out, h2, ← List.append_assoc]; exact h1, HST.out.trans HST2.out, hgn2, hlw2, hcb2⟩
          case measure => simp [intOf]; omega
        | succ j =>
          have ej : (((j + 1 : Nat) : Int) - 1) = (j : Int) := by omega
          rw [ej]
          clear ej
          have hshr := shr_byte n j (by omega)
          have hnb := numBytes_succ j n
          generalize n / 256 ^ j = q at hshr hnb
          have Hnb := Lib.hid hnb
          clear hnb
          have hpl : (l ++ ((zs.take k).flatMap fun z => numBytes wd z.toNat) ++ pre).length + 1 ≤ 1000000000000 := by
            have h1 := congrArg List.length Hpre.out
            have h2 := HLk.out
            have h3 := Hle.out
            have h4 := Hlen.out
            simp only [List.length_append, numBytes_length] at h1
            simp only [List.length_append, h2]
            omega
          have Hpl := Lib.hid hpl
          clear hpl
          go_wp2
          refine rg_start (n := 9) (fun w' => True) #[false, false, false, false, false, false, false, false, false] (by kernel_rfl) rfl rfl trivial (fun hHeld => ?_)
          refine rg_take (i := 0) (N := (some 34)) (v := ?_) (a' := ?_) #[true, false, false, false, false, false, false, false, false] rfl rfl (by kernel_rfl) (fun _ _ _ h => h) (by rfl) ?_ hHeld ?_ ?_
          rotate_left 2
          · rintro w' _s
            go_simp
            try with_reducible rfl
          · simp only [Act.put, List.setIfInBounds_toArray, List.set_cons_zero, List.set_cons_succ]
            rfl
          refine rg_take (i := 1) (N := (some 35)) (v := ?_) (a' := ?_) #[true, true, false, false, false, false, false, false, false] rfl rfl (by kernel_rfl) (fun _ _ _ h => h) (by rfl) ?_ hHeld ?_ ?_
          rotate_left 2
          · rintro w' _s
            go_simp
            try with_reducible rfl
          · simp only [Act.put, List.setIfInBounds_toArray, List.set_cons_zero, List.set_cons_succ]
            rfl
          refine rg_take (i := 2) (N := (some 36)) (v := ?_) (a' := ?_) #[true, true, true, false, false, false, false, false, false] rfl rfl (by kernel_rfl) (fun _ _ _ h => h) (by rfl) ?_ hHeld ?_ ?_
          rotate_left 2
          · rintro w' _s
            go_simp
            try with_reducible rfl
          · simp only [Act.put, List.setIfInBounds_toArray, List.set_cons_zero, List.set_cons_succ]
            rfl
          refine rg_take (i := 3) (N := (some 37)) (v := ?_) (a' := ?_) #[true, true, true, true, false, false, false, false, false] rfl rfl (by kernel_rfl) (fun _ _ _ h => h) (by rfl) ?_ hHeld ?_ ?_
          rotate_left 2
          · rintro w' _s
            go_simp
            try with_reducible rfl
          · simp only [Act.put, List.setIfInBounds_toArray, List.set_cons_zero, List.set_cons_succ]
            rfl
          refine rg_take (i := 4) (N := (some 38)) (v := ?_) (a' := ?_) #[true, true, true, true, true, false, false, false, false] rfl rfl (by kernel_rfl) (fun _ _ _ h => h) (by rfl) ?_ hHeld ?_ ?_
          rotate_left 2
          · rintro w' _s
            go_simp
            try with_reducible rfl
          · simp only [Act.put, List.setIfInBounds_toArray, List.set_cons_zero, List.set_cons_succ]
            rfl
          refine rg_take (i := 5) (N := (some 39)) (v := ?_) (a' := ?_) #[true, true, true, true, true, true, false, false, false] rfl rfl (by kernel_rfl) (fun _ _ _ h => h) (by rfl) ?_ hHeld ?_ ?_
          rotate_left 2
          · rintro w' _s
            go_simp
            try with_reducible rfl
          · simp only [Act.put, List.setIfInBounds_toArray, List.set_cons_zero, List.set_cons_succ]
            rfl
          refine rg_take (i := 6) (N := (some 40)) (v := ?_) (a' := ?_) #[true, true, true, true, true, true, true, false, false] rfl rfl (by kernel_rfl) (fun _ _ _ h => h) (by rfl) ?_ hHeld ?_ ?_
          rotate_left 2
          · rintro w' _s
            go_simp
            try with_reducible rfl
          · simp only [Act.put, List.setIfInBounds_toArray, List.set_cons_zero, List.set_cons_succ]
            rfl
          refine rg_take (i := 7) (N := (some 41)) (v := ?_) (a' := ?_) #[true, true, true, true, true, true, true, true, false] rfl rfl (by kernel_rfl) (fun _ _ _ h => h) (by rfl) ?_ hHeld ?_ ?_
          rotate_left 2
          · rintro w' _s
            go_simp
            try with_reducible rfl
          · simp only [Act.put, List.setIfInBounds_toArray, List.set_cons_zero, List.set_cons_succ]
            rfl
          refine rg_one (i := 8) #[true, true, true, true, true, true, true, true, true] rfl (by kernel_rfl) (by rfl) (fun K hK => ?_)
          repeat go_step
          ((with_reducible refine (writeByte_C B b G2 _ _ (UInt8.ofNat q) _ (OutB_drew Ho2.out) Hpl.out (byte_mod q).symm (drew_size hsz2)).mono ?_); rintro e w3 ⟨rfl, G3, ho3, hst3⟩)
          try dsimp only
          refine hK.out _ _ ?_ (fun hHeld => ?_)
          · trivial
          clear hK K
          refine rg_done (by kernel_rfl) ?_
          have hg3 : G3 ≠ some w.heap.size := by
            rcases hst3.at_ with e | ⟨g, e, hg⟩
            · exact e ▸ hgn2
            · rw [e]; intro e'; injection e' with e'; have : wr.heap.size ≤ g := hg; omega
          have hbn : w.heap.size ≠ b := by have := OutAt.lt H0.out; omega
          have hcb3 : w3.cell? ⟨w.heap.size, 0, none⟩ = some (.int .i64 wd) := hst3.fr.cell (w := wr.drew) hlw2 (by rintro (e | e); exact hbn e; exact hgn2 e) hcb2
          have hlw3 : w.heap.size < w3.heap.size := Nat.lt_of_lt_of_le hlw2 hst3.fr.size
          have Ho3 := Lib.hid ho3
          have HST3 := Lib.hid hst3
          clear ho3 hst3
          go_wp2
          go_roundw
          case rel => exact ⟨j, G3, pre ++ [UInt8.ofNat q], by omega, by go_num, by rw [Hpre.out, Hnb.out]; simp, by rw [← List.append_assoc]; exact Ho3.out, HST2.out.trans (OutStep_drew HST3.out), hg3, hlw3, hcb3⟩
          case measure => simp [intOf]
    · go_wp2
      go_ret
      exact ⟨rfl, G', by have := Ho.out; rwa [List.take_of_length_le (by omega)] at this, hst⟩
end Go.Proofs.YtdfgdnaejnngoaaGreat
namespace Go.Proofs.YtdfgdnaejnngoaaGreat
open Go.RowKit

/-- a pen.In in block b -/
def InAt (w : World) (b : Nat) (s : ByteArray) (bad : Bool) : Prop := w.heap[b]? = some (.cells #[.string s, .bool bad] 185 (0, 0))
theorem InAt.lt {w : World} {b : Nat} {s : ByteArray} {bad : Bool} (h : InAt w b s bad) : b < w.heap.size := lt_of_row h
theorem InAt.c0 {w : World} {b : Nat} {s : ByteArray} {bad : Bool} (h : InAt w b s bad) : w.cell? ⟨b, 0, none⟩ = some (.string s) := by rw [Lib.cell_of_heap h]; rfl
theorem InAt.c1 {w : World} {b : Nat} {s : ByteArray} {bad : Bool} (h : InAt w b s bad) : w.cell? ⟨b, 1, none⟩ = some (.bool bad) := by rw [Lib.cell_of_heap h]; rfl
theorem InAt.f {w : World} {b : Nat} {s : ByteArray} {bad : Bool} (h : InAt w b s bad) (j : Nat) : w.frozen? ⟨b, j, none⟩ = false := Lib.frozen_of_heap h j
theorem InAt.set0 {w : World} {b : Nat} {s : ByteArray} {bad : Bool} (h : InAt w b s bad) (t : ByteArray) : InAt (w.setCell ⟨b, 0, none⟩ (.string t)) b t bad := by
  unfold InAt at *
  simp [World.setCell, Array.getElem?_modify, h]
theorem InAt.set1 {w : World} {b : Nat} {s : ByteArray} {bad : Bool} (h : InAt w b s bad) (t : Bool) : InAt (w.setCell ⟨b, 1, none⟩ (.bool t)) b s t := by
  unfold InAt at *
  simp [World.setCell, Array.getElem?_modify, h]
theorem InAt.fr {S : Nat → Prop} {w w' : World} {b : Nat} {s : ByteArray} {bad : Bool} (h : InAt w b s bad) (hf : Fr S w w') (hs : ¬ S b) : InAt w' b s bad := hf.row hs h
theorem InAt.below {w w' : World} {b : Nat} {s : ByteArray} {bad : Bool} (h : InAt w b s bad) (hf : Below w.heap.size w w') : InAt w' b s bad := (Fr.of_below (S := fun _ => False) hf).row (fun h => h) h
theorem InAt.new (w : World) (s : ByteArray) : InAt (w.alloc (.cells #[.string s, .bool false] 185)) w.heap.size s false := heap_alloc_new w _

theorem inOf_any (s : ByteArray) (w : World) : Calls Tryz.prog 108 #[.string s] w fun e w' => e = .returned (.pointer (some ⟨w.heap.size, 0, none⟩)) ∧ w.alloc (.cells #[.string s, .bool false] 185) = w' := by
  go_enter Tryz.func108, Tryz.ntmps108
  go_wp2
  go_ret
  exact ⟨rfl, rfl⟩

theorem inFail_any (b : Nat) (s : ByteArray) (bad : Bool) (w : World) (h : InAt w b s bad) : Calls Tryz.prog 129 #[.pointer (some ⟨b, 0, none⟩)] w fun e w' => e = .returned (.tuple #[]) ∧ InAt w' b ⟨#[]⟩ true ∧ Fr (fun k => k = b) w w' := by
  have key : Calls Tryz.prog 129 #[.pointer (some ⟨b, 0, none⟩)] w fun e w' => e = .returned (.tuple #[]) ∧ (w.setCell ⟨b, 0, none⟩ (.string ⟨#[]⟩)).setCell ⟨b, 1, none⟩ (.bool true) = w' := by
    have c0 := h.c0; have c1 := h.c1; have f0 := h.f 0; have f1 := h.f 1
    have c1' := (h.set0 ⟨#[]⟩).c1
    have f1' := (h.set0 ⟨#[]⟩).f 1
    clear h
    go_enter Tryz.func129, Tryz.ntmps129
    go_wp2
    go_end0
    exact ⟨rfl, rfl⟩
  refine key.mono ?_
  rintro e w' ⟨rfl, rfl⟩
  exact ⟨rfl, (h.set0 _).set1 _, ((Fr.refl (fun k => k = b) _).setCell (p := ⟨b, 0, none⟩) (fun _ => rfl) _).setCell (p := ⟨b, 1, none⟩) (fun _ => rfl) _⟩

/-- what Raw answers, what is left, whether something was wrong -/
def rawR (n : Int) (s : ByteArray) (bad : Bool) : ByteArray × ByteArray × Bool :=
  if bad = true ∨ n < 0 ∨ (s.size : Int) < n then (⟨#[]⟩, ⟨#[]⟩, true) else (s.extract 0 n.toNat, s.extract n.toNat s.size, false)

def RawRes (b : Nat) (w : World) (r : ByteArray × ByteArray × Bool) (e : Ending) (w' : World) : Prop := e = .returned (.string r.1) ∧ InAt w' b r.2.1 r.2.2 ∧ Fr (fun k => k = b) w w'

theorem inRaw_bad (b : Nat) (s : ByteArray) (n : Int) (w : World) (h : InAt w b s true) : Calls Tryz.prog 124 #[.pointer (some ⟨b, 0, none⟩), .int .i64 n] w (RawRes b w (rawR n s true)) := by
  have c0 := h.c0; have c1 := h.c1
  have hf := inFail_any b s true w h
  have Hf := Lib.hid hf
  have hr : rawR n s true = (⟨#[]⟩, ⟨#[]⟩, true) := by simp [rawR]
  have Hr := Lib.hid hr
  clear hf h hr
  go_enter Tryz.func124, Tryz.ntmps124
  go_wp2_with (go_at_call 129; (with_reducible refine Hf.out.mono ?_); rintro e w1 ⟨rfl, hi, hfr⟩)
  go_ret
  rw [Hr.out]
  exact ⟨rfl, hi, hfr⟩

theorem inRaw_out (b : Nat) (s : ByteArray) (n : Int) (w : World) (h : InAt w b s false) (hn : n < 0 ∨ (s.size : Int) < n) : Calls Tryz.prog 124 #[.pointer (some ⟨b, 0, none⟩), .int .i64 n] w (RawRes b w (rawR n s false)) := by
  have c0 := h.c0; have c1 := h.c1
  have hf := inFail_any b s false w h
  have Hf := Lib.hid hf
  have hr : rawR n s false = (⟨#[]⟩, ⟨#[]⟩, true) := by simp [rawR, hn]
  have Hr := Lib.hid hr
  clear hf h hr
  by_cases h0 : n < 0
  · clear hn
    go_enter Tryz.func124, Tryz.ntmps124
    go_wp2_with (go_at_call 129; (with_reducible refine Hf.out.mono ?_); rintro e w1 ⟨rfl, hi, hfr⟩)
    go_ret
    rw [Hr.out]
    exact ⟨rfl, hi, hfr⟩
  · have h1 : (s.size : Int) < n := by omega
    clear hn
    go_enter Tryz.func124, Tryz.ntmps124
    go_wp2_with (go_at_call 129; (with_reducible refine Hf.out.mono ?_); rintro e w1 ⟨rfl, hi, hfr⟩)
    go_ret
    rw [Hr.out]
    exact ⟨rfl, hi, hfr⟩

theorem inRaw_ok (b : Nat) (s : ByteArray) (k : Nat) (w : World) (h : InAt w b s false) (hn : k ≤ s.size) : Calls Tryz.prog 124 #[.pointer (some ⟨b, 0, none⟩), .int .i64 k] w (RawRes b w (rawR k s false)) := by
  have c0 := h.c0; have c1 := h.c1; have f0 := h.f 0
  have hr : rawR k s false = (s.extract 0 k, s.extract k s.size, false) := by
    unfold rawR
    rw [if_neg (by simp; omega)]; rfl
  have Hr := Lib.hid hr
  have H0 := Lib.hid h
  clear h hr
  go_enter Tryz.func124, Tryz.ntmps124
  go_wp2
  go_ret
  rw [Hr.out]
  exact ⟨rfl, H0.out.set0 _, (Fr.refl (fun k => k = b) _).setCell (p := ⟨b, 0, none⟩) (fun _ => rfl) _⟩

theorem inRaw_any (b : Nat) (s : ByteArray) (bad : Bool) (n : Int) (w : World) (h : InAt w b s bad) : Calls Tryz.prog 124 #[.pointer (some ⟨b, 0, none⟩), .int .i64 n] w (RawRes b w (rawR n s bad)) := by
  cases bad
  · by_cases hn : n < 0 ∨ (s.size : Int) < n
    · exact inRaw_out b s n w h hn
    · obtain ⟨k, rfl⟩ := Int.eq_ofNat_of_zero_le (show 0 ≤ n by omega)
      exact inRaw_ok b s k w h (by omega)
  · exact inRaw_bad b s n w h

end Go.Proofs.YtdfgdnaejnngoaaGreat
namespace Go.Proofs.YtdfgdnaejnngoaaGreat
open Go.RowKit

/-- bytes as a number, the highest first -/
def beVal (l : List UInt8) : Nat := l.foldl (fun n b => n * 256 + b.toNat) 0
theorem beVal_snoc (l : List UInt8) (x : UInt8) : beVal (l ++ [x]) = beVal l * 256 + x.toNat := by simp [beVal]
theorem beVal_aux (l : List UInt8) : ∀ a : Nat, l.foldl (fun n b => n * 256 + b.toNat) a < (a + 1) * 256 ^ l.length := by
  induction l with
  | nil => intro a; simp
  | cons x l ih =>
    intro a
    have h := ih (a * 256 + x.toNat)
    have hx := x.toNat_lt
    have h2 : (a * 256 + x.toNat + 1) * 256 ^ l.length ≤ ((a + 1) * 256) * 256 ^ l.length := Nat.mul_le_mul_right _ (by omega)
    simp only [List.foldl_cons, List.length_cons, Nat.pow_succ]
    have e : (a + 1) * (256 ^ l.length * 256) = ((a + 1) * 256) * 256 ^ l.length := by rw [Nat.mul_comm (256 ^ l.length) 256, Nat.mul_assoc]
    omega
theorem beVal_lt (l : List UInt8) : beVal l < 256 ^ l.length := by
  have := beVal_aux l 0
  simpa [beVal] using this

theorem ofInt_i64 (a : Nat) (ha : a < 9223372036854775808) : (BitVec.ofInt 64 (a : Int)).toNat = a := by
  rw [BitVec.ofInt_natCast, BitVec.toNat_ofNat]; exact Nat.mod_eq_of_lt (by omega)
theorem i64_or_nat (a b : Nat) (ha : a < 9223372036854775808) (hb : b < 9223372036854775808) : bits .or .i64 (a : Int) (b : Int) = ((a ||| b : Nat) : Int) := by
  have hx : a ||| b < 2 ^ 63 := Nat.or_lt_two_pow (by omega) (by omega)
  show IntKind.i64.wrap ((BitVec.ofInt 64 (a : Int) ||| BitVec.ofInt 64 (b : Int)).toNat : Int) = _
  rw [BitVec.toNat_or, ofInt_i64 a ha, ofInt_i64 b hb, IntKind.wrap_i64]
  omega
theorem or_byte (v x : Nat) (hv : v < 1099511627776) (hx : x < 256) : bits .or .i64 (wrap64 ((v : Int) * 256)) (wrap64 (x : Int)) = ((v * 256 + x : Nat) : Int) := by
  have e1 : wrap64 ((v : Int) * 256) = ((v * 256 : Nat) : Int) := by unfold wrap64; omega
  have e2 : wrap64 (x : Int) = ((x : Nat) : Int) := by unfold wrap64; omega
  rw [e1, e2, i64_or_nat _ _ (by omega) (by omega)]
  have h := Nat.shiftLeft_add_eq_or_of_lt (i := 8) (b := x) (by omega) v
  rw [Nat.shiftLeft_eq] at h
  rw [← h]

/-- []byte(t): a new block -/
theorem bytes_conv (t : ByteArray) : ∃ (capF : World → Nat) (rowF : World → Array Value) (fzF : World → Nat × Nat),
    (∀ W, (convert 9 30 (.string t)).run Tryz.prog W = .ok (.slice (some ⟨W.heap.size, 0, none⟩) t.size (capF W)) (W.drew.alloc (.cells (rowF W) 5 (fzF W)))) ∧
    ∀ (W : World) (j : Nat) (x : UInt8), t.data.toList[j]? = some x → (rowF W)[j]? = some (Value.int .u8 x.toNat) :=
  ⟨_, _, _, fun W => run_bytes_of_string W 9 30 5 t Tryz.underlying9 Tryz.underlying30 Tryz.underlying5, by
    intro W j x hx
    have hj : j < t.data.toList.length := (List.getElem?_eq_some_iff.1 hx).1
    have hx' : t.data[j]? = some x := by simpa using hx
    unfold bytesRow
    rw [Array.getElem?_append_left (by simpa using hj), Array.getElem?_map, hx']
    rfl⟩

def numR (wd : Nat) (s : ByteArray) (bad : Bool) : Nat × ByteArray × Bool := (beVal (rawR wd s bad).1.data.toList, (rawR wd s bad).2.1, (rawR wd s bad).2.2)

def NumRes (b : Nat) (w : World) (r : Nat × ByteArray × Bool) (e : Ending) (w' : World) : Prop := e = .returned (.int .i64 r.1) ∧ InAt w' b r.2.1 r.2.2 ∧ Fr (fun k => k = b) w w'

theorem inNum_any (b wd : Nat) (s : ByteArray) (bad : Bool) (w : World) (h : InAt w b s bad) (hwd : wd = 1 ∨ wd = 2 ∨ wd = 4) : Calls Tryz.prog 109 #[.pointer (some ⟨b, 0, none⟩), .int .i64 wd] w (NumRes b w (numR wd s bad)) := by
  have hw : isWidth wd = true := by simp [isWidth]; omega
  have hiw := fun W => isWidth_any wd W
  simp only [hw] at hiw
  have hraw : Calls Tryz.prog 124 #[.pointer (some ⟨b, 0, none⟩), .int .i64 wd] w (RawRes b w (rawR wd s bad)) := inRaw_any b s bad wd w h
  have hlen : (rawR wd s bad).1.size ≤ 4 := by
    unfold rawR
    split
    · show (0 : Nat) ≤ 4; omega
    · simp [ByteArray.size_extract]; omega
  have hnum : numR wd s bad = (beVal (rawR wd s bad).1.data.toList, (rawR wd s bad).2.1, (rawR wd s bad).2.2) := rfl
  generalize rawR wd s bad = r at hraw hlen hnum
  obtain ⟨t, s', bad'⟩ := r
  dsimp only at hlen hnum
  have hraw' : Calls Tryz.prog 124 #[.pointer (some ⟨b, 0, none⟩), .int .i64 wd] w fun e w' => e = .returned (.string t) ∧ InAt w' b s' bad' ∧ Fr (fun k => k = b) w w' := hraw
  have Hraw := Lib.hid hraw'
  have Hiw := Lib.hid hiw
  have Hnum := Lib.hid hnum
  clear hraw hraw' hiw hnum h hw hwd
  obtain ⟨capF, rowF, fzF, kc, hrow⟩ := bytes_conv t
  have Hrow := Lib.hid hrow
  clear hrow
  go_enter Tryz.func109, Tryz.ntmps109
  go_wp2_with (first | (go_at_call 128; (with_reducible refine (Hiw.out _).mono ?_); rintro e w1 ⟨rfl, rfl⟩) | (go_at_call 124; (with_reducible refine Hraw.out.mono ?_); rintro e w1 ⟨rfl, hi, hfr⟩))
  have hb1 : InAt ((w1.alloc (.cells (rowF w1) 5 (fzF w1))).drew) b s' bad' := hi.below (Below.alloc (Below.refl _ _) (Nat.le_refl _) _).drew
  have hf1 : Fr (fun k => k = b) w ((w1.alloc (.cells (rowF w1) 5 (fzF w1))).drew) := (hfr.alloc _).drew
  have hcell : ∀ j x, t.data.toList[j]? = some x → ((w1.alloc (.cells (rowF w1) 5 (fzF w1))).drew).cell? ⟨w1.heap.size, j, none⟩ = some (.int .u8 (x.toNat : Int)) := fun j x hx => by
    have := Hrow.out w1 j x hx
    have hh : ((w1.alloc (.cells (rowF w1) 5 (fzF w1))).drew).heap[w1.heap.size]? = some (.cells (rowF w1) 5 (fzF w1)) := heap_alloc_new w1 _
    rw [Lib.cell_of_heap hh]; exact this
  generalize (w1.alloc (.cells (rowF w1) 5 (fzF w1))).drew = W at hb1 hf1 hcell ⊢
  have Hcell := Lib.hid hcell
  clear kc hcell Hrow
  have htl : t.data.toList.length = t.size := by simp
  have Htl := Lib.hid htl
  clear htl
  go_loop [16, 5, 7] (fun i n _ => ∃ k : Nat, k ≤ t.size ∧ i = .int .i64 k ∧ n = .int .i64 (beVal (t.data.toList.take k))) (fun i _ _ => t.size - (intOf i).toNat)
  case atStart => exact ⟨0, Nat.zero_le _, rfl, rfl⟩
  case round =>
    obtain ⟨k, hk, rfl, rfl⟩ := hrel
    by_cases hlt : k < t.size
    · obtain ⟨x, hx⟩ : ∃ x, t.data.toList[k]? = some x := ⟨t.data.toList[k]'(by rw [Htl.out]; exact hlt), List.getElem?_eq_getElem _⟩
      have hc := Hcell.out k x hx
      have hx8 := x.toNat_lt
      generalize hv : beVal (t.data.toList.take k) = v
      have Hv := Lib.hid hv
      have Hx := Lib.hid hx
      have Hx8 := Lib.hid hx8
      clear hv hx hx8
      go_wp2
      go_round
      case rel => exact ⟨k + 1, by omega, by go_num, by
        have hl := beVal_lt (t.data.toList.take k)
        rw [Hv.out] at hl
        have hle : 256 ^ (t.data.toList.take k).length ≤ 256 ^ 4 := Nat.pow_le_pow_right (by omega) (by rw [List.length_take]; omega)
        rw [or_byte v x.toNat (by omega) Hx8.out, List.take_add_one, Hx.out, Option.toList_some, beVal_snoc, Hv.out]⟩
      case measure => simp [intOf]; omega
    · have hk' : t.data.toList.take k = t.data.toList := List.take_of_length_le (by rw [Htl.out]; omega)
      rw [hk']
      have hneg : ¬ ((beVal t.data.toList : Nat) : Int) < 0 := by omega
      clear hk'
      go_wp2
      go_ret
      rw [Hnum.out]
      exact ⟨rfl, hb1, hf1⟩
end Go.Proofs.YtdfgdnaejnngoaaGreat
namespace Go.Proofs.YtdfgdnaejnngoaaGreat
open Go.RowKit

def textR (most : Int) (s : ByteArray) (bad : Bool) : ByteArray × ByteArray × Bool :=
  rawR (if most < ((numR 1 s bad).1 : Int) then -1 else ((numR 1 s bad).1 : Int)) (numR 1 s bad).2.1 (numR 1 s bad).2.2

theorem inText_any (b : Nat) (most : Int) (s : ByteArray) (bad : Bool) (w : World) (h : InAt w b s bad) : Calls Tryz.prog 122 #[.pointer (some ⟨b, 0, none⟩), .int .i64 most] w (RawRes b w (textR most s bad)) := by
  have hn : Calls Tryz.prog 109 #[.pointer (some ⟨b, 0, none⟩), .int .i64 1] w fun e w' => e = .returned (.int .i64 ((numR 1 s bad).1 : Int)) ∧ InAt w' b (numR 1 s bad).2.1 (numR 1 s bad).2.2 ∧ Fr (fun k => k = b) w w' := inNum_any b 1 s bad w h (.inl rfl)
  have ht : textR most s bad = rawR (if most < ((numR 1 s bad).1 : Int) then -1 else ((numR 1 s bad).1 : Int)) (numR 1 s bad).2.1 (numR 1 s bad).2.2 := rfl
  generalize numR 1 s bad = r at hn ht
  obtain ⟨m, s', bad'⟩ := r
  dsimp only at hn ht
  have Hn := Lib.hid hn
  have hr := fun n W h => inRaw_any b s' bad' n W h
  have Hr := Lib.hid hr
  by_cases hm : most < (m : Int)
  · rw [if_pos hm] at ht
    have Ht := Lib.hid ht
    clear hn hr ht h
    go_enter Tryz.func122, Tryz.ntmps122
    go_wp2_with (first | (go_at_call 109; (with_reducible refine Hn.out.mono ?_); rintro e w1 ⟨rfl, hi, hfr⟩) | (go_at_call 124; (with_reducible refine (Hr.out _ _ hi).mono ?_); rintro e w2 ⟨rfl, hi2, hfr2⟩))
    go_ret
    rw [Ht.out]
    exact ⟨rfl, hi2, hfr.trans hfr2 (fun _ _ h => h)⟩
  · rw [if_neg hm] at ht
    have Ht := Lib.hid ht
    clear hn hr ht h
    go_enter Tryz.func122, Tryz.ntmps122
    go_wp2_with (first | (go_at_call 109; (with_reducible refine Hn.out.mono ?_); rintro e w1 ⟨rfl, hi, hfr⟩) | (go_at_call 124; (with_reducible refine (Hr.out _ _ hi).mono ?_); rintro e w2 ⟨rfl, hi2, hfr2⟩))
    go_ret
    rw [Ht.out]
    exact ⟨rfl, hi2, hfr.trans hfr2 (fun _ _ h => h)⟩

/-- a number's value -/
def valBytes (n : Nat) : List UInt8 := numBytes 4 (n / 4294967296) ++ numBytes 4 (n % 4294967296)
theorem valBytes_length (n : Nat) : (valBytes n).length = 8 := by simp [valBytes, numBytes_length]

theorem u64_and_low (n : Nat) (hn : n < 18446744073709551616) : bits .and .u64 (n : Int) 4294967295 = ((n % 4294967296 : Nat) : Int) := by
  have h := Nat.and_two_pow_sub_one_eq_mod n 32
  show IntKind.u64.wrap ((BitVec.ofInt 64 (n : Int) &&& BitVec.ofInt 64 4294967295).toNat : Int) = _
  have e1 : (BitVec.ofInt 64 (n : Int)).toNat = n := by rw [BitVec.ofInt_natCast, BitVec.toNat_ofNat]; exact Nat.mod_eq_of_lt (by omega)
  have e2 : (BitVec.ofInt 64 4294967295).toNat = 2 ^ 32 - 1 := rfl
  rw [BitVec.toNat_and, e1, e2, h]
  simp [IntKind.wrap, IntKind.bits, IntKind.signed]
  omega

set_option maxRecDepth 100000 in
theorem value_any (n : Nat) (w : World) (hn : n < 18446744073709551616) : Calls Tryz.prog 106 #[.int .u64 (n : Int)] w fun e w' => e = .returned (.string ⟨(valBytes n).toArray⟩) ∧ Below w.heap.size w w' := by
  have hand := u64_and_low n hn
  have h1 : n / 4294967296 < 4294967296 := by omega
  have h2 : n % 4294967296 < 4294967296 := by omega
  have hdiv : (n : Int) / 4294967296 = ((n / 4294967296 : Nat) : Int) := by omega
  have hval : valBytes n = numBytes 4 (n / 4294967296) ++ numBytes 4 (n % 4294967296) := rfl
  generalize n / 4294967296 = p at h1 hdiv hval
  generalize n % 4294967296 = q at h2 hand hval
  have Hval := Lib.hid hval
  clear hval hn
  have hcall : Calls Tryz.prog 125 #[.pointer (some ⟨w.heap.size, 0, none⟩), .int .i64 4, .slice (some ⟨w.heap.size + 1, 0, none⟩) 2 2] ((w.alloc (.cells #[.pointer none, .slice none 0 0] 180)).alloc (.cells #[.int .i64 (p : Int), .int .i64 (q : Int)] 3))
      fun e w' => e = .returned (.int .i64 0) ∧ ∃ G', OutB w' w.heap.size w.heap.size G' (numBytes 4 p ++ numBytes 4 q) ∧ Below w.heap.size w w' := by
    refine (outNum_B w.heap.size w.heap.size none [] (some ⟨w.heap.size + 1, 0, none⟩) 2 4 [(p : Int), (q : Int)] _ (OutAt.below (OutAt.new w) (Below.alloc (Below.refl _ _) (Nat.le_refl _) _)) (by simp; omega) (by decide) (by simp) (Elems.of_block (heap_new_at (by simp)) (by simp) (by simp)) ?_ ?_ ?_ (by simp)).mono ?_
    · intro ad e; cases e; simp
    · intro n hm; simp only [List.mem_cons, List.not_mem_nil, or_false] at hm
      rcases hm with rfl | rfl <;> simp [fitsB] <;> omega
    · intro n hm; simp only [List.mem_cons, List.not_mem_nil, or_false] at hm
      rcases hm with rfl | rfl <;> omega
    · rintro e w' ⟨rfl, G', ho, hst⟩
      refine ⟨rfl, G', by simpa using ho, ?_⟩
      exact (Below.alloc (Below.alloc (Below.refl _ w) (Nat.le_refl _) _) (by simp) _).trans (hst.fr.to_below (by simp; omega) (fun i hi => by rintro (e | e); omega; cases e))
  have Hcall := Lib.hid hcall
  clear hcall
  go_enter Tryz.func106, Tryz.ntmps106
  go_wp2_with (go_at_call 125; (with_reducible refine Hcall.out.mono ?_); rintro e w1 ⟨rfl, G', ho, hb⟩; have Ho := Lib.hid ho; clear ho)
  refine (outBytes_B _ _ _ _ _ Ho.out).mono ?_
  rintro e w2 ⟨rfl, hf2⟩
  go_wp2
  go_ret
  rw [Hval.out]
  exact ⟨rfl, hb.trans (hf2.to_below hb.size (fun i hi e => by have := (OutAt.glt Ho.out i e).1; omega))⟩

/-- what a value tells -/
def numOf (v : ByteArray) : Nat := beVal (v.extract 0 4).data.toList * 4294967296 + beVal (v.extract 4 v.size).data.toList

theorem number_no (v : ByteArray) (w : World) (hv : v.size ≠ 8) : Calls Tryz.prog 78 #[.string v] w fun e w' => e = .returned (.tuple #[.int .u64 0, .bool false]) ∧ Below w.heap.size w w' := by
  have h8 : ((v.size : Int) != 8) = true := by simp; omega
  clear hv
  go_enter Tryz.func78, Tryz.ntmps78
  go_wp2
  go_ret2
  exact ⟨rfl, Below.refl _ _⟩

theorem numR_4 (s : ByteArray) (hs : s.size = 4) : (numR 4 s false).1 = beVal s.data.toList := by
  unfold numR rawR
  rw [if_neg (by simp; omega)]
  have e : s.extract 0 4 = s := by rw [← hs]; exact ByteArray.extract_zero_size
  show beVal (s.extract 0 4).data.toList = _
  rw [e]

theorem u64_or_high (p q : Nat) (hp : p < 4294967296) (hq : q < 4294967296) : bits .or .u64 ((p : Int) * 4294967296) (q : Int) = ((p * 4294967296 + q : Nat) : Int) := by
  show IntKind.u64.wrap ((BitVec.ofInt 64 ((p : Int) * 4294967296) ||| BitVec.ofInt 64 (q : Int)).toNat : Int) = _
  have e1 : (BitVec.ofInt 64 ((p : Int) * 4294967296)).toNat = p * 4294967296 := by
    have : ((p : Int) * 4294967296) = ((p * 4294967296 : Nat) : Int) := by omega
    rw [this, BitVec.ofInt_natCast, BitVec.toNat_ofNat]; exact Nat.mod_eq_of_lt (by omega)
  have e2 : (BitVec.ofInt 64 (q : Int)).toNat = q := by rw [BitVec.ofInt_natCast, BitVec.toNat_ofNat]; exact Nat.mod_eq_of_lt (by omega)
  have h := Nat.shiftLeft_add_eq_or_of_lt (i := 32) (b := q) (by omega) p
  rw [Nat.shiftLeft_eq] at h
  rw [BitVec.toNat_or, e1, e2, show p * 4294967296 = p * 2 ^ 32 from rfl, ← h]
  simp [IntKind.wrap, IntKind.bits, IntKind.signed]
  omega

theorem InAt.drew {w : World} {b : Nat} {s : ByteArray} {bad : Bool} (h : InAt w b s bad) : InAt w.drew b s bad := h
set_option maxRecDepth 100000 in
theorem number_yes (v : ByteArray) (w : World) (hv : v.size = 8) : Calls Tryz.prog 78 #[.string v] w fun e w' => e = .returned (.tuple #[.int .u64 (numOf v : Int), .bool true]) ∧ Below w.heap.size w w' := by
  have h8 : ((v.size : Int) != 8) = false := by simp; omega
  have h4 : 4 ≤ v.size := by omega
  have h4i : (4 : Int) ≤ (v.size : Int) := by omega
  have s1 : (v.extract 0 4).size = 4 := by simp [ByteArray.size_extract]; omega
  have s2 : (v.extract 4 v.size).size = 4 := by simp [ByteArray.size_extract]; omega
  have n1 := numR_4 _ s1
  have n2 := numR_4 _ s2
  have hp : beVal (v.extract 0 4).data.toList < 4294967296 := by have := beVal_lt (v.extract 0 4).data.toList; rw [Array.length_toList] at this; rw [show (v.extract 0 4).data.size = 4 from s1] at this; exact this
  have hq : beVal (v.extract 4 v.size).data.toList < 4294967296 := by have := beVal_lt (v.extract 4 v.size).data.toList; rw [Array.length_toList] at this; rw [show (v.extract 4 v.size).data.size = 4 from s2] at this; exact this
  have hval : numOf v = beVal (v.extract 0 4).data.toList * 4294967296 + beVal (v.extract 4 v.size).data.toList := rfl
  have c1 : ∀ W b, InAt W b (v.extract 0 4) false → Calls Tryz.prog 109 #[.pointer (some ⟨b, 0, none⟩), .int .i64 4] W fun e w' => e = .returned (.int .i64 (beVal (v.extract 0 4).data.toList : Int)) ∧ Fr (fun k => k = b) W w' := fun W b h => (inNum_any b 4 _ false W h (by simp)).mono fun e w' ⟨h1, _, h3⟩ => ⟨by rw [h1, n1], h3⟩
  have c2 : ∀ W b, InAt W b (v.extract 4 v.size) false → Calls Tryz.prog 109 #[.pointer (some ⟨b, 0, none⟩), .int .i64 4] W fun e w' => e = .returned (.int .i64 (beVal (v.extract 4 v.size).data.toList : Int)) ∧ Fr (fun k => k = b) W w' := fun W b h => (inNum_any b 4 _ false W h (by simp)).mono fun e w' ⟨h1, _, h3⟩ => ⟨by rw [h1, n2], h3⟩
  generalize beVal (v.extract 0 4).data.toList = p at hp hval c1
  generalize beVal (v.extract 4 v.size).data.toList = q at hq hval c2
  have hor := u64_or_high p q hp hq
  have Hval := Lib.hid hval
  have C1 := Lib.hid c1
  have C2 := Lib.hid c2
  clear n1 n2 s1 s2 hv c1 c2 hval
  go_enter Tryz.func78, Tryz.ntmps78
  go_wp2
  refine rg_start (n := 10) (fun w' => Below w.heap.size w w') #[false, false, false, false, false, false, false, false, false, false] (by kernel_rfl) rfl rfl (Below.refl _ _).drew (fun hHeld => ?_)
  refine rg_take (i := 0) (N := (some 9)) (v := ?_) (a' := ?_) #[true, false, false, false, false, false, false, false, false, false] rfl rfl (by kernel_rfl) (fun _ _ _ h => h) (by rfl) ?_ hHeld ?_ ?_
  rotate_left 2
  · rintro w' s0
    go_simp
    try with_reducible rfl
  · simp only [Act.put, List.setIfInBounds_toArray, List.set_cons_zero, List.set_cons_succ]
    rfl
  refine rg_take (i := 1) (N := (some 10)) (v := ?_) (a' := ?_) #[true, true, false, false, false, false, false, false, false, false] rfl rfl (by kernel_rfl) (fun _ _ _ h => h) (by rfl) ?_ hHeld ?_ ?_
  rotate_left 2
  · rintro w' s0
    go_simp
    try with_reducible rfl
  · simp only [Act.put, List.setIfInBounds_toArray, List.set_cons_zero, List.set_cons_succ]
    rfl
  refine rg_take (i := 4) (N := (some 13)) (v := ?_) (a' := ?_) #[true, true, false, false, true, false, false, false, false, false] rfl rfl (by kernel_rfl) (fun _ _ _ h => h) (by rfl) ?_ hHeld ?_ ?_
  rotate_left 2
  · rintro w' s0
    go_simp
    try with_reducible rfl
  · simp only [Act.put, List.setIfInBounds_toArray, List.set_cons_zero, List.set_cons_succ]
    rfl
  refine rg_take (i := 5) (N := (some 14)) (v := ?_) (a' := ?_) #[true, true, false, false, true, true, false, false, false, false] rfl rfl (by kernel_rfl) (fun _ _ _ h => h) (by rfl) ?_ hHeld ?_ ?_
  rotate_left 2
  · rintro w' s0
    go_simp
    try with_reducible rfl
  · simp only [Act.put, List.setIfInBounds_toArray, List.set_cons_zero, List.set_cons_succ]
    rfl
  refine rg_one (i := 2) #[true, true, true, false, true, true, false, false, false, false] rfl (by kernel_rfl) (by rfl) (fun K hK => ?_)
  have s0 := hHeld
  clear hHeld
  repeat go_step
  ((with_reducible refine (inOf_any _ _).mono ?_); rintro e w1 ⟨rfl, rfl⟩)
  try dsimp only
  refine hK.out _ _ ?_ (fun hHeld => ?_)
  · exact below_alloc s0
  clear hK K
  clear s0
  refine rg_one (i := 3) #[true, true, true, true, true, true, false, false, false, false] rfl (by kernel_rfl) (by rfl) (fun K hK => ?_)
  have s0 := hHeld
  clear hHeld
  repeat go_step
  ((with_reducible refine (C1.out _ _ (InAt.drew (InAt.new w _))).mono ?_); rintro e w2 ⟨rfl, hf2⟩)
  try dsimp only
  refine hK.out _ _ ?_ (fun hHeld => ?_)
  · exact s0.trans (hf2.to_below s0.size (fun i hi e => by have := s0.size; omega))
  clear hK K
  clear s0
  refine rg_one (i := 6) #[true, true, true, true, true, true, true, false, false, false] rfl (by kernel_rfl) (by rfl) (fun K hK => ?_)
  have s0 := hHeld
  clear hHeld
  repeat go_step
  (have hz2 := s0.size; (with_reducible refine (inOf_any _ _).mono ?_); rintro e w1 ⟨rfl, rfl⟩)
  try dsimp only
  refine hK.out _ _ ?_ (fun hHeld => ?_)
  · exact below_alloc s0
  clear hK K
  clear s0
  refine rg_one (i := 7) #[true, true, true, true, true, true, true, true, false, false] rfl (by kernel_rfl) (by rfl) (fun K hK => ?_)
  have s0 := hHeld
  clear hHeld
  repeat go_step
  ((with_reducible refine (C2.out _ _ (InAt.new w2 _)).mono ?_); rintro e w3 ⟨rfl, hf3⟩)
  try dsimp only
  refine hK.out _ _ ?_ (fun hHeld => ?_)
  · exact s0.trans (hf3.to_below s0.size (fun i hi e => by omega))
  clear hK K
  clear s0
  refine rg_take (i := 8) (N := (some 4)) (v := ?_) (a' := ?_) #[true, true, true, true, true, true, true, true, true, false] rfl rfl (by kernel_rfl) (fun _ _ _ h => h) (by rfl) ?_ hHeld ?_ ?_
  rotate_left 2
  · rintro w' s0
    go_simp
    try with_reducible rfl
  · simp only [Act.put, List.setIfInBounds_toArray, List.set_cons_zero, List.set_cons_succ]
    rfl
  refine rg_take (i := 9) (N := (some 5)) (v := ?_) (a' := ?_) #[true, true, true, true, true, true, true, true, true, true] rfl rfl (by kernel_rfl) (fun _ _ _ h => h) (by rfl) ?_ hHeld ?_ ?_
  rotate_left 2
  · rintro w' s0
    go_simp
    try with_reducible rfl
  · simp only [Act.put, List.setIfInBounds_toArray, List.set_cons_zero, List.set_cons_succ]
    rfl
  refine rg_done (by kernel_rfl) ?_
  go_wp2
  go_ret2
  rw [Hval.out]
  exact ⟨rfl, hHeld⟩
end Go.Proofs.YtdfgdnaejnngoaaGreat
namespace Go.Proofs.YtdfgdnaejnngoaaGreat
open Go.RowKit
/-! Model and Prune: msg.sum, msg.Apply. -/
def valB (n : Nat) : ByteArray := ⟨(valBytes n).toArray⟩
def sumS (v u : ByteArray) : ByteArray := if v.size = 8 ∧ u.size = 8 then valB ((numOf v + numOf u) % 18446744073709551616) else v
theorem msgSum_any (v u : ByteArray) (w : World) : Calls Tryz.prog 135 #[.string v, .string u] w fun e w' => e = .returned (.string (sumS v u)) ∧ Below w.heap.size w w' := by
  have hs : sumS v u = if v.size = 8 ∧ u.size = 8 then valB ((numOf v + numOf u) % 18446744073709551616) else v := rfl
  by_cases h1 : v.size = 8
  · have n1 := fun W => number_yes v W h1
    by_cases h2 : u.size = 8
    · have n2 := fun W => number_yes u W h2
      rw [if_pos ⟨h1, h2⟩] at hs
      have hv := fun W => value_any ((numOf v + numOf u) % 18446744073709551616) W (by omega)
      have hE : ((((numOf v + numOf u) % 18446744073709551616 : Nat)) : Int) = IntKind.u64.wrap ((numOf v : Int) + (numOf u : Int)) := by
        simp [IntKind.wrap, IntKind.signed, IntKind.bits]
      rw [hE] at hv
      have hv2 : ⟨(valBytes ((numOf v + numOf u) % 18446744073709551616)).toArray⟩ = sumS v u := hs.symm
      rw [hv2] at hv
      generalize sumS v u = R at hv ⊢
      generalize numOf v = a at *
      generalize numOf u = b at *
      have N1 := Lib.hid n1
      have N2 := Lib.hid n2
      have HV := Lib.hid hv
      clear n1 n2 hv hv2 hs h1 h2 hE
      go_enter Tryz.func135, Tryz.ntmps135
      go_wp2_with fail
      refine Calls.mono (N1.out _) ?_
      rintro e w1 ⟨rfl, hb1⟩
      go_wp2_with fail
      refine Calls.mono (N2.out _) ?_
      rintro e w2 ⟨rfl, hb2⟩
      go_wp2_with fail
      refine Calls.mono (HV.out _) ?_
      rintro e w3 ⟨rfl, hb3⟩
      have hb := below_next (below_next hb1 hb2) hb3
      clear hb1 hb2 hb3
      go_wp2
      go_ret
      exact ⟨rfl, hb⟩
    · have n2 := fun W => number_no u W h2
      rw [if_neg (by intro h; exact h2 h.2)] at hs
      rw [hs]
      generalize numOf v = a at *
      have N1 := Lib.hid n1
      have N2 := Lib.hid n2
      clear n1 n2 hs h1 h2
      go_enter Tryz.func135, Tryz.ntmps135
      go_wp2_with fail
      refine Calls.mono (N1.out _) ?_
      rintro e w1 ⟨rfl, hb1⟩
      go_wp2_with fail
      refine Calls.mono (N2.out _) ?_
      rintro e w2 ⟨rfl, hb2⟩
      have hb := below_next hb1 hb2
      clear hb1 hb2
      go_wp2
      go_ret
      exact ⟨rfl, hb⟩
  · have n1 := fun W => number_no v W h1
    rw [if_neg (by intro h; exact h1 h.1)] at hs
    rw [hs]
    have n2 : ∃ (x : Int) (y : Bool), ∀ W, Calls Tryz.prog 78 #[.string u] W fun e w' => e = .returned (.tuple #[.int .u64 x, .bool y]) ∧ Below W.heap.size W w' := by
      by_cases h2 : u.size = 8
      · exact ⟨_, _, fun W => number_yes u W h2⟩
      · exact ⟨_, _, fun W => number_no u W h2⟩
    obtain ⟨x, y, n2⟩ := n2
    have N1 := Lib.hid n1
    have N2 := Lib.hid n2
    clear n1 n2 hs h1
    go_enter Tryz.func135, Tryz.ntmps135
    go_wp2_with fail
    refine Calls.mono (N1.out _) ?_
    rintro e w1 ⟨rfl, hb1⟩
    go_wp2_with fail
    refine Calls.mono (N2.out _) ?_
    rintro e w2 ⟨rfl, hb2⟩
    have hb := below_next hb1 hb2
    clear hb1 hb2
    go_wp2
    go_ret
    exact ⟨rfl, hb⟩
end Go.Proofs.YtdfgdnaejnngoaaGreat
namespace Go.Proofs.YtdfgdnaejnngoaaGreat
open Go.RowKit
/-! Model and Prune: msg.Apply. -/
def applyO (x : Mg) (o : Option ByteArray) : Option ByteArray :=
  if isMsg x = true then (if x.kind = 2 then none else if x.kind = 1 then some x.val else match o with | none => some x.val | some v => some (sumS v x.val)) else o
set_option maxHeartbeats 1000000 in
set_option maxRecDepth 100000 in
theorem msgApply_any (x : Mg) (o : Option ByteArray) (w : World) : Calls Tryz.prog 117 #[x.v, .string (strO o), .bool o.isSome] w fun e w' => e = .returned (.tuple #[.string (strO (applyO x o)), .bool (applyO x o).isSome]) ∧ Below w.heap.size w w' := by
  have hn := fun W => msgIsNot_any x W
  have hS := fun v W => msgSum_any v x.val W
  have hap : applyO x o = if isMsg x = true then (if x.kind = 2 then none else if x.kind = 1 then some x.val else match o with | none => some x.val | some v => some (sumS v x.val)) else o := rfl
  generalize applyO x o = R at hap ⊢
  generalize isMsg x = im at hn hap
  obtain ⟨kind, k, v⟩ := x
  rw [Mg.v_def] at hn ⊢
  dsimp only at hap hS
  have HN := Lib.hid hn
  have HS := Lib.hid hS
  clear hn hS
  cases im
  · rw [if_neg (by decide)] at hap
    subst hap
    cases R with
    | none =>
      go_enter Tryz.func117, Tryz.ntmps117
      go_wp2_with (go_at_call 134; (with_reducible refine (HN.out _).mono ?_); rintro e w1 ⟨rfl, hb1⟩)
      (try simp only [Exit.inBlock, Exit.then])
      refine bodyPost_ret (results_tmp2 rfl _ _ _) rfl ⟨rfl, below_next (by repeat (first | assumption | exact Below.refl _ _ | (refine below_step (w := ?_) ?_ ?_ ?_; rotate_left 2; assumption) | refine Below.drew ?_ | refine below_drewN ?_ _ | refine Below.alloc ?_ ?_ _ | refine Below.setCell ?_ ?_ _ | (focus (simp; done)) | (focus (simp; omega)) | omega)) hb1⟩
    | some u =>
      go_enter Tryz.func117, Tryz.ntmps117
      go_wp2_with (go_at_call 134; (with_reducible refine (HN.out _).mono ?_); rintro e w1 ⟨rfl, hb1⟩)
      (try simp only [Exit.inBlock, Exit.then])
      refine bodyPost_ret (results_tmp2 rfl _ _ _) rfl ⟨rfl, below_next (by repeat (first | assumption | exact Below.refl _ _ | (refine below_step (w := ?_) ?_ ?_ ?_; rotate_left 2; assumption) | refine Below.drew ?_ | refine below_drewN ?_ _ | refine Below.alloc ?_ ?_ _ | refine Below.setCell ?_ ?_ _ | (focus (simp; done)) | (focus (simp; omega)) | omega)) hb1⟩
  · rw [if_pos rfl] at hap
    by_cases h2 : kind = 2
    · rw [if_pos h2] at hap
      subst hap h2
      cases o with
      | none =>
        go_enter Tryz.func117, Tryz.ntmps117
        go_wp2_with (go_at_call 134; (with_reducible refine (HN.out _).mono ?_); rintro e w1 ⟨rfl, hb1⟩; obtain ⟨c0, c1, c2⟩ := box3 hb1; have HB1 := Lib.hid (below_next (Below.alloc (Below.refl _ _) (Nat.le_refl _) _) hb1); clear hb1)
        (try simp only [Exit.inBlock, Exit.then])
        refine bodyPost_ret (results_tmp2 rfl _ _ _) rfl ⟨rfl, HB1.out⟩
      | some u =>
        go_enter Tryz.func117, Tryz.ntmps117
        go_wp2_with (go_at_call 134; (with_reducible refine (HN.out _).mono ?_); rintro e w1 ⟨rfl, hb1⟩; obtain ⟨c0, c1, c2⟩ := box3 hb1; have HB1 := Lib.hid (below_next (Below.alloc (Below.refl _ _) (Nat.le_refl _) _) hb1); clear hb1)
        (try simp only [Exit.inBlock, Exit.then])
        refine bodyPost_ret (results_tmp2 rfl _ _ _) rfl ⟨rfl, HB1.out⟩
    · rw [if_neg h2] at hap
      have e2 : (kind == 2) = false := by simp [h2]
      by_cases h1 : kind = 1
      · rw [if_pos h1] at hap
        subst hap h1
        clear h2 e2
        cases o with
        | none =>
          go_enter Tryz.func117, Tryz.ntmps117
          go_wp2_with (go_at_call 134; (with_reducible refine (HN.out _).mono ?_); rintro e w1 ⟨rfl, hb1⟩; obtain ⟨c0, c1, c2⟩ := box3 hb1; have HB1 := Lib.hid (below_next (Below.alloc (Below.refl _ _) (Nat.le_refl _) _) hb1); clear hb1)
          (try simp only [Exit.inBlock, Exit.then])
          refine bodyPost_ret (results_tmp2 rfl _ _ _) rfl ⟨rfl, HB1.out⟩
        | some u =>
          go_enter Tryz.func117, Tryz.ntmps117
          go_wp2_with (go_at_call 134; (with_reducible refine (HN.out _).mono ?_); rintro e w1 ⟨rfl, hb1⟩; obtain ⟨c0, c1, c2⟩ := box3 hb1; have HB1 := Lib.hid (below_next (Below.alloc (Below.refl _ _) (Nat.le_refl _) _) hb1); clear hb1)
          (try simp only [Exit.inBlock, Exit.then])
          refine bodyPost_ret (results_tmp2 rfl _ _ _) rfl ⟨rfl, HB1.out⟩
      · rw [if_neg h1] at hap
        have e1 : (kind == 1) = false := by simp [h1]
        cases o with
        | none =>
          dsimp only at hap
          subst hap
          go_enter Tryz.func117, Tryz.ntmps117
          go_wp2_with (go_at_call 134; (with_reducible refine (HN.out _).mono ?_); rintro e w1 ⟨rfl, hb1⟩; obtain ⟨c0, c1, c2⟩ := box3 hb1; have HB1 := Lib.hid (below_next (Below.alloc (Below.refl _ _) (Nat.le_refl _) _) hb1); clear hb1)
          (try simp only [Exit.inBlock, Exit.then])
          refine bodyPost_ret (results_tmp2 rfl _ _ _) rfl ⟨rfl, HB1.out⟩
        | some u =>
          dsimp only at hap
          subst hap
          go_enter Tryz.func117, Tryz.ntmps117
          go_wp2_with (first | (go_at_call 134; (with_reducible refine (HN.out _).mono ?_); rintro e w1 ⟨rfl, hb1⟩; obtain ⟨c0, c1, c2⟩ := box3 hb1; have HB1 := Lib.hid (below_next (Below.alloc (Below.refl _ _) (Nat.le_refl _) _) hb1); clear hb1) | (go_at_call 135; (with_reducible refine (HS.out _ _).mono ?_); rintro e w2 ⟨rfl, hb2⟩))
          (try simp only [Exit.inBlock, Exit.then])
          refine bodyPost_ret (results_tmp2 rfl _ _ _) rfl ⟨rfl, below_next HB1.out hb2⟩
end Go.Proofs.YtdfgdnaejnngoaaGreat
namespace Go.Proofs.YtdfgdnaejnngoaaGreat
open Go.RowKit
/-! copy, of elements of more cells than one. -/
theorem Fr.tr {S : Nat → Prop} {a b c : World} (h : Fr S a b) (k : Fr S b c) : Fr S a c := h.trans k (fun _ _ h => h)
theorem run_copyK {P : Program} (w : World) (dT sT ty elem : TypeId) (k g o dLen dCap : Nat) (a : Addr) (sLen sCap : Nat) (cur : Array Value) (t : TypeId) (cs : List Value) (n : Nat)
    (hu : P.underlying dT = some (.slice elem)) (hs : (P.info? elem).map (·.size) = some k) (hg : w.heap[g]? = some (.cells cur t (0, 0))) (hn : n = Nat.min sLen dLen) (hl : cs.length = n * k)
    (hsrc : ∀ j v, cs[j]? = some v → w.cell? (a.add j) = some v) (hfit : o + cs.length ≤ cur.size) (h1 : ∀ v ∈ cs, v.oneCell' = true) :
    (Builtin.copy_ #[dT, sT] ty #[.slice (some ⟨g, o, none⟩) dLen dCap, .slice (some a) sLen sCap]).run P w =
      .ok (goInt n) (w.setRow g (cur.toList.take o ++ cs ++ cur.toList.drop (o + cs.length)).toArray) := by
  have hld := run_loadCells_list (P := P) w a cs hsrc
  have hst := run_storeCells_at P g o t cs 0 cur w hg (by simpa using hfit) h1
  rw [hl] at hld
  cases hq : P.info? elem with
  | none => simp [hq] at hs
  | some i =>
    have hi : i.size = k := by simpa [hq] using hs
    simp [Builtin.copy_, run_underlying hu, Builtin.lenOf, Builtin.firstCells, sizeOf, typeInfo, hq, hi, ← hn, hld, hst]
theorem setCells_wrW (g : Nat) : ∀ (us : List Value) (w : World) (o : Nat), w.setCells g o us = wrW w g o us
  | [], _, _ => rfl
  | u :: us, w, o => by rw [World.setCells, wrW, setCells_wrW g us]
theorem setCells_heap {e : TypeId} {g : Nat} (us : List Value) (w : World) (o : Nat) (cur : List Value) (h : w.heap[g]? = some (.cells cur.toArray e (0, 0))) : (w.setCells g o us).heap[g]? = some (.cells (wrL cur o us).toArray e (0, 0)) := by
  rw [setCells_wrW]
  exact wrW_heap us w o cur h
theorem setCells_is_fr (g : Nat) (us : List Value) (w : World) (o : Nat) : Fr (fun k => k = g) w (w.setCells g o us) := by
  rw [setCells_wrW]
  exact wrW_fr us w o
/-- a block of items, and what stands in its first places -/
theorem OwnsM.of_block {w : World} {B g cap : Nat} {cur : List Value} {l : List Itm} (hg : w.heap[g]? = some (.cells cur.toArray 41 (0, 0))) (hB : B ≤ g) (hc : cur.length = cap * 2) (hm : cap ≤ maxLen) (hl : l.length ≤ cap) (ht : cur.take (l.length * 2) = (l.map Itm.cells).flatten) : OwnsM w B (.slice (some ⟨g, 0, none⟩) l.length cap) l :=
  ⟨flatten_length Itm.clen l, .inr ⟨g, cap, cur.toArray, rfl, hB, hg, hl, hm, by simpa using hc, by simpa using ht⟩⟩
theorem OwnsM.block {w : World} {B n cap g : Nat} {l : List Itm} (h : OwnsM w B (.slice (some ⟨g, 0, none⟩) n cap) l) : ∃ cur : List Value, w.heap[g]? = some (.cells cur.toArray 41 (0, 0)) ∧ B ≤ g ∧ cur.length = cap * 2 ∧ cap ≤ maxLen ∧ l.length ≤ cap ∧ cur.take (l.length * 2) = (l.map Itm.cells).flatten ∧ n = l.length := by
  have hn := h.len
  rcases h.2 with ⟨he, _⟩ | ⟨g', cap', cur, he, hb, hgg, hc1, hc2, hc3, htake⟩
  · cases he
  · cases he
    exact ⟨cur.toList, by simpa using hgg, hb, by simpa using hc3, hc2, hc1, htake, hn⟩
end Go.Proofs.YtdfgdnaejnngoaaGreat
namespace Go.Proofs.YtdfgdnaejnngoaaGreat
open Go.RowKit
/-! slices.Delete of one item: what becomes of the block. -/
def fl (l : List Itm) : List Value := (l.map Itm.cells).flatten
theorem fl_len (l : List Itm) : (fl l).length = l.length * 2 := flatten_length Itm.clen l
theorem fl_append (l m : List Itm) : fl (l ++ m) = fl l ++ fl m := by simp [fl]
theorem wrL_seg {β : Type} (pre ys us : List β) (o : Nat) (ho : pre.length = o) (hl : us.length ≤ ys.length) : wrL (pre ++ ys) o us = pre ++ (us ++ ys.drop us.length) := by
  subst ho
  have h := wrL_mid us (ys.take us.length) (by rw [List.length_take]; omega) pre (ys.drop us.length)
  rwa [List.take_append_drop] at h
theorem eraseIdx_eq {α : Type} : ∀ (l : List α) (i : Nat), l.eraseIdx i = l.take i ++ l.drop (i + 1)
  | [], i => by simp
  | x :: l, 0 => by simp
  | x :: l, i + 1 => by simp [eraseIdx_eq l i]
theorem erase_len (l : List Itm) (i : Nat) (hi : i < l.length) : (l.eraseIdx i).length = l.length - 1 := by rw [eraseIdx_eq, List.length_append, List.length_take, List.length_drop]; omega
/-- the cells that follow are moved one place down -/
theorem del_move (l : List Itm) (i : Nat) (hi : i < l.length) (cur : List Value) (hc : l.length * 2 ≤ cur.length) (ht : cur.take (l.length * 2) = fl l) :
    (wrL cur (i * 2) (fl (l.drop (i + 1)))).take ((l.length - 1) * 2) = fl (l.eraseIdx i) ∧ (wrL cur (i * 2) (fl (l.drop (i + 1)))).length = cur.length := by
  refine ⟨?_, wrL_length _ _ _⟩
  have hsplit : l = l.take i ++ l.drop i := (List.take_append_drop i l).symm
  have hcur : cur = fl (l.take i) ++ (fl (l.drop i) ++ cur.drop (l.length * 2)) := by
    rw [← List.append_assoc, ← fl_append, ← hsplit, ← ht, List.take_append_drop]
  have hdl : (fl (l.drop (i + 1))).length ≤ (fl (l.drop i) ++ cur.drop (l.length * 2)).length := by
    rw [List.length_append, fl_len, fl_len, List.length_drop, List.length_drop]
    omega
  have hpl : (fl (l.take i)).length = i * 2 := by rw [fl_len, List.length_take, Nat.min_eq_left (by omega)]
  have h := wrL_seg (fl (l.take i)) (fl (l.drop i) ++ cur.drop (l.length * 2)) (fl (l.drop (i + 1))) (i * 2) hpl hdl
  rw [← hcur] at h
  rw [h, eraseIdx_eq, fl_append, ← List.append_assoc]
  exact List.take_left' (by rw [List.length_append, hpl, fl_len, List.length_drop]; omega)
theorem wr_take {β : Type} (l us : List β) (o : Nat) (h : o + us.length ≤ l.length) : (wrL l o us).take o = l.take o := by
  have hp : (l.take o).length = o := by rw [List.length_take]; omega
  have e := wrL_seg (l.take o) (l.drop o) us o hp (by rw [List.length_drop]; omega)
  rw [List.take_append_drop] at e
  rw [e]
  exact List.take_left' hp
end Go.Proofs.YtdfgdnaejnngoaaGreat
namespace Go.Proofs.YtdfgdnaejnngoaaGreat
open Go.RowKit
/-! slices.Delete of one item. -/
def zs2 : List Value := [.string ⟨#[]⟩, .string ⟨#[]⟩]
theorem blk_there {w : World} {g : Nat} {cur : List Value} {e : TypeId} (h : w.heap[g]? = some (.cells cur.toArray e (0, 0))) (o n : Nat) (hn : o + n ≤ cur.length) : ∀ j, j < n → (w.cell? ⟨g, o + j, none⟩).isSome = true := fun j hj => by
  rw [Lib.cell_of_heap h]
  simp
  omega
theorem item_zero (w : World) : (zeroValue 41).run Tryz.prog w = .ok (.agg #[.string ⟨#[]⟩, .string ⟨#[]⟩]) w := by kernel_rfl
theorem clear_one (w : World) (g o c : Nat) (ty : TypeId) (cur : List Value) (h : w.heap[g]? = some (.cells cur.toArray 41 (0, 0))) (hn : o + 2 ≤ cur.length) :
    (Builtin.clear_ #[29] ty #[.slice (some ⟨g, o, none⟩) 1 c]).run Tryz.prog w = .ok (.tuple #[]) (w.setCells g o zs2) := by
  have hst := run_storeCells_cells (P := Tryz.prog) g o zs2 0 w (by simp only [Nat.add_zero]; exact blk_there h o 2 hn) (fun j _ => Lib.frozen_of_heap h _) (by intro v hv; simp [zs2] at hv; rw [hv]; rfl)
  simp only [Nat.add_zero] at hst
  have hz := item_zero w
  have hzc : (Builtin.zeroCells (Value.agg #[.string ⟨#[]⟩, .string ⟨#[]⟩]).cells 1).toList = zs2 := by kernel_rfl
  simp [Builtin.clear_, run_underlying Tryz.underlying29, hz, hzc, hst]
theorem append_room (w : World) (g i n cap m c a : Nat) (ty : TypeId) (cur : List Value) (news : List Value) (h : w.heap[g]? = some (.cells cur.toArray 41 (0, 0))) (hl : news.length = m * 2) (hnews : ∀ j u, news[j]? = some u → w.cell? ((⟨g, a, none⟩ : Addr).add j) = some u) (h1 : ∀ u ∈ news, u.oneCell' = true)
    (hroom : i + m ≤ cap) (hfit : i * 2 + news.length ≤ cur.length) :
    (Builtin.append_ #[29, 29] ty #[.slice (some ⟨g, 0, none⟩) i cap, .slice (some ⟨g, a, none⟩) m c]).run Tryz.prog w = .ok (.slice (some ⟨g, 0, none⟩) (i + m) cap) (w.setCells g (i * 2) news) := by
  obtain ⟨i0, hi0, hz0, hz1, hz2⟩ := info_parts M_info
  have := run_append_room_cells (P := Tryz.prog) w 29 ty 41 i0 Tryz.underlying29 hi0 g 0 i cap ⟨g, a, none⟩ m c news (by rw [hz1]; exact hl) hnews h1 hroom (by rw [hz1, Nat.zero_add]; exact blk_there h (i * 2) news.length hfit) (fun j _ => Lib.frozen_of_heap h _)
  rw [hz1, Nat.zero_add] at this
  exact this
end Go.Proofs.YtdfgdnaejnngoaaGreat
