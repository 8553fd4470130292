import Derived.Test.YtdfgdnaejnngoaaFr
import Derived.Lib.Builder
import Derived.Lib.AppendStr
import Derived.Lib.UnsafeStr
import Derived.Lib.Strings
import Derived.Lib.Slices
import Derived.Lib.Walk
import Derived.Deep.DrawnRows
import Derived.Maps.AppendAt
namespace Go.Proofs.Ytdfgdnaejnngoaa
open Go.RowKit

/-- a pen.Out in block b, its buffer in block G, holding bs; all from block B on -/
def OutAt (w : World) (B b : Nat) (G : Option Nat) (bs : List Value) : Prop :=
  B ≤ b ∧ ∃ p v, w.heap[b]? = some (.cells #[p, v] 92 (0, 0)) ∧ (p = .pointer none ∨ p = .pointer (some ⟨b, 0, none⟩)) ∧ w.ownsRow B 5 1 v bs.length bs ∧ v.ownBlock = G ∧ G ≠ some b

/-- what a method of it may turn, and where its buffer lies behind it -/
structure OutStep (w w' : World) (b : Nat) (G G' : Option Nat) : Prop where
  fr : Fr (fun k => k = b ∨ G = some k) w w'
  at_ : G' = G ∨ ∃ g, G' = some g ∧ w.heap.size ≤ g

theorem OutAt.lt {w : World} {B b : Nat} {G : Option Nat} {bs : List Value} (h : OutAt w B b G bs) : b < w.heap.size := by
  obtain ⟨_, p, v, hb, _⟩ := h
  exact lt_of_row hb
theorem OutAt.glt {w : World} {B b : Nat} {G : Option Nat} {bs : List Value} (h : OutAt w B b G bs) : ∀ g, G = some g → B ≤ g ∧ g < w.heap.size := by
  obtain ⟨_, p, v, hb, _, hown, hG, _⟩ := h
  intro g hg
  exact hown.lt g (hG.trans hg)
theorem OutStep.refl {w : World} {b : Nat} {G : Option Nat} : OutStep w w b G G := ⟨Fr.refl _ _, .inl rfl⟩
theorem OutStep.trans {a w w' : World} {b : Nat} {G G' G'' : Option Nat} (h : OutStep a w b G G') (k : OutStep w w' b G' G'') : OutStep a w' b G G'' := by
  refine ⟨h.fr.trans k.fr ?_, ?_⟩
  · rintro i hi (e | e)
    · exact .inl e
    · rcases h.at_ with e' | ⟨g, e', hg⟩
      · exact .inr (e' ▸ e)
      · rw [e'] at e; injection e with e; omega
  · rcases k.at_ with e | ⟨g, e, hg⟩
    · rcases h.at_ with e' | ⟨g, e', hg⟩
      · exact .inl (e.trans e')
      · exact .inr ⟨g, e.trans e', hg⟩
    · exact .inr ⟨g, e, Nat.le_trans h.fr.size hg⟩
theorem OutAt.fr {S : Nat → Prop} {w w' : World} {B b : Nat} {G : Option Nat} {bs : List Value} (h : OutAt w B b G bs) (hf : Fr S w w') (hb : ¬ S b) (hg : ∀ g, G = some g → ¬ S g) : OutAt w' B b G bs := by
  obtain ⟨hB, p, v, hbk, hp, hown, hG, hne⟩ := h
  refine ⟨hB, p, v, hf.row hb hbk, hp, ?_, hG, hne⟩
  refine ⟨hown.1, ?_⟩
  rcases hown.2 with h2 | ⟨g, cap, cur, hv, hBg, hh, r⟩
  · exact .inl h2
  · exact .inr ⟨g, cap, cur, hv, hBg, hf.row (hg g (by rw [← hG, hv]; rfl)) hh, r⟩
theorem OutAt.below {w w' : World} {B b : Nat} {G : Option Nat} {bs : List Value} (h : OutAt w B b G bs) (hb : Below w.heap.size w w') : OutAt w' B b G bs :=
  h.fr (S := fun _ => False) (Fr.of_below hb) (fun h => h) (fun _ _ h => h)
theorem OutAt.new (w : World) : OutAt (w.alloc (.cells #[.pointer none, .slice none 0 0] 92)) w.heap.size w.heap.size none [] :=
  ⟨Nat.le_refl _, _, _, heap_alloc_new w _, .inl rfl, World.ownsRow_nil _ _ _ _, rfl, by simp⟩

theorem info_byte : (Try.prog.info? 5).map (fun i => (i.zero, i.size, i.bytes)) = some (some (.int .u8 0), 1, 1) := by kernel_rfl
theorem info_builder : (Try.prog.info? 90).map (·.size) = some 2 := by kernel_rfl
theorem lies_builder : liesAt Try.prog Try.prog.depth 92 (2 / Try.prog.cellsOf 92) 0 90 1 = true := by kernel_rfl

set_option maxRecDepth 100000 in
theorem copyCheck_any (B b : Nat) (G : Option Nat) (bs : List Value) (w : World) (h : OutAt w B b G bs) :
    Calls Try.prog 82 #[.pointer (some ⟨b, 0, none⟩)] w fun e w' => e = .returned (.tuple #[]) ∧ OutAt w' B b G bs ∧ OutStep w w' b G G := by
  obtain ⟨j, hj, hjs⟩ := Option.map_eq_some_iff.1 info_builder
  obtain ⟨hB, p, v, hbk, hp, hown, hG, hne⟩ := h
  have hlt := lt_of_row hbk
  have hsh : w.shape? b = some (92, 2) := by simp [World.shape?, hbk]
  have h0 : w.cell? ⟨b, 0, none⟩ = some p := by rw [Lib.cell_of_heap hbk]; rfl
  have hfz := Lib.frozen_of_heap hbk 0
  rcases hp with rfl | rfl
  · have key : Calls Try.prog 82 #[.pointer (some ⟨b, 0, none⟩)] w fun e w' => e = .returned (.tuple #[]) ∧ w.setCell ⟨b, 0, none⟩ (.pointer (some ⟨b, 0, none⟩)) = w' := by
      clear hbk hown
      go_enter Try.func82, Try.ntmps82
      go_wp2
      rw [Lib.run_to_unsafe w ⟨b, 0, none⟩ Try.underlying87 Try.underlying158 hj (by rw [hjs]; decide) hsh (Nat.zero_lt_succ 1)]
      simp only [Result.andThen]
      rw [Oper.upon_value]
      go_wp2
      rw [run_callFunc_extern Try.func91 (by kernel_rfl) (by kernel_rfl) (by kernel_rfl) (e := Extern.AbiNoEscape.same) (by kernel_rfl)]
      rw [Lib.run_noEscape]
      simp only [Result.andThen]
      rw [Oper.upon_value]
      go_wp2
      rw [Lib.run_from_unsafe w ⟨b, 0, none⟩ Try.underlying158 Try.underlying87 hj hsh lies_builder]
      simp only [Result.andThen]
      rw [Oper.upon_value]
      go_wp2
      go_end0
      exact ⟨rfl, rfl⟩
    refine key.mono ?_
    rintro e w' ⟨rfl, rfl⟩
    refine ⟨rfl, ⟨hB, _, v, ?_, .inr rfl, ?_, hG, hne⟩, ⟨(Fr.refl _ _).setCell (fun _ => .inl rfl) _, .inl rfl⟩⟩
    · simp [World.setCell, Array.getElem?_modify, hbk]
    · exact hown.kept (row := some b) ⟨rfl, rfl, rfl, by simp [World.setCell], fun k _ hk => Below.heap_setCell _ _ _ _ (fun e => hk (by simp [e]))⟩ (Or.inr (by rw [hG]; exact hne))
  · have key : Calls Try.prog 82 #[.pointer (some ⟨b, 0, none⟩)] w fun e w' => e = .returned (.tuple #[]) ∧ w = w' := by
      clear hbk hown
      go_enter Try.func82, Try.ntmps82
      go_wp2
      rw [Lib.run_neq_ptr_same w _ Try.underlying87 hj]
      go_wp2
      go_end0
      exact ⟨rfl, rfl⟩
    refine key.mono ?_
    rintro e w' ⟨rfl, rfl⟩
    exact ⟨rfl, ⟨hB, _, v, hbk, .inr rfl, hown, hG, hne⟩, OutStep.refl⟩

/-- append of a string's bytes: where the new row lies -/
theorem run_append_string_at {P : Program} (w : World) (base : Nat) (t u ty e : TypeId) (i : TypeInfo) (ht : P.underlying t = some (.slice e)) (hu : P.underlying u = some .string) (hi : P.info? e = some i) (hz : i.zero = some (.int .u8 0))
    (hsize : i.size = 1) (hby : i.bytes = 1) (v : Value) (n : Nat) (xs : List Value) (hown : w.ownsRow base e 1 v n xs) (s : ByteArray)
    (h63 : n + s.size ≤ 1000000000000) (hbase : base ≤ w.heap.size) :
    ∃ v' w', (Builtin.append_ #[t, u] ty #[v, .string s]).run P w = .ok v' w' ∧ w'.ownsRow base e 1 v' (n + s.size) (xs ++ Lib.strCells s) ∧ w.grownBy w' v.ownBlock ∧ (v'.ownBlock = v.ownBlock ∨ v'.ownBlock = some w.heap.size) := by
  obtain ⟨v', w', hr, h1, h2, h3⟩ := Lib.run_append_own_string (P := P) w base t u ty e i ht hu hi hz hsize hby v n xs hown s (by unfold maxLen; omega) (by omega) hbase
  refine ⟨v', w', hr, h1, h2, ?_⟩
  have hxl : xs.length = n := by simpa using hown.1
  rcases hown.2 with ⟨rfl, rfl⟩ | ⟨g, cap, cur, rfl, hbg, hg, hnc, hcm, hcs, htake⟩
  · by_cases hm : s.size = 0
    · rw [h3.2 ⟨rfl, hm⟩]; exact .inl rfl
    · have hr2 := run_append_nil_string (P := P) w t u ty e i (.int .u8 0) ht hu hi hz s (by omega) (by omega) (by rw [hby]; omega)
      rw [hr2] at hr
      injection hr with hv _
      exact .inr (by rw [← hv]; rfl)
  · have hcs' : cur.size = cap := by simpa using hcs
    by_cases hroom : n + s.size ≤ cap
    · have hr2 := Lib.run_append_room_string (P := P) w t u ty e i ht hu hi hsize g n cap cur hg s hroom (by omega)
      rw [hr2] at hr
      injection hr with hv _
      exact .inl (by rw [← hv]; rfl)
    · have holds : ∀ j u, xs[j]? = some u → w.cell? ((⟨g, 0, none⟩ : Addr).add j) = some u := hown.cells (g := g) rfl
      have hr2 := Lib.run_append_grow_string (P := P) w t u ty e i (.int .u8 0) ht hu hi hz ⟨g, 0, none⟩ n cap xs (by rw [hsize]; simpa using hxl) holds s (by omega) (by omega) (by rw [hby]; exact growslice_fits (by omega) (by omega))
      rw [hr2] at hr
      injection hr with hv _
      exact .inr (by rw [← hv]; rfl)

theorem wpList_append_string_at {P : Program} (w : World) {ops : Array Oper} {rest : List Oper} {o : Oper} {a : Act} {Q : Exit → Act → World → Prop} (hgd : o.guard = none) (sl x : Operand) (t u : TypeId)
    (ho : o.op = .call { callee := .builtin .append, args := #[sl, x], argTypes := #[t, u] })
    (base : Nat) (e : TypeId) (i : TypeInfo) (ht : P.underlying t = some (.slice e)) (hu : P.underlying u = some .string) (hi : P.info? e = some i) (hz : i.zero = some (.int .u8 0))
    (hsize : i.size = 1) (hby : i.bytes = 1)
    (v : Value) (n : Nat) (xs : List Value) (hs : a.eval sl = v) (hown : w.ownsRow base e 1 v n xs) (s : ByteArray) (hx : a.eval x = .string s)
    (h63 : n + s.size ≤ 1000000000000) (hbase : base ≤ w.heap.size)
    (h : ∀ v' w', w'.ownsRow base e 1 v' (n + s.size) (xs ++ Lib.strCells s) → w.grownBy w' v.ownBlock → (v'.ownBlock = v.ownBlock ∨ v'.ownBlock = some w.heap.size) → wpList P ops Q rest (a.put o.dst v') w') : wpList P ops Q (o :: rest) a w := by
  refine wpList_plain hgd fun K hK => ?_
  obtain ⟨v', w', hr, h2, h3, h4⟩ := run_append_string_at (P := P) w base t u o.type e i ht hu hi hz hsize hby v n xs hown s h63 hbase
  unfold Oper.wp execOp
  simp only [ho, resolve, invoke, builtin, Sem.run_bind, Sem.run_pure, Result.andThen_ok, List.map_toArray, List.map_cons, List.map_nil, hs, hx, hr]
  exact hK _ _ (h v' w' h2 h3 h4)

/-- a new buffer laid into the field -/
theorem OutAt.put {w : World} {B b : Nat} {p v v' : Value} {bs' : List Value} {G' : Option Nat} (hB : B ≤ b) (hb : w.heap[b]? = some (.cells #[p, v] 92 (0, 0))) (hp : p = .pointer none ∨ p = .pointer (some ⟨b, 0, none⟩))
    (hown : w.ownsRow B 5 1 v' bs'.length bs') (hG : v'.ownBlock = G') : OutAt (w.setCell ⟨b, 1, none⟩ v') B b G' bs' := by
  have hne := Lib.ownBlock_ne hown hb (by decide)
  refine ⟨hB, p, v', ?_, hp, ?_, hG, hG ▸ hne⟩
  · simp [World.setCell, Array.getElem?_modify, hb]
  · exact hown.kept (row := some b) ⟨rfl, rfl, rfl, by simp [World.setCell], fun k _ hk => Below.heap_setCell _ _ _ _ (fun e => hk (by simp [e]))⟩ (Or.inr hne)

set_option maxHeartbeats 1000000 in
set_option maxRecDepth 100000 in
theorem writeByte_any (B b : Nat) (G : Option Nat) (bs : List Value) (c : Int) (w : World) (h : OutAt w B b G bs) (hlen : bs.length + 1 ≤ 1000000000000) (hBw : B ≤ w.heap.size) :
    Calls Try.prog 62 #[.pointer (some ⟨b, 0, none⟩), .int .u8 c] w fun e w' => e = .returned .nilIface ∧ ∃ G', OutAt w' B b G' (bs ++ [.int .u8 c]) ∧ OutStep w w' b G G' := by
  obtain ⟨i0, hi, hz0, hz1, hz2⟩ := info_parts info_byte
  go_enter Try.func62, Try.ntmps62
  go_wp2_with (go_at_call 82; (with_reducible refine (copyCheck_any B b G bs _ h).mono ?_))
  rintro e w1 ⟨rfl, h1, hb1⟩
  have h1' := h1
  obtain ⟨hB, p, v, hbk, hp, hown, hG, hne⟩ := h1
  have c1 : w1.cell? ⟨b, 1, none⟩ = some v := by rw [Lib.cell_of_heap hbk]; rfl
  go_wp2_with (at_builtin; refine wpList_append_own_at _ rfl _ _ 88 rfl B 5 i0 (.int .u8 0) 1 1 Try.underlying88 hi hz0 hz1 hz2 rfl (by decide) _ _ _ rfl (hown.alloc _) ⟨w1.heap.size, 0, none⟩ 1 1 [.int .u8 c] rfl rfl ?c1 ?c2 ?c3 ?c4 ?c5 ?_)
  case c1 =>
    intro j u hj
    match j, hj with
    | 0, hj => simp at hj; subst hj; simp [Addr.add]
  case c2 => intro u hu; simp at hu; subst hu; rfl
  case c3 => unfold maxLen; omega
  case c4 => omega
  case c5 => have := hb1.fr.size; simp; omega
  intro v' w2 hown' hgrow _ hat
  have hlt := lt_of_row hbk
  have hb2 : w2.heap[b]? = some (.cells #[p, v] 92 (0, 0)) := by
    rw [hgrow.block b (by simp; omega) (fun e => hne e.symm), Lib.alloc_old w1 _ b hlt]
    exact hbk
  have d1 : w2.cell? ⟨b, 1, none⟩ = some v := by rw [Lib.cell_of_heap hb2]; rfl
  have f1 : w2.frozen? ⟨b, 1, none⟩ = false := Lib.frozen_of_heap hb2 1
  obtain ⟨g, cap, rfl⟩ : ∃ g cap, v' = .slice (some ⟨g, 0, none⟩) (bs.length + 1) cap := by
    rcases hown'.2 with ⟨_, h0⟩ | ⟨g, cap, cur, hv, _⟩
    · omega
    · exact ⟨g, cap, hv⟩
  have Hg := Lib.hid hgrow
  have Ha := Lib.hid hat
  clear hgrow hat hown
  go_wp2
  go_ret
  refine ⟨rfl, some g, OutAt.put hB hb2 hp (bs' := bs ++ [.int .u8 c]) (by simpa using hown') rfl, ?_⟩
  refine hb1.trans ⟨(((Fr.refl _ w1).alloc _).grown Hg.out (fun i _ e => .inr e)).setCell (p := ⟨b, 1, none⟩) (fun _ => .inl rfl) _, ?_⟩
  rcases Ha.out with e | e
  · exact .inl (by rw [← e]; rfl)
  · exact .inr ⟨g, rfl, by have : g = w1.heap.size + 1 := by simpa [Value.ownBlock] using e
                           omega⟩
end Go.Proofs.Ytdfgdnaejnngoaa
