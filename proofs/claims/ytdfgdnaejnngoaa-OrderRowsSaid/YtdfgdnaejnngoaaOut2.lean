import Derived.Test.YtdfgdnaejnngoaaOut1
import Derived.Test.YtdfgdnaejnngoaaIdx
import Derived.Test.YtdfgdnaejnngoaaReg
import Derived.Test.YtdfgdnaejnngoaaOrd1
namespace Go.Proofs.Ytdfgdnaejnngoaa
open Go.RowKit

/-- the writer holds the bytes l -/
def OutB (w : World) (B b : Nat) (G : Option Nat) (l : List UInt8) : Prop := OutAt w B b G (Lib.byteCells l)
theorem byteCells_append (l r : List UInt8) : Lib.byteCells (l ++ r) = Lib.byteCells l ++ Lib.byteCells r := by simp [Lib.byteCells]
theorem byteCells_one (x : UInt8) : Lib.byteCells [x] = [.int .u8 x.toNat] := by simp [Lib.byteCells]
theorem strCells_eq (s : ByteArray) : Lib.strCells s = Lib.byteCells s.data.toList := rfl

theorem writeByte_B (B b : Nat) (G : Option Nat) (l : List UInt8) (x : UInt8) (w : World) (h : OutB w B b G l) (hlen : l.length + 1 ≤ 1000000000000) (hBw : B ≤ w.heap.size) :
    Calls Try.prog 62 #[.pointer (some ⟨b, 0, none⟩), .int .u8 (x.toNat : Int)] w fun e w' => e = .returned .nilIface ∧ ∃ G', OutB w' B b G' (l ++ [x]) ∧ OutStep w w' b G G' := by
  refine (writeByte_any B b G (Lib.byteCells l) x.toNat w h (by rw [Lib.byteCells_length]; exact hlen) hBw).mono ?_
  rintro e w' ⟨he, G', h1, h2⟩
  exact ⟨he, G', by unfold OutB; rw [byteCells_append, byteCells_one]; exact h1, h2⟩

set_option maxHeartbeats 1000000 in
set_option maxRecDepth 100000 in
theorem writeString_B (B b : Nat) (G : Option Nat) (l : List UInt8) (s : ByteArray) (w : World) (h : OutB w B b G l) (hlen : l.length + s.size ≤ 1000000000000) (hBw : B ≤ w.heap.size) :
    Calls Try.prog 93 #[.pointer (some ⟨b, 0, none⟩), .string s] w fun e w' => e = .returned (.tuple #[.int .i64 s.size, .nilIface]) ∧ ∃ G', OutB w' B b G' (l ++ s.data.toList) ∧ OutStep w w' b G G' := by
  obtain ⟨i0, hi, hz0, hz1, hz2⟩ := info_parts info_byte
  unfold OutB at h
  go_enter Try.func93, Try.ntmps93
  go_wp2_with (go_at_call 82; (with_reducible refine (copyCheck_any B b G (Lib.byteCells l) _ h).mono ?_))
  rintro e w1 ⟨rfl, h1, hb1⟩
  obtain ⟨hB, p, v, hbk, hp, hown, hG, hne⟩ := h1
  have c1 : w1.cell? ⟨b, 1, none⟩ = some v := by rw [Lib.cell_of_heap hbk]; rfl
  go_wp2_with (at_builtin; refine wpList_append_string_at _ rfl _ _ 88 9 rfl B 5 i0 Try.underlying88 Try.underlying9 hi hz0 hz1 hz2 _ _ _ rfl hown s rfl ?c3 ?c5 ?_)
  case c3 => rw [Lib.byteCells_length]; exact hlen
  case c5 => have := hb1.fr.size; omega
  intro v' w2 hown' hgrow hat
  have hlt := lt_of_row hbk
  have hb2 : w2.heap[b]? = some (.cells #[p, v] 92 (0, 0)) := by
    rw [hgrow.block b hlt (fun e => hne e.symm)]
    exact hbk
  have d1 : w2.cell? ⟨b, 1, none⟩ = some v := by rw [Lib.cell_of_heap hb2]; rfl
  have f1 : w2.frozen? ⟨b, 1, none⟩ = false := Lib.frozen_of_heap hb2 1
  obtain ⟨ao, n', cap, rfl⟩ : ∃ ao n' cap, v' = .slice ao n' cap := by
    rcases hown'.2 with ⟨hv, _⟩ | ⟨g, cap, cur, hv, _⟩
    · exact ⟨_, _, _, hv⟩
    · exact ⟨_, _, _, hv⟩
  have Hg := Lib.hid hgrow
  have Ha := Lib.hid hat
  have Hw := Lib.hid hown'
  clear hgrow hat hown hown'
  go_wp2
  go_ret2
  refine ⟨rfl, _, OutAt.put hB hb2 hp (bs' := Lib.byteCells (l ++ s.data.toList)) (by rw [byteCells_append, ← strCells_eq]; simpa [Lib.strCells_length] using Hw.out) rfl, ?_⟩
  refine hb1.trans ⟨((Fr.refl _ w1).grown Hg.out (fun i _ e => .inr e)).setCell (p := ⟨b, 1, none⟩) (fun _ => .inl rfl) _, ?_⟩
  rcases Ha.out with e | e
  · exact .inl e
  · exact .inr ⟨_, e, Nat.le_refl _⟩

theorem unsafeString_none (W : World) (q : Option Addr) : (Builtin.unsafeString_ #[156, 3] 9 #[.pointer q, .int .i64 0]).run Try.prog W = .ok (.string .empty) W := Lib.run_unsafeString_none W _ _ _ q
theorem cells_byte : Try.prog.cellsOf 5 = 1 := by kernel_rfl

theorem fr_freeze {S : Nat → Prop} {a w : World} (h : Fr S a w) {p : Addr} (hp : p.block < a.heap.size → S p.block) (n : Nat) : Fr S a (w.freeze p n) := by
  unfold World.freeze
  split
  · exact h
  · refine h.trans (S' := fun k => k = p.block) ⟨rfl, rfl, rfl, by simp, fun k _ hn => ?_⟩ (fun i hi e => by subst e; exact hp hi)
    simp only [Array.getElem?_modify]
    rw [if_neg (fun e => hn e.symm)]

set_option maxHeartbeats 2000000 in
set_option maxRecDepth 100000 in
theorem builderString_full (B b : Nat) (G : Option Nat) (l : List UInt8) (w : World) (h : OutB w B b G l) (h0 : l ≠ []) :
    Calls Try.prog 73 #[.pointer (some ⟨b, 0, none⟩)] w fun e w' => e = .returned (.string ⟨l.toArray⟩) ∧ Fr (fun k => G = some k) w w' := by
  obtain ⟨hB, p, v, hbk, hp, hown, hG, hne⟩ := h
  have hl0 : l.length ≠ 0 := by simpa using h0
  rw [Lib.byteCells_length] at hown
  obtain ⟨g, cap, cur, rfl, hbg, hg, hnc, hcm, hcs, htake⟩ : ∃ g cap cur, v = .slice (some ⟨g, 0, none⟩) l.length cap ∧ B ≤ g ∧ w.heap[g]? = some (.cells cur 5 (0, 0)) ∧ l.length ≤ cap ∧ cap ≤ maxLen ∧ cur.size = cap * 1 ∧ cur.toList.take (l.length * 1) = Lib.byteCells l := by
    rcases hown.2 with ⟨_, hz⟩ | ⟨g, cap, cur, hv, r⟩
    · exact absurd hz hl0
    · exact ⟨g, cap, cur, hv, r⟩
  have c1 : w.drew.cell? ⟨b, 1, none⟩ = some (.slice (some ⟨g, 0, none⟩) l.length cap) := by
    have : w.drew.heap[b]? = some (.cells #[p, .slice (some ⟨g, 0, none⟩) l.length cap] 92 (0, 0)) := hbk
    rw [Lib.cell_of_heap this]; rfl
  have hSD : (Builtin.unsafeSliceData_ #[88] 156 #[.slice (some ⟨g, 0, none⟩) l.length cap]).run Try.prog w.drew = .ok (.pointer (some ⟨g, 0, none⟩)) w.drew :=
    Lib.run_unsafeSliceData_row _ _ _ _ _ _ (by omega)
  have hUS : (Builtin.unsafeString_ #[156, 3] 9 #[.pointer (some ⟨g, 0, none⟩), .int .i64 l.length]).run Try.prog w.drew = .ok (.string ⟨l.toArray⟩) (w.drew.freeze ⟨g, 0, none⟩ l.length) := by
    refine Lib.run_unsafeString_row w.drew 156 3 9 5 Try.underlying156 cells_byte g cur.size (by have hg' : w.drew.heap[g]? = some (.cells cur 5 (0, 0)) := hg; simp [World.shape?, hg']) l h0 (by omega) (by unfold maxLen at hcm; omega) ?_
    intro j x hx
    have := hown.cells (g := g) rfl j (.int .u8 x.toNat) (by simp [Lib.byteCells, hx])
    exact this
  clear hown htake hcs hcm hg
  go_enter Try.func73, Try.ntmps73
  go_wp2
  go_region
  all_goals (go_wp2; go_ret; exact ⟨rfl, fr_freeze (Fr.refl _ w).drew (p := ⟨g, 0, none⟩) (fun _ => by rw [← hG]; rfl) _⟩)

set_option maxHeartbeats 2000000 in
set_option maxRecDepth 100000 in
theorem builderString_nil (b : Nat) (S : Nat → Prop) (p : Value) (w : World) (hbk : w.heap[b]? = some (.cells #[p, .slice none 0 0] 92 (0, 0))) :
    Calls Try.prog 73 #[.pointer (some ⟨b, 0, none⟩)] w fun e w' => e = .returned (.string ⟨#[]⟩) ∧ Fr S w w' := by
  have hUS := unsafeString_none
  have c1 : w.drew.cell? ⟨b, 1, none⟩ = some (.slice none 0 0) := by
    have : w.drew.heap[b]? = some (.cells #[p, .slice none 0 0] 92 (0, 0)) := hbk
    rw [Lib.cell_of_heap this]; rfl
  have hSD : (Builtin.unsafeSliceData_ #[88] 156 #[.slice none 0 0]).run Try.prog w.drew = .ok (.pointer none) w.drew := rfl
  clear hbk
  go_enter Try.func73, Try.ntmps73
  go_wp2
  go_region
  all_goals (go_wp2; go_ret; exact ⟨rfl, (Fr.refl _ w).drew⟩)

set_option maxHeartbeats 2000000 in
set_option maxRecDepth 100000 in
theorem builderString_room (b g cap : Nat) (S : Nat → Prop) (p : Value) (cur : Array Value) (w : World) (hbk : w.heap[b]? = some (.cells #[p, .slice (some ⟨g, 0, none⟩) 0 cap] 92 (0, 0))) (hg : w.heap[g]? = some (.cells cur 5 (0, 0))) :
    Calls Try.prog 73 #[.pointer (some ⟨b, 0, none⟩)] w fun e w' => e = .returned (.string ⟨#[]⟩) ∧ Fr S w w' := by
  have hUS := unsafeString_none
  have hlt := lt_of_row hbk
  by_cases hc0 : cap = 0
  · subst hc0
    have c1 : w.drew.cell? ⟨b, 1, none⟩ = some (.slice (some ⟨g, 0, none⟩) 0 0) := by
      have : w.drew.heap[b]? = some (.cells #[p, .slice (some ⟨g, 0, none⟩) 0 0] 92 (0, 0)) := hbk
      rw [Lib.cell_of_heap this]; rfl
    have hSD : (Builtin.unsafeSliceData_ #[88] 156 #[.slice (some ⟨g, 0, none⟩) 0 0]).run Try.prog w.drew = .ok (.pointer (some ⟨w.drew.heap.size, 0, none⟩)) (w.drew.alloc (.view ⟨g, 0, none⟩ 5)) :=
      Lib.run_unsafeSliceData_zero w.drew _ _ 5 Try.underlying156 ⟨g, 0, none⟩ 0 (5, cur.size) (by have hg' : w.drew.heap[g]? = some (.cells cur 5 (0, 0)) := hg; simp [World.shape?, hg'])
    have c2 : (w.drew.alloc (.view ⟨g, 0, none⟩ 5)).cell? ⟨b, 1, none⟩ = some (.slice (some ⟨g, 0, none⟩) 0 0) := by
      have : (w.drew.alloc (.view ⟨g, 0, none⟩ 5)).heap[b]? = _ := (Lib.alloc_old w.drew _ b hlt).trans hbk
      rw [Lib.cell_of_heap this]; rfl
    have c3 : (w.alloc (.view ⟨g, 0, none⟩ 5)).drew.cell? ⟨b, 1, none⟩ = some (.slice (some ⟨g, 0, none⟩) 0 0) := c2
    have c0 : w.cell? ⟨b, 1, none⟩ = some (.slice (some ⟨g, 0, none⟩) 0 0) := c1
    clear hbk hg
    go_enter Try.func73, Try.ntmps73
    go_wp2
    go_region
    all_goals (go_wp2; go_ret; exact ⟨rfl, (Fr.refl _ w).drew.alloc _⟩)
  · have c1 : w.drew.cell? ⟨b, 1, none⟩ = some (.slice (some ⟨g, 0, none⟩) 0 cap) := by
      have : w.drew.heap[b]? = some (.cells #[p, .slice (some ⟨g, 0, none⟩) 0 cap] 92 (0, 0)) := hbk
      rw [Lib.cell_of_heap this]; rfl
    have hSD : (Builtin.unsafeSliceData_ #[88] 156 #[.slice (some ⟨g, 0, none⟩) 0 cap]).run Try.prog w.drew = .ok (.pointer (some ⟨g, 0, none⟩)) w.drew :=
      Lib.run_unsafeSliceData_row _ _ _ _ _ _ hc0
    clear hc0 hbk hg
    go_enter Try.func73, Try.ntmps73
    go_wp2
    go_region
    all_goals (go_wp2; go_ret; exact ⟨rfl, (Fr.refl _ w).drew⟩)

theorem builderString_B (B b : Nat) (G : Option Nat) (l : List UInt8) (w : World) (h : OutB w B b G l) :
    Calls Try.prog 73 #[.pointer (some ⟨b, 0, none⟩)] w fun e w' => e = .returned (.string ⟨l.toArray⟩) ∧ Fr (fun k => G = some k) w w' := by
  by_cases h0 : l = []
  · subst h0
    obtain ⟨hB, p, v, hbk, hp, hown, hG, hne⟩ := h
    rcases hown.2 with ⟨rfl, _⟩ | ⟨g, cap, cur, rfl, hbg, hg, _⟩
    · exact builderString_nil b _ p w hbk
    · exact builderString_room b g cap _ p cur w hbk hg
  · exact builderString_full B b G l w h h0

theorem outBytes_B (B b : Nat) (G : Option Nat) (l : List UInt8) (w : World) (h : OutB w B b G l) :
    Calls Try.prog 37 #[.pointer (some ⟨b, 0, none⟩)] w fun e w' => e = .returned (.string ⟨l.toArray⟩) ∧ Fr (fun k => G = some k) w w' := by
  have hc := builderString_B B b G l w h
  have Hc := Lib.hid hc
  clear hc h
  go_enter Try.func37, Try.ntmps37
  go_wp2_with (go_at_call 73; (with_reducible refine Hc.out.mono ?_); rintro e w' ⟨rfl, hf⟩)
  go_ret
  exact ⟨rfl, hf⟩

theorem outRaw_B (B b : Nat) (G : Option Nat) (l : List UInt8) (s : ByteArray) (w : World) (h : OutB w B b G l) (hlen : l.length + s.size ≤ 1000000000000) (hBw : B ≤ w.heap.size) :
    Calls Try.prog 85 #[.pointer (some ⟨b, 0, none⟩), .string s] w fun e w' => e = .returned (.tuple #[]) ∧ ∃ G', OutB w' B b G' (l ++ s.data.toList) ∧ OutStep w w' b G G' := by
  have hc := writeString_B B b G l s w h hlen hBw
  have Hc := Lib.hid hc
  clear hc h hlen
  go_enter Try.func85, Try.ntmps85
  go_wp2_with (go_at_call 93; (with_reducible refine Hc.out.mono ?_); rintro e w' ⟨rfl, hf⟩)
  go_end0
  exact ⟨rfl, hf⟩
end Go.Proofs.Ytdfgdnaejnngoaa
