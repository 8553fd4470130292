import Derived.Test.YtdfgdnaejnngoaaTr
namespace Go.Proofs.Ytdfgdnaejnngoaa
open Go.RowKit
/-! Rows of numbers that are the same; loads in a region that draws. -/
set_option maxHeartbeats 1000000 in
set_option maxRecDepth 100000 in
theorem ints_any (A A' : Option Addr) (c c' : Nat) (l : List Int) (w : World) (h : Elems w A 1 (l.map intC)) (h' : Elems w A' 1 (l.map intC)) (hl : l.length ≤ 1000) : Calls Try.prog 27 #[.slice A l.length c, .slice A' l.length c'] w
    fun e w' => e = .returned (.bool true) ∧ Below w.heap.size w w' := by
  have H := Lib.hid h
  have H' := Lib.hid h'
  clear h h'
  go_enter Try.func27, Try.ntmps27
  go_wp2
  go_loopw [5] (fun i wr => ∃ k : Nat, i = .int .i64 k ∧ k ≤ l.length ∧ Below w.heap.size w wr) (fun i _ => l.length + 1 - (intOf i).toNat)
  case atStart => exact ⟨0, rfl, Nat.zero_le _, Below.refl _ _⟩
  case round =>
    obtain ⟨k, rfl, hk, hb⟩ := hrel
    by_cases hkl : k < l.length
    · have hkI : (k : Int) < (l.length : Int) := by omega
      obtain ⟨x, hx⟩ := get_lt hkl
      obtain ⟨b1, o1, rfl, hl1, c1⟩ := H.out k (intC x) (by simp [hx])
      obtain ⟨b2, o2, rfl, hl2, c2⟩ := H'.out k (intC x) (by simp [hx])
      have d1 := (hb.cell (p := ⟨b1, _, none⟩) hl1).trans (c1 0 _ rfl)
      have d2 := (hb.cell (p := ⟨b2, _, none⟩) hl2).trans (c2 0 _ rfl)
      simp only [Nat.mul_one, Nat.add_zero] at d1 d2
      have HX := Lib.hid hx
      clear c1 c2 hx
      go_wp2
      go_quiet (fail)
      go_wp2
      refine ⟨⟨k + 1, by go_num, by omega, below_drewN hb _⟩, ?_⟩
      simp [intOf]
      omega
    · obtain rfl : k = l.length := by omega
      go_wp2
      go_ret
      exact ⟨rfl, hb⟩
theorem OwnsI.el {w : World} {B n cap : Nat} {A : Option Addr} {l : List Int} (h : OwnsI w B (.slice A n cap) l) : Elems w A 1 (l.map intC) := h.elems intC_len
def nvo (o k : Nat) (v : Nat → Int) : Array Value := ((List.range k).map fun i => Value.int .i64 (v (o + i))).toArray
theorem nvo_len (o k : Nat) (v : Nat → Int) : (nvo o k v).toList.length = k := by simp [nvo]
theorem nvo_0 (n : Nat) (v : Nat → Int) : nvo 0 n v = nv n v := by simp [nvo, nv]
theorem VAt.rangeo {T : TypeId} {n : Nat} {w : World} {b : Nat} {v : Nat → Int} (h : VAt T n w b v) (o k : Nat) (hk : o + k ≤ n) : w.rangeAt b o (nvo o k v).toList := fun j u hj => by
  have hjk : j < k := by have := (List.getElem?_eq_some_iff.1 hj).1; rw [nvo_len] at this; exact this
  rw [h.cell (i := o + j) (by omega), ← hj]
  simp [nvo, List.getElem?_range hjk]
theorem exec_load {P : Program} {ρ : Operand → Value} {o : Oper} {ty : TypeId} {x : Operand} {T : TypeId} {n b oo k : Nat} {v : Nat → Int} {w : World} {d : TypeDesc} (ho : o.op = .load ty x) (hx : ρ x = .pointer (some ⟨b, oo, none⟩)) (h : VAt T n w b v) (hk : oo + k ≤ n)
    (hu : P.underlying ty = some d) (hd : d.isRow = true) (hi : (P.info? ty).map (·.size) = some k) : (execOp ρ o).run P w = .ok (.value (.agg (nvo oo k v))) w := by
  unfold execOp
  simp only [ho, hx, Instr.loadAt, Instr.sureAddr, Sem.run_bind, Sem.run_pure, Result.andThen_ok, run_loadVar_mid w b oo ty (nvo oo k v).toList d (h.rangeo oo k hk) hu hd (by rw [nvo_len]; exact hi)]
theorem exec_loadn {P : Program} {ρ : Operand → Value} {o : Oper} {ty : TypeId} {x : Operand} {T : TypeId} {n b k : Nat} {v : Nat → Int} {w : World} {d : TypeDesc} (ho : o.op = .load ty x) (hx : ρ x = .pointer (some ⟨b, 0, none⟩)) (h : VAt T n w b v) (hk : k ≤ n)
    (hu : P.underlying ty = some d) (hd : d.isRow = true) (hi : (P.info? ty).map (·.size) = some k) : (execOp ρ o).run P w = .ok (.value (.agg (nv k v))) w := by
  rw [← nvo_0]
  exact exec_load ho hx h (by omega) hu hd hi
theorem arr9_size : (Try.prog.info? 53).map (·.size) = some 9 := by kernel_rfl
theorem arr12_size : (Try.prog.info? 54).map (·.size) = some 12 := by kernel_rfl
theorem any_store (T : TypeId) (v : Nat → Int) (W : World) (zs : Array Value) (hT : (Try.prog.info? T).map (·.size) = some 25) (hz : zs.size = 25) : (storeCells ⟨W.heap.size, 0, none⟩ (nv 25 v).toList).run Try.prog (W.alloc (.cells zs T)) = .ok () (W.alloc (.cells (nv 25 v) T)) :=
  run_storeCells_new W T zs (nv 25 v) (by rw [nv_size]; exact hT) (by rw [hz, nv_size]) (nv_one 25 v)
end Go.Proofs.Ytdfgdnaejnngoaa
