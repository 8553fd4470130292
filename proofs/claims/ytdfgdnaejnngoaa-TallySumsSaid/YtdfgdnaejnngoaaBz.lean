import Derived.Test.YtdfgdnaejnngoaaHi
namespace Go.Proofs.Ytdfgdnaejnngoaa
open Go.RowKit
/-! Rows of numbers in one block; the document's Busiest. -/
def nv (n : Nat) (v : Nat → Int) : Array Value := ((List.range n).map fun i => Value.int .i64 (v i)).toArray
theorem nv_get (n : Nat) (v : Nat → Int) (i : Nat) (h : i < n) : (nv n v)[i]? = some (.int .i64 (v i)) := by
  simp [nv, List.getElem?_range h]
theorem nv_size (n : Nat) (v : Nat → Int) : (nv n v).size = n := by simp [nv]
def updI (v : Nat → Int) (i : Nat) (x : Int) : Nat → Int := fun k => if k = i then x else v k
theorem nv_set (n : Nat) (v : Nat → Int) (i : Nat) (x : Int) : (nv n v).toList.set i (.int .i64 x) = (nv n (updI v i x)).toList := by
  apply List.ext_getElem?
  intro k
  rw [List.getElem?_set]
  simp only [nv, List.length_map, List.length_range]
  by_cases hk : k < n
  · simp only [List.getElem?_map, List.getElem?_range hk, Option.map_some]
    unfold updI
    by_cases hi : i = k
    · subst hi
      simp [hk]
    · rw [if_neg hi, if_neg (by omega)]
  · rw [List.getElem?_eq_none (l := (List.range n).map _) (by simp; omega), List.getElem?_eq_none (l := (List.range n).map _) (by simp; omega)]
    split
    · rw [if_neg (by omega)]
    · rfl

/-- a variable of n numbers -/
def VAt (T : TypeId) (n : Nat) (w : World) (b : Nat) (v : Nat → Int) : Prop := w.heap[b]? = some (.cells (nv n v) T (0, 0))
section
variable {T : TypeId} {n : Nat} {w w' : World} {b : Nat} {v : Nat → Int}
theorem VAt.lt (h : VAt T n w b v) : b < w.heap.size := lt_of_row h
theorem VAt.cell (h : VAt T n w b v) {i : Nat} (hi : i < n) : w.cell? ⟨b, i, none⟩ = some (.int .i64 (v i)) := by rw [Lib.cell_of_heap h]; exact nv_get n v i hi
theorem VAt.f (h : VAt T n w b v) (j : Nat) : w.frozen? ⟨b, j, none⟩ = false := Lib.frozen_of_heap h j
theorem VAt.set (h : VAt T n w b v) (i : Nat) (x : Int) : VAt T n (w.setCell ⟨b, i, none⟩ (.int .i64 x)) b (updI v i x) := by
  have := setCell_row h i (.int .i64 x)
  rw [nv_set] at this
  exact this
theorem VAt.fr {S : Nat → Prop} (h : VAt T n w b v) (hf : Fr S w w') (hs : ¬ S b) : VAt T n w' b v := hf.row hs h
theorem VAt.below (h : VAt T n w b v) (hf : Below w.heap.size w w') : VAt T n w' b v := h.fr (Fr.of_below (S := fun _ => False) hf) id
theorem VAt.drew (h : VAt T n w b v) : VAt T n w.drew b v := h
theorem VAt.drewN (h : VAt T n w b v) (k : Nat) : VAt T n (w.drewN k) b v := h
theorem VAt.new (w : World) (v : Nat → Int) : VAt T n (w.alloc (.cells (nv n v) T)) w.heap.size v := heap_alloc_new w _
end
theorem I_info : (Try.prog.info? 3).map (fun i => (i.zero, i.size, i.bytes)) = some (some (.int .i64 0), 1, 8) := by kernel_rfl
def intC (x : Int) : List Value := [.int .i64 x]
theorem intC_len (x : Int) : (intC x).length = 1 := rfl
theorem int_new_at (w : World) (o : Int) (n : Nat) (h : w.heap.size = n) : ∀ (j : Nat) (u : Value), (intC o)[j]? = some u → (w.alloc (.cells #[.int .i64 o] 3)).cell? ((⟨n, 0, none⟩ : Addr).add j) = some u := by
  intro j u hj
  have hh := heap_new_at (o := .cells #[.int .i64 o] 3) h
  have ha : (⟨n, 0, none⟩ : Addr).add j = ⟨n, j, none⟩ := by unfold Addr.add; split <;> simp_all
  rw [ha, Lib.cell_of_heap hh]
  rw [← hj]
  simp [intC]
theorem int_one (o : Int) : ∀ u ∈ intC o, u.oneCell' = true := by
  intro u hu
  simp [intC] at hu
  rw [hu]
  rfl
abbrev OwnsI := OwnsG intC 1 3
theorem OwnsI.add {w : World} {B : Nat} {v : Value} {l : List Int} {n : Nat} {x : Int} (hn : l.length = n) (h : w.ownsRow B 3 1 v (n + 1) ((l.map intC).flatten ++ intC x)) : OwnsI w B v (l ++ [x]) := by
  subst hn
  unfold OwnsI OwnsG
  rw [flatten_add, List.length_append]
  exact h

theorem bestAt_lt (a : Nat → Int) : bestAt a 8 < 9 := by have := bestAt_le a 8; omega
theorem updI_0 (a : Nat → Int) (p : Nat) : updI a p 0 = upd0 a p := rfl

set_option maxHeartbeats 1000000 in
set_option maxRecDepth 100000 in
theorem refBz_any (a : Nat → Int) (w : World) : Calls Try.prog 29 #[.agg (nv 9 a)] w fun e w' => ∃ v, e = .returned v ∧ OwnsI w' w.heap.size v (bz a) ∧ Below w.heap.size w w' := by
  obtain ⟨i0, hi0, hz0, hz1, hz2⟩ := info_parts I_info
  have hv := fun (W : World) => VAt.new (T := 53) (n := 9) W a
  generalize hnv : nv 9 a = cs
  rw [hnv] at hv
  have HV := Lib.hid hv
  clear hv hnv
  go_enter Try.func29, Try.ntmps29
  go_wp2
  go_loopw [3, 4, 5] (fun v _ _ wr => ∃ (out : List Int) (a' : Nat → Int), OwnsI wr (w.heap.size + 1) v out ∧ out ++ bz a' = bz a ∧ VAt 53 9 wr w.heap.size a' ∧ Below w.heap.size w wr ∧ out.length + (ranksOf a' 8).length ≤ 8) (fun v _ _ _ => 9 - (match v with | .slice _ n _ => n | _ => 0))
  case atStart => exact ⟨[], a, OwnsG.empty (heap_new_at (by simp)) (by omega), rfl, (HV.out w).fr ((Fr.refl (fun _ => False) _).alloc _) id, Below.alloc (Below.alloc (Below.refl _ _) (Nat.le_refl _) _) (by simp) _, by have := ranksOf_length a 8; simp; omega⟩
  case round =>
    obtain ⟨out, a', hown, hout, hva, hbel, hlen⟩ := hrel
    obtain ⟨A, cap, rfl⟩ := hown.slice
    have hbn := bz_none a'
    have hbs := bz_some a'
    have hrk := ranksOf_upd a' (bestAt a' 8) 8
    have hbp := bestAt_pos a' 8
    have HOW := Lib.hid hown
    have HOUT := Lib.hid hout
    have HVA := Lib.hid hva
    have HBN := Lib.hid hbn
    have HBS := Lib.hid hbs
    have HRK := Lib.hid hrk
    have HBP := Lib.hid hbp
    clear hown hout hva hbn hbs hrk hbp
    go_wp2
    go_loopw [4, 5] (fun p q wr2 => ∃ k : Nat, q = .int .i64 k ∧ 1 ≤ k ∧ k ≤ 9 ∧ p = .int .i64 (bestAt a' (k - 1) : Nat) ∧ VAt 53 9 wr2 w.heap.size a' ∧ OwnsI wr2 (w.heap.size + 1) (.slice A out.length cap) out ∧ Below w.heap.size w wr2) (fun _ q _ => 10 - (intOf q).toNat)
    case atStart => exact ⟨1, rfl, by omega, by omega, rfl, HVA.out, HOW.out, hbel⟩
    case round =>
      obtain ⟨k, rfl, hk1, hk9, rfl, hva2, how2, hbel2⟩ := hrel
      have HVA2 := Lib.hid hva2
      have HOW2 := Lib.hid how2
      by_cases h9 : k < 9
      · have hkI : (k : Int) < 9 := by omega
        have ck := hva2.cell (i := k) (by omega)
        have hble := bestAt_le a' (k - 1)
        have cb := hva2.cell (i := bestAt a' (k - 1)) (by omega)
        have hst : bestAt a' k = if 0 < a' k ∧ (bestAt a' (k - 1) = 0 ∨ a' (bestAt a' (k - 1)) < a' k) then k else bestAt a' (k - 1) := by
          obtain ⟨j, rfl⟩ : ∃ j, k = j + 1 := ⟨k - 1, by omega⟩
          rfl
        generalize bestAt a' (k - 1) = B at hst cb hble ⊢
        have hBI : (B : Int) < 9 := by omega
        have HS := Lib.hid hst
        clear hst hva2 how2
        have fin : ∀ (W : World) (n : Nat) (X : Nat), bestAt a' k = X → W = wr.drewN n → ∃ k_1 : Nat, Value.int .i64 ((k : Int) + 1) = .int .i64 k_1 ∧ 1 ≤ k_1 ∧ k_1 ≤ 9 ∧ Value.int .i64 (X : Nat) = .int .i64 (bestAt a' (k_1 - 1) : Nat) ∧ VAt 53 9 W w.heap.size a' ∧ OwnsI W (w.heap.size + 1) (.slice A out.length cap) out ∧ Below w.heap.size w W := by
          intro W n X hX hW
          subst hW
          exact ⟨k + 1, by go_num, by omega, by omega, by rw [Nat.add_sub_cancel, hX], HVA2.out, HOW2.out, below_drewN hbel2 n⟩
        have FIN := Lib.hid fin
        clear fin
        by_cases h1 : 0 < a' k
        · by_cases h2 : B = 0
          · subst h2
            go_wp2
            go_quiet (fail)
            go_wp2
            refine ⟨FIN.out _ _ k (by rw [HS.out, if_pos (by first | omega | (simp; omega))]) rfl, ?_⟩
            simp [intOf]; omega
          · have e2 : ((B : Int) == 0) = false := by simpa using h2
            by_cases h3 : a' B < a' k
            · go_wp2
              go_quiet (fail)
              go_wp2
              refine ⟨FIN.out _ _ k (by rw [HS.out, if_pos (by first | omega | (simp; omega))]) rfl, ?_⟩
              simp [intOf]; omega
            · have d3 : decide (a' B < a' k) = false := by simp [h3]
              go_wp2
              go_quiet (fail)
              go_wp2
              refine ⟨FIN.out _ _ B (by rw [HS.out, if_neg (by omega)]) rfl, ?_⟩
              simp [intOf]; omega
        · have d1 : decide (0 < a' k) = false := by simp [h1]
          go_wp2
          go_quiet (fail)
          go_wp2
          refine ⟨FIN.out _ _ B (by rw [HS.out, if_neg (by omega)]) rfl, ?_⟩
          simp [intOf]; omega
      · obtain rfl : k = 9 := by omega
        clear hva2 how2
        rw [show 9 - 1 = 8 from rfl]
        have hb8 := bestAt_le a' 8
        generalize bestAt a' 8 = p at HBN HBS HRK HBP hb8 ⊢
        by_cases h0 : p = 0
        · have E0 := Lib.hid (HBN.out h0)
          subst h0
          go_wp2
          go_ret
          have e := HOUT.out
          rw [E0.out, List.append_nil] at e
          exact ⟨_, rfl, by rw [← e]; exact HOW2.out.base (by omega), hbel2⟩
        · have e2 : ((p : Int) == 0) = false := by simpa using h0
          have hpI : (p : Int) < 9 := by omega
          have hlen2 := ((HRK.out).1 hb8 (by omega) (HBP.out h0)).length_eq
          rw [List.length_cons] at hlen2
          have cp := HVA2.out.cell (i := p) (by omega)
          go_wp2_with (at_builtin; refine wpList_append_own _ rfl _ _ 75 rfl (w.heap.size + 1) 3 i0 _ 1 8 Try.underlying75 hi0 hz0 hz1 hz2 rfl (by decide) _ _ _ rfl (HOW2.out.alloc _) ⟨wr.heap.size, 0, none⟩ 1 1 (intC p) rfl rfl ?c1 ?c2 ?c3 ?c4 ?c5 ?_)
          case c1 => exact int_new_at _ p _ rfl
          case c2 => exact int_one p
          case c3 => unfold maxLen; omega
          case c4 => omega
          case c5 => have := hbel2.size; have := HVA2.out.lt; simp; omega
          intro v' w3 hown3 hgrow _
          have hf3 : Fr (fun k => w.heap.size + 1 ≤ k) wr w3 := ((Fr.refl _ wr).alloc _).grown hgrow (fun i hi e => (HOW2.out.lt i e).1)
          have hb3 := hbel2.trans (hf3.to_below (B := w.heap.size) hbel2.size (fun i hi h => by omega))
          have ho3 : OwnsI w3 (w.heap.size + 1) v' (out ++ [(p : Int)]) := OwnsI.add rfl hown3
          obtain ⟨A3, cap3, rfl⟩ := ho3.slice
          have hva3 := HVA2.out.fr hf3 (by omega)
          have c3 := hva3.cell (i := p) (by omega)
          have f3 := hva3.f p
          have Hb3 := Lib.hid hb3
          have Ho3 := Lib.hid ho3
          have Hv3 := Lib.hid hva3
          clear hown3 hgrow hf3 hb3 ho3 hva3
          go_wp2
          refine ⟨⟨out ++ [(p : Int)], upd0 a' p, Ho3.out.fr ((Fr.refl (fun k => k = w.heap.size) _).setCell (p := ⟨w.heap.size, p, none⟩) (fun _ => rfl) _) (fun k hk e => by omega), ?_, Hv3.out.set p 0, Hb3.out.setCell (p := ⟨w.heap.size, p, none⟩) (Nat.le_refl _) _, ?_⟩, ?_⟩
          · rw [List.append_assoc, ← HOUT.out, HBS.out h0]
            rfl
          · simp
            omega
          · simp
            omega
end Go.Proofs.Ytdfgdnaejnngoaa
