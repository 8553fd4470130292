import Derived.Test.YtdfgdnaejnngoaaRef5
namespace Go.Proofs.Ytdfgdnaejnngoaa
open Go.RowKit

theorem empty_of {s : ByteArray} (h : s.size = 0) : s = ⟨#[]⟩ := by
  apply ByteArray.ext
  exact Array.eq_empty_of_size_eq_zero h
theorem R_info : (Try.prog.info? 27).map (fun i => (i.zero, i.size, i.bytes)) = some (some (.agg #[.int .i64 0, .string ⟨#[]⟩, .string ⟨#[]⟩, .int .u64 0, .string ⟨#[]⟩, .string ⟨#[]⟩]), 6, 80) := by kernel_rfl
theorem Owns.empty (e : TypeId) (w : World) (B : Nat) (hB : B ≤ w.heap.size) : Owns e (w.alloc (.cells #[] e)) B (.slice (some ⟨w.heap.size, 0, none⟩) 0 0) [] :=
  ⟨rfl, .inr ⟨w.heap.size, 0, #[], rfl, hB, heap_alloc_new w _, Nat.le_refl _, Nat.zero_le _, rfl, rfl⟩⟩
theorem Owns.start (e : TypeId) (w : World) (o : Obj) : Owns e ((w.alloc o).alloc (.cells #[] e)) (w.heap.size + 1) (.slice (some ⟨w.heap.size + 1, 0, none⟩) 0 0) [] := by
  have hs : (w.alloc o).heap.size = w.heap.size + 1 := by simp
  have h := Owns.empty e (w.alloc o) (w.heap.size + 1) (by rw [hs]; exact Nat.le_refl _)
  rw [hs] at h
  exact h
theorem rleftAt_eq {w : World} {b : Nat} {s : ByteArray} {bad : Bool} (h : RIn w b s bad) : leftAt w b = s.size := by unfold leftAt; rw [h]; rfl
theorem rord_new_at (w : World) (o : Ord) (n : Nat) (h : w.heap.size = n) : ∀ (j : Nat) (u : Value), o.cells[j]? = some u → (w.alloc (.cells #[.int .i64 o.kind, .string o.key, .string o.val, .int .u64 o.n, .string o.lo, .string o.hi] 27)).cell? ((⟨n, 0, none⟩ : Addr).add j) = some u := by
  intro j u hj
  have hh := heap_new_at (o := .cells #[.int .i64 o.kind, .string o.key, .string o.val, .int .u64 o.n, .string o.lo, .string o.hi] 27) h
  have ha : (⟨n, 0, none⟩ : Addr).add j = ⟨n, j, none⟩ := by unfold Addr.add; split <;> simp_all
  rw [ha, Lib.cell_of_heap hh]
  rw [Ord.cells] at hj
  rw [← hj]
  simp

set_option maxHeartbeats 800000 in
set_option maxRecDepth 100000 in
theorem refAll_any (s : ByteArray) (w : World) (hs : s.size ≤ 100000000) : Calls Try.prog 19 #[.string s] w fun e w' => (∃ v, e = .returned (.tuple #[v, .int .i64 (allA s).2]) ∧ Owns 27 w' w.heap.size v (allA s).1) ∧ Below w.heap.size w w' := by
  obtain ⟨i0, hi0, hz0, hz1, hz2⟩ := info_parts R_info
  go_enter Try.func19, Try.ntmps19
  go_wp2
  go_loopw [5, 6, 7] (fun v _ _ wr => ∃ (s' : ByteArray) (acc : List Ord), allF s'.size s' acc = allL s ∧ acc.length + s'.size ≤ s.size ∧ RIn wr w.heap.size s' false ∧ Owns 27 wr (w.heap.size + 1) v acc ∧ Below w.heap.size w wr) (fun _ _ _ wr => leftAt wr w.heap.size)
  case atStart => exact ⟨s, [], rfl, by simp, (RIn.new w s).fr ((Fr.refl (fun _ => False) _).alloc _) id, Owns.start _ _ _, (by repeat (first | assumption | exact Below.refl _ _ | (refine below_step (w := ?_) ?_ ?_ ?_; rotate_left 2; assumption) | refine Below.drew ?_ | refine below_drewN ?_ _ | refine Below.alloc ?_ ?_ _ | refine Below.setCell ?_ ?_ _ | (focus (simp; done)) | (focus (simp; omega)) | omega))⟩
  case round =>
    obtain ⟨s', acc, hF, hlen, hi, hown, hbel⟩ := hrel
    have hbl := hi.lt
    have c0 := hi.c0
    have hread := refRead_any w.heap.size s' false wr hi
    have Hi := Lib.hid hi
    rcases Nat.eq_zero_or_pos s'.size with h0 | h0
    · have hL : allL s = some acc := by rw [← hF]; exact allF_end _ _ _ h0
      obtain ⟨A, cap, rfl⟩ := hown.slice
      obtain rfl : s' = ⟨#[]⟩ := empty_of h0
      clear hF hread hi h0
      by_cases h4 : 400 < acc.length
      · have hA := allA_many hL h4
        have h4i : (400 : Int) < (acc.length : Int) := by omega
        have HA := Lib.hid hA
        have Hown := Lib.hid hown
        clear hA hL hown h4
        go_wp2
        go_ret2
        exact ⟨⟨.slice none 0 0, by rw [HA.out]; rfl, by rw [HA.out]; exact Owns.nil _ _⟩, hbel⟩
      · have hA := allA_some hL h4
        have h4i : (acc.length : Int) ≤ 400 := by omega
        have HA := Lib.hid hA
        have Hown := Lib.hid hown
        clear hA hL hown h4
        go_wp2
        go_ret2
        exact ⟨⟨.slice A acc.length cap, by rw [HA.out]; rfl, by rw [HA.out]; exact Hown.out.base (by omega)⟩, hbel⟩
    · have h0i : s'.toList.isEmpty = false := by
        rw [Bool.eq_false_iff, Ne, List.isEmpty_iff]
        intro h
        rw [← empty_iff] at h
        subst h
        exact absurd h0 (by decide)
      cases hr : readIs s' false
      · have hA := allA_none (hF.symm.trans (allF_stop acc h0 hr))
        rw [hr] at hread
        generalize readR s' false = R at hread
        obtain ⟨ro, rs, rb⟩ := R
        unfold ReadRes at hread
        simp only [Ord.v_def] at hread
        have Hread := Lib.hid hread
        have HA := Lib.hid hA
        clear hA hF hread hi hr hown
        go_wp2_with (first | (go_at_call 17; (with_reducible refine Hread.out.mono ?_); rintro e w2 ⟨rfl, hi2, hfr2⟩))
        go_ret2
        exact ⟨⟨.slice none 0 0, by rw [HA.out]; rfl, by rw [HA.out]; exact Owns.nil _ _⟩, (hbel.trans (hfr2.to_below hbel.size (fun i hi e => by omega))).alloc (by have := hbel.size; have := hfr2.size; omega) _⟩
      · have hF2 := (allF_step acc hr).trans hF
        have hls := readIs_less hr
        rw [hr] at hread
        have hg := readIs_good hr
        generalize readR s' false = R at hread hF2 hls hg
        obtain ⟨ro, rs, rb⟩ := R
        unfold ReadRes at hread
        simp only [Ord.v_def] at hread
        dsimp only at hread hF2 hls hg
        subst hg
        have Hread := Lib.hid hread
        have HF2 := Lib.hid hF2
        have Hown := Lib.hid hown
        clear hF hF2 hread hi hr hown
        go_wp2_with (first | (go_at_call 17; (with_reducible refine Hread.out.mono ?_); rintro e w2 ⟨rfl, hi2, hfr2⟩) | (at_builtin; refine wpList_append_own _ rfl _ _ 46 rfl (w.heap.size + 1) 27 i0 _ 6 80 Try.underlying46 hi0 hz0 hz1 hz2 rfl (by decide) _ _ _ rfl (((Hown.out.fr hfr2 (fun k hk e => by omega)).alloc _).alloc _) ⟨w2.heap.size + 1, 0, none⟩ 1 1 ro.cells rfl rfl ?c1 ?c2 ?c3 ?c4 ?c5 ?_))
        case c1 => exact rord_new_at _ ro _ (by simp)
        case c2 => exact ord_one ro
        case c3 => unfold maxLen; omega
        case c4 => omega
        case c5 => have := hfr2.size; simp; omega
        · intro v' w3 hown3 hgrow _
          have hf3 : Fr (fun k => w.heap.size + 1 ≤ k) w2 w3 := (((Fr.refl _ w2).alloc _).alloc _).grown hgrow (fun i hi e => (Hown.out.lt i e).1)
          have hi3 := hi2.fr hf3 (by omega)
          have hb3 := hbel.trans ((hfr2.mono (S' := fun k => w.heap.size ≤ k) (fun i _ e => by omega)).trans hf3 (fun i _ h => by omega) |>.to_below hbel.size (fun i hi h => by omega))
          have ho3 : Owns 27 w3 (w.heap.size + 1) v' (acc ++ [ro]) := by unfold Owns; rw [flatten_snoc, List.length_append]; exact hown3
          have Hi3 := Lib.hid hi3
          have Ho3 := Lib.hid ho3
          clear hown3 hgrow hf3 hi3 ho3 hi2 hfr2 Hown
          go_wp2
          go_roundw
          case rel => exact ⟨rs, acc ++ [ro], HF2.out, by simp; omega, Hi3.out, Ho3.out, hb3⟩
          case measure => rw [rleftAt_eq Hi3.out, rleftAt_eq Hi.out]; exact hls
end Go.Proofs.Ytdfgdnaejnngoaa
