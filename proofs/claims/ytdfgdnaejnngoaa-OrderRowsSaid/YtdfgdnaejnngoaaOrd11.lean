import Derived.Test.YtdfgdnaejnngoaaOrd10
namespace Go.Proofs.Ytdfgdnaejnngoaa
open Go.RowKit

set_option maxHeartbeats 800000 in
set_option maxRecDepth 100000 in
theorem all_any (s : ByteArray) (w : World) (hs : s.size ≤ 100000000) : Calls Try.prog 18 #[.string s] w fun e w' => (∃ v, e = .returned (.tuple #[v, .int .i64 (allA s).2]) ∧ Owns 24 w' w.heap.size v (allA s).1) ∧ Below w.heap.size w w' := by
  obtain ⟨i0, hi0, hz0, hz1, hz2⟩ := info_parts A_info
  have hof := fun W => inOf_any s W
  have Hof := Lib.hid hof
  clear hof
  go_enter Try.func18, Try.ntmps18
  go_wp2_with (go_at_call 43; (with_reducible refine (Hof.out _).mono ?_); rintro e w1 ⟨rfl, rfl⟩)
  go_loopw [5, 6, 7] (fun v _ _ wr => ∃ (s' : ByteArray) (acc : List Ord), allF s'.size s' acc = allL s ∧ acc.length + s'.size ≤ s.size ∧ InAt wr w.heap.size s' false ∧ Owns 24 wr (w.heap.size + 1) v acc ∧ Below w.heap.size w wr) (fun _ _ _ wr => leftAt wr w.heap.size)
  case atStart => exact ⟨s, [], rfl, by simp, InAt.new w s, Owns.nil _ _, (by repeat (first | assumption | exact Below.refl _ _ | (refine below_step (w := ?_) ?_ ?_ ?_; rotate_left 2; assumption) | refine Below.drew ?_ | refine below_drewN ?_ _ | refine Below.alloc ?_ ?_ _ | refine Below.setCell ?_ ?_ _ | (focus (simp; done)) | (focus (simp; omega)) | omega))⟩
  case round =>
    obtain ⟨s', acc, hF, hlen, hi, hown, hbel⟩ := hrel
    have hbl := hi.lt
    have hleft := inLeft_any w.heap.size s' false wr hi
    have hread := read_any w.heap.size s' false wr hi
    have Hleft := Lib.hid hleft
    have Hi := Lib.hid hi
    rcases Nat.eq_zero_or_pos s'.size with h0 | h0
    · have hL : allL s = some acc := by rw [← hF]; exact allF_end _ _ _ h0
      obtain ⟨A, cap, rfl⟩ := hown.slice
      rw [h0] at Hleft
      clear hF hread hi hleft h0
      by_cases h4 : 400 < acc.length
      · have hA := allA_many hL h4
        have h4i : (400 : Int) < (acc.length : Int) := by omega
        have HA := Lib.hid hA
        have Hown := Lib.hid hown
        clear hA hL hown h4
        go_wp2_with (go_at_call 50; (with_reducible refine Hleft.out.mono ?_); rintro e w1 ⟨rfl, rfl⟩)
        go_ret2
        exact ⟨⟨.slice none 0 0, by rw [HA.out]; rfl, by rw [HA.out]; exact Owns.nil _ _⟩, hbel⟩
      · have hA := allA_some hL h4
        have h4i : (acc.length : Int) ≤ 400 := by omega
        have HA := Lib.hid hA
        have Hown := Lib.hid hown
        clear hA hL hown h4
        go_wp2_with (go_at_call 50; (with_reducible refine Hleft.out.mono ?_); rintro e w1 ⟨rfl, rfl⟩)
        go_ret2
        exact ⟨⟨.slice A acc.length cap, by rw [HA.out]; rfl, by rw [HA.out]; exact Hown.out.base (by omega)⟩, hbel⟩
    · have h0i : (0 : Int) < (s'.size : Int) := by omega
      cases hr : readIs s' false
      · have hA := allA_none (hF.symm.trans (allF_stop acc h0 hr))
        rw [hr] at hread
        generalize readR s' false = R at hread
        obtain ⟨ro, rs, rb⟩ := R
        simp only [Ord.v_def] at hread
        have Hread := Lib.hid hread
        have HA := Lib.hid hA
        clear hA hF hread hi hleft hr hown
        go_wp2_with (first | (go_at_call 50; (with_reducible refine Hleft.out.mono ?_); rintro e w1 ⟨rfl, rfl⟩) | (go_at_call 44; (with_reducible refine Hread.out.mono ?_); rintro e w2 ⟨rfl, hi2, hfr2⟩))
        go_ret2
        exact ⟨⟨.slice none 0 0, by rw [HA.out]; rfl, by rw [HA.out]; exact Owns.nil _ _⟩, (hbel.trans (hfr2.to_below hbel.size (fun i hi e => by omega))).alloc (by have := hbel.size; have := hfr2.size; omega) _⟩
      · have hF2 := (allF_step acc hr).trans hF
        have hls := readIs_less hr
        rw [hr] at hread
        have hg := readIs_good hr
        generalize readR s' false = R at hread hF2 hls hg
        obtain ⟨ro, rs, rb⟩ := R
        simp only [Ord.v_def] at hread
        dsimp only at hread hF2 hls hg
        subst hg
        have Hread := Lib.hid hread
        have HF2 := Lib.hid hF2
        have Hown := Lib.hid hown
        clear hF hF2 hread hi hleft hr hown
        go_wp2_with (first | (go_at_call 50; (with_reducible refine Hleft.out.mono ?_); rintro e w1 ⟨rfl, rfl⟩) | (go_at_call 44; (with_reducible refine Hread.out.mono ?_); rintro e w2 ⟨rfl, hi2, hfr2⟩) | (at_builtin; refine wpList_append_own _ rfl _ _ 42 rfl (w.heap.size + 1) 24 i0 _ 6 80 Try.underlying42 hi0 hz0 hz1 hz2 rfl (by decide) _ _ _ rfl (((Hown.out.fr hfr2 (fun k hk e => by omega)).alloc _).alloc _) ⟨w2.heap.size + 1, 0, none⟩ 1 1 ro.cells rfl rfl ?c1 ?c2 ?c3 ?c4 ?c5 ?_))
        case c1 => exact ord_new_at _ ro _ (by simp)
        case c2 => exact ord_one ro
        case c3 => unfold maxLen; omega
        case c4 => omega
        case c5 => have := hfr2.size; simp; omega
        · intro v' w3 hown3 hgrow _
          have hf3 : Fr (fun k => w.heap.size + 1 ≤ k) w2 w3 := (((Fr.refl _ w2).alloc _).alloc _).grown hgrow (fun i hi e => (Hown.out.lt i e).1)
          have hi3 := hi2.fr hf3 (by omega)
          have hb3 := hbel.trans ((hfr2.mono (S' := fun k => w.heap.size ≤ k) (fun i _ e => by omega)).trans hf3 (fun i _ h => by omega) |>.to_below hbel.size (fun i hi h => by omega))
          have ho3 : Owns 24 w3 (w.heap.size + 1) v' (acc ++ [ro]) := by unfold Owns; rw [flatten_snoc, List.length_append]; exact hown3
          have Hi3 := Lib.hid hi3
          have Ho3 := Lib.hid ho3
          clear hown3 hgrow hf3 hi3 ho3 hi2 hfr2 Hown
          go_wp2
          go_roundw
          case rel => exact ⟨rs, acc ++ [ro], HF2.out, by simp; omega, Hi3.out, Ho3.out, hb3⟩
          case measure => rw [leftAt_eq Hi3.out, leftAt_eq Hi.out]; exact hls
end Go.Proofs.Ytdfgdnaejnngoaa
