import Derived.Test.YtdfgdnaejnngoaaOrd8
namespace Go.Proofs.Ytdfgdnaejnngoaa
open Go.RowKit

/-- order.Parse's answer -/
def parseR (s : ByteArray) : Ord × Int := if readIs s false = true ∧ (readR s false).2.1.size = 0 then ((readR s false).1, 0) else (ord0 0, 5)

theorem readIs_good {s : ByteArray} {bad : Bool} (h : readIs s bad = true) : (readR s bad).2.2 = false := by
  unfold readIs at h
  simp at h
  exact h.2

/-- read, of an In that was just made -/
theorem read_new (s : ByteArray) (W : World) (g : Nat) (hg : W.heap.size = g) : Calls Try.prog 44 #[.pointer (some ⟨g, 0, none⟩)] (W.alloc (.cells #[.string s, .bool false] 141)) fun e w' => e = .returned (.tuple #[(readR s false).1.v, .bool (readIs s false)]) ∧ InAt w' g (readR s false).2.1 (readR s false).2.2 ∧ Below W.heap.size W w' := by
  refine (read_any g s false _ (heap_new_at hg)).mono ?_
  rintro e w' ⟨rfl, hi, hf⟩
  exact ⟨rfl, hi, (((Fr.refl (fun k => k = g) W).alloc _).trans hf (fun _ _ h => h)).to_below (Nat.le_refl _) (fun i hi e => by omega)⟩

theorem put_below {w w2 : World} (hb : Below w.heap.size w w2) (o : Obj) (R : Ord) : Below w.heap.size w (putOrd (w2.alloc o) w.heap.size R) :=
  Fr.to_below (((Fr.of_below (S := fun k => k = w.heap.size) hb).alloc o).trans (putOrd_fr _ _ R) (fun _ _ h => h)) (Nat.le_refl _) (fun i hi e => by omega)

set_option maxHeartbeats 800000 in
set_option maxRecDepth 100000 in
theorem parse_any (s : ByteArray) (w : World) : Calls Try.prog 16 #[.string s] w fun e w' => e = .returned (.tuple #[(parseR s).1.v, .int .i64 (parseR s).2]) ∧ Below w.heap.size w w' := by
  have hof := fun W => inOf_any s W
  have hrd := read_new s
  have hgood := readIs_good (s := s) (bad := false)
  have hpr : parseR s = if readIs s false = true ∧ (readR s false).2.1.size = 0 then ((readR s false).1, 0) else (ord0 0, 5) := rfl
  generalize readR s false = R at hrd hpr hgood
  generalize readIs s false = I at hrd hpr hgood
  generalize parseR s = P at hpr ⊢
  obtain ⟨ro, rs, rb⟩ := R
  dsimp only at hrd hpr hgood
  simp only [Ord.v_def] at hrd
  have Hof := Lib.hid hof
  have Hrd := Lib.hid hrd
  clear hof hrd
  have hb0 := Below.alloc (Below.refl w.heap.size w) (Nat.le_refl _) (.cells #[.int .i64 0, .string ⟨#[]⟩, .string ⟨#[]⟩, .int .u64 0, .string ⟨#[]⟩, .string ⟨#[]⟩] 24)
  cases I
  · have Hpr := Lib.hid (show P = (ord0 0, 5) by rw [hpr]; simp)
    clear hpr hgood
    go_enter Try.func16, Try.ntmps16
    go_wp2_with (first | (go_at_call 43; (with_reducible refine (Hof.out _).mono ?_); rintro e w1 ⟨rfl, rfl⟩) | (go_at_call 44; (with_reducible refine (Hrd.out _ _ (by simp)).mono ?_); rintro e w2 ⟨rfl, hi2, hb2⟩; have hz := (OrdAt.fr (o := ord0 0) (heap_alloc_new w _) (Fr.of_below (S := fun _ => False) hb2) id).fr ((Fr.refl (fun _ => False) _).alloc (.cells #[.int .i64 ro.kind, .string ro.key, .string ro.val, .int .u64 ro.n, .string ro.lo, .string ro.hi] 24)) id; have z0 := hz.c0; have z1 := hz.c1; have z2 := hz.c2; have z3 := hz.c3; have z4 := hz.c4; have z5 := hz.c5; have y0 := hz.f 0; have y1 := hz.f 1; have y2 := hz.f 2; have y3 := hz.f 3; have y4 := hz.f 4; have y5 := hz.f 5))
    (try simp only [Exit.inBlock, Exit.then])
    exact bodyPost_ret (v := .tuple #[P.1.v, .int .i64 P.2]) (by rw [Hpr.out]; simp [results, Try.results16, go_sem, Ord.v, z0, z1, z2, z3, z4, z5, ord0]) rfl ⟨rfl, put_below (below_step hb0 hb2 (by simp)) _ (ord0 0)⟩
  · have hrb := hgood rfl
    subst hrb
    have hend := fun b W h => inEnd_any b rs false W h
    rcases Nat.eq_zero_or_pos rs.size with h0 | h0
    · have Hpr := Lib.hid (show P = (ro, 0) by rw [hpr]; simp [h0])
      have he0 : endE false rs = 0 := by simp [endE, h0]
      rw [he0] at hend
      have Hend := Lib.hid hend
      clear hpr hgood hend he0 h0
      go_enter Try.func16, Try.ntmps16
      go_wp2_with (first | (go_at_call 43; (with_reducible refine (Hof.out _).mono ?_); rintro e w1 ⟨rfl, rfl⟩) | (go_at_call 44; (with_reducible refine (Hrd.out _ _ (by simp)).mono ?_); rintro e w2 ⟨rfl, hi2, hb2⟩; have hz := (OrdAt.fr (o := ord0 0) (heap_alloc_new w _) (Fr.of_below (S := fun _ => False) hb2) id).fr ((Fr.refl (fun _ => False) _).alloc (.cells #[.int .i64 ro.kind, .string ro.key, .string ro.val, .int .u64 ro.n, .string ro.lo, .string ro.hi] 24)) id; have z0 := hz.c0; have z1 := hz.c1; have z2 := hz.c2; have z3 := hz.c3; have z4 := hz.c4; have z5 := hz.c5; have y0 := hz.f 0; have y1 := hz.f 1; have y2 := hz.f 2; have y3 := hz.f 3; have y4 := hz.f 4; have y5 := hz.f 5) | (go_at_call 45; (with_reducible refine (Hend.out _ _ (hi2.fr (((Fr.refl (fun _ => False) _).alloc _)) id)).mono ?_); rintro e w3 ⟨rfl, rfl⟩))
      (try simp only [Exit.inBlock, Exit.then])
      exact bodyPost_ret (v := .tuple #[P.1.v, .int .i64 P.2]) (by rw [Hpr.out]; simp [results, Try.results16, go_sem, Ord.v, z0, z1, z2, z3, z4, z5, ord0]) rfl ⟨rfl, put_below (below_step hb0 hb2 (by simp)) _ ro⟩
    · have Hpr := Lib.hid (show P = (ord0 0, 5) by rw [hpr, if_neg (by rintro ⟨_, h⟩; omega)])
      have he0 : endE false rs = 5 := by simp [endE, h0]
      rw [he0] at hend
      have Hend := Lib.hid hend
      clear hpr hgood hend he0 h0
      go_enter Try.func16, Try.ntmps16
      go_wp2_with (first | (go_at_call 43; (with_reducible refine (Hof.out _).mono ?_); rintro e w1 ⟨rfl, rfl⟩) | (go_at_call 44; (with_reducible refine (Hrd.out _ _ (by simp)).mono ?_); rintro e w2 ⟨rfl, hi2, hb2⟩; have hz := (OrdAt.fr (o := ord0 0) (heap_alloc_new w _) (Fr.of_below (S := fun _ => False) hb2) id).fr ((Fr.refl (fun _ => False) _).alloc (.cells #[.int .i64 ro.kind, .string ro.key, .string ro.val, .int .u64 ro.n, .string ro.lo, .string ro.hi] 24)) id; have z0 := hz.c0; have z1 := hz.c1; have z2 := hz.c2; have z3 := hz.c3; have z4 := hz.c4; have z5 := hz.c5; have y0 := hz.f 0; have y1 := hz.f 1; have y2 := hz.f 2; have y3 := hz.f 3; have y4 := hz.f 4; have y5 := hz.f 5) | (go_at_call 45; (with_reducible refine (Hend.out _ _ (hi2.fr (((Fr.refl (fun _ => False) _).alloc _)) id)).mono ?_); rintro e w3 ⟨rfl, rfl⟩))
      (try simp only [Exit.inBlock, Exit.then])
      exact bodyPost_ret (v := .tuple #[P.1.v, .int .i64 P.2]) (by rw [Hpr.out]; simp [results, Try.results16, go_sem, Ord.v, z0, z1, z2, z3, z4, z5, ord0]) rfl ⟨rfl, put_below (below_step hb0 hb2 (by simp)) _ (ord0 0)⟩
end Go.Proofs.Ytdfgdnaejnngoaa
