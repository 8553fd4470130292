import Derived.Test.YtdfgdnaejnngoaaLaw1
namespace Go.Proofs.Ytdfgdnaejnngoaa
open Go.RowKit

def awA : Ord := { kind := 2, key := ⟨#[97, 98]⟩, val := ⟨#[]⟩, n := 0, lo := ⟨#[]⟩, hi := ⟨#[]⟩ }
def awB : Ord := { kind := 6, key := ⟨#[]⟩, val := ⟨#[]⟩, n := 0, lo := ⟨#[]⟩, hi := ⟨#[]⟩ }
def awC : Ord := { kind := 6, key := ⟨#[97]⟩, val := ⟨#[]⟩, n := 0, lo := ⟨#[]⟩, hi := ⟨#[]⟩ }
theorem aw_bytes : bytesAll [awA, awB] = (⟨#[2, 2, 97, 98, 6]⟩, 0) := by kernel_rfl
theorem aw_parse : parseR ⟨#[2, 2, 97, 98]⟩ = (awA, 0) := by kernel_rfl
theorem aw_parse2 : parseR ⟨#[9]⟩ = (ord0 0, 5) := by kernel_rfl
theorem aw_all : allA ⟨#[2, 2, 97, 98, 6]⟩ = ([awA, awB], 0) := by kernel_rfl
theorem aw_no : bytesAll [awC] = (⟨#[]⟩, 1) := by kernel_rfl

theorem aw_b2 (W : World) (g : Nat) (hg : W.heap.size = g) : Calls Try.prog 12 #[.slice (some ⟨g, 0, none⟩) 2 2] (W.alloc (.cells #[.int .i64 2, .string ⟨#[97, 98]⟩, .string ⟨#[]⟩, .int .u64 0, .string ⟨#[]⟩, .string ⟨#[]⟩, .int .i64 6, .string ⟨#[]⟩, .string ⟨#[]⟩, .int .u64 0, .string ⟨#[]⟩, .string ⟨#[]⟩] 24))
    fun e w' => e = .returned (.tuple #[.string ⟨#[2, 2, 97, 98, 6]⟩, .int .i64 0]) ∧ Below W.heap.size W w' := by
  have h := bytes_two awA awB W g hg ⟨by decide, by decide⟩ ⟨by decide, by decide⟩
  rw [aw_bytes] at h
  exact h
theorem aw_b1 (W : World) (g : Nat) (hg : W.heap.size = g) : Calls Try.prog 12 #[.slice (some ⟨g, 0, none⟩) 1 1] (W.alloc (.cells #[.int .i64 6, .string ⟨#[97]⟩, .string ⟨#[]⟩, .int .u64 0, .string ⟨#[]⟩, .string ⟨#[]⟩] 24))
    fun e w' => e = .returned (.tuple #[.string ⟨#[]⟩, .int .i64 1]) ∧ Below W.heap.size W w' := by
  have h := bytes_one awC W g hg ⟨by decide, by decide⟩
  rw [aw_no] at h
  exact h
theorem aw_p1 (W : World) : Calls Try.prog 16 #[.string ⟨#[2, 2, 97, 98]⟩] W fun e w' => e = .returned (.tuple #[.agg #[.int .i64 2, .string ⟨#[97, 98]⟩, .string ⟨#[]⟩, .int .u64 0, .string ⟨#[]⟩, .string ⟨#[]⟩], .int .i64 0]) ∧ Below W.heap.size W w' := by
  have h := parse_any ⟨#[2, 2, 97, 98]⟩ W
  rw [aw_parse] at h
  exact h
theorem aw_p2 (W : World) : Calls Try.prog 16 #[.string ⟨#[9]⟩] W fun e w' => e = .returned (.tuple #[.agg #[.int .i64 0, .string ⟨#[]⟩, .string ⟨#[]⟩, .int .u64 0, .string ⟨#[]⟩, .string ⟨#[]⟩], .int .i64 5]) ∧ Below W.heap.size W w' := by
  have h := parse_any ⟨#[9]⟩ W
  rw [aw_parse2] at h
  exact h
theorem Owns.block {e : TypeId} {w : World} {B : Nat} {v : Value} {l : List Ord} (h : Owns e w B v l) (hl : 0 < l.length) : ∃ g cap, v = .slice (some ⟨g, 0, none⟩) l.length cap ∧ B ≤ g ∧ g < w.heap.size ∧ Elems w (some ⟨g, 0, none⟩) 6 (l.map Ord.cells) := by
  have h0 := h
  rcases h.2 with ⟨_, hn⟩ | ⟨g, cap, cur, rfl, hb, hgg, _⟩
  · omega
  · exact ⟨g, cap, rfl, hb, (Array.getElem?_eq_some_iff.1 hgg).1, h0.elems⟩
theorem aw_a (W : World) : Calls Try.prog 18 #[.string ⟨#[2, 2, 97, 98, 6]⟩] W fun e w' => (∃ g cap, e = .returned (.tuple #[.slice (some ⟨g, 0, none⟩) 2 cap, .int .i64 0]) ∧ g < w'.heap.size ∧ w'.cell? ⟨g, 6, none⟩ = some (.int .i64 6)) ∧ Below W.heap.size W w' := by
  have h := all_any ⟨#[2, 2, 97, 98, 6]⟩ W (by decide)
  rw [aw_all] at h
  refine h.mono ?_
  rintro e w' ⟨⟨v, rfl, ho⟩, hb⟩
  obtain ⟨g, cap, rfl, _, hg, he⟩ := ho.block (by decide)
  obtain ⟨b', off, e', hl, hc⟩ := he 1 awB.cells rfl
  cases e'
  exact ⟨⟨g, cap, rfl, hg, hc 0 _ rfl⟩, hb⟩

set_option maxHeartbeats 800000 in
set_option maxRecDepth 100000 in
theorem awake_any (w : World) : Calls Try.prog 9 #[] w fun e w' => e = .returned (.bool true) ∧ Below w.heap.size w w' := by
  have heq : ∀ W : World, (binOp .eql 24 (.agg #[.int .i64 2, .string ⟨#[97, 98]⟩, .string ⟨#[]⟩, .int .u64 0, .string ⟨#[]⟩, .string ⟨#[]⟩]) (.agg #[.int .i64 2, .string ⟨#[97, 98]⟩, .string ⟨#[]⟩, .int .u64 0, .string ⟨#[]⟩, .string ⟨#[]⟩])).run Try.prog W = .ok (.bool true) W := fun W => (eql_ord awA awA W).trans (by simp)
  have hgu : Try.prog.eqGuardType Try.prog.depth 24 = false := by kernel_rfl
  go_enter Try.func9, Try.ntmps9
  go_wp2_with (first | (go_at_call 12; (with_reducible refine (aw_b2 _ _ ?_).mono ?_); exact rfl; rintro e w1 ⟨rfl, hb⟩) | (go_at_call 16; (with_reducible refine (aw_p1 _).mono ?_); rintro e w2 ⟨rfl, hb2⟩; have hb := below_next hb hb2) | (go_at_call 18; (with_reducible refine (aw_a _).mono ?_); rintro e w3 ⟨⟨g, cap, rfl, hg, hc6⟩, hb3⟩; have hb := below_next (below_alloc hb) hb3; have hz := OrdAt.fr (o := ⟨2, ⟨#[97, 98]⟩, ⟨#[]⟩, 0, ⟨#[]⟩, ⟨#[]⟩⟩) (heap_alloc_new w2 _) (Fr.of_below (S := fun _ => False) hb3) id; have z0 := hz.c0; have z1 := hz.c1; have z2 := hz.c2; have z3 := hz.c3; have z4 := hz.c4; have z5 := hz.c5; have y0 := hz.f 0; have y1 := hz.f 1; have y2 := hz.f 2; have y3 := hz.f 3; have y4 := hz.f 4; have y5 := hz.f 5) | (go_at_call 16; (with_reducible refine (aw_p2 _).mono ?_); rintro e w4 ⟨rfl, hb4⟩; have hb := below_next hb hb4; have hz := hz.fr (Fr.of_below (S := fun _ => False) hb4) id; have z0 := hz.c0; have z1 := hz.c1; have z2 := hz.c2; have z3 := hz.c3; have z4 := hz.c4; have z5 := hz.c5; have y0 := hz.f 0; have y1 := hz.f 1; have y2 := hz.f 2; have y3 := hz.f 3; have y4 := hz.f 4; have y5 := hz.f 5; have hc6 := keep_cell hb4 hg hc6; have hg := keep_lt hb4 hg) | (go_at_call 12; (with_reducible refine (aw_b1 _ _ ?_).mono ?_); (first | exact rfl | simp); rintro e w5 ⟨rfl, hb5⟩; have hb6 := below_next (below_alloc (Below.refl _ w4)) hb5; have hb := below_next hb hb6; have hz := hz.fr (Fr.of_below (S := fun _ => False) hb6) id; have z0 := hz.c0; have z1 := hz.c1; have z2 := hz.c2; have z3 := hz.c3; have z4 := hz.c4; have z5 := hz.c5; have y0 := hz.f 0; have y1 := hz.f 1; have y2 := hz.f 2; have y3 := hz.f 3; have y4 := hz.f 4; have y5 := hz.f 5; have hc6 := keep_cell hb6 hg hc6))
  go_ret
  exact ⟨rfl, hb⟩
end Go.Proofs.Ytdfgdnaejnngoaa
