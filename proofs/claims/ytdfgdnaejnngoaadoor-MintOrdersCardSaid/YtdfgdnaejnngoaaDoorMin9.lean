import Derived.Test.YtdfgdnaejnngoaaDoorMin8
namespace Go.Proofs.YtdfgdnaejnngoaaDoor
open Go.RowKit

def oddS (x : Int) : Bool := (nZ (nS x)).tmod 2 == 1
theorem mOdd_any (b : Nat) (x : Int) (w : World) (h : MAt w b x) : Calls Tryd.prog 26 #[.pointer (some ⟨b, 0, none⟩)] w fun e w' => e = .returned (.bool (oddS x)) ∧ MAt w' b (nS x) ∧ Fr (fun k => k = b) w w' := by
  have hn := mNext_any b x w h
  have hk : oddS x = ((nZ (nS x)).tmod 2 == 1) := rfl
  generalize nZ (nS x) = z at hn hk
  generalize nS x = x1 at hn ⊢
  have Hn := Lib.hid hn
  have Hk := Lib.hid hk
  clear hn hk h
  go_enter Tryd.func26, Tryd.ntmps26
  go_wp2_with (go_at_call 7; (with_reducible refine Hn.out.mono ?_); rintro e w1 ⟨rfl, hm, hf⟩)
  go_ret
  rw [Hk.out]
  exact ⟨rfl, hm, hf⟩
theorem B_info : (Tryd.prog.info? 4).map (fun i => (i.zero, i.size, i.bytes)) = some (some (.bool false), 1, 1) := by kernel_rfl
def OwnsB (w' : World) (B : Nat) (v : Value) (l : List Bool) : Prop := w'.ownsRow B 4 1 v l.length (l.map Value.bool)
theorem OwnsB.fr {S : Nat → Prop} {w w' : World} {B : Nat} {v : Value} {l : List Bool} (h : OwnsB w B v l) (hf : Fr S w w') (hs : ∀ k, B ≤ k → ¬ S k) : OwnsB w' B v l := by
  refine ⟨h.1, ?_⟩
  rcases h.2 with hn | ⟨g, cap, cur, rfl, hb, hgg, rest⟩
  · exact .inl hn
  · exact .inr ⟨g, cap, cur, rfl, hb, (hf.block g (Array.getElem?_eq_some_iff.1 hgg).1 (hs g hb)).trans hgg, rest⟩
theorem OwnsB.alloc {w : World} {B : Nat} {v : Value} {l : List Bool} (h : OwnsB w B v l) (o : Obj) : OwnsB (w.alloc o) B v l := h.fr ((Fr.refl (fun _ => False) w).alloc o) (fun _ _ h => h)
theorem OwnsB.nil (w : World) (B : Nat) : OwnsB w B (.slice none 0 0) [] := World.ownsRow_nil _ _ _ _
theorem bool_new_at (w : World) (o : Bool) (n : Nat) (h : w.heap.size = n) : ∀ (j : Nat) (u : Value), ([.bool o] : List Value)[j]? = some u → (w.alloc (.cells #[.bool o] 4)).cell? ((⟨n, 0, none⟩ : Addr).add j) = some u := by
  intro j u hj
  have hh := heap_new_at (o := .cells #[.bool o] 4) h
  have ha : (⟨n, 0, none⟩ : Addr).add j = ⟨n, j, none⟩ := by unfold Addr.add; split <;> simp_all
  rw [ha, Lib.cell_of_heap hh]
  rw [← hj]
  simp
theorem bool_one (o : Bool) : ∀ u ∈ ([.bool o] : List Value), u.oneCell' = true := by
  intro u hu
  simp at hu
  rw [hu]
  rfl
/-- so many bools of a state, and the state behind them -/
def keepS (x : Int) : Nat → List Bool × Int
  | 0 => ([], x)
  | k + 1 => ((keepS x k).1 ++ [oddS (keepS x k).2], nS (keepS x k).2)
theorem keepS_length (x : Int) : ∀ k, (keepS x k).1.length = k
  | 0 => rfl
  | k + 1 => by rw [keepS, List.length_append, keepS_length x k]; rfl

set_option maxHeartbeats 1000000 in
set_option maxRecDepth 100000 in
theorem times_bool_a (n : Int) (b : Nat) (x : Int) (w : World) (h : MAt w b x) (hc : n < 0) : Calls Tryd.prog 25 #[.int .i64 n, .int .i64 2048, .func (.func 26) #[.pointer (some ⟨b, 0, none⟩)] #[]] w
    fun e w' => ∃ v, e = .returned v ∧ OwnsB w' w.heap.size v (keepS x (cntS n 2048)).1 ∧ MAt w' b (keepS x (cntS n 2048)).2 ∧ Fr (fun k => k = b) w w' := by
  have hbl := h.lt
  obtain ⟨i0, hi0, hz0, hz1, hz2⟩ := info_parts B_info
  have e0 : ∀ args w, (callFunc 26 args).run Tryd.prog w = .ok (.enter 26 args) w := enters_of Tryd.func26 (by kernel_rfl) rfl
  have hM : ((cntS n 2048 : Nat) : Int) = 0 := (by rw [cntneg hc (by decide)]; rfl)
  have hN : cntS n 2048 ≤ 2048 := by unfold cntS; omega
  have H0 := Lib.hid h
  generalize cntS n 2048 = N at hM hN ⊢
  have HM := Lib.hid hM
  clear h hM
  try obtain ⟨hc0, hc1⟩ := hc
  go_enter Tryd.func25, Tryd.ntmps25
  go_wp2
  go_loopw [12, 7] (fun i v wr => ∃ k : Nat, k ≤ N ∧ i = .int .i64 k ∧ OwnsB wr w.heap.size v (keepS x k).1 ∧ MAt wr b (keepS x k).2 ∧ Fr (fun k => k = b) w wr) (fun i _ _ => 2049 - (intOf i).toNat)
  case atStart => exact ⟨0, Nat.zero_le _, rfl, OwnsB.nil _ _, H0.out, Fr.refl _ _⟩
  case round =>
    obtain ⟨k, hk, rfl, hown, hm, hf⟩ := hrel
    have hsz := hf.size
    by_cases hkn : k < N
    · exfalso
      have := HM.out
      omega
    · have hkI : 0 ≤ (k : Int) := by have := HM.out; omega
      obtain rfl : k = N := by omega
      go_wp2
      go_ret
      exact ⟨_, rfl, hown, hm, hf⟩
set_option maxHeartbeats 1000000 in
set_option maxRecDepth 100000 in
theorem times_bool_b (n : Int) (b : Nat) (x : Int) (w : World) (h : MAt w b x) (hc : 0 ≤ n ∧ n ≤ 2048) : Calls Tryd.prog 25 #[.int .i64 n, .int .i64 2048, .func (.func 26) #[.pointer (some ⟨b, 0, none⟩)] #[]] w
    fun e w' => ∃ v, e = .returned v ∧ OwnsB w' w.heap.size v (keepS x (cntS n 2048)).1 ∧ MAt w' b (keepS x (cntS n 2048)).2 ∧ Fr (fun k => k = b) w w' := by
  have hbl := h.lt
  obtain ⟨i0, hi0, hz0, hz1, hz2⟩ := info_parts B_info
  have e0 : ∀ args w, (callFunc 26 args).run Tryd.prog w = .ok (.enter 26 args) w := enters_of Tryd.func26 (by kernel_rfl) rfl
  have hM : ((cntS n 2048 : Nat) : Int) = n := (cntmid hc.1 hc.2)
  have hN : cntS n 2048 ≤ 2048 := by unfold cntS; omega
  have H0 := Lib.hid h
  generalize cntS n 2048 = N at hM hN ⊢
  have HM := Lib.hid hM
  clear h hM
  try obtain ⟨hc0, hc1⟩ := hc
  go_enter Tryd.func25, Tryd.ntmps25
  go_wp2
  go_loopw [12, 7] (fun i v wr => ∃ k : Nat, k ≤ N ∧ i = .int .i64 k ∧ OwnsB wr w.heap.size v (keepS x k).1 ∧ MAt wr b (keepS x k).2 ∧ Fr (fun k => k = b) w wr) (fun i _ _ => 2049 - (intOf i).toNat)
  case atStart => exact ⟨0, Nat.zero_le _, rfl, OwnsB.nil _ _, H0.out, Fr.refl _ _⟩
  case round =>
    obtain ⟨k, hk, rfl, hown, hm, hf⟩ := hrel
    have hsz := hf.size
    by_cases hkn : k < N
    · have hkI : (k : Int) < n := by have := HM.out; omega
      have hcall := mOdd_any b _ wr hm
      have hnx : keepS x (k + 1) = ((keepS x k).1 ++ [oddS (keepS x k).2], nS (keepS x k).2) := rfl
      have hlen := keepS_length x k
      generalize oddS (keepS x k).2 = ro at hcall hnx
      generalize nS (keepS x k).2 = rx at hcall hnx
      generalize (keepS x k).1 = l at hown hnx hlen
      have Hcall := Lib.hid hcall
      have Hnx := Lib.hid hnx
      have Hown := Lib.hid hown
      have Hf := Lib.hid hf
      clear hcall hnx hown hf hm
      go_wp2_with (first | ((with_reducible refine Hcall.out.mono ?_); rintro e w2 ⟨rfl, hm2, hf2⟩) | (at_builtin; refine wpList_append_own _ rfl _ _ 42 rfl w.heap.size 4 i0 _ 1 1 Tryd.underlying42 hi0 hz0 hz1 hz2 rfl (by decide) _ _ _ rfl ((Hown.out.fr hf2 (fun k hk e => by omega)).alloc _) ⟨w2.heap.size, 0, none⟩ 1 1 [.bool ro] rfl rfl ?c1 ?c2 ?c3 ?c4 ?c5 ?_))
      case c1 => exact bool_new_at _ ro _ (by simp)
      case c2 => exact bool_one ro
      case c3 => unfold maxLen; omega
      case c4 => omega
      case c5 => have := hf2.size; simp; omega
      · intro v' w3 hown3 hgrow _
        have hf3 : Fr (fun k => k = b) w w3 := ((Hf.out.trans hf2 (fun _ _ h => h)).alloc _).grown hgrow (fun i hi e => by have := (Hown.out.lt i e).1; omega)
        have hm3 : MAt w3 b rx := hm2.fr (((Fr.refl (fun k => w.heap.size ≤ k) w2).alloc _).grown hgrow (fun i hi e => (Hown.out.lt i e).1)) (by omega)
        have ho3 : OwnsB w3 w.heap.size v' (l ++ [ro]) := by unfold OwnsB; rw [List.map_append, List.length_append, hlen]; exact hown3
        have Hf3 := Lib.hid hf3
        have Hm3 := Lib.hid hm3
        have Ho3 := Lib.hid ho3
        clear hown3 hgrow hf3 hm3 ho3 hm2 hf2 Hown Hf
        go_wp2
        refine ⟨⟨k + 1, by omega, by go_num, by rw [Hnx.out]; exact Ho3.out, by rw [Hnx.out]; exact Hm3.out, Hf3.out⟩, ?_⟩
        simp [intOf]
        omega
    · have hkI : n ≤ (k : Int) := by have := HM.out; omega
      obtain rfl : k = N := by omega
      go_wp2
      go_ret
      exact ⟨_, rfl, hown, hm, hf⟩
set_option maxHeartbeats 1000000 in
set_option maxRecDepth 100000 in
theorem times_bool_c (n : Int) (b : Nat) (x : Int) (w : World) (h : MAt w b x) (hc : 2048 < n) : Calls Tryd.prog 25 #[.int .i64 n, .int .i64 2048, .func (.func 26) #[.pointer (some ⟨b, 0, none⟩)] #[]] w
    fun e w' => ∃ v, e = .returned v ∧ OwnsB w' w.heap.size v (keepS x (cntS n 2048)).1 ∧ MAt w' b (keepS x (cntS n 2048)).2 ∧ Fr (fun k => k = b) w w' := by
  have hbl := h.lt
  obtain ⟨i0, hi0, hz0, hz1, hz2⟩ := info_parts B_info
  have e0 : ∀ args w, (callFunc 26 args).run Tryd.prog w = .ok (.enter 26 args) w := enters_of Tryd.func26 (by kernel_rfl) rfl
  have hM : ((cntS n 2048 : Nat) : Int) = 2048 := (cntbig hc (by decide))
  have hN : cntS n 2048 ≤ 2048 := by unfold cntS; omega
  have H0 := Lib.hid h
  generalize cntS n 2048 = N at hM hN ⊢
  have HM := Lib.hid hM
  clear h hM
  try obtain ⟨hc0, hc1⟩ := hc
  go_enter Tryd.func25, Tryd.ntmps25
  go_wp2
  go_loopw [12, 7] (fun i v wr => ∃ k : Nat, k ≤ N ∧ i = .int .i64 k ∧ OwnsB wr w.heap.size v (keepS x k).1 ∧ MAt wr b (keepS x k).2 ∧ Fr (fun k => k = b) w wr) (fun i _ _ => 2049 - (intOf i).toNat)
  case atStart => exact ⟨0, Nat.zero_le _, rfl, OwnsB.nil _ _, H0.out, Fr.refl _ _⟩
  case round =>
    obtain ⟨k, hk, rfl, hown, hm, hf⟩ := hrel
    have hsz := hf.size
    by_cases hkn : k < N
    · have hkI : (k : Int) < 2048 := by have := HM.out; omega
      have hcall := mOdd_any b _ wr hm
      have hnx : keepS x (k + 1) = ((keepS x k).1 ++ [oddS (keepS x k).2], nS (keepS x k).2) := rfl
      have hlen := keepS_length x k
      generalize oddS (keepS x k).2 = ro at hcall hnx
      generalize nS (keepS x k).2 = rx at hcall hnx
      generalize (keepS x k).1 = l at hown hnx hlen
      have Hcall := Lib.hid hcall
      have Hnx := Lib.hid hnx
      have Hown := Lib.hid hown
      have Hf := Lib.hid hf
      clear hcall hnx hown hf hm
      go_wp2_with (first | ((with_reducible refine Hcall.out.mono ?_); rintro e w2 ⟨rfl, hm2, hf2⟩) | (at_builtin; refine wpList_append_own _ rfl _ _ 42 rfl w.heap.size 4 i0 _ 1 1 Tryd.underlying42 hi0 hz0 hz1 hz2 rfl (by decide) _ _ _ rfl ((Hown.out.fr hf2 (fun k hk e => by omega)).alloc _) ⟨w2.heap.size, 0, none⟩ 1 1 [.bool ro] rfl rfl ?c1 ?c2 ?c3 ?c4 ?c5 ?_))
      case c1 => exact bool_new_at _ ro _ (by simp)
      case c2 => exact bool_one ro
      case c3 => unfold maxLen; omega
      case c4 => omega
      case c5 => have := hf2.size; simp; omega
      · intro v' w3 hown3 hgrow _
        have hf3 : Fr (fun k => k = b) w w3 := ((Hf.out.trans hf2 (fun _ _ h => h)).alloc _).grown hgrow (fun i hi e => by have := (Hown.out.lt i e).1; omega)
        have hm3 : MAt w3 b rx := hm2.fr (((Fr.refl (fun k => w.heap.size ≤ k) w2).alloc _).grown hgrow (fun i hi e => (Hown.out.lt i e).1)) (by omega)
        have ho3 : OwnsB w3 w.heap.size v' (l ++ [ro]) := by unfold OwnsB; rw [List.map_append, List.length_append, hlen]; exact hown3
        have Hf3 := Lib.hid hf3
        have Hm3 := Lib.hid hm3
        have Ho3 := Lib.hid ho3
        clear hown3 hgrow hf3 hm3 ho3 hm2 hf2 Hown Hf
        go_wp2
        refine ⟨⟨k + 1, by omega, by go_num, by rw [Hnx.out]; exact Ho3.out, by rw [Hnx.out]; exact Hm3.out, Hf3.out⟩, ?_⟩
        simp [intOf]
        omega
    · have hkI : 2048 ≤ (k : Int) := by have := HM.out; omega
      obtain rfl : k = N := by omega
      go_wp2
      go_ret
      exact ⟨_, rfl, hown, hm, hf⟩
theorem times_bool (n : Int) (b : Nat) (x : Int) (w : World) (h : MAt w b x) : Calls Tryd.prog 25 #[.int .i64 n, .int .i64 2048, .func (.func 26) #[.pointer (some ⟨b, 0, none⟩)] #[]] w
    fun e w' => ∃ v, e = .returned v ∧ OwnsB w' w.heap.size v (keepS x (cntS n 2048)).1 ∧ MAt w' b (keepS x (cntS n 2048)).2 ∧ Fr (fun k => k = b) w w' := by
  by_cases h0 : n < 0
  · exact times_bool_a n b x w h h0
  · by_cases h1 : n ≤ 2048
    · exact times_bool_b n b x w h ⟨by omega, h1⟩
    · exact times_bool_c n b x w h (by omega)
end Go.Proofs.YtdfgdnaejnngoaaDoor
