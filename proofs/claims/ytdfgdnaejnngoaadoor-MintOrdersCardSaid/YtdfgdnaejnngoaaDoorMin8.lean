import Derived.Test.YtdfgdnaejnngoaaDoorMin7
import Derived.OwnWalk
namespace Go.Proofs.YtdfgdnaejnngoaaDoor
open Go.RowKit
theorem A_info : (Tryd.prog.info? 37).map (fun i => (i.zero, i.size, i.bytes)) = some (some (.agg #[.int .i64 0, .string ⟨#[]⟩, .string ⟨#[]⟩, .int .u64 0, .string ⟨#[]⟩, .string ⟨#[]⟩]), 6, 80) := by kernel_rfl
/-- rows of orders that a call hands back -/
def Owns (e : TypeId) (w' : World) (B : Nat) (v : Value) (l : List Ord) : Prop := w'.ownsRow B e 6 v l.length (l.map Ord.cells).flatten

theorem flatten_snoc (l : List Ord) (o : Ord) : ((l ++ [o]).map Ord.cells).flatten = (l.map Ord.cells).flatten ++ o.cells := by simp
theorem Owns.fr {S : Nat → Prop} {e : TypeId} {w w' : World} {B : Nat} {v : Value} {l : List Ord} (h : Owns e w B v l) (hf : Fr S w w') (hs : ∀ k, B ≤ k → ¬ S k) : Owns e w' B v l := by
  refine ⟨h.1, ?_⟩
  rcases h.2 with hn | ⟨g, cap, cur, rfl, hb, hgg, rest⟩
  · exact .inl hn
  · exact .inr ⟨g, cap, cur, rfl, hb, (hf.block g (Array.getElem?_eq_some_iff.1 hgg).1 (hs g hb)).trans hgg, rest⟩
theorem Owns.alloc {e : TypeId} {w : World} {B : Nat} {v : Value} {l : List Ord} (h : Owns e w B v l) (o : Obj) : Owns e (w.alloc o) B v l := h.fr ((Fr.refl (fun _ => False) w).alloc o) (fun _ _ h => h)
theorem Owns.nil {e : TypeId} (w : World) (B : Nat) : Owns e w B (.slice none 0 0) [] := World.ownsRow_nil _ _ _ _
theorem Owns.slice {e : TypeId} {w : World} {B : Nat} {v : Value} {l : List Ord} (h : Owns e w B v l) : ∃ A cap, v = .slice A l.length cap := by
  rcases h.2 with ⟨rfl, hn⟩ | ⟨g, cap, cur, rfl, _⟩
  · exact ⟨none, 0, by rw [hn]⟩
  · exact ⟨_, _, rfl⟩
theorem Owns.base {e : TypeId} {w : World} {B B' : Nat} {v : Value} {l : List Ord} (h : Owns e w B v l) (hB : B' ≤ B) : Owns e w B' v l := by
  refine ⟨h.1, ?_⟩
  rcases h.2 with hn | ⟨g, cap, cur, rfl, hb, rest⟩
  · exact .inl hn
  · exact .inr ⟨g, cap, cur, rfl, Nat.le_trans hB hb, rest⟩
theorem Owns.elems {e : TypeId} {w : World} {B : Nat} {A : Option Addr} {n cap : Nat} {l : List Ord} (h : Owns e w B (.slice A n cap) l) : Elems w A 6 (l.map Ord.cells) := by
  rcases h.2 with ⟨he, hn⟩ | ⟨g, cap', cur, he, _, hgg, _, _, _, htake⟩
  · have : l = [] := List.eq_nil_of_length_eq_zero hn
    subst this
    exact Elems.nil _ _ _
  · cases he
    intro i r hr
    refine ⟨g, 0, rfl, (Array.getElem?_eq_some_iff.1 hgg).1, fun j u hu => ?_⟩
    have h6 : ∀ r ∈ l.map Ord.cells, r.length = 6 := fun r hr => by
      obtain ⟨o, _, rfl⟩ := List.mem_map.1 hr
      rfl
    have hf := flatten_at h6 i r hr j u hu
    rw [Lib.cell_of_heap hgg]
    rw [← htake, List.getElem?_take] at hf
    split at hf
    · simpa using hf
    · cases hf

theorem ord_new_at (w : World) (o : Ord) (n : Nat) (h : w.heap.size = n) : ∀ (j : Nat) (u : Value), o.cells[j]? = some u → (w.alloc (.cells #[.int .i64 o.kind, .string o.key, .string o.val, .int .u64 o.n, .string o.lo, .string o.hi] 37)).cell? ((⟨n, 0, none⟩ : Addr).add j) = some u := by
  intro j u hj
  have hh := heap_new_at (o := .cells #[.int .i64 o.kind, .string o.key, .string o.val, .int .u64 o.n, .string o.lo, .string o.hi] 37) h
  have ha : (⟨n, 0, none⟩ : Addr).add j = ⟨n, j, none⟩ := by unfold Addr.add; split <;> simp_all
  rw [ha, Lib.cell_of_heap hh]
  rw [Ord.cells] at hj
  rw [← hj]
  simp
theorem ord_one (o : Ord) : ∀ u ∈ o.cells, u.oneCell' = true := by
  intro u hu
  simp [Ord.cells] at hu
  rcases hu with rfl | rfl | rfl | rfl | rfl | rfl <;> rfl

theorem new_any (s : Int) (w : World) : Calls Tryd.prog 6 #[.int .u64 s] w fun e w' => e = .returned (.pointer (some ⟨w.heap.size, 0, none⟩)) ∧ w.alloc (.cells #[.int .u64 s] 52) = w' := by
  go_enter Tryd.func6, Tryd.ntmps6
  go_wp2
  go_ret
  exact ⟨rfl, rfl⟩
/-- so many orders of a state, and the state behind them -/
def ordersS (x : Int) : Nat → List Ord × Int
  | 0 => ([], x)
  | k + 1 => ((ordersS x k).1 ++ [(orderS (ordersS x k).2).1], (orderS (ordersS x k).2).2)
theorem ordersS_length (x : Int) : ∀ k, (ordersS x k).1.length = k
  | 0 => rfl
  | k + 1 => by rw [ordersS, List.length_append, ordersS_length x k]; rfl
def cntS (n most : Int) : Nat := (min (max n 0) most).toNat

theorem cntneg {n most : Int} (h : n < 0) (_hm : 0 ≤ most) : cntS n most = 0 := by unfold cntS; omega
theorem cntmid {n most : Int} (h0 : 0 ≤ n) (h1 : n ≤ most) : ((cntS n most : Nat) : Int) = n := by unfold cntS; omega
theorem cntbig {n most : Int} (h1 : most < n) (hm : 0 ≤ most) : ((cntS n most : Nat) : Int) = most := by unfold cntS; omega

set_option maxHeartbeats 1000000 in
set_option maxRecDepth 100000 in
theorem times_ord_a (n : Int) (b B : Nat) (x : Int) (w : World) (h : MAt w b x) (_hB : B ≤ b) (ht : Tab B w) (hc : n < 0) : Calls Tryd.prog 24 #[.int .i64 n, .int .i64 400, .func (.func 12) #[.pointer (some ⟨b, 0, none⟩)] #[]] w
    fun e w' => ∃ v, e = .returned v ∧ Owns 37 w' w.heap.size v (ordersS x (cntS n 400)).1 ∧ MAt w' b (ordersS x (cntS n 400)).2 ∧ Fr (fun k => k = b) w w' := by
  have hbl := h.lt
  obtain ⟨i0, hi0, hz0, hz1, hz2⟩ := info_parts A_info
  have e0 : ∀ args w, (callFunc 12 args).run Tryd.prog w = .ok (.enter 12 args) w := enters_of Tryd.func12 (by kernel_rfl) rfl
  have hM : ((cntS n 400 : Nat) : Int) = 0 := (by rw [cntneg hc (by decide)]; rfl)
  have hN : cntS n 400 ≤ 400 := by unfold cntS; omega
  have Ht := Lib.hid ht
  have H0 := Lib.hid h
  generalize cntS n 400 = N at hM hN ⊢
  have HM := Lib.hid hM
  clear h ht hM
  try obtain ⟨hc0, hc1⟩ := hc
  go_enter Tryd.func24, Tryd.ntmps24
  go_wp2
  go_loopw [12, 7] (fun i v wr => ∃ k : Nat, k ≤ N ∧ i = .int .i64 k ∧ Owns 37 wr w.heap.size v (ordersS x k).1 ∧ MAt wr b (ordersS x k).2 ∧ Fr (fun k => k = b) w wr) (fun i _ _ => 401 - (intOf i).toNat)
  case atStart => exact ⟨0, Nat.zero_le _, rfl, Owns.nil _ _, H0.out, Fr.refl _ _⟩
  case round =>
    obtain ⟨k, hk, rfl, hown, hm, hf⟩ := hrel
    have hsz := hf.size
    by_cases hkn : k < N
    · exfalso
      have := HM.out
      omega
    · have hkI : 0 ≤ (k : Int) := by have := HM.out; omega
      obtain rfl : k = N := by omega
      go_wp2
      go_ret
      exact ⟨_, rfl, hown, hm, hf⟩
set_option maxHeartbeats 1000000 in
set_option maxRecDepth 100000 in
theorem times_ord_b (n : Int) (b B : Nat) (x : Int) (w : World) (h : MAt w b x) (hB : B ≤ b) (ht : Tab B w) (hc : 0 ≤ n ∧ n ≤ 400) : Calls Tryd.prog 24 #[.int .i64 n, .int .i64 400, .func (.func 12) #[.pointer (some ⟨b, 0, none⟩)] #[]] w
    fun e w' => ∃ v, e = .returned v ∧ Owns 37 w' w.heap.size v (ordersS x (cntS n 400)).1 ∧ MAt w' b (ordersS x (cntS n 400)).2 ∧ Fr (fun k => k = b) w w' := by
  have hbl := h.lt
  obtain ⟨i0, hi0, hz0, hz1, hz2⟩ := info_parts A_info
  have e0 : ∀ args w, (callFunc 12 args).run Tryd.prog w = .ok (.enter 12 args) w := enters_of Tryd.func12 (by kernel_rfl) rfl
  have hM : ((cntS n 400 : Nat) : Int) = n := (cntmid hc.1 hc.2)
  have hN : cntS n 400 ≤ 400 := by unfold cntS; omega
  have Ht := Lib.hid ht
  have H0 := Lib.hid h
  generalize cntS n 400 = N at hM hN ⊢
  have HM := Lib.hid hM
  clear h ht hM
  try obtain ⟨hc0, hc1⟩ := hc
  go_enter Tryd.func24, Tryd.ntmps24
  go_wp2
  go_loopw [12, 7] (fun i v wr => ∃ k : Nat, k ≤ N ∧ i = .int .i64 k ∧ Owns 37 wr w.heap.size v (ordersS x k).1 ∧ MAt wr b (ordersS x k).2 ∧ Fr (fun k => k = b) w wr) (fun i _ _ => 401 - (intOf i).toNat)
  case atStart => exact ⟨0, Nat.zero_le _, rfl, Owns.nil _ _, H0.out, Fr.refl _ _⟩
  case round =>
    obtain ⟨k, hk, rfl, hown, hm, hf⟩ := hrel
    have hsz := hf.size
    by_cases hkn : k < N
    · have hkI : (k : Int) < n := by have := HM.out; omega
      have hcall := mOrder_any b B _ wr hm hB (Ht.out.fr hf (by omega) (fun i e => by omega))
      have hnx : ordersS x (k + 1) = ((ordersS x k).1 ++ [(orderS (ordersS x k).2).1], (orderS (ordersS x k).2).2) := rfl
      have hlen := ordersS_length x k
      generalize orderS (ordersS x k).2 = R at hcall hnx
      obtain ⟨ro, rx⟩ := R
      simp only [Ord.v_def] at hcall
      generalize (ordersS x k).1 = l at hown hnx hlen
      have Hcall := Lib.hid hcall
      have Hnx := Lib.hid hnx
      have Hown := Lib.hid hown
      have Hf := Lib.hid hf
      clear hcall hnx hown hf hm
      go_wp2_with (first | ((with_reducible refine Hcall.out.mono ?_); rintro e w2 ⟨rfl, hm2, hf2⟩) | (at_builtin; refine wpList_append_own _ rfl _ _ 40 rfl w.heap.size 37 i0 _ 6 80 Tryd.underlying40 hi0 hz0 hz1 hz2 rfl (by decide) _ _ _ rfl ((Hown.out.fr hf2 (fun k hk e => by omega)).alloc _) ⟨w2.heap.size, 0, none⟩ 1 1 ro.cells rfl rfl ?c1 ?c2 ?c3 ?c4 ?c5 ?_))
      case c1 => exact ord_new_at _ ro _ (by simp)
      case c2 => exact ord_one ro
      case c3 => unfold maxLen; omega
      case c4 => omega
      case c5 => have := hf2.size; simp; omega
      · intro v' w3 hown3 hgrow _
        have hf3 : Fr (fun k => k = b) w w3 := ((Hf.out.trans hf2 (fun _ _ h => h)).alloc _).grown hgrow (fun i hi e => by have := (Hown.out.lt i e).1; omega)
        have hm3 : MAt w3 b rx := hm2.fr (((Fr.refl (fun k => w.heap.size ≤ k) w2).alloc _).grown hgrow (fun i hi e => (Hown.out.lt i e).1)) (by omega)
        have ho3 : Owns 37 w3 w.heap.size v' (l ++ [ro]) := by unfold Owns; rw [flatten_snoc, List.length_append, hlen]; exact hown3
        have Hf3 := Lib.hid hf3
        have Hm3 := Lib.hid hm3
        have Ho3 := Lib.hid ho3
        clear hown3 hgrow hf3 hm3 ho3 hm2 hf2 Hown Hf
        go_wp2
        refine ⟨⟨k + 1, by omega, by go_num, by rw [Hnx.out]; exact Ho3.out, by rw [Hnx.out]; exact Hm3.out, Hf3.out⟩, ?_⟩
        simp [intOf]
        omega
    · have hkI : n ≤ (k : Int) := by have := HM.out; omega
      obtain rfl : k = N := by omega
      go_wp2
      go_ret
      exact ⟨_, rfl, hown, hm, hf⟩
set_option maxHeartbeats 1000000 in
set_option maxRecDepth 100000 in
theorem times_ord_c (n : Int) (b B : Nat) (x : Int) (w : World) (h : MAt w b x) (hB : B ≤ b) (ht : Tab B w) (hc : 400 < n) : Calls Tryd.prog 24 #[.int .i64 n, .int .i64 400, .func (.func 12) #[.pointer (some ⟨b, 0, none⟩)] #[]] w
    fun e w' => ∃ v, e = .returned v ∧ Owns 37 w' w.heap.size v (ordersS x (cntS n 400)).1 ∧ MAt w' b (ordersS x (cntS n 400)).2 ∧ Fr (fun k => k = b) w w' := by
  have hbl := h.lt
  obtain ⟨i0, hi0, hz0, hz1, hz2⟩ := info_parts A_info
  have e0 : ∀ args w, (callFunc 12 args).run Tryd.prog w = .ok (.enter 12 args) w := enters_of Tryd.func12 (by kernel_rfl) rfl
  have hM : ((cntS n 400 : Nat) : Int) = 400 := (cntbig hc (by decide))
  have hN : cntS n 400 ≤ 400 := by unfold cntS; omega
  have Ht := Lib.hid ht
  have H0 := Lib.hid h
  generalize cntS n 400 = N at hM hN ⊢
  have HM := Lib.hid hM
  clear h ht hM
  try obtain ⟨hc0, hc1⟩ := hc
  go_enter Tryd.func24, Tryd.ntmps24
  go_wp2
  go_loopw [12, 7] (fun i v wr => ∃ k : Nat, k ≤ N ∧ i = .int .i64 k ∧ Owns 37 wr w.heap.size v (ordersS x k).1 ∧ MAt wr b (ordersS x k).2 ∧ Fr (fun k => k = b) w wr) (fun i _ _ => 401 - (intOf i).toNat)
  case atStart => exact ⟨0, Nat.zero_le _, rfl, Owns.nil _ _, H0.out, Fr.refl _ _⟩
  case round =>
    obtain ⟨k, hk, rfl, hown, hm, hf⟩ := hrel
    have hsz := hf.size
    by_cases hkn : k < N
    · have hkI : (k : Int) < 400 := by have := HM.out; omega
      have hcall := mOrder_any b B _ wr hm hB (Ht.out.fr hf (by omega) (fun i e => by omega))
      have hnx : ordersS x (k + 1) = ((ordersS x k).1 ++ [(orderS (ordersS x k).2).1], (orderS (ordersS x k).2).2) := rfl
      have hlen := ordersS_length x k
      generalize orderS (ordersS x k).2 = R at hcall hnx
      obtain ⟨ro, rx⟩ := R
      simp only [Ord.v_def] at hcall
      generalize (ordersS x k).1 = l at hown hnx hlen
      have Hcall := Lib.hid hcall
      have Hnx := Lib.hid hnx
      have Hown := Lib.hid hown
      have Hf := Lib.hid hf
      clear hcall hnx hown hf hm
      go_wp2_with (first | ((with_reducible refine Hcall.out.mono ?_); rintro e w2 ⟨rfl, hm2, hf2⟩) | (at_builtin; refine wpList_append_own _ rfl _ _ 40 rfl w.heap.size 37 i0 _ 6 80 Tryd.underlying40 hi0 hz0 hz1 hz2 rfl (by decide) _ _ _ rfl ((Hown.out.fr hf2 (fun k hk e => by omega)).alloc _) ⟨w2.heap.size, 0, none⟩ 1 1 ro.cells rfl rfl ?c1 ?c2 ?c3 ?c4 ?c5 ?_))
      case c1 => exact ord_new_at _ ro _ (by simp)
      case c2 => exact ord_one ro
      case c3 => unfold maxLen; omega
      case c4 => omega
      case c5 => have := hf2.size; simp; omega
      · intro v' w3 hown3 hgrow _
        have hf3 : Fr (fun k => k = b) w w3 := ((Hf.out.trans hf2 (fun _ _ h => h)).alloc _).grown hgrow (fun i hi e => by have := (Hown.out.lt i e).1; omega)
        have hm3 : MAt w3 b rx := hm2.fr (((Fr.refl (fun k => w.heap.size ≤ k) w2).alloc _).grown hgrow (fun i hi e => (Hown.out.lt i e).1)) (by omega)
        have ho3 : Owns 37 w3 w.heap.size v' (l ++ [ro]) := by unfold Owns; rw [flatten_snoc, List.length_append, hlen]; exact hown3
        have Hf3 := Lib.hid hf3
        have Hm3 := Lib.hid hm3
        have Ho3 := Lib.hid ho3
        clear hown3 hgrow hf3 hm3 ho3 hm2 hf2 Hown Hf
        go_wp2
        refine ⟨⟨k + 1, by omega, by go_num, by rw [Hnx.out]; exact Ho3.out, by rw [Hnx.out]; exact Hm3.out, Hf3.out⟩, ?_⟩
        simp [intOf]
        omega
    · have hkI : 400 ≤ (k : Int) := by have := HM.out; omega
      obtain rfl : k = N := by omega
      go_wp2
      go_ret
      exact ⟨_, rfl, hown, hm, hf⟩
theorem times_ord (n : Int) (b B : Nat) (x : Int) (w : World) (h : MAt w b x) (hB : B ≤ b) (ht : Tab B w) : Calls Tryd.prog 24 #[.int .i64 n, .int .i64 400, .func (.func 12) #[.pointer (some ⟨b, 0, none⟩)] #[]] w
    fun e w' => ∃ v, e = .returned v ∧ Owns 37 w' w.heap.size v (ordersS x (cntS n 400)).1 ∧ MAt w' b (ordersS x (cntS n 400)).2 ∧ Fr (fun k => k = b) w w' := by
  by_cases h0 : n < 0
  · exact times_ord_a n b B x w h hB ht h0
  · by_cases h1 : n ≤ 400
    · exact times_ord_b n b B x w h hB ht ⟨by omega, h1⟩
    · exact times_ord_c n b B x w h hB ht (by omega)
end Go.Proofs.YtdfgdnaejnngoaaDoor
