import Derived.Test.YtdfgdnaejnngoaaBase
namespace Go.Proofs.Ytdfgdnaejnngoaa
open Go.RowKit

set_option maxHeartbeats 400000 in
theorem indexFunc_ord (A : Option Addr) (cap : Nat) (os : List Ord) (p : Value → Bool) (g : FuncId) (cb : Array Value) (w : World)
    (eg : ∀ args w, (callFunc g args).run Try.prog w = .ok (.enter g args) w)
    (hl : os.length ≤ 1000000000) (he : Elems w A 6 (os.map Ord.cells))
    (hp : PredB Try.prog g cb w (os.map Ord.v) p) :
    Calls Try.prog 57 #[.slice A os.length cap, .func (.func g) #[] cb] w fun e w' =>
      (∃ n : Int, e = .returned (.int .i64 n) ∧ decide (0 ≤ n) = (os.any fun x => p (Ord.v x))) ∧ Below w.heap.size w w' := by
  go_enter Try.func57, Try.ntmps57
  go_wp2
  go_loopw [8, 5] (fun i _ wr => ∃ k : Nat, k ≤ os.length ∧ i = .int .i64 k ∧ (∀ j x, j < k → os[j]? = some x → p (Ord.v x) = false) ∧ Below w.heap.size w wr) (fun i _ _ => os.length - (intOf i).toNat)
  case atStart => exact ⟨0, Nat.zero_le _, rfl, fun j s h => by omega, Below.refl _ _⟩
  case round =>
    obtain ⟨k, hk, rfl, hno, hb⟩ := hrel
    have Hno := Lib.hid hno
    clear hno
    by_cases hlt : k < os.length
    · obtain ⟨x, hs⟩ : ∃ s, os[k]? = some s := ⟨os[k], List.getElem?_eq_getElem hlt⟩
      obtain ⟨b, off, rfl, hbl, hc⟩ := he.below hb k (Ord.cells x) (by simp [hs])
      have c0 := hc 0 _ rfl; have c1 := hc 1 _ rfl; have c2 := hc 2 _ rfl; have c3 := hc 3 _ rfl; have c4 := hc 4 _ rfl; have c5 := hc 5 _ rfl
      simp only [Nat.add_zero] at c0
      have hcall := hp _ hb (Ord.v x) (List.mem_map.2 ⟨x, List.mem_of_getElem? hs, rfl⟩)
      simp only [Ord.v_def] at hcall
      have Hcall := Lib.hid hcall
      have Hs := Lib.hid hs
      clear hcall hs hc he hp
      go_wp2_with ((with_reducible refine (Hcall.out).mono ?_); rintro e w' ⟨rfl, hb'⟩)
      · go_ret
        exact ⟨⟨k, rfl, by rw [any_of_first Hs.out (by assumption)]; simp⟩, hb.trans (hb'.mono hb.size)⟩
      · go_roundw
        case rel => exact ⟨k + 1, by omega, by go_num, none_snoc (q := fun x => p (Ord.v x)) Hs.out (by assumption) Hno.out, hb.trans (hb'.mono hb.size)⟩
        case measure => simp [intOf]; omega
    · go_wp2
      go_ret
      exact ⟨⟨-1, rfl, by rw [any_none (by omega) Hno.out]; rfl⟩, hb⟩

theorem containsFunc_ord (A : Option Addr) (cap : Nat) (os : List Ord) (p : Value → Bool) (g : FuncId) (cb : Array Value) (w : World)
    (eg : ∀ args w, (callFunc g args).run Try.prog w = .ok (.enter g args) w)
    (hl : os.length ≤ 1000000000) (he : Elems w A 6 (os.map Ord.cells))
    (hp : PredB Try.prog g cb w (os.map Ord.v) p) :
    Calls Try.prog 33 #[.slice A os.length cap, .func (.func g) #[] cb] w fun e w' =>
      e = .returned (.bool (os.any fun x => p (Ord.v x))) ∧ Below w.heap.size w w' := by
  have hcall := indexFunc_ord A cap os p g cb w eg hl he hp
  have Hcall := Lib.hid hcall
  clear hcall he hp eg
  go_enter Try.func33, Try.ntmps33
  go_wp2_with ((with_reducible refine (Hcall.out).mono ?_); rintro e w' ⟨⟨n, rfl, hn⟩, hb'⟩; have Hn := Lib.hid hn; clear hn)
  go_ret
  exact ⟨by rw [← Hn.out]; rfl, hb'⟩

set_option maxHeartbeats 400000 in
theorem indexFunc_str (A : Option Addr) (cap : Nat) (os : List ByteArray) (p : Value → Bool) (g : FuncId) (cb : Array Value) (w : World)
    (eg : ∀ args w, (callFunc g args).run Try.prog w = .ok (.enter g args) w)
    (hl : os.length ≤ 1000000000) (he : Elems w A 1 (os.map (fun s => [Value.string s])))
    (hp : PredB Try.prog g cb w (os.map Value.string) p) :
    Calls Try.prog 74 #[.slice A os.length cap, .func (.func g) #[] cb] w fun e w' =>
      (∃ n : Int, e = .returned (.int .i64 n) ∧ decide (0 ≤ n) = (os.any fun x => p (Value.string x))) ∧ Below w.heap.size w w' := by
  go_enter Try.func74, Try.ntmps74
  go_wp2
  go_loopw [8, 5] (fun i _ wr => ∃ k : Nat, k ≤ os.length ∧ i = .int .i64 k ∧ (∀ j x, j < k → os[j]? = some x → p (Value.string x) = false) ∧ Below w.heap.size w wr) (fun i _ _ => os.length - (intOf i).toNat)
  case atStart => exact ⟨0, Nat.zero_le _, rfl, fun j s h => by omega, Below.refl _ _⟩
  case round =>
    obtain ⟨k, hk, rfl, hno, hb⟩ := hrel
    have Hno := Lib.hid hno
    clear hno
    by_cases hlt : k < os.length
    · obtain ⟨x, hs⟩ : ∃ s, os[k]? = some s := ⟨os[k], List.getElem?_eq_getElem hlt⟩
      obtain ⟨b, off, rfl, hbl, hc⟩ := he.below hb k ((fun s => [Value.string s]) x) (by simp [hs])
      have c0 := hc 0 _ rfl
      simp only [Nat.add_zero, Nat.mul_one] at c0
      have hcall := hp _ hb (Value.string x) (List.mem_map.2 ⟨x, List.mem_of_getElem? hs, rfl⟩)
      have Hcall := Lib.hid hcall
      have Hs := Lib.hid hs
      clear hcall hs hc he hp
      go_wp2_with ((with_reducible refine (Hcall.out).mono ?_); rintro e w' ⟨rfl, hb'⟩)
      · go_ret
        exact ⟨⟨k, rfl, by rw [any_of_first Hs.out (by assumption)]; simp⟩, hb.trans (hb'.mono hb.size)⟩
      · go_roundw
        case rel => exact ⟨k + 1, by omega, by go_num, none_snoc (q := fun x => p (Value.string x)) Hs.out (by assumption) Hno.out, hb.trans (hb'.mono hb.size)⟩
        case measure => simp [intOf]; omega
    · go_wp2
      go_ret
      exact ⟨⟨-1, rfl, by rw [any_none (by omega) Hno.out]; rfl⟩, hb⟩

theorem containsFunc_str (A : Option Addr) (cap : Nat) (os : List ByteArray) (p : Value → Bool) (g : FuncId) (cb : Array Value) (w : World)
    (eg : ∀ args w, (callFunc g args).run Try.prog w = .ok (.enter g args) w)
    (hl : os.length ≤ 1000000000) (he : Elems w A 1 (os.map (fun s => [Value.string s])))
    (hp : PredB Try.prog g cb w (os.map Value.string) p) :
    Calls Try.prog 39 #[.slice A os.length cap, .func (.func g) #[] cb] w fun e w' =>
      e = .returned (.bool (os.any fun x => p (Value.string x))) ∧ Below w.heap.size w w' := by
  have hcall := indexFunc_str A cap os p g cb w eg hl he hp
  have Hcall := Lib.hid hcall
  clear hcall he hp eg
  go_enter Try.func39, Try.ntmps39
  go_wp2_with ((with_reducible refine (Hcall.out).mono ?_); rintro e w' ⟨⟨n, rfl, hn⟩, hb'⟩; have Hn := Lib.hid hn; clear hn)
  go_ret
  exact ⟨by rw [← Hn.out]; rfl, hb'⟩

set_option maxHeartbeats 400000 in
theorem indexFunc_int (A : Option Addr) (cap : Nat) (os : List Int) (p : Value → Bool) (g : FuncId) (cb : Array Value) (w : World)
    (eg : ∀ args w, (callFunc g args).run Try.prog w = .ok (.enter g args) w)
    (hl : os.length ≤ 1000000000) (he : Elems w A 1 (os.map (fun n => [Value.int .i64 n])))
    (hp : PredB Try.prog g cb w (os.map (fun n => Value.int .i64 n)) p) :
    Calls Try.prog 81 #[.slice A os.length cap, .func (.func g) #[] cb] w fun e w' =>
      (∃ n : Int, e = .returned (.int .i64 n) ∧ decide (0 ≤ n) = (os.any fun x => p ((fun n => Value.int .i64 n) x))) ∧ Below w.heap.size w w' := by
  go_enter Try.func81, Try.ntmps81
  go_wp2
  go_loopw [8, 5] (fun i _ wr => ∃ k : Nat, k ≤ os.length ∧ i = .int .i64 k ∧ (∀ j x, j < k → os[j]? = some x → p ((fun n => Value.int .i64 n) x) = false) ∧ Below w.heap.size w wr) (fun i _ _ => os.length - (intOf i).toNat)
  case atStart => exact ⟨0, Nat.zero_le _, rfl, fun j s h => by omega, Below.refl _ _⟩
  case round =>
    obtain ⟨k, hk, rfl, hno, hb⟩ := hrel
    have Hno := Lib.hid hno
    clear hno
    by_cases hlt : k < os.length
    · obtain ⟨x, hs⟩ : ∃ s, os[k]? = some s := ⟨os[k], List.getElem?_eq_getElem hlt⟩
      obtain ⟨b, off, rfl, hbl, hc⟩ := he.below hb k ((fun n => [Value.int .i64 n]) x) (by simp [hs])
      have c0 := hc 0 _ rfl
      simp only [Nat.add_zero, Nat.mul_one] at c0
      have hcall := hp _ hb ((fun n => Value.int .i64 n) x) (List.mem_map.2 ⟨x, List.mem_of_getElem? hs, rfl⟩)
      have Hcall := Lib.hid hcall
      have Hs := Lib.hid hs
      clear hcall hs hc he hp
      go_wp2_with ((with_reducible refine (Hcall.out).mono ?_); rintro e w' ⟨rfl, hb'⟩)
      · go_ret
        exact ⟨⟨k, rfl, by rw [any_of_first Hs.out (by assumption)]; simp⟩, hb.trans (hb'.mono hb.size)⟩
      · go_roundw
        case rel => exact ⟨k + 1, by omega, by go_num, none_snoc (q := fun x => p ((fun n => Value.int .i64 n) x)) Hs.out (by assumption) Hno.out, hb.trans (hb'.mono hb.size)⟩
        case measure => simp [intOf]; omega
    · go_wp2
      go_ret
      exact ⟨⟨-1, rfl, by rw [any_none (by omega) Hno.out]; rfl⟩, hb⟩

theorem containsFunc_int (A : Option Addr) (cap : Nat) (os : List Int) (p : Value → Bool) (g : FuncId) (cb : Array Value) (w : World)
    (eg : ∀ args w, (callFunc g args).run Try.prog w = .ok (.enter g args) w)
    (hl : os.length ≤ 1000000000) (he : Elems w A 1 (os.map (fun n => [Value.int .i64 n])))
    (hp : PredB Try.prog g cb w (os.map (fun n => Value.int .i64 n)) p) :
    Calls Try.prog 59 #[.slice A os.length cap, .func (.func g) #[] cb] w fun e w' =>
      e = .returned (.bool (os.any fun x => p ((fun n => Value.int .i64 n) x))) ∧ Below w.heap.size w w' := by
  have hcall := indexFunc_int A cap os p g cb w eg hl he hp
  have Hcall := Lib.hid hcall
  clear hcall he hp eg
  go_enter Try.func59, Try.ntmps59
  go_wp2_with ((with_reducible refine (Hcall.out).mono ?_); rintro e w' ⟨⟨n, rfl, hn⟩, hb'⟩; have Hn := Lib.hid hn; clear hn)
  go_ret
  exact ⟨by rw [← Hn.out]; rfl, hb'⟩



end Go.Proofs.Ytdfgdnaejnngoaa
