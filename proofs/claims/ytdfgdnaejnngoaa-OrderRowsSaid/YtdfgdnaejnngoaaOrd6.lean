import Derived.Test.YtdfgdnaejnngoaaOrd5
namespace Go.Proofs.Ytdfgdnaejnngoaa
open Go.RowKit

def fieldBytes (o : Ord) : List (List UInt8) :=
  if o.kind = 1 then [textBytes o.key, textBytes o.val]
  else if o.kind = 2 ∨ o.kind = 4 then [textBytes o.key]
  else if o.kind = 3 then [textBytes o.key, valBytes o.n.toNat]
  else if o.kind = 5 then [textBytes o.lo, textBytes o.hi]
  else []
def rdFs (k : Int) : List (Ord → ByteArray → Bool → Ord × ByteArray × Bool) :=
  if k = 1 then [rdKey, rdVal]
  else if k = 2 ∨ k = 4 then [rdKey]
  else if k = 3 then [rdKey, rdN]
  else if k = 5 then [rdLo, rdHi]
  else []
theorem fieldBytes_length (o : Ord) : (fieldBytes o).length = (fieldRows o.kind).length := by
  unfold fieldBytes fieldRows
  repeat' split
  all_goals rfl
theorem rdFs_length (k : Int) : (rdFs k).length = (fieldRows k).length := by
  unfold rdFs fieldRows
  repeat' split
  all_goals rfl

theorem enters_writeKey : Enters Try.prog 63 := enters_of Try.func63 (by kernel_rfl) rfl
theorem enters_writeVal : Enters Try.prog 65 := enters_of Try.func65 (by kernel_rfl) rfl
theorem enters_writeN : Enters Try.prog 67 := enters_of Try.func67 (by kernel_rfl) rfl
theorem enters_writeLo : Enters Try.prog 69 := enters_of Try.func69 (by kernel_rfl) rfl
theorem enters_writeHi : Enters Try.prog 71 := enters_of Try.func71 (by kernel_rfl) rfl
theorem enters_readKey : Enters Try.prog 64 := enters_of Try.func64 (by kernel_rfl) rfl
theorem enters_readVal : Enters Try.prog 66 := enters_of Try.func66 (by kernel_rfl) rfl
theorem enters_readN : Enters Try.prog 68 := enters_of Try.func68 (by kernel_rfl) rfl
theorem enters_readLo : Enters Try.prog 70 := enters_of Try.func70 (by kernel_rfl) rfl
theorem enters_readHi : Enters Try.prog 72 := enters_of Try.func72 (by kernel_rfl) rfl

theorem row2 {α : Type} {a b r : α} {j : Nat} (h : [a, b][j]? = some r) : (j = 0 ∧ r = a) ∨ (j = 1 ∧ r = b) := by
  match j, h with
  | 0, h => simp at h; exact .inl ⟨rfl, h.symm⟩
  | 1, h => simp at h; exact .inr ⟨rfl, h.symm⟩
theorem row1 {α : Type} {a r : α} {j : Nat} (h : [a][j]? = some r) : j = 0 ∧ r = a := by
  match j, h with
  | 0, h => simp at h; exact ⟨rfl, h.symm⟩

theorem row_reads (k : Int) (j : Nat) (r : List Value) (h : (fieldRows k)[j]? = some r) :
    ∃ f g rd, r = [.func (.func f) #[] #[], .func (.func g) #[] #[]] ∧ (rdFs k)[j]? = some rd ∧ Enters Try.prog g ∧ Reads1 g rd := by
  by_cases h1 : k = 1
  · subst h1
    rcases row2 h with ⟨rfl, rfl⟩ | ⟨rfl, rfl⟩
    · exact ⟨_, _, _, rfl, rfl, enters_readKey, readKey_any⟩
    · exact ⟨_, _, _, rfl, rfl, enters_readVal, readVal_any⟩
  by_cases h3 : k = 3
  · subst h3
    rcases row2 h with ⟨rfl, rfl⟩ | ⟨rfl, rfl⟩
    · exact ⟨_, _, _, rfl, rfl, enters_readKey, readKey_any⟩
    · exact ⟨_, _, _, rfl, rfl, enters_readN, readN_any⟩
  by_cases h5 : k = 5
  · subst h5
    rcases row2 h with ⟨rfl, rfl⟩ | ⟨rfl, rfl⟩
    · exact ⟨_, _, _, rfl, rfl, enters_readLo, readLo_any⟩
    · exact ⟨_, _, _, rfl, rfl, enters_readHi, readHi_any⟩
  by_cases h2 : k = 2
  · subst h2
    obtain ⟨rfl, rfl⟩ := row1 h
    exact ⟨_, _, _, rfl, rfl, enters_readKey, readKey_any⟩
  by_cases h4 : k = 4
  · subst h4
    obtain ⟨rfl, rfl⟩ := row1 h
    exact ⟨_, _, _, rfl, rfl, enters_readKey, readKey_any⟩
  simp [fieldRows, h1, h2, h3, h4, h5] at h

theorem row_writes (o : Ord) (hs : tooLong o = false) (hn : 0 ≤ o.n) (hlt : o.n.toNat < 18446744073709551616) (j : Nat) (r : List Value) (h : (fieldRows o.kind)[j]? = some r) :
    ∃ f g bs, r = [.func (.func f) #[] #[], .func (.func g) #[] #[]] ∧ (fieldBytes o)[j]? = some bs ∧ Enters Try.prog f ∧ Writes f o bs := by
  obtain ⟨k, key, val, n, lo, hi⟩ := o
  have hl : key.size ≤ 255 ∧ val.size ≤ 255 ∧ lo.size ≤ 255 ∧ hi.size ≤ 255 := by simp [tooLong] at hs; omega
  obtain ⟨hkey, hval, hlo, hhi⟩ := hl
  have wKey := writeKey_any ⟨k, key, val, n, lo, hi⟩ hkey
  have wVal := writeVal_any ⟨k, key, val, n, lo, hi⟩ hval
  have wLo := writeLo_any ⟨k, key, val, n, lo, hi⟩ hlo
  have wHi := writeHi_any ⟨k, key, val, n, lo, hi⟩ hhi
  have wN := writeN_any ⟨k, key, val, n, lo, hi⟩ n.toNat (by dsimp only at hn ⊢; omega) hlt
  dsimp only at h
  by_cases h1 : k = 1
  · subst h1
    rcases row2 h with ⟨rfl, rfl⟩ | ⟨rfl, rfl⟩
    · exact ⟨_, _, _, rfl, rfl, enters_writeKey, wKey⟩
    · exact ⟨_, _, _, rfl, rfl, enters_writeVal, wVal⟩
  by_cases h3 : k = 3
  · subst h3
    rcases row2 h with ⟨rfl, rfl⟩ | ⟨rfl, rfl⟩
    · exact ⟨_, _, _, rfl, rfl, enters_writeKey, wKey⟩
    · exact ⟨_, _, _, rfl, rfl, enters_writeN, wN⟩
  by_cases h5 : k = 5
  · subst h5
    rcases row2 h with ⟨rfl, rfl⟩ | ⟨rfl, rfl⟩
    · exact ⟨_, _, _, rfl, rfl, enters_writeLo, wLo⟩
    · exact ⟨_, _, _, rfl, rfl, enters_writeHi, wHi⟩
  by_cases h2 : k = 2
  · subst h2
    obtain ⟨rfl, rfl⟩ := row1 h
    exact ⟨_, _, _, rfl, rfl, enters_writeKey, wKey⟩
  by_cases h4 : k = 4
  · subst h4
    obtain ⟨rfl, rfl⟩ := row1 h
    exact ⟨_, _, _, rfl, rfl, enters_writeKey, wKey⟩
  simp [fieldRows, h1, h2, h3, h4, h5] at h

/-- an order's bytes -/
def ordBytes (o : Ord) : List UInt8 := numBytes 1 o.kind.toNat ++ (fieldBytes o).flatten

theorem isNot_any (o : Ord) (w : World) : Calls Try.prog 34 #[o.v] w fun e w' => e = .returned (.bool (!isOrd o)) ∧ Below w.heap.size w w' := by
  have h := fun W => is_any o W
  simp only [Ord.v_def] at h
  have H := Lib.hid h
  clear h
  rw [Ord.v_def]
  go_enter Try.func34, Try.ntmps34
  go_wp2_with (go_at_call 13; (with_reducible refine (H.out _).mono ?_); rintro e w' ⟨rfl, hb⟩)
  go_ret
  exact ⟨rfl, (by repeat (first | assumption | exact Below.refl _ _ | (refine below_step (w := ?_) ?_ ?_ ?_; rotate_left 2; assumption) | refine Below.drew ?_ | refine below_drewN ?_ _ | refine Below.alloc ?_ ?_ _ | refine Below.setCell ?_ ?_ _ | (focus (simp; done)) | (focus (simp; omega)) | omega))⟩
end Go.Proofs.Ytdfgdnaejnngoaa
