/- Plain facts on names: letters, parts, cutting at a slash. No program in sight. -/
import Derived.WalkKit
import Derived.Lib.Hide
import Derived.Lib.Split
import Derived.Lib.SplitLaws
import Derived.Lib.Join
namespace Go.Proofs.YtpcdfjifhoofjaaDoor.Nm
open Go Go.RowKit
set_option linter.unusedVariables false
set_option linter.unusedSimpArgs false

/-- Byte k of a string, as a number. -/
def bt (s : ByteArray) (k : Nat) : Int := ((s.data.toList.getD k 0).toNat : Int)
theorem bt_at (s : ByteArray) (k : Nat) (h : k < s.size) : ((s[k]'h).toNat : Int) = bt s k := by
  have h' : k < s.data.toList.length := by rw [Array.length_toList]; exact h
  simp only [bt, List.getD_eq_getElem?_getD, List.getElem?_eq_getElem h', Option.getD_some]
  rfl
theorem bt_range (s : ByteArray) (k : Nat) : 0 ≤ bt s k ∧ bt s k ≤ 255 := by
  unfold bt
  have := (s.data.toList.getD k 0).toNat_lt
  omega

/-- names.letter -/
def letB (n : Int) (first : Bool) : Bool :=
  decide (97 ≤ n ∧ n ≤ 122) || decide (65 ≤ n ∧ n ≤ 90) || n == 95 || n == 36 || (!first && decide (48 ≤ n ∧ n ≤ 57))
/-- Are the first k bytes letters? -/
def lets (s : ByteArray) (k : Nat) : Bool := (List.range k).all fun j => letB (bt s j) ((j : Int) == 0)
theorem lets_succ (s : ByteArray) (k : Nat) : lets s (k + 1) = (lets s k && letB (bt s k) ((k : Int) == 0)) := by simp [lets, List.range_succ]
theorem lets_false (s : ByteArray) (k m : Nat) (hk : k < m) (h : letB (bt s k) ((k : Int) == 0) = false) : lets s m = false := by
  unfold lets
  rw [List.all_eq_false]
  exact ⟨k, by simp [hk], by simp [h]⟩
/-- names.part -/
def partB (s : ByteArray) : Bool := lets s s.size && !s.toList.isEmpty
/-- names.Parts -/
def partsB (s : ByteArray) : List ByteArray := Lib.splitB ⟨#[47]⟩ 0 (Lib.countB s ⟨#[47]⟩) s
theorem partsB_len (s : ByteArray) : (partsB s).length = Lib.countB s ⟨#[47]⟩ + 1 := Lib.splitB_all ⟨#[47]⟩ (by decide) 0 _ s rfl
theorem partsB_le (s : ByteArray) : (partsB s).length ≤ s.size + 1 := by
  rw [partsB_len]
  have := Lib.countB_le ⟨#[47]⟩ (by decide) s.size s (Nat.le_refl _)
  omega
/-- The first text of a list that is no part, as slices.IndexFunc finds it. -/
def badFrom : Nat → List ByteArray → Int
  | _, [] => -1
  | i, s :: r => if partB s then badFrom (i + 1) r else i
/-- names.Valid -/
def validB (s : ByteArray) : Bool := decide (s.size ≤ 60) && (partsB s).all partB
/-- names.Member -/
def memberB (s : ByteArray) : Bool := (s.toList == [60, 105, 110, 105, 116, 62]) || (decide (s.size ≤ 60) && partB s)
theorem badFrom_all (l : List ByteArray) (k : Nat) (h : ∀ j, j < k → ∀ x, l[j]? = some x → partB x = true) (hk : l.length ≤ k) : l.all partB = true := by
  rw [List.all_eq_true]
  intro x hx
  obtain ⟨j, hj, e⟩ := List.mem_iff_getElem.1 hx
  exact h j (by omega) x (by rw [List.getElem?_eq_getElem hj, e])
theorem bad_at (l : List ByteArray) (k : Nat) (x : ByteArray) (hx : l[k]? = some x) (h : partB x = false) : l.all partB = false := by
  rw [List.all_eq_false]
  exact ⟨x, List.mem_of_getElem? hx, by simp [h]⟩
end Go.Proofs.YtpcdfjifhoofjaaDoor.Nm
