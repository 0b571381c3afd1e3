/- Plain facts on names: the package, the simple name, the parts and joining. No program in sight. -/
import Derived.Test.YtpcdfjifhoofjaaDoorNmRef2
namespace Go.Proofs.YtpcdfjifhoofjaaDoor.Nm
open Go Go.RowKit
set_option linter.unusedVariables false
set_option linter.unusedSimpArgs false

theorem rparts_snd (s : ByteArray) (k : Nat) : ((rparts s k).2 : Int) = lastTo s k + 1 := by
  induction k with
  | zero => rfl
  | succ k ih =>
    rw [rparts_succ, lastTo_succ]
    by_cases h : bt s k = 47
    · rw [if_pos h, if_pos h]; rfl
    · rw [if_neg h, if_neg h, ih]
theorem lastTo_bd (s : ByteArray) (k : Nat) : -1 ≤ lastTo s k ∧ lastTo s k < k := by
  have h1 := rparts_snd s k
  have h2 := (rparts_le s k).1
  omega
theorem rparts_fst (s : ByteArray) (k : Nat) (hk : k ≤ s.size) :
    (lastTo s k < 0 → (rparts s k).1 = []) ∧ (∀ i : Nat, lastTo s k = i → (rparts s k).1.map (·.data.toList) = cutAt 47 (s.data.toList.take i)) := by
  induction k with
  | zero => exact ⟨fun _ => rfl, fun i h => by simp [lastTo] at h⟩
  | succ k ih =>
    have ih := ih (by omega)
    rw [rparts_succ, lastTo_succ]
    by_cases h : bt s k = 47
    · rw [if_pos h, if_pos h]
      refine ⟨fun h0 => by omega, fun i hi => ?_⟩
      obtain rfl : k = i := by omega
      rw [rparts_cut s k (by omega)]
      simp
    · rw [if_neg h, if_neg h]
      exact ih
/-- The parts ahead of the last one. -/
def front (s : ByteArray) : List ByteArray := (rparts s s.size).1
theorem simple_eq (s : ByteArray) : simpleB s = s.extract (rparts s s.size).2 s.size := by
  have := rparts_snd s s.size
  rw [lastTo_all] at this
  unfold simpleB
  rw [show (slash s + 1).toNat = (rparts s s.size).2 by omega]
theorem parts_front (s : ByteArray) : partsB s = front s ++ [simpleB s] := by
  rw [← rparts_all, simple_eq]
  rfl
theorem front_none (s : ByteArray) (h : slash s < 0) : front s = [] := (rparts_fst s s.size (Nat.le_refl _)).1 (by rw [lastTo_all]; exact h)
theorem front_pkg (s : ByteArray) (h : 0 ≤ slash s) : partsB (pkgB s) = front s := by
  have h1 := (rparts_fst s s.size (Nat.le_refl _)).2 (slash s).toNat (by rw [lastTo_all]; omega)
  apply map_inj
  rw [partsB_data, front, h1, pkgB, ex_data]
  simp [show max 0 (slash s) = slash s by omega]
theorem front_slash (s : ByteArray) : front s = [] ↔ slash s < 0 := by
  constructor
  · intro h
    by_cases h0 : slash s < 0
    · exact h0
    · have := front_pkg s (by omega)
      rw [h] at this
      have := congrArg List.length this
      rw [partsB_len] at this
      simp at this
  · exact front_none s
theorem pkg_none (s : ByteArray) (h : slash s < 0) : pkgB s = ⟨#[]⟩ := bytes_inj (by
  unfold pkgB
  rw [show (max 0 (slash s)).toNat = 0 by omega, ex_data]
  simp)

theorem jn_cutAt (l : List UInt8) : ∀ m : List ByteArray, m.map (·.data.toList) = cutAt 47 l → jn m = l := by
  induction l with
  | nil =>
    intro m h
    cases m with
    | nil => simp [cutAt] at h
    | cons a m =>
      simp only [cutAt, List.map_cons, List.cons.injEq, List.map_eq_nil_iff] at h
      obtain ⟨h1, rfl⟩ := h
      rw [jn_one, h1]
  | cons b r ih =>
    intro m h
    unfold cutAt at h
    cases m with
    | nil =>
      split at h
      · simp at h
      · split at h <;> simp at h
    | cons a m =>
      by_cases hb : b = 47
      · rw [if_pos hb] at h
        simp only [List.map_cons, List.cons.injEq] at h
        obtain ⟨h1, h2⟩ := h
        cases m with
        | nil => exact absurd h2.symm (cutAt_ne 47 r)
        | cons c m => rw [jn_cons2, h1, ih _ h2, hb]; rfl
      · rw [if_neg hb] at h
        cases hr : cutAt 47 r with
        | nil => exact absurd hr (cutAt_ne 47 r)
        | cons p ps =>
          rw [hr] at h
          simp only [List.map_cons, List.cons.injEq] at h
          obtain ⟨h1, h2⟩ := h
          have := ih (⟨p.toArray⟩ :: m) (by rw [hr]; simp [h2])
          cases m with
          | nil => rw [jn_one] at this ⊢; rw [h1, ← this]
          | cons c m => rw [jn_cons2] at this ⊢; rw [h1, ← this]; rfl
theorem jn_parts (s : ByteArray) : jn (partsB s) = s.data.toList := jn_cutAt _ _ (partsB_data s)
theorem jn_pkg (s : ByteArray) (h : 0 ≤ slash s) : (pkgB s).data.toList ++ 47 :: (simpleB s).data.toList = s.data.toList := by
  rw [← jn_parts s, parts_front, ← front_pkg s h, jn_snoc _ (by intro e; have := congrArg List.length e; rw [partsB_len] at this; simp at this), jn_parts]
theorem simple_none (s : ByteArray) (h : slash s < 0) : simpleB s = s := bytes_inj (by
  have := jn_parts s
  rw [parts_front, front_none s h] at this
  rw [← this]
  simp [jn_one])

theorem part_bytes (s : ByteArray) (h : partB s = true) : 1 ≤ s.size ∧ ∀ b ∈ s.data.toList, letB b.toNat false = true := by
  simp only [partB, Bool.and_eq_true, isEmpty_size, Bool.not_eq_true', decide_eq_false_iff_not, lets, List.all_eq_true, List.mem_range] at h
  refine ⟨by omega, fun b hb => ?_⟩
  obtain ⟨k, hk, e⟩ := List.mem_iff_getElem.1 hb
  have h1 := h.1 k (by rw [Array.length_toList] at hk; exact hk)
  have h2 : bt s k = (b.toNat : Int) := by simp only [bt, List.getD_eq_getElem?_getD, List.getElem?_eq_getElem hk, Option.getD_some, e]
  rw [h2] at h1
  cases hz : ((k : Int) == 0)
  · rwa [hz] at h1
  · rw [hz] at h1; exact letB_any _ _ h1
theorem mem_jn (l : List ByteArray) (b : UInt8) (h : b ∈ jn l) : b = 47 ∨ ∃ x ∈ l, b ∈ x.data.toList := by
  induction l with
  | nil => simp [jn, Lib.join_nil] at h
  | cons a l ih =>
    cases l with
    | nil => rw [jn_one] at h; exact .inr ⟨a, by simp, h⟩
    | cons c l =>
      rw [jn_cons2] at h
      rcases List.mem_append.1 h with h | h
      · exact .inr ⟨a, by simp, h⟩
      · rcases List.mem_cons.1 h with h | h
        · exact .inl h
        · rcases ih h with h | ⟨x, hx, h⟩
          · exact .inl h
          · exact .inr ⟨x, by simp [hx], h⟩
theorem valid_bytes (s : ByteArray) (h : validB s = true) (b : UInt8) (hb : b ∈ s.data.toList) : b = 47 ∨ letB b.toNat false = true := by
  simp only [validB, Bool.and_eq_true, List.all_eq_true] at h
  rw [← jn_parts] at hb
  rcases mem_jn _ _ hb with h1 | ⟨x, hx, h1⟩
  · exact .inl h1
  · exact .inr ((part_bytes x (h.2 x hx)).2 b h1)
theorem valid_size (s : ByteArray) (h : validB s = true) : 1 ≤ s.size ∧ s.size ≤ 60 := by
  simp only [validB, Bool.and_eq_true, List.all_eq_true, decide_eq_true_eq] at h
  have hm : simpleB s ∈ partsB s := by rw [parts_front]; simp
  have h1 := (part_bytes _ (h.2 _ hm)).1
  have h2 := partsB_size s _ hm
  omega
theorem valid_pkg (s : ByteArray) (h : validB s = true) : slash s < 0 ∨ validB (pkgB s) = true := by
  by_cases h0 : slash s < 0
  · exact .inl h0
  · refine .inr ?_
    simp only [validB, Bool.and_eq_true, List.all_eq_true, decide_eq_true_eq] at h ⊢
    refine ⟨?_, fun x hx => h.2 x (by rw [front_pkg s (by omega)] at hx; rw [parts_front]; simp [hx])⟩
    have h1 := congrArg List.length (jn_pkg s (by omega))
    have e1 : (pkgB s).data.size = (pkgB s).size := rfl
    have e2 : s.data.size = s.size := rfl
    simp only [List.length_append, Array.length_toList] at h1
    omega
theorem valid_simple (s : ByteArray) (h : validB s = true) : memberB (simpleB s) = true := by
  have hs := valid_size s h
  simp only [validB, Bool.and_eq_true, List.all_eq_true, decide_eq_true_eq] at h
  have hm : simpleB s ∈ partsB s := by rw [parts_front]; simp
  have h2 := partsB_size s _ hm
  simp only [memberB, Bool.or_eq_true, Bool.and_eq_true, decide_eq_true_eq]
  exact .inr ⟨by omega, h.2 _ hm⟩
theorem part_noslash (s : ByteArray) (h : partB s = true) : slash s < 0 := by
  by_cases h0 : slash s < 0
  · exact h0
  · have hm : (47 : UInt8) ∈ s.data.toList := by rw [← jn_pkg s (by omega)]; simp
    have := (part_bytes s h).2 47 hm
    exact absurd this (by decide)
theorem member_iff (s : ByteArray) : memberB s = ((s.toList == [60, 105, 110, 105, 116, 62]) || (validB s && (pkgB s).toList.isEmpty && (((partsB s).length : Int) == 1))) := by
  unfold memberB
  congr 1
  rw [Bool.eq_iff_iff]
  simp only [Bool.and_eq_true, decide_eq_true_eq, validB, List.all_eq_true, beq_iff_eq]
  constructor
  · rintro ⟨h1, h2⟩
    have h3 := part_noslash s h2
    have h4 : partsB s = [s] := by rw [parts_front, front_none s h3, simple_none s h3]; rfl
    rw [h4, pkg_none s h3]
    exact ⟨⟨⟨h1, by simp [h2]⟩, by rw [ByteArray.toList_eq]; rfl⟩, rfl⟩
  · rintro ⟨⟨⟨h1, h2⟩, h3⟩, h4⟩
    refine ⟨h1, ?_⟩
    have h5 : front s = [] := by rw [parts_front, List.length_append] at h4; exact List.length_eq_zero_iff.1 (by simp at h4; omega)
    have h6 := (front_slash s).1 h5
    have := h2 (simpleB s) (by rw [parts_front]; simp)
    rwa [simple_none s h6] at this
end Go.Proofs.YtpcdfjifhoofjaaDoor.Nm
