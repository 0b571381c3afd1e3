/- Plain facts: cutting a text at a byte: the library's split and the reference's loop give one list. -/
import Derived.Test.YtpcdfjifhoofjaaDoorNmPure
import Derived.Lib.IndexLaws
import Derived.Lib.IndexBytes
namespace Go.Proofs.YtpcdfjifhoofjaaDoor.Nm
open Go Go.RowKit
set_option linter.unusedVariables false
set_option linter.unusedSimpArgs false

/-- A list of bytes, cut at each c. -/
def cutAt (c : UInt8) : List UInt8 → List (List UInt8)
  | [] => [[]]
  | b :: r => if b = c then [] :: cutAt c r else match cutAt c r with
    | [] => [[b]]
    | p :: ps => (b :: p) :: ps
theorem cutAt_ne (c : UInt8) (l : List UInt8) : cutAt c l ≠ [] := by
  cases l with
  | nil => simp [cutAt]
  | cons b r =>
    unfold cutAt
    split
    · simp
    · split <;> simp
theorem cutAt_snoc (c : UInt8) (l : List UInt8) (b : UInt8) (L : List (List UInt8)) (P : List UInt8) (h : cutAt c l = L ++ [P]) :
    cutAt c (l ++ [b]) = if b = c then L ++ [P] ++ [[]] else L ++ [P ++ [b]] := by
  induction l generalizing L P with
  | nil =>
    simp only [cutAt] at h
    have : L = [] ∧ P = [] := by
      cases L with
      | nil => simpa using h.symm
      | cons x L => simp at h
    obtain ⟨rfl, rfl⟩ := this
    by_cases hb : b = c <;> simp [cutAt, hb]
  | cons a r ih =>
    rw [List.cons_append]
    unfold cutAt
    unfold cutAt at h
    by_cases ha : a = c
    · rw [if_pos ha] at h ⊢
      cases L with
      | nil => simp at h; exact absurd h.2 (cutAt_ne c r)
      | cons x L =>
        simp only [List.cons_append, List.cons.injEq] at h
        obtain ⟨rfl, h⟩ := h
        rw [ih L P h]
        split <;> simp
    · rw [if_neg ha] at h ⊢
      cases hr : cutAt c r with
      | nil => exact absurd hr (cutAt_ne c r)
      | cons p ps =>
        rw [hr] at h
        simp only at h
        cases L with
        | nil =>
          simp only [List.nil_append, List.cons.injEq] at h
          obtain ⟨rfl, rfl⟩ := h
          have := ih [] p (by simpa using hr)
          rw [this]
          by_cases hb : b = c <;> simp [hb]
        | cons x L =>
          simp only [List.cons_append, List.cons.injEq] at h
          obtain ⟨rfl, rfl⟩ := h
          have := ih (p :: L) P (by simpa using hr)
          rw [this]
          by_cases hb : b = c <;> simp [hb]

theorem splitK_miss (c : UInt8) (k : Nat) (s : List UInt8) (h : Lib.index s [c] = -1) : Lib.splitK [c] 0 k s = [s] := by
  cases k with
  | zero => rfl
  | succ k => rw [Lib.splitK, if_pos (by simp [h])]
theorem splitK_hit (c : UInt8) (k : Nat) (s : List UInt8) (i : Nat) (h : Lib.index s [c] = i) : Lib.splitK [c] 0 (k + 1) s = s.take i :: Lib.splitK [c] 0 k (s.drop (i + 1)) := by
  rw [Lib.splitK, if_neg (by simp [h]), h]
  simp
theorem index_cons (c b : UInt8) (l : List UInt8) : Lib.index (b :: l) [c] = if b = c then 0 else if Lib.index l [c] = -1 then -1 else Lib.index l [c] + 1 := by
  rw [Lib.index]
  by_cases h : b = c
  · subst h; simp [List.isPrefixOf]
  · have : ¬ c = b := fun e => h e.symm
    simp [List.isPrefixOf, h, this]
theorem splitK_cut (c : UInt8) : ∀ s : List UInt8, Lib.splitK [c] 0 (Lib.count s [c]) s = cutAt c s := by
  intro s
  induction s with
  | nil =>
    rw [splitK_miss c _ [] (by simp [Lib.index])]
    rfl
  | cons b l ih =>
    unfold cutAt
    by_cases hb : b = c
    · subst hb
      rw [if_pos rfl, Lib.count_cons_eq, Nat.add_comm, splitK_hit b _ _ 0 (by rw [index_cons, if_pos rfl]; rfl)]
      simp [ih]
    · rw [if_neg hb, Lib.count_cons_ne b c l hb, ← ih]
      by_cases hm : Lib.index l [c] = -1
      · rw [splitK_miss c _ l hm, splitK_miss c _ (b :: l) (by rw [index_cons, if_neg hb, if_pos hm])]
      · have hge := Lib.index_ge l [c]
        obtain ⟨i, hi⟩ : ∃ i : Nat, Lib.index l [c] = i := ⟨(Lib.index l [c]).toNat, by omega⟩
        have hpos : Lib.count l [c] ≠ 0 := by
          rw [Lib.count_one]
          have h1 : Lib.indexByte l c = (i : Int) := by rw [← Lib.index_one]; exact hi
          have h2 := (Lib.indexByte_some h1).1
          have h3 : c ∈ l := List.mem_of_getElem? h2
          have := List.count_pos_iff.2 h3
          omega
        obtain ⟨k, hk⟩ : ∃ k, Lib.count l [c] = k + 1 := ⟨Lib.count l [c] - 1, by omega⟩
        rw [hk, splitK_hit c k l i hi, splitK_hit c k (b :: l) (i + 1) (by rw [index_cons, if_neg hb, if_neg hm, hi]; simp)]
        simp

theorem partsB_data (s : ByteArray) : (partsB s).map (·.data.toList) = cutAt 47 s.data.toList := by
  unfold partsB
  rw [Lib.splitB_data, ← splitK_cut]

/-- arbiterref01.Parts behind k bytes: the list, and where the next part begins. -/
def rparts (s : ByteArray) : Nat → List ByteArray × Nat
  | 0 => ([], 0)
  | k + 1 => if bt s k = 47 then ((rparts s k).1 ++ [s.extract (rparts s k).2 k], k + 1) else rparts s k
theorem rparts_succ (s : ByteArray) (k : Nat) : rparts s (k + 1) = if bt s k = 47 then ((rparts s k).1 ++ [s.extract (rparts s k).2 k], k + 1) else rparts s k := rfl
theorem rparts_le (s : ByteArray) (k : Nat) : (rparts s k).2 ≤ k ∧ (rparts s k).1.length ≤ k := by
  induction k with
  | zero => simp [rparts]
  | succ k ih =>
    unfold rparts
    split
    · simp; omega
    · omega
theorem ex_data (s : ByteArray) (i j : Nat) : (s.extract i j).data.toList = (s.data.toList.take j).drop i := by
  rw [Lib.extract_data]
  simp [List.drop_take]
theorem rparts_cut (s : ByteArray) (k : Nat) (hk : k ≤ s.size) :
    cutAt 47 (s.data.toList.take k) = (rparts s k).1.map (·.data.toList) ++ [(s.extract (rparts s k).2 k).data.toList] := by
  induction k with
  | zero => simp [rparts, cutAt]
  | succ k ih =>
    have ih := ih (by omega)
    have hlen : k < s.data.toList.length := by rw [Array.length_toList]; exact hk
    have hle := (rparts_le s k).1
    have hbt : bt s k = 47 ↔ s.data.toList[k] = 47 := by
      unfold bt
      rw [List.getD_eq_getElem?_getD, List.getElem?_eq_getElem hlen, Option.getD_some]
      constructor
      · intro h
        apply UInt8.toNat_inj.1
        have : (47 : UInt8).toNat = 47 := rfl
        omega
      · intro h; rw [h]; rfl
    rw [List.take_succ_eq_append_getElem hlen, cutAt_snoc 47 _ _ _ _ ih]
    rw [rparts_succ]
    by_cases h : bt s k = 47
    · rw [if_pos h, if_pos (hbt.1 h), List.map_append, ex_data s (k + 1) (k + 1)]
      simp
    · rw [if_neg h, if_neg (fun e => h (hbt.2 e)), ex_data, ex_data, List.take_succ_eq_append_getElem hlen, List.drop_append_of_le_length (by rw [List.length_take]; omega)]
theorem bytes_inj {a b : ByteArray} (h : a.data.toList = b.data.toList) : a = b := by
  apply ByteArray.ext
  exact Array.toList_inj.1 h
theorem map_inj : ∀ {l m : List ByteArray}, l.map (·.data.toList) = m.map (·.data.toList) → l = m
  | [], [], _ => rfl
  | [], _ :: _, h => by simp at h
  | _ :: _, [], h => by simp at h
  | a :: l, b :: m, h => by
    simp only [List.map_cons, List.cons.injEq] at h
    rw [bytes_inj h.1, map_inj h.2]
theorem rparts_all (s : ByteArray) : (rparts s s.size).1 ++ [s.extract (rparts s s.size).2 s.size] = partsB s := by
  apply map_inj
  rw [partsB_data, List.map_append]
  have := rparts_cut s s.size (Nat.le_refl _)
  rw [List.take_of_length_le (by rw [Array.length_toList]; exact Nat.le_refl _)] at this
  rw [this]
  rfl
theorem cutAt_len (c : UInt8) (l p : List UInt8) (h : p ∈ cutAt c l) : p.length ≤ l.length := by
  induction l generalizing p with
  | nil => simp [cutAt] at h; simp [h]
  | cons b r ih =>
    unfold cutAt at h
    split at h
    · rcases List.mem_cons.1 h with rfl | h
      · simp
      · have := ih p h; simp only [List.length_cons]; omega
    · split at h
      · rename_i e; exact absurd e (cutAt_ne c r)
      · rename_i q qs e
        rcases List.mem_cons.1 h with rfl | h
        · have := ih q (by rw [e]; simp); simp only [List.length_cons]; omega
        · have := ih p (by rw [e]; simp [h]); simp only [List.length_cons]; omega
theorem partsB_size (s x : ByteArray) (hx : x ∈ partsB s) : x.size ≤ s.size := by
  have h : x.data.toList ∈ cutAt 47 s.data.toList := by rw [← partsB_data]; exact List.mem_map_of_mem hx
  have := cutAt_len _ _ _ h
  rw [Array.length_toList, Array.length_toList] at this
  exact this
end Go.Proofs.YtpcdfjifhoofjaaDoor.Nm
