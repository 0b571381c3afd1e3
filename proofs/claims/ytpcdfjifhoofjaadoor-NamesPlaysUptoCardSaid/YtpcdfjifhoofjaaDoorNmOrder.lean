/- NamesOrder: plain facts on the order of names, and the walk. -/
import Derived.Test.YtpcdfjifhoofjaaDoorNmLaws
namespace Go.Proofs.YtpcdfjifhoofjaaDoor.Nm
open Go Go.RowKit
set_option linter.unusedVariables false
set_option linter.unusedSimpArgs false
set_option maxHeartbeats 1000000
set_option maxRecDepth 10000

theorem less_irrefl : ∀ l : List UInt8, Op.bytesLess l l = false
  | [] => rfl
  | a :: l => by simp [Op.bytesLess, less_irrefl l]
theorem less_asymm : ∀ l m : List UInt8, Op.bytesLess l m = true → Op.bytesLess m l = false
  | _, [], h => by simp [Op.bytesLess] at h
  | [], _ :: _, _ => rfl
  | a :: l, b :: m, h => by
    simp only [Op.bytesLess, Bool.or_eq_true, decide_eq_true_eq, Bool.and_eq_true, beq_iff_eq, Bool.or_eq_false_iff, decide_eq_false_iff_not, Bool.and_eq_false_iff] at h ⊢
    rcases h with h | ⟨rfl, h⟩
    · refine ⟨?_, .inl ?_⟩
      · intro h2; rw [UInt8.lt_iff_toNat_lt] at h h2; omega
      · rw [beq_eq_false_iff_ne]; rintro rfl; rw [UInt8.lt_iff_toNat_lt] at h; omega
    · exact ⟨by rw [UInt8.lt_iff_toNat_lt]; omega, .inr (less_asymm l m h)⟩
theorem less_total : ∀ l m : List UInt8, Op.bytesLess l m = false → l ≠ m → Op.bytesLess m l = true
  | [], [], _, h => absurd rfl h
  | a :: l, [], _, _ => rfl
  | [], _ :: _, h, _ => by simp [Op.bytesLess] at h
  | a :: l, b :: m, h, hn => by
    simp only [Op.bytesLess, Bool.or_eq_true, decide_eq_true_eq, Bool.and_eq_true, beq_iff_eq, Bool.or_eq_false_iff, decide_eq_false_iff_not, Bool.and_eq_false_iff] at h ⊢
    by_cases hab : a = b
    · subst hab
      rcases h.2 with h2 | h2
      · simp at h2
      · exact .inr ⟨rfl, less_total l m h2 (by rintro rfl; exact hn rfl)⟩
    · refine .inl ?_
      have h1 := h.1
      rw [UInt8.lt_iff_toNat_lt] at h1 ⊢
      have : a.toNat ≠ b.toNat := fun e => hab (UInt8.toNat_inj.1 e)
      omega
theorem less_trans : ∀ l m n : List UInt8, Op.bytesLess l m = true → Op.bytesLess m n = true → Op.bytesLess l n = true
  | _, [], _, h, _ => by simp [Op.bytesLess] at h
  | _, _ :: _, [], _, h => by simp [Op.bytesLess] at h
  | [], _ :: _, _ :: _, _, _ => rfl
  | a :: l, b :: m, c :: n, h, k => by
    simp only [Op.bytesLess, Bool.or_eq_true, decide_eq_true_eq, Bool.and_eq_true, beq_iff_eq] at h k ⊢
    rcases h with h | ⟨rfl, h⟩
    · rcases k with k | ⟨rfl, k⟩
      · left; rw [UInt8.lt_iff_toNat_lt] at *; omega
      · exact .inl h
    · rcases k with k | ⟨rfl, k⟩
      · exact .inl k
      · exact .inr ⟨rfl, less_trans l m n h k⟩

theorem cmpS_cases (a b : ByteArray) : (cmpS a b = -1 ∧ Op.bytesLess a.toList b.toList = true) ∨ (cmpS a b = 0 ∧ a = b) ∨ (cmpS a b = 1 ∧ Op.bytesLess b.toList a.toList = true) := by
  unfold cmpS
  by_cases h : Op.bytesLess a.toList b.toList = true
  · exact .inl ⟨by rw [if_pos h], h⟩
  · rw [if_neg h]
    by_cases e : (a.toList == b.toList) = true
    · exact .inr (.inl ⟨by rw [if_pos e], toList_inj (by simpa using e)⟩)
    · exact .inr (.inr ⟨by rw [if_neg e], less_total _ _ (eq_false_of_ne_true h) (by simpa using e)⟩)
theorem cmpS_self (a : ByteArray) : cmpS a a = 0 := by simp [cmpS, less_irrefl]
theorem cmpS_neg (a b : ByteArray) : cmpS b a = - cmpS a b := by
  rcases cmpS_cases a b with ⟨h1, h2⟩ | ⟨h1, rfl⟩ | ⟨h1, h2⟩
  · rcases cmpS_cases b a with ⟨g1, g2⟩ | ⟨g1, rfl⟩ | ⟨g1, g2⟩
    · rw [less_asymm _ _ h2] at g2; cases g2
    · rw [less_irrefl] at h2; cases h2
    · omega
  · omega
  · rcases cmpS_cases b a with ⟨g1, g2⟩ | ⟨g1, rfl⟩ | ⟨g1, g2⟩
    · omega
    · rw [less_irrefl] at h2; cases h2
    · rw [less_asymm _ _ h2] at g2; cases g2
theorem cmpS_trans (a b c : ByteArray) (h : cmpS a b ≤ 0) (k : cmpS b c ≤ 0) : cmpS a c ≤ 0 ∧ (cmpS a c = 0 → cmpS a b = 0 ∧ cmpS b c = 0) := by
  rcases cmpS_cases a b with ⟨h1, h2⟩ | ⟨h1, rfl⟩ | ⟨h1, h2⟩
  · rcases cmpS_cases b c with ⟨k1, k2⟩ | ⟨k1, rfl⟩ | ⟨k1, k2⟩
    · have := less_trans _ _ _ h2 k2
      have e : cmpS a c = -1 := by simp [cmpS, this]
      omega
    · omega
    · omega
  · omega
  · omega

theorem cmpL_bd : ∀ l m : List ByteArray, -1 ≤ cmpL l m ∧ cmpL l m ≤ 1
  | [], [] => by simp [cmpL]
  | [], _ :: _ => by simp [cmpL]
  | _ :: _, [] => by simp [cmpL]
  | a :: l, b :: m => by
    unfold cmpL
    split
    · exact cmpL_bd l m
    · rcases cmpS_cases a b with h | h | h <;> omega
theorem cmpL_neg : ∀ l m : List ByteArray, cmpL m l = - cmpL l m
  | [], [] => by simp [cmpL]
  | [], _ :: _ => by simp [cmpL]
  | _ :: _, [] => by simp [cmpL]
  | a :: l, b :: m => by
    unfold cmpL
    rw [cmpS_neg a b, cmpL_neg l m]
    by_cases h : cmpS a b = 0
    · rw [if_pos h, if_pos (by omega)]
    · rw [if_neg h, if_neg (by omega)]
theorem cmpL_zero : ∀ l m : List ByteArray, cmpL l m = 0 → l = m
  | [], [], _ => rfl
  | [], _ :: _, h => by simp [cmpL] at h
  | _ :: _, [], h => by simp [cmpL] at h
  | a :: l, b :: m, h => by
    unfold cmpL at h
    split at h
    · rename_i e
      rcases cmpS_cases a b with ⟨h1, _⟩ | ⟨h1, rfl⟩ | ⟨h1, _⟩
      · omega
      · rw [cmpL_zero l m h]
      · omega
    · rename_i e; exact absurd h e
theorem cmpL_self : ∀ l : List ByteArray, cmpL l l = 0
  | [] => by simp [cmpL]
  | a :: l => by rw [cmpL, if_pos (cmpS_self a), cmpL_self l]
theorem cmpL_trans : ∀ l m n : List ByteArray, cmpL l m ≤ 0 → cmpL m n ≤ 0 → cmpL l n ≤ 0
  | [], _, [], _, _ => by simp [cmpL]
  | [], _, _ :: _, _, _ => by simp [cmpL]
  | _ :: _, [], _, h, _ => by simp [cmpL] at h
  | _ :: _, _ :: _, [], _, h => by simp [cmpL] at h
  | a :: l, b :: m, c :: n, h, k => by
    unfold cmpL at h k ⊢
    have hab : cmpS a b ≤ 0 := by split at h <;> omega
    have hbc : cmpS b c ≤ 0 := by split at k <;> omega
    have ht := cmpS_trans a b c hab hbc
    split
    · rename_i e
      have := ht.2 e
      rw [if_pos this.1] at h
      rw [if_pos this.2] at k
      exact cmpL_trans l m n h k
    · exact ht.1
theorem cmpL_prefix : ∀ l m : List ByteArray, m ≠ [] → cmpL l (l ++ m) = -1
  | [], [], h => absurd rfl h
  | [], _ :: _, _ => by simp [cmpL]
  | a :: l, m, h => by rw [List.cons_append, cmpL, if_pos (cmpS_self a), cmpL_prefix l m h]
theorem cutAt_cons (c b : UInt8) (r : List UInt8) : cutAt c (b :: r) = if b = c then [] :: cutAt c r else match cutAt c r with
    | [] => [[b]]
    | p :: ps => (b :: p) :: ps := rfl
theorem cutAt_join (c : UInt8) : ∀ x y : List UInt8, cutAt c (x ++ c :: y) = cutAt c x ++ cutAt c y
  | [], y => by simp [cutAt]
  | b :: x, y => by
    rw [List.cons_append, cutAt_cons, cutAt_cons]
    by_cases hb : b = c
    · rw [if_pos hb, if_pos hb, cutAt_join c x y]; rfl
    · rw [if_neg hb, if_neg hb, cutAt_join c x y]
      cases hx : cutAt c x with
      | nil => exact absurd hx (cutAt_ne c x)
      | cons p ps => rfl
theorem parts_join (a b d : ByteArray) (hd : d.data.toList = a.data.toList ++ 47 :: b.data.toList) : partsB d = partsB a ++ partsB b := by
  apply map_inj
  rw [partsB_data, hd, cutAt_join, List.map_append, partsB_data, partsB_data]
theorem parts_inj {a b : ByteArray} (h : partsB a = partsB b) : a = b := bytes_inj (by rw [← jn_parts a, ← jn_parts b, h])

/-- The library's variable is there, and nothing old has turned. -/
structure Stt (w W : World) : Prop where
  ml : ML W
  bl : Below w.heap.size w W
theorem Stt.step {w W W1 : World} (h : Stt w W) (hb : Below W.heap.size W W1) : Stt w W1 := ⟨h.ml.below hb, bl_trans h.bl hb⟩

theorem namesOrder_any (a b c : ByteArray) (ha : a.size ≤ 1048576) (hb : b.size ≤ 1048576) (hc : c.size ≤ 1048576) (w : World) (hm : ML w) :
    Calls Tryd.prog 4 #[.string a, .string b, .string c] w fun e w' => e = .returned (.bool true) ∧ Below w.heap.size w w' := by
  have st : Stt w w := ⟨hm, Below.refl _ _⟩
  have AW := Lib.hid (awake_any w hm)
  have C1 : Hid (∀ W, ML W → _) := Lib.hid (fun W h => compare_any a b (by omega) (by omega) W h)
  have C2 : Hid (∀ W, ML W → _) := Lib.hid (fun W h => compare_any b c (by omega) (by omega) W h)
  have C3 : Hid (∀ W, ML W → _) := Lib.hid (fun W h => compare_any b a (by omega) (by omega) W h)
  have C4 : Hid (∀ W, ML W → _) := Lib.hid (fun W h => compare_any a c (by omega) (by omega) W h)
  have hd : (a ++ ⟨#[47]⟩ ++ b).data.toList = a.data.toList ++ 47 :: b.data.toList := by simp
  have hds : (a ++ ⟨#[47]⟩ ++ b).size ≤ 4194304 := by
    rw [← length_data, hd]
    have e1 := length_data a
    have e2 := length_data b
    simp only [List.length_append, List.length_cons]
    omega
  have C5 : Hid (∀ W, ML W → _) := Lib.hid (fun W h => compare_any a (a ++ ⟨#[47]⟩ ++ b) (by omega) (by omega) W h)
  rw [parts_join a b _ hd, cmpL_prefix _ _ (by intro e; have := congrArg List.length e; rw [partsB_len] at this; simp at this)] at C5
  rw [cmpL_neg (partsB a) (partsB b)] at C3
  have b1 := cmpL_bd (partsB a) (partsB b)
  have b2 := cmpL_bd (partsB b) (partsB c)
  have b4 := cmpL_bd (partsB a) (partsB c)
  have ht := Lib.hid (cmpL_trans (partsB a) (partsB b) (partsB c))
  have hz : Hid ((cmpL (partsB a) (partsB b) == 0) = (a.toList == b.toList)) := by
    show _ = _
    rw [Bool.eq_iff_iff, beq_iff_eq, beq_iff_eq]
    constructor
    · intro h; rw [parts_inj (cmpL_zero _ _ h)]
    · intro h; rw [toList_inj h, cmpL_self]
  generalize cmpL (partsB a) (partsB b) = X at *
  generalize cmpL (partsB b) (partsB c) = Y at *
  generalize cmpL (partsB a) (partsB c) = Z at *
  clear hm hd hds
  go_enter Tryd.func4, Tryd.ntmps4
  go_wp2_with (go_at_call 13; refine AW.out.mono ?_; rintro e w1 ⟨rfl, hb1⟩; replace st := st.step hb1; clear hb1)
  refine (C1.out _ st.ml).mono ?_
  rintro e w2 ⟨rfl, hb2⟩
  replace st := st.step hb2
  clear hb2
  go_wp2_with fail
  refine (C2.out _ st.ml).mono ?_
  rintro e w3 ⟨rfl, hb3⟩
  replace st := st.step hb3
  clear hb3
  go_wp2_with fail
  refine (C3.out _ st.ml).mono ?_
  rintro e w4 ⟨rfl, hb4⟩
  replace st := st.step hb4
  clear hb4
  have hz' := hz.out
  by_cases hX : X = 0
  · subst hX
    have hab : (a.toList == b.toList) = true := by rw [← hz']; rfl
    go_wp2_with fail
    · have hZ : Z ≤ 0 := ht.out (by omega) (by omega)
      refine (C4.out _ st.ml).mono ?_
      rintro e w5 ⟨rfl, hb5⟩
      replace st := st.step hb5
      clear hb5
      go_wp2_with fail
      refine (C5.out _ st.ml).mono ?_
      rintro e w6 ⟨rfl, hb6⟩
      replace st := st.step hb6
      clear hb6
      go_wp2
      go_ret
      exact ⟨rfl, st.bl⟩
    · refine (C5.out _ st.ml).mono ?_
      rintro e w6 ⟨rfl, hb6⟩
      replace st := st.step hb6
      clear hb6
      go_wp2
      go_ret
      exact ⟨rfl, st.bl⟩
  · have hX0 : (X == 0) = false := beq_eq_false_iff_ne.2 hX
    have hab : (a.toList == b.toList) = false := by rw [← hz', hX0]
    go_wp2_with fail
    · have hZ : Z ≤ 0 := ht.out (by omega) (by omega)
      refine (C4.out _ st.ml).mono ?_
      rintro e w5 ⟨rfl, hb5⟩
      replace st := st.step hb5
      clear hb5
      go_wp2_with fail
      refine (C5.out _ st.ml).mono ?_
      rintro e w6 ⟨rfl, hb6⟩
      replace st := st.step hb6
      clear hb6
      go_wp2
      go_ret
      exact ⟨rfl, st.bl⟩
    · refine (C5.out _ st.ml).mono ?_
      rintro e w6 ⟨rfl, hb6⟩
      replace st := st.step hb6
      clear hb6
      go_wp2
      go_ret
      exact ⟨rfl, st.bl⟩
    · refine (C5.out _ st.ml).mono ?_
      rintro e w6 ⟨rfl, hb6⟩
      replace st := st.step hb6
      clear hb6
      go_wp2
      go_ret
      exact ⟨rfl, st.bl⟩
end Go.Proofs.YtpcdfjifhoofjaaDoor.Nm
