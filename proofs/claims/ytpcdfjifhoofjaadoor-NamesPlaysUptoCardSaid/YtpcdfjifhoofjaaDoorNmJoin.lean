/- The walks of names.Join and arbiterref01's Part, Parts, Valid, Member, last, Package, Simple, Join, Compare, SameTexts. -/
import Derived.Test.YtpcdfjifhoofjaaDoorNmWalk
namespace Go.Proofs.YtpcdfjifhoofjaaDoor.Nm
open Go Go.RowKit
set_option linter.unusedVariables false
set_option linter.unusedSimpArgs false
set_option maxHeartbeats 400000

/-- The texts, joined by slashes. -/
def jn (l : List ByteArray) : List UInt8 := Lib.join (l.map (·.data.toList)) [47]
def joinP (l : List ByteArray) : List UInt8 × Int := if l = [] ∨ 60 < (jn l).length then ([], 1) else if l.all partB then (jn l, 0) else ([], 1)
theorem jn_cons2 (a b : ByteArray) (l : List ByteArray) : jn (a :: b :: l) = a.data.toList ++ 47 :: jn (b :: l) := by
  unfold jn
  simp only [List.map_cons]
  rw [Lib.join_cons, Lib.join_cons]
  simp [Lib.joinTail]
theorem jn_one (a : ByteArray) : jn [a] = a.data.toList := by simp [jn, Lib.join_one]
theorem jn_snoc (l : List ByteArray) (h : l ≠ []) (x : ByteArray) : jn (l ++ [x]) = jn l ++ 47 :: x.data.toList := by
  induction l with
  | nil => exact absurd rfl h
  | cons a l ih =>
    cases l with
    | nil => simp [jn_cons2, jn_one]
    | cons b l =>
      rw [List.cons_append, List.cons_append, jn_cons2, jn_cons2, ← List.cons_append, ih (by simp)]
      simp
/-- The lengths, and one for each text. -/
def sumL (l : List ByteArray) : Nat := (l.map fun s => s.size + 1).sum
theorem sumL_jn (l : List ByteArray) (h : l ≠ []) : sumL l = (jn l).length + 1 := by
  induction l with
  | nil => exact absurd rfl h
  | cons a l ih =>
    cases l with
    | nil => simp [sumL, jn_one]
    | cons b l =>
      have := ih (by simp)
      rw [jn_cons2]
      simp only [sumL, List.map_cons, List.sum_cons, List.length_append, List.length_cons, Array.length_toList] at this ⊢
      have e : a.data.size = a.size := rfl
      omega
theorem sumL_snoc (l : List ByteArray) (k : Nat) (x : ByteArray) (hx : l[k]? = some x) : sumL (l.take (k + 1)) = sumL (l.take k) + x.size + 1 := by
  obtain ⟨h, rfl⟩ := List.getElem?_eq_some_iff.1 hx
  rw [List.take_succ_eq_append_getElem h]
  unfold sumL
  rw [List.map_append, List.sum_append]
  simp only [List.map_cons, List.map_nil, List.sum_cons, List.sum_nil]
  omega
theorem le_sumL (l : List ByteArray) (x : ByteArray) (hx : x ∈ l) : x.size + 1 ≤ sumL l := by
  induction l with
  | nil => cases hx
  | cons a l ih =>
    simp only [sumL, List.map_cons, List.sum_cons] at ih ⊢
    rcases List.mem_cons.1 hx with rfl | h
    · omega
    · have := ih h; omega
theorem sumL_take (l : List ByteArray) (k : Nat) : sumL (l.take k) ≤ sumL l := by
  have : sumL l = sumL (l.take k) + sumL (l.drop k) := by
    unfold sumL
    rw [← List.sum_append, ← List.map_append, List.take_append_drop]
  omega
theorem tuple_si {a a' : List UInt8} {b b' : Int} (h1 : a = a') (h2 : b = b') : Ending.returned (.tuple #[.string ⟨a.toArray⟩, .int .i64 b]) = .returned (.tuple #[.string ⟨a'.toArray⟩, .int .i64 b']) := by rw [h1, h2]

theorem join_any (l : List ByteArray) (hl : sumL l ≤ 1099511627776) (h0 : l ≠ []) (b o c : Nat) (hcap : l.length ≤ c) (w : World) (hb : b < w.heap.size) (hr : RdS w b o l) :
    Calls Tryd.prog 20 #[.slice (some ⟨b, o, none⟩) l.length c] w fun e w' => e = .returned (.tuple #[.string ⟨(joinP l).1.toArray⟩, .int .i64 (joinP l).2]) ∧ Below w.heap.size w w' := by
  have hsum := sumL_jn l h0
  have hlen : l.length ≤ sumL l := by
    clear hl hr hcap hsum h0
    induction l with
    | nil => simp [sumL]
    | cons a l ih => simp only [sumL, List.map_cons, List.sum_cons, List.length_cons] at ih ⊢; omega
  have J := Tryd.strings_Join b o c l ⟨#[47]⟩ w hr hb (by omega) hcap (by show (jn l).length ≤ _; omega)
  have hj : Lib.join (l.map (·.data.toList)) (⟨#[47]⟩ : ByteArray).data.toList = jn l := rfl
  rw [hj] at J
  replace J := Lib.hid J
  have hpos : 0 < l.length := List.length_pos_iff.2 h0
  have hxs : Hid (∀ x ∈ l, x.size ≤ 4611686018427387904) := fun x hx => by
    have := le_sumL l x hx
    omega
  clear hj
  replace hr := Lib.hid hr
  have hJP : Hid (joinP l = if 60 < (jn l).length then ([], 1) else if l.all partB then (jn l, 0) else ([], 1)) := by show _ = _; simp [joinP, h0]
  generalize jn l = res at *
  clear h0
  have hne : ((l.length : Int) == 0) = false := beq_eq_false_iff_ne.2 (by omega)
  by_cases h60 : 60 < res.length
  · have hfin : Hid (joinP l = ([], 1)) := by show _ = _; rw [hJP.out, if_pos h60]
    go_enter Tryd.func20, Tryd.ntmps20
    go_wp2_with (go_at_call 62; refine J.out.mono ?_; rintro e w1 ⟨rfl, hbl⟩; replace hbl := Lib.hid hbl)
    go_ret2
    exact ⟨by rw [hfin.out]; rfl, hbl.out⟩
  · have hfin : Hid (joinP l = if l.all partB then (res, 0) else ([], 1)) := by show _ = _; rw [hJP.out, if_neg h60]
    clear hJP
    have h60' : (res.length : Int) ≤ 60 := by omega
    go_enter Tryd.func20, Tryd.ntmps20
    go_wp2_with (go_at_call 62; refine J.out.mono ?_; rintro e w1 ⟨rfl, hbl⟩)
    replace hr : Hid (RdS w1 b o l) := hr.out.below hbl
    replace hbl := Lib.hid hbl
    go_loop [19] (fun i => ∃ k : Nat, k ≤ l.length ∧ i = .int .i64 k ∧ Hid (∀ j, j < k → ∀ x, l[j]? = some x → partB x = true)) (fun i => l.length - (intOf i).toNat)
    case atStart => exact ⟨0, Nat.zero_le _, rfl, fun j hj => absurd hj (by omega)⟩
    case round =>
      obtain ⟨k, hk, rfl, hp⟩ := hrel
      by_cases hlt : k < l.length
      · obtain ⟨x, hx⟩ : ∃ x, l[k]? = some x := ⟨_, List.getElem?_eq_getElem hlt⟩
        have hcell := hr.out k x hx
        have V := Lib.hid (part_any x (hxs.out x (List.mem_of_getElem? hx)) w1)
        replace hx := Lib.hid hx
        go_wp2_with (go_at_call 56; refine V.out.mono ?_; rintro e w2 ⟨rfl, rfl⟩)
        · have hf : partB x = false := by simp_all
          go_ret2
          exact ⟨by rw [hfin.out, bad_at l k x hx.out hf]; rfl, hbl.out⟩
        · have hf : partB x = true := by simp_all
          go_round
          case rel => exact ⟨k + 1, by omega, by go_num, fun j hj y hy => by
            by_cases e : j = k
            · subst e
              rw [hx.out] at hy
              cases hy
              exact hf
            · exact hp.out j (by omega) y hy⟩
          case measure => simp [intOf]; omega
      · go_wp2
        go_ret2
        exact ⟨by rw [hfin.out, badFrom_all l k hp.out (by omega)]; rfl, hbl.out⟩
theorem join_none (A : Option Addr) (c : Nat) (w : World) : Calls Tryd.prog 20 #[.slice A 0 c] w fun e w' => e = .returned (.tuple #[.string ⟨(joinP []).1.toArray⟩, .int .i64 (joinP []).2]) ∧ Below w.heap.size w w' := by
  have J := Lib.hid (Tryd.strings_Join_none A c ⟨#[47]⟩ w)
  go_enter Tryd.func20, Tryd.ntmps20
  go_wp2_with (go_at_call 62; refine J.out.mono ?_; rintro e w1 ⟨rfl, rfl⟩)
  go_ret2
  exact ⟨rfl, Below.refl _ _⟩
end Go.Proofs.YtpcdfjifhoofjaaDoor.Nm
