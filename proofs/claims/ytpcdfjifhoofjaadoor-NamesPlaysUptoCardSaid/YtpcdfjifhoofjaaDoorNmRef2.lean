/- The walks of arbiterref01: SameTexts, Compare, Join. -/
import Derived.Test.YtpcdfjifhoofjaaDoorNmRef
import Derived.Test.YtpcdfjifhoofjaaDoorNmJoin
namespace Go.Proofs.YtpcdfjifhoofjaaDoor.Nm
open Go Go.RowKit
set_option linter.unusedVariables false
set_option linter.unusedSimpArgs false
set_option maxHeartbeats 400000
set_option maxRecDepth 10000

theorem take_eq_step (l m : List ByteArray) (k : Nat) (x y : ByteArray) (hx : l[k]? = some x) (hy : m[k]? = some y) (h : l.take k = m.take k) (e : x = y) : l.take (k + 1) = m.take (k + 1) := by
  obtain ⟨h1, rfl⟩ := List.getElem?_eq_some_iff.1 hx
  obtain ⟨h2, rfl⟩ := List.getElem?_eq_some_iff.1 hy
  rw [List.take_succ_eq_append_getElem h1, List.take_succ_eq_append_getElem h2, h, e]
theorem toList_inj {x y : ByteArray} (h : x.toList = y.toList) : x = y := bytes_inj (by rw [← ByteArray.toList_eq, ← ByteArray.toList_eq, h])

theorem sameTexts_any (l m : List ByteArray) (hl : l.length ≤ 4611686018427387904) (b1 o1 c1 b2 o2 c2 : Nat) (w : World) (r1 : RdS w b1 o1 l) (r2 : RdS w b2 o2 m) :
    Calls Tryd.prog 22 #[.slice (some ⟨b1, o1, none⟩) l.length c1, .slice (some ⟨b2, o2, none⟩) m.length c2] w fun e w' => e = .returned (.bool (decide (l = m))) ∧ Below w.heap.size w w' := by
  by_cases hlen : l.length = m.length
  · have hne : ((l.length : Int) != (m.length : Int)) = false := by simp [hlen]
    have hR1 : Hid (RdS w b1 o1 l) := r1
    have hR2 : Hid (RdS w b2 o2 m) := r2
    clear r1 r2
    replace hlen := Lib.hid hlen
    go_enter Tryd.func22, Tryd.ntmps22
    go_wp2
    go_loopw [5] (fun i wr => ∃ k : Nat, k ≤ l.length ∧ i = .int .i64 k ∧ Hid (l.take k = m.take k) ∧ Below w.heap.size w wr) (fun i _ => l.length - (intOf i).toNat)
    case atStart => exact ⟨0, Nat.zero_le _, rfl, rfl, Below.refl _ _⟩
    case round =>
      obtain ⟨k, hk, rfl, ht, hB⟩ := hrel
      by_cases hlt : k < l.length
      · obtain ⟨x, hx⟩ : ∃ x, l[k]? = some x := ⟨_, List.getElem?_eq_getElem hlt⟩
        obtain ⟨y, hy⟩ : ∃ y, m[k]? = some y := ⟨_, List.getElem?_eq_getElem (by have := hlen.out; omega)⟩
        have cx := bl_cell hB (hR1.out k x hx)
        have cy := bl_cell hB (hR2.out k y hy)
        have hlt2 : (k : Int) < (m.length : Int) := by have := hlen.out; omega
        replace hB := Lib.hid hB
        replace hx := Lib.hid hx
        replace hy := Lib.hid hy
        go_wp2
        go_quiet (fail)
        go_wp2
        · have hxy : x ≠ y := fun e => by simp_all
          go_ret
          exact ⟨ret_bool (by rw [eq_comm, decide_eq_false_iff_not]; intro e; rw [e, hy.out] at hx; exact hxy (Option.some.inj hx.out).symm), below_drewN hB.out _⟩
        · have hxy : x = y := toList_inj (by simp_all)
          go_roundw
          case rel => exact ⟨k + 1, by omega, by go_num, take_eq_step l m k x y hx.out hy.out ht.out hxy, below_drewN hB.out _⟩
          case measure => simp [intOf]; omega
      · have hfin : l = m := by
          have h1 := ht.out
          rw [List.take_of_length_le (by omega), List.take_of_length_le (by have := hlen.out; omega)] at h1
          exact h1
        replace hfin := Lib.hid hfin
        replace hB := Lib.hid hB
        go_wp2
        go_ret
        exact ⟨ret_bool (by rw [eq_comm, decide_eq_true_eq]; exact hfin.out), hB.out⟩
  · have hne : ((l.length : Int) != (m.length : Int)) = true := by simp; omega
    clear r1 r2
    go_enter Tryd.func22, Tryd.ntmps22
    go_wp2
    go_ret
    exact ⟨ret_bool (by rw [eq_comm, decide_eq_false_iff_not]; intro e; exact hlen (by rw [e])), Below.refl _ _⟩

theorem less_cmp (x y : ByteArray) (h : Op.bytesLess x.toList y.toList = true) : cmpS x y = -1 := by simp [cmpS, h]
theorem rcompare_any (a b : ByteArray) (ha : a.size ≤ 4294967296) (hb : b.size ≤ 4294967296) (w : World) : Calls Tryd.prog 40 #[.string a, .string b] w fun e w' => e = .returned (.int .i64 (cmpL (partsB a) (partsB b))) ∧ Below w.heap.size w w' := by
  have P1 := Lib.hid (rparts_any a ha w)
  have hla := partsB_le a
  have hlb := partsB_le b
  have P2 : Hid (∀ W, _) := Lib.hid (rparts_any b hb)
  generalize partsB a = l at *
  generalize partsB b = m at *
  go_enter Tryd.func40, Tryd.ntmps40
  go_wp2_with (go_at_call 24; refine P1.out.mono ?_; clear P1; rintro e w1 ⟨⟨g, cap, rfl, hown⟩, hbl⟩; have hr := Lib.hid (RdS_own hown); clear hown; replace hbl := Lib.hid hbl)
  go_wp2_with (go_at_call 24; refine (P2.out _).mono ?_; clear P2; rintro e w2 ⟨⟨g2, cap2, rfl, hown⟩, hbl2⟩; have hr2 := Lib.hid (RdS_own hown); clear hown)
  have R1 : Hid (RdS w2 g 0 l) := hr.out.below hbl2
  have B2 : Hid (Below w.heap.size w w2) := bl_trans hbl.out hbl2
  clear hr hbl hbl2
  go_loopw [7] (fun i wr => ∃ k : Nat, k ≤ l.length ∧ k ≤ m.length ∧ i = .int .i64 k ∧ Hid (cmpL l m = cmpL (l.drop k) (m.drop k)) ∧ Below w2.heap.size w2 wr) (fun i _ => l.length - (intOf i).toNat)
  case atStart => exact ⟨0, Nat.zero_le _, Nat.zero_le _, rfl, rfl, Below.refl _ _⟩
  case round =>
    obtain ⟨k, hk1, hk2, rfl, hc, hB⟩ := hrel
    by_cases hlt1 : k < l.length
    · obtain ⟨x, hx⟩ : ∃ x, l[k]? = some x := ⟨_, List.getElem?_eq_getElem hlt1⟩
      have cx := bl_cell hB (R1.out k x hx)
      rw [Nat.zero_add] at cx
      by_cases hlt2 : k < m.length
      · obtain ⟨y, hy⟩ : ∃ y, m[k]? = some y := ⟨_, List.getElem?_eq_getElem hlt2⟩
        have cy := bl_cell hB (hr2.out k y hy)
        rw [Nat.zero_add] at cy
        have hd := Lib.hid (cmpL_drop l m k x y hx hy)
        replace hB := Lib.hid hB
        clear hx hy
        go_wp2
        go_quiet (fail)
        go_wp2
        · have hl : cmpS x y = -1 := less_cmp x y (by assumption)
          go_ret
          exact ⟨ret_int (by rw [hc.out, hd.out, if_neg (by omega), hl]), bl_trans B2.out (below_drewN hB.out _)⟩
        go_quiet (fail)
        go_wp2
        · have hl : cmpS x y = 1 := by simp_all [cmpS]
          go_ret
          exact ⟨ret_int (by rw [hc.out, hd.out, if_neg (by omega), hl]), bl_trans B2.out (below_drewN (below_drewN hB.out _) _)⟩
        · have hl : cmpS x y = 0 := by simp_all [cmpS]
          go_roundw
          case rel => exact ⟨k + 1, by omega, by omega, by go_num, by show _ = _; rw [hc.out, hd.out, if_pos hl], below_drewN hB.out _⟩
          case measure => simp [intOf]; omega
      · have hd := Lib.hid (cmpL_end1 l m k hlt1 (by omega))
        replace hB := Lib.hid hB
        clear hx
        go_wp2
        go_ret
        exact ⟨ret_int (by rw [hc.out, hd.out]), bl_trans B2.out hB.out⟩
    · replace hB := Lib.hid hB
      by_cases hlt2 : k < m.length
      · have hd := Lib.hid (cmpL_end2 l m k (by omega) hlt2)
        go_wp2
        go_ret
        exact ⟨ret_int (by rw [hc.out, hd.out]), bl_trans B2.out hB.out⟩
      · have hd := Lib.hid (cmpL_end0 l m k (by omega) (by omega))
        go_wp2
        go_ret
        exact ⟨ret_int (by rw [hc.out, hd.out]), bl_trans B2.out hB.out⟩

theorem joinP_bad (l : List ByteArray) (h : l.all partB = false) : joinP l = ([], 1) := by simp [joinP, h]
theorem joinP_long (l : List ByteArray) (h : 61 < sumL l) : joinP l = ([], 1) := by
  have h0 : l ≠ [] := by rintro rfl; simp [sumL] at h
  have := sumL_jn l h0
  rw [joinP, if_pos (.inr (by omega))]
theorem joinP_ok (l : List ByteArray) (h0 : l ≠ []) (h : sumL l ≤ 61) (ha : l.all partB = true) : joinP l = (jn l, 0) := by
  have := sumL_jn l h0
  rw [joinP, if_neg (by simp [h0]; omega), if_pos ha]
theorem jn_take_succ (l : List ByteArray) (k : Nat) (hk : 0 < k) (x : ByteArray) (hx : l[k]? = some x) : jn (l.take (k + 1)) = jn (l.take k) ++ 47 :: x.data.toList := by
  obtain ⟨h, rfl⟩ := List.getElem?_eq_some_iff.1 hx
  rw [List.take_succ_eq_append_getElem h, jn_snoc _ (by intro e; have := congrArg List.length e; rw [List.length_take, List.length_nil] at this; omega)]
theorem jn_take_len (l : List ByteArray) (k : Nat) (hk : 0 < k) (h0 : l ≠ []) : (jn (l.take k)).length + 1 ≤ sumL l := by
  have h1 : l.take k ≠ [] := by intro e; have h1 := congrArg List.length e; have := List.length_pos_iff.2 h0; rw [List.length_take, List.length_nil] at h1; omega
  have := sumL_jn _ h1
  have := sumL_take l k
  omega

theorem rjoin_any (l : List ByteArray) (hl : sumL l ≤ 1099511627776) (b o c : Nat) (w : World) (hr : RdS w b o l) :
    Calls Tryd.prog 21 #[.slice (some ⟨b, o, none⟩) l.length c] w fun e w' => e = .returned (.tuple #[.string ⟨(joinP l).1.toArray⟩, .int .i64 (joinP l).2]) ∧ w' = w := by
  have hlen : l.length ≤ sumL l := by
    clear hl hr
    induction l with
    | nil => simp [sumL]
    | cons a l ih => simp only [sumL, List.map_cons, List.sum_cons, List.length_cons] at ih ⊢; omega
  have hxs : Hid (∀ x ∈ l, x.size + 1 ≤ sumL l) := fun x hx => le_sumL l x hx
  replace hr := Lib.hid hr
  go_enter Tryd.func21, Tryd.ntmps21
  go_wp2
  go_loop [4, 5] (fun sz i => ∃ k : Nat, k ≤ l.length ∧ i = .int .i64 k ∧ sz = .int .i64 (sumL (l.take k)) ∧ sumL (l.take k) ≤ 61 ∧ Hid (∀ j, j < k → ∀ x, l[j]? = some x → partB x = true)) (fun _ i => l.length - (intOf i).toNat)
  case atStart => exact ⟨0, Nat.zero_le _, rfl, rfl, by simp [sumL], fun j hj => absurd hj (by omega)⟩
  case round =>
    obtain ⟨k, hk, rfl, rfl, hs61, hp⟩ := hrel
    by_cases hlt : k < l.length
    · obtain ⟨x, hx⟩ : ∃ x, l[k]? = some x := ⟨_, List.getElem?_eq_getElem hlt⟩
      have hcell := hr.out k x hx
      have hxz := hxs.out x (List.mem_of_getElem? hx)
      have V := Lib.hid (rpart_any x (by omega) w)
      have hsn := sumL_snoc l k x hx
      have hst := sumL_take l (k + 1)
      replace hx := Lib.hid hx
      generalize hS : sumL (l.take k) = S at *
      generalize hS' : sumL (l.take (k + 1)) = S' at *
      replace hS' := Lib.hid hS'
      clear hS
      subst hsn
      go_wp2_with (go_at_call 63; refine V.out.mono ?_; rintro e w2 ⟨rfl, rfl⟩)
      · have hf : joinP l = ([], 1) := joinP_long l (by omega)
        go_ret2
        exact ⟨by rw [hf]; rfl, rfl⟩
      · have hf : joinP l = ([], 1) := joinP_long l (by omega)
        go_ret2
        exact ⟨by rw [hf]; rfl, rfl⟩
      · have hf : partB x = true := by assumption
        go_round
        case rel => exact ⟨k + 1, by omega, by go_num, by rw [hS'.out]; go_num, by rw [hS'.out]; omega, fun j hj y hy => by
          by_cases e : j = k
          · subst e
            rw [hx.out] at hy
            cases hy
            exact hf
          · exact hp.out j (by omega) y hy⟩
        case measure => simp [intOf]; omega
      · have hb : ¬ partB x = true := by assumption
        have hf : joinP l = ([], 1) := joinP_bad l (bad_at l k x hx.out (eq_false_of_ne_true hb))
        go_ret2
        exact ⟨by rw [hf]; rfl, rfl⟩
    · obtain rfl : k = l.length := by omega
      rw [List.take_length] at hs61
      by_cases h0 : l = []
      · subst h0
        go_wp2
        go_ret2
        exact ⟨rfl, rfl⟩
      · have hpos := List.length_pos_iff.2 h0
        have hne : ((l.length : Int) == 0) = false := beq_eq_false_iff_ne.2 (by omega)
        have hfin : Hid (joinP l = (jn l, 0)) := joinP_ok l h0 hs61 (badFrom_all l _ hp.out (by omega))
        obtain ⟨y, hy⟩ : ∃ y, l[0]? = some y := ⟨_, List.getElem?_eq_getElem hpos⟩
        have hc0 := hr.out 0 y hy
        rw [Nat.add_zero] at hc0
        have hj1 : Hid (jn (l.take 1) = y.data.toList) := by
          show _ = _
          cases l with
          | nil => exact absurd rfl h0
          | cons a l => simp at hy; subst hy; simp [jn_one]
        have H0 := Lib.hid h0
        clear hy h0 hp
        rw [List.take_length]
        go_wp2
        go_loop [6, 7] (fun t i => ∃ k : Nat, 0 < k ∧ k ≤ l.length ∧ i = .int .i64 k ∧ ∃ r : ByteArray, t = .string r ∧ Hid (r.data.toList = jn (l.take k)) ∧ r.size ≤ 61) (fun _ i => l.length - (intOf i).toNat)
        case atStart => exact ⟨1, by omega, hpos, rfl, y, rfl, hj1.out.symm, by
          have := jn_take_len l 1 (by omega) H0.out
          rw [hj1.out, Array.length_toList] at this
          show y.data.size ≤ 61
          omega⟩
        case round =>
          obtain ⟨k, hk0, hk, rfl, r, rfl, hrj, hr61⟩ := hrel
          by_cases hlt : k < l.length
          · obtain ⟨x, hx⟩ : ∃ x, l[k]? = some x := ⟨_, List.getElem?_eq_getElem hlt⟩
            have hcell := hr.out k x hx
            have hxz := hxs.out x (List.mem_of_getElem? hx)
            have hj := jn_take_succ l k hk0 x hx
            have hjl := jn_take_len l (k + 1) (by omega) H0.out
            replace hj := Lib.hid hj
            have hjl2 := Lib.hid hjl
            clear hx hjl
            go_wp2
            go_round
            case rel => exact ⟨k + 1, by omega, by omega, by go_num, r ++ ⟨#[47]⟩ ++ x, rfl, by
              show _ = _
              rw [hj.out, ← hrj.out]
              simp, by
              have h1 := hjl2.out
              rw [hj.out, ← hrj.out] at h1
              simp at h1
              have e1 : r.data.size = r.size := rfl
              have e2 : x.data.size = x.size := rfl
              have e3 : (⟨#[47]⟩ : ByteArray).size = 1 := rfl
              simp
              omega⟩
            case measure => simp [intOf]; omega
          · obtain rfl : k = l.length := by omega
            go_wp2
            go_ret2
            refine ⟨?_, rfl⟩
            have h1 := hrj.out
            rw [List.take_length] at h1
            rw [hfin.out, ← h1]
            rfl
end Go.Proofs.YtpcdfjifhoofjaaDoor.Nm
