/- NamesCuts: the walk. -/
import Derived.Test.YtpcdfjifhoofjaaDoorNmOrder
namespace Go.Proofs.YtpcdfjifhoofjaaDoor.Nm
open Go Go.RowKit
set_option linter.unusedVariables false
set_option linter.unusedSimpArgs false
set_option maxHeartbeats 1000000
set_option maxRecDepth 10000

theorem joinP_parts (s : ByteArray) : joinP (partsB s) = if validB s = true then (s.data.toList, 0) else ([], 1) := by
  have h0 : partsB s ≠ [] := by intro e; have := congrArg List.length e; rw [partsB_len] at this; simp at this
  rw [joinP, jn_parts, length_data]
  by_cases h60 : s.size ≤ 60
  · rw [if_neg (by simp [h0]; omega)]
    simp [validB, h60]
  · rw [if_pos (.inr (by omega))]
    simp [validB, h60]
theorem sumL_parts (s : ByteArray) : sumL (partsB s) = s.size + 1 := by
  have h0 : partsB s ≠ [] := by intro e; have := congrArg List.length e; rw [partsB_len] at this; simp at this
  rw [sumL_jn _ h0, jn_parts, length_data]
theorem pkg_join (s : ByteArray) (h : front s ≠ []) : pkgB s ++ ⟨#[47]⟩ ++ simpleB s = s := bytes_inj (by
  have h1 : 0 ≤ slash s := by
    by_cases h2 : slash s < 0
    · exact absurd (front_none s h2) h
    · omega
  rw [← jn_pkg s h1]
  simp)

theorem namesCuts_any (s : ByteArray) (hs : s.size ≤ 1048576) (w : World) (hm : ML w) :
    Calls Tryd.prog 6 #[.string s] w fun e w' => e = .returned (.bool true) ∧ Below w.heap.size w w' := by
  have st : Stt w w := ⟨hm, Below.refl _ _⟩
  have AW := Lib.hid (awake_any w hm)
  have PA : Hid (∀ W, ML W → _) := Lib.hid (fun W h => parts_any s (by omega) W h)
  have K : Hid (∀ W, _) := Lib.hid (fun W => package_any s (by omega) W)
  have SI : Hid (∀ W, _) := Lib.hid (fun W => simple_any s (by omega) W)
  have V : Hid (∀ W, ML W → _) := Lib.hid (fun W h => valid_any s W h)
  have hsum := sumL_parts s
  have hjn := Lib.hid (jn_parts s)
  have hpf := parts_front s
  have hJ : Hid (∀ b (c : Nat) W, b < W.heap.size → (partsB s).length ≤ c → RdS W b 0 (partsB s) → _) := Lib.hid (fun b (c : Nat) W h1 h2 h3 => join_any (partsB s) (by omega) (by intro e; have := congrArg List.length e; rw [partsB_len] at this; simp at this) b 0 c h2 W h1 h3)
  rw [joinP_parts] at hJ
  have hlen : (partsB s).length = (front s).length + 1 := by rw [hpf]; simp
  have hlast : (partsB s)[(front s).length]? = some (simpleB s) := by rw [hpf]; simp
  have hpj : Hid ((front s).length ≠ 0 → pkgB s ++ ⟨#[47]⟩ ++ simpleB s = s) := fun h => pkg_join s (fun e => h (by rw [e]; rfl))
  have hno : Hid ((front s).length = 0 → pkgB s = ⟨#[]⟩ ∧ simpleB s = s) := fun h => by
    have h1 := (front_slash s).1 (List.length_eq_zero_iff.1 h)
    exact ⟨pkg_none s h1, simple_none s h1⟩
  have hjt : Hid (∀ k, 0 < k → (jn ((partsB s).take k)).length + 1 ≤ sumL (partsB s)) := fun k hk => jn_take_len _ k hk (by intro e; have := congrArg List.length e; rw [partsB_len] at this; simp at this)
  have hle := partsB_le s
  clear hpf hm
  generalize partsB s = P at *
  generalize (front s).length = m at *
  rw [hlen] at PA hJ
  replace hlen := Lib.hid hlen
  replace hlast := Lib.hid hlast
  have hle2 : m ≤ s.size := by have := hlen.out; omega
  clear hle
  go_enter Tryd.func6, Tryd.ntmps6
  go_wp2_with (go_at_call 13; refine AW.out.mono ?_; rintro e w1 ⟨rfl, hb1⟩; replace st := st.step hb1; clear hb1)
  refine (PA.out _ st.ml).mono ?_
  rintro e w2 ⟨rfl, hw2⟩
  have st2 : Stt w w2 := st.step (by rw [hw2]; exact (Below.refl _ _).alloc (Nat.le_refl _) _)
  have hr : Hid (RdS w2 w1.heap.size 0 P) := by show RdS _ _ _ _; rw [hw2]; exact RdS.new _ _ _
  have hg : w1.heap.size < w2.heap.size := by rw [hw2]; simp
  clear hw2 st AW PA
  generalize w1.heap.size = g at *
  obtain ⟨y, hy⟩ : ∃ y, P[0]? = some y := ⟨_, List.getElem?_eq_getElem (by have := hlen.out; omega)⟩
  have hc0 := hr.out 0 y hy
  rw [Nat.add_zero] at hc0
  have hj1 : Hid (jn (P.take 1) = y.data.toList) := by
    show _ = _
    cases P with
    | nil => simp at hy
    | cons a l => simp at hy; subst hy; simp [jn_one]
  have hcl := hr.out m _ hlast.out
  rw [Nat.zero_add] at hcl
  clear hy
  go_wp2_with fail
  go_loop [4, 5] (fun t i => ∃ k : Nat, 0 < k ∧ k ≤ m + 1 ∧ i = .int .i64 k ∧ ∃ r : ByteArray, t = .string r ∧ Hid (r.data.toList = jn (P.take k)) ∧ r.size ≤ 1048576) (fun _ i => m + 1 - (intOf i).toNat)
  case atStart => exact ⟨1, by omega, by omega, rfl, y, rfl, hj1.out.symm, by
    have := hjt.out 1 (by omega)
    rw [hj1.out, length_data] at this
    omega⟩
  case round =>
    obtain ⟨k, hk0, hk, rfl, r, rfl, hrj, hrs⟩ := hrel
    by_cases hlt : k < m + 1
    · obtain ⟨x, hx⟩ : ∃ x, P[k]? = some x := ⟨_, List.getElem?_eq_getElem (by have := hlen.out; omega)⟩
      have hcell := hr.out k x hx
      rw [Nat.zero_add] at hcell
      have hj := jn_take_succ P k hk0 x hx
      have hb := hjt.out (k + 1) (by omega)
      rw [hj, ← hrj.out] at hb
      have e1 := length_data r
      have e2 := length_data x
      simp only [List.length_append, List.length_cons] at hb
      replace hj := Lib.hid hj
      have hxs : x.size ≤ 1048576 := by omega
      have hsz : r.size + 1 + x.size ≤ 1048576 := by omega
      clear hx e1 e2 hb
      go_wp2
      go_round
      case rel => exact ⟨k + 1, by omega, by omega, by go_num, r ++ ⟨#[47]⟩ ++ x, rfl, by
        show _ = _
        rw [hj.out, ← hrj.out]
        simp, by
        have e3 : (⟨#[47]⟩ : ByteArray).size = 1 := rfl
        simp
        omega⟩
      case measure => simp [intOf]; omega
    · obtain rfl : k = m + 1 := by omega
      obtain rfl : r = s := bytes_inj (by rw [hrj.out, List.take_of_length_le (by have := hlen.out; omega), hjn.out])
      rcases Nat.eq_zero_or_pos m with h0 | hpos
      · obtain ⟨hp1, hp2⟩ := hno.out h0
        rw [hp1] at K
        rw [hp2] at SI hcl
        subst h0
        have hyr : Value.string y = Value.string r := Option.some.inj (hc0.symm.trans hcl)
        injection hyr with hyr
        replace hyr := hyr.symm
        subst hyr
        clear hcl
        clear hp1 hp2 hpj hno
        go_wp2
        go_quiet ((go_at_call 18; exact Calls.quiet_of_same (SI.out _)))
        go_wp2_with fail
        refine (K.out _).mono ?_
        rintro e w3 ⟨rfl, rfl⟩
        go_wp2_with fail
        refine (SI.out _).mono ?_
        rintro e w4 ⟨rfl, rfl⟩
        go_wp2_with fail
        refine (hJ.out g 1 _ (by simpa using hg) (by omega) (hr.out.below (below_drewN (Below.refl _ _) _))).mono ?_
        rintro e w5 ⟨rfl, hb5⟩
        have st5 : Stt w w5 := (st2.step (below_drewN (Below.refl _ _) _)).step hb5
        clear hb5
        cases hv : validB r
        · rw [hv] at V
          go_wp2_with fail
          refine (V.out _ st5.ml).mono ?_
          rintro e w6 ⟨rfl, hb6⟩
          have B6 := Lib.hid (st5.step hb6).bl
          clear hb6
          go_wp2
          go_ret
          exact ⟨by simp, B6.out⟩
        · rw [hv] at V
          go_wp2_with fail
          refine (V.out _ st5.ml).mono ?_
          rintro e w6 ⟨rfl, hb6⟩
          have B6 := Lib.hid (st5.step hb6).bl
          clear hb6
          go_wp2
          go_ret
          exact ⟨by simp, B6.out⟩
      · have hp := hpj.out (by omega)
        replace hp := Lib.hid hp
        have hne0 : ((m : Int) + 1 == 1) = false := beq_eq_false_iff_ne.2 (by omega)
        have hsz2 : (pkgB r).size + 1 + (simpleB r).size = r.size := by
          have h1 := congrArg (fun b : ByteArray => b.data.toList.length) hp.out
          have h2 : (pkgB r ++ ⟨#[47]⟩ ++ simpleB r).data.toList = (pkgB r).data.toList ++ [47] ++ (simpleB r).data.toList := by simp
          simp only [h2, List.length_append, length_data, List.length_cons, List.length_nil] at h1
          omega
        have hsz3 : (pkgB r).size ≤ 1048576 := by omega
        have hsz4 : (simpleB r).size ≤ 1048576 := by omega
        have hsz5 : (pkgB r).size + 1 + (simpleB r).size ≤ 1048576 := by omega
        clear hsz2
        go_wp2
        go_quiet ((go_at_call 18; exact Calls.quiet_of_same (SI.out _)))
        go_wp2_with fail
        refine (K.out _).mono ?_
        rintro e w3 ⟨rfl, rfl⟩
        go_wp2_with fail
        refine (SI.out _).mono ?_
        rintro e w4 ⟨rfl, rfl⟩
        have hp' := hp.out
        go_wp2_with fail
        refine (hJ.out g (m + 1) _ (by simpa using hg) (by omega) (hr.out.below (below_drewN (Below.refl _ _) _))).mono ?_
        rintro e w5 ⟨rfl, hb5⟩
        have st5 : Stt w w5 := (st2.step (below_drewN (Below.refl _ _) _)).step hb5
        clear hb5
        cases hv : validB r
        · rw [hv] at V
          go_wp2_with fail
          refine (V.out _ st5.ml).mono ?_
          rintro e w6 ⟨rfl, hb6⟩
          have B6 := Lib.hid (st5.step hb6).bl
          clear hb6
          go_wp2
          go_ret
          exact ⟨by simp, B6.out⟩
        · rw [hv] at V
          go_wp2_with fail
          refine (V.out _ st5.ml).mono ?_
          rintro e w6 ⟨rfl, hb6⟩
          have B6 := Lib.hid (st5.step hb6).bl
          clear hb6
          go_wp2
          go_ret
          exact ⟨by simp, B6.out⟩
end Go.Proofs.YtpcdfjifhoofjaaDoor.Nm
