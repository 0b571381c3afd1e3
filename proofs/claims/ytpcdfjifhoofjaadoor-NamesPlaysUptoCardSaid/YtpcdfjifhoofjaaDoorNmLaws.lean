/- The walks of arbiterlaw01's awake, NamesValid, NamesOrder, NamesCuts, NamesPlays: each answers true. -/
import Derived.Test.YtpcdfjifhoofjaaDoorNmPlain
namespace Go.Proofs.YtpcdfjifhoofjaaDoor.Nm
open Go Go.RowKit
set_option linter.unusedVariables false
set_option linter.unusedSimpArgs false
set_option maxHeartbeats 1000000
set_option maxRecDepth 10000

theorem inR_of {f : Int} (h : (Lit.int .i64 f).wf = true) : -9223372036854775808 ≤ f ∧ f ≤ 9223372036854775807 := by
  have h1 : IntKind.i64.min ≤ f ∧ f ≤ 9223372036854775807 := by simpa [Lit.wf] using h
  exact h1
theorem length_data (s : ByteArray) : s.data.toList.length = s.size := by rw [Array.length_toList]; rfl

theorem valid_pA : validB ⟨#[112, 47, 65]⟩ = true := by decide +kernel
theorem pkg_pA : pkgB ⟨#[112, 47, 65]⟩ = ⟨#[112]⟩ := by decide +kernel
theorem awake_any (w : World) (hm : ML w) : Calls Tryd.prog 13 #[] w fun e w' => e = .returned (.bool true) ∧ Below w.heap.size w w' := by
  have V := valid_any ⟨#[112, 47, 65]⟩ w hm
  rw [valid_pA] at V
  replace V := Lib.hid V
  have K : ∀ W, _ := fun W => package_any ⟨#[112, 47, 65]⟩ (by decide) W
  rw [pkg_pA] at K
  replace K := Lib.hid K
  go_enter Tryd.func13, Tryd.ntmps13
  go_wp2_with (first
    | (go_at_call 15; refine V.out.mono ?_; rintro e w1 ⟨rfl, hbl⟩; replace hbl := Lib.hid hbl)
    | (go_at_call 16; refine (K.out _).mono ?_; rintro e w2 ⟨rfl, rfl⟩))
  go_ret
  exact ⟨rfl, hbl.out⟩

theorem byte_cases (n : Int) (h : n = 47 ∨ letB n false = true) : (97 ≤ n ∧ n ≤ 122) ∨ (65 ≤ n ∧ n ≤ 90) ∨ n = 95 ∨ n = 36 ∨ n = 47 ∨ (48 ≤ n ∧ n ≤ 57) := by
  rcases h with h | h
  · omega
  · simp [letB] at h
    omega
theorem namesValid_no (s : ByteArray) (hv : validB s = false) (w : World) (hm : ML w) : Calls Tryd.prog 3 #[.string s] w fun e w' => e = .returned (.bool true) ∧ Below w.heap.size w w' := by
  have AW := Lib.hid (awake_any w hm)
  have HM := Lib.hid hm
  have V : Hid (∀ W, ML W → _) := Lib.hid (fun W h => valid_any s W h)
  have M : Hid (∀ W, _) := Lib.hid (fun W => member_any s W)
  rw [member_iff, hv] at M
  rw [hv] at V
  simp only [Bool.false_and, Bool.or_false] at M
  clear hm hv
  go_enter Tryd.func3, Tryd.ntmps3
  go_wp2_with (go_at_call 13; refine AW.out.mono ?_; rintro e w1 ⟨rfl, hb1⟩; have m1 := Lib.hid (HM.out.below hb1); replace hb1 := Lib.hid hb1)
  refine (M.out _).mono ?_
  rintro e w2 ⟨rfl, rfl⟩
  by_cases hI : s.toList = [60, 105, 110, 105, 116, 62]
  · go_wp2_with fail
    refine (V.out _ m1.out).mono ?_
    rintro e w3 ⟨rfl, hb2⟩
    replace hb2 := Lib.hid hb2
    go_wp2
    go_ret
    exact ⟨rfl, bl_trans hb1.out hb2.out⟩
  · go_wp2_with fail
    refine (V.out _ m1.out).mono ?_
    rintro e w3 ⟨rfl, hb2⟩
    have m2 := Lib.hid (m1.out.below hb2)
    replace hb2 := Lib.hid hb2
    go_wp2_with fail
    refine (V.out _ m2.out).mono ?_
    rintro e w4 ⟨rfl, hb3⟩
    replace hb3 := Lib.hid hb3
    go_wp2
    go_ret
    exact ⟨rfl, bl_trans (bl_trans hb1.out hb2.out) hb3.out⟩

theorem namesValid_any (s : ByteArray) (hs : s.size < 4611686018427387904) (w : World) (hm : ML w) : Calls Tryd.prog 3 #[.string s] w fun e w' => e = .returned (.bool true) ∧ Below w.heap.size w w' := by
  cases hv : validB s
  · exact namesValid_no s hv w hm
  have AW := Lib.hid (awake_any w hm)
  have HM := Lib.hid hm
  have hsz := valid_size s hv
  have V : Hid (∀ W, ML W → _) := Lib.hid (fun W h => valid_any s W h)
  have M : Hid (∀ W, _) := Lib.hid (fun W => member_any s W)
  have K : Hid (∀ W, _) := Lib.hid (fun W => package_any s hs W)
  have SI : Hid (∀ W, _) := Lib.hid (fun W => simple_any s hs W)
  have PA : Hid (∀ W, ML W → _) := Lib.hid (fun W hW => parts_any s (by omega) W hW)
  have MS : Hid (∀ W, _) := Lib.hid (fun W => member_any (simpleB s) W)
  rw [valid_simple s hv] at MS
  rw [member_iff, hv] at M
  rw [hv] at V
  simp only [Bool.true_and] at M
  have VP : Hid (slash s < 0 ∨ validB (pkgB s) = true) := valid_pkg s hv
  have PN : Hid (slash s < 0 → pkgB s = ⟨#[]⟩) := pkg_none s
  have hbytes : Hid (∀ k, k < s.size → bt s k = 47 ∨ letB (bt s k) false = true) := fun k hk => by
    have h' : k < s.data.toList.length := by rw [Array.length_toList]; exact hk
    have := valid_bytes s hv _ (List.getElem_mem h')
    simp only [bt, List.getD_eq_getElem?_getD, List.getElem?_eq_getElem h', Option.getD_some]
    rcases this with h | h
    · rw [h]; exact .inl rfl
    · exact .inr h
  clear hm hv
  go_enter Tryd.func3, Tryd.ntmps3
  go_upto_region 3 with (go_at_call 13; refine AW.out.mono ?_; rintro e w1 ⟨rfl, hb1⟩; have m1 := Lib.hid (HM.out.below hb1); replace hb1 := Lib.hid hb1)
  go_cut [28] (fun v28 wc => v28 = .bool false ∧ Hid (ML wc) ∧ Hid (Below w.heap.size w wc))
  case first =>
    go_wp2_with fail
    refine (M.out _).mono ?_
    rintro e w2 ⟨rfl, rfl⟩
    go_wp2_with (first
      | (go_at_call 15; refine (V.out _ m1.out).mono ?_; rintro e w3 ⟨rfl, hb2⟩; have m2 := Lib.hid (m1.out.below hb2); replace hb2 := Lib.hid hb2)
      | (go_at_call 16; refine (K.out _).mono ?_; rintro e w4 ⟨rfl, rfl⟩)
      | (go_at_call 17; refine (PA.out _ m2.out).mono ?_; rintro e w5 ⟨rfl, rfl⟩))
    · go_meet
      case rel => exact ⟨by simp_all, m1, hb1⟩
    · go_meet
      case rel => exact ⟨by simp_all, m2.out.below ((Below.refl _ _).alloc (Nat.le_refl _) _), bl_trans (bl_trans hb1.out hb2.out) ((Below.refl _ _).alloc (Nat.le_refl _) _)⟩
    · go_meet
      case rel => exact ⟨by simp_all, m2, bl_trans hb1.out hb2.out⟩
  case rest =>
    clear hb1 m1 M PA
    obtain ⟨rfl, mc, hbc⟩ := hcut
    go_wp2_with (go_at_call 15; refine (V.out _ mc.out).mono ?_; rintro e w3 ⟨rfl, hb2⟩; have m2 := Lib.hid (mc.out.below hb2); replace hb2 := Lib.hid hb2)
    have B3 : Hid (Below w.heap.size w w3) := bl_trans hbc.out hb2.out
    clear hbc hb2 mc
    go_loop [3] (fun i => ∃ k : Nat, k ≤ s.size ∧ i = .int .i64 k) (fun i => s.size - (intOf i).toNat)
    case atStart => exact ⟨0, Nat.zero_le _, rfl⟩
    case round =>
      obtain ⟨k, hk, rfl⟩ := hrel
      by_cases hlt : k < s.size
      · have hb := bt_at s k hlt
        have hr := bt_range s k
        have hok := hbytes.out k hlt
        generalize bt s k = n at *
        replace hok := byte_cases n hok
        rcases hok with ⟨ha, hb'⟩ | ⟨ha, hb'⟩ | rfl | rfl | rfl | ⟨ha, hb'⟩
        all_goals
          go_wp2
          go_round
          case rel => exact ⟨k + 1, by omega, by go_num⟩
          case measure => simp [intOf]; omega
      · rcases VP.out with hsl | hvp
        · have hpk := PN.out hsl
          rw [hpk] at K
          go_wp2_with (first
            | (go_at_call 16; refine (K.out _).mono ?_; rintro e w4 ⟨rfl, rfl⟩)
            | (go_at_call 18; refine (SI.out _).mono ?_; rintro e w5 ⟨rfl, rfl⟩)
            | (go_at_call 14; refine (MS.out _).mono ?_; rintro e w6 ⟨rfl, rfl⟩))
          go_ret
          exact ⟨rfl, B3.out⟩
        · have VV : Hid (∀ W, ML W → _) := Lib.hid (fun W h => valid_any (pkgB s) W h)
          rw [hvp] at VV
          by_cases hpe : (pkgB s).toList = []
          · go_wp2_with (first
              | (go_at_call 16; refine (K.out _).mono ?_; rintro e w4 ⟨rfl, rfl⟩)
              | (go_at_call 18; refine (SI.out _).mono ?_; rintro e w5 ⟨rfl, rfl⟩)
              | (go_at_call 14; refine (MS.out _).mono ?_; rintro e w6 ⟨rfl, rfl⟩))
            go_ret
            exact ⟨rfl, B3.out⟩
          · go_wp2_with (first
              | (go_at_call 16; refine (K.out _).mono ?_; rintro e w4 ⟨rfl, rfl⟩)
              | (go_at_call 18; refine (SI.out _).mono ?_; rintro e w5 ⟨rfl, rfl⟩)
              | (go_at_call 14; refine (MS.out _).mono ?_; rintro e w6 ⟨rfl, rfl⟩)
              | (go_at_call 15; refine (VV.out _ m2.out).mono ?_; rintro e w7 ⟨rfl, hb7⟩; replace hb7 := Lib.hid hb7))
            go_ret
            exact ⟨rfl, bl_trans B3.out hb7.out⟩
end Go.Proofs.YtpcdfjifhoofjaaDoor.Nm
