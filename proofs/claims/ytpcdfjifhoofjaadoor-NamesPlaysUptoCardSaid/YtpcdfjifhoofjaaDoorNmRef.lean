/- The walks of arbiterref01: letter, Part, Parts, Valid, Member, last, Package, Simple. -/
import Derived.Test.YtpcdfjifhoofjaaDoorNmWalk
namespace Go.Proofs.YtpcdfjifhoofjaaDoor.Nm
open Go Go.RowKit
set_option linter.unusedVariables false
set_option linter.unusedSimpArgs false
set_option maxHeartbeats 400000
set_option maxRecDepth 10000

theorem letB_digit (n : Int) : letB n false = (letB n true || decide (48 ≤ n ∧ n ≤ 57)) := by simp [letB]
theorem letB_true (n : Int) : letB n true = true ↔ ((97 ≤ n ∧ n ≤ 122) ∨ (65 ≤ n ∧ n ≤ 90) ∨ n = 95 ∨ n = 36) := by simp [letB, or_assoc]
theorem letB_any (n : Int) (b : Bool) (h : letB n true = true) : letB n b = true := by cases b <;> simp_all [letB]
theorem letB_digit' (n : Int) (h : ¬ letB n true = true) (h2 : n < 48 ∨ 57 < n) : letB n false = false := by
  have h := eq_false_of_ne_true h
  rw [letB_digit, h]
  simp
  omega
theorem isEmpty_size (s : ByteArray) : s.toList.isEmpty = decide (s.size = 0) := by
  rw [ByteArray.toList_eq, Bool.eq_iff_iff]
  simp only [List.isEmpty_iff, decide_eq_true_eq]
  rw [← List.length_eq_zero_iff, Array.length_toList]
  exact Iff.rfl
theorem rletter_any (n : Int) (h0 : 0 ≤ n) (h1 : n ≤ 255) (w : World) : Calls Tryd.prog 83 #[.int .u8 n] w fun e w' => e = .returned (.bool (letB n true)) ∧ w' = w := by
  go_enter Tryd.func83, Tryd.ntmps83
  go_wp2
  all_goals
    go_ret
    refine ⟨ret_bool ?_, rfl⟩
    rw [Bool.eq_iff_iff, letB_true]
    simp_all
  all_goals omega

theorem rpart_any (s : ByteArray) (hs : s.size ≤ 4611686018427387904) (w : World) : Calls Tryd.prog 63 #[.string s] w fun e w' => e = .returned (.bool (partB s)) ∧ w' = w := by
  go_enter Tryd.func63, Tryd.ntmps63
  go_wp2
  go_loop [3] (fun i => ∃ k : Nat, k ≤ s.size ∧ i = .int .i64 k ∧ lets s k = true) (fun i => s.size - (intOf i).toNat)
  case atStart => exact ⟨0, Nat.zero_le _, rfl, rfl⟩
  case round =>
    obtain ⟨k, hk, rfl, hl⟩ := hrel
    replace hl := Lib.hid hl
    by_cases hlt : k < s.size
    · have hb := bt_at s k hlt
      have hr := bt_range s k
      have hsn := lets_succ s k
      generalize hbk : bt s k = n at *
      replace hbk := Lib.hid hbk
      replace hsn := Lib.hid hsn
      have hno : ∀ b : Bool, b = ((k : Int) == 0) → letB n b = false → partB s = false := fun b e h => by rw [partB, lets_false s k s.size hlt (by rw [hbk.out, ← e]; exact h)]; rfl
      replace hno := Lib.hid hno
      go_wp2_with (go_at_call 83; refine (rletter_any _ (by omega) (by omega) _).mono ?_; rintro e w1 ⟨rfl, rfl⟩)
      · have hL : letB n true = true := by assumption
        go_round
        case rel => exact ⟨k + 1, by omega, by go_num, by rw [hsn.out, hl.out, letB_any n _ hL]; rfl⟩
        case measure => simp [intOf]; omega
      · have hL : ¬ letB n true = true := by assumption
        have hk0 : k = 0 := by assumption
        go_ret
        exact ⟨ret_bool (hno.out true (by rw [hk0]; rfl) (eq_false_of_ne_true hL)).symm, rfl⟩
      · have hL : ¬ letB n true = true := by assumption
        have hk0 : ¬ k = 0 := by assumption
        have hd : ((((k : Int) == 0) = true ∨ n < 48) ∨ 57 < n) := by assumption
        have hk1 : ((k : Int) == 0) = false := beq_eq_false_iff_ne.2 (by omega)
        rw [hk1] at hd
        go_ret
        exact ⟨ret_bool (hno.out false hk1.symm (letB_digit' n hL (by simp at hd; omega))).symm, rfl⟩
      · have hk0 : ¬ k = 0 := by assumption
        have hd : ((((k : Int) == 0) = false ∧ 48 ≤ n) ∧ n ≤ 57) := by assumption
        go_round
        case rel => exact ⟨k + 1, by omega, by go_num, by rw [hsn.out, hl.out, hd.1.1, letB_digit]; simp; omega⟩
        case measure => simp [intOf]; omega
      · have hL : ¬ letB n true = true := by assumption
        have hk0 : ¬ k = 0 := by assumption
        have hk1 : ((k : Int) == 0) = false := beq_eq_false_iff_ne.2 (by omega)
        have hd : n < 48 := by assumption
        go_ret
        exact ⟨ret_bool (hno.out false hk1.symm (letB_digit' n hL (by omega))).symm, rfl⟩
    · obtain rfl : k = s.size := by omega
      go_wp2
      go_ret
      exact ⟨ret_bool (by rw [partB, hl.out, isEmpty_size, Bool.eq_iff_iff]; simp only [decide_eq_true_eq, Bool.true_and, Bool.not_eq_true', decide_eq_false_iff_not]; omega), rfl⟩

theorem strsT : (Tryd.prog.info? 9).map (fun i => (i.zero, i.size, i.bytes)) = some (some (.string ⟨#[]⟩), 1, 16) := by kernel_rfl
def strL (l : List ByteArray) : List Value := l.map Value.string
theorem strL_snoc (l : List ByteArray) (x : ByteArray) : strL (l ++ [x]) = strL l ++ [.string x] := by simp [strL]
theorem RdS_own {w : World} {base g cap n : Nat} {e : TypeId} {l : List ByteArray} (h : w.ownsRow base e 1 (.slice (some ⟨g, 0, none⟩) n cap) n (strL l)) : RdS w g 0 l := by
  intro j x hx
  rw [Nat.zero_add]
  exact own_cell h j _ (by simp [strL, hx])

theorem rparts_any (s : ByteArray) (hs : s.size ≤ 4294967296) (w : World) : Calls Tryd.prog 24 #[.string s] w fun e w' =>
    (∃ g cap, e = .returned (.slice (some ⟨g, 0, none⟩) (partsB s).length cap) ∧ w'.ownsRow w.heap.size 9 1 (.slice (some ⟨g, 0, none⟩) (partsB s).length cap) (partsB s).length (strL (partsB s))) ∧ Below w.heap.size w w' := by
  go_enter Tryd.func24, Tryd.ntmps24
  go_wp2
  go_loopw [3, 4, 5] (fun v fr i wr => ∃ k : Nat, k ≤ s.size ∧ i = .int .i64 k ∧ fr = .int .i64 (rparts s k).2 ∧ wr.ownsRow w.heap.size 9 1 v (rparts s k).1.length (strL (rparts s k).1) ∧ Below w.heap.size w wr) (fun _ _ i _ => s.size - (intOf i).toNat)
  case atStart => exact ⟨0, Nat.zero_le _, rfl, rfl, World.ownsRow_nil _ _ _ _, Below.refl _ _⟩
  case round =>
    obtain ⟨k, hk, rfl, rfl, hown, hB⟩ := hrel
    have HO := Lib.hid hown
    have HB := Lib.hid hB
    have hsz := hB.size
    have hle := rparts_le s k
    clear hown hB
    by_cases hlt : k < s.size
    · have hb := bt_at s k hlt
      have hsn := rparts_succ s k
      generalize hbk : bt s k = n at *
      generalize hrk : rparts s k = lk at *
      obtain ⟨l, f⟩ := lk
      simp only at hle HO
      replace hsn := Lib.hid hsn
      clear hbk hrk
      have hfk : (f : Int) ≤ (k : Int) := by omega
      have hks : (k : Int) ≤ (s.size : Int) := by omega
      go_wp2_with (at_builtin; go_loud (refine append1 w.heap.size rfl _ _ _ 9 (.string ⟨#[]⟩) 1 16 rfl Tryd.underlying25 strsT rfl (by decide) _ _ _ [.string (s.extract f k)] rfl _ (by simp) rfl rfl (by simp [Value.oneCell']) (by exact HO.out) (by omega) (by omega) (by omega) ?_); intro v1 w1 hown1 hg1)
      · have hn : n = 47 := by simp_all
        have hown2 : w1.ownsRow w.heap.size 9 1 v1 (l ++ [s.extract f k]).length (strL (l ++ [s.extract f k])) := by rw [strL_snoc]; simpa using hown1
        go_roundw
        case rel => exact ⟨k + 1, by omega, by go_num, by rw [hsn.out, if_pos hn]; go_num, by rw [hsn.out, if_pos hn]; exact hown2, HB.out.grown hg1 (by omega) (own_base HO.out)⟩
        case measure => simp [intOf]; omega
      · have hn : ¬ n = 47 := by simp_all
        go_roundw
        case rel => exact ⟨k + 1, by omega, by go_num, by rw [hsn.out, if_neg hn], by rw [hsn.out, if_neg hn]; exact HO.out, HB.out⟩
        case measure => simp [intOf]; omega
    · obtain rfl : k = s.size := by omega
      have hall := rparts_all s
      generalize hrk : rparts s s.size = lk at *
      obtain ⟨l, f⟩ := lk
      simp only at hle HO hall
      have hf : (f : Int) ≤ (s.size : Int) := by omega
      replace hall := Lib.hid hall
      clear hrk
      go_wp2_with (at_builtin; go_loud (refine append1 w.heap.size rfl _ _ _ 9 (.string ⟨#[]⟩) 1 16 rfl Tryd.underlying25 strsT rfl (by decide) _ _ _ [.string (s.extract f s.size)] rfl _ (by simp) rfl rfl (by simp [Value.oneCell']) (by exact HO.out) (by omega) (by omega) (by omega) ?_); intro v1 w1 hown1 hg1)
      have hown2 : w1.ownsRow w.heap.size 9 1 v1 (l ++ [s.extract f s.size]).length (strL (l ++ [s.extract f s.size])) := by rw [strL_snoc]; simpa using hown1
      rw [hall.out] at hown2
      obtain ⟨g, cap, rfl, _, _⟩ := hown2.form (by rw [partsB_len]; omega)
      go_ret
      exact ⟨⟨g, cap, rfl, hown2⟩, HB.out.grown hg1 (by omega) (own_base HO.out)⟩

theorem rvalid_any (s : ByteArray) (w : World) : Calls Tryd.prog 36 #[.string s] w fun e w' => e = .returned (.bool (validB s)) ∧ Below w.heap.size w w' := by
  by_cases h60 : s.size ≤ 60
  · have P := Lib.hid (rparts_any s (by omega) w)
    have hle := partsB_le s
    have hxs : Hid (∀ x ∈ partsB s, x.size ≤ 4611686018427387904) := fun x hx => by have := partsB_size s x hx; omega
    have hfin : Hid (validB s = (partsB s).all partB) := by show _ = _; simp [validB, h60]
    generalize partsB s = l at *
    go_enter Tryd.func36, Tryd.ntmps36
    go_wp2_with (go_at_call 24; refine P.out.mono ?_; rintro e w1 ⟨⟨g, cap, rfl, hown⟩, hbl⟩; have hr := Lib.hid (RdS_own hown); clear hown; replace hbl := Lib.hid hbl)
    go_loop [4] (fun i => ∃ k : Nat, k ≤ l.length ∧ i = .int .i64 k ∧ Hid (∀ j, j < k → ∀ x, l[j]? = some x → partB x = true)) (fun i => l.length - (intOf i).toNat)
    case atStart => exact ⟨0, Nat.zero_le _, rfl, fun j hj => absurd hj (by omega)⟩
    case round =>
      obtain ⟨k, hk, rfl, hp⟩ := hrel
      by_cases hlt : k < l.length
      · obtain ⟨x, hx⟩ : ∃ x, l[k]? = some x := ⟨_, List.getElem?_eq_getElem hlt⟩
        have hcell := hr.out k x hx
        rw [Nat.zero_add] at hcell
        have V := Lib.hid (rpart_any x (hxs.out x (List.mem_of_getElem? hx)) w1)
        replace hx := Lib.hid hx
        go_wp2_with (go_at_call 63; refine V.out.mono ?_; rintro e w2 ⟨rfl, rfl⟩)
        · have hf : partB x = false := by simp_all
          go_ret
          exact ⟨ret_bool (by rw [hfin.out, bad_at l k x hx.out hf]), hbl.out⟩
        · have hf : partB x = true := by simp_all
          go_round
          case rel => exact ⟨k + 1, by omega, by go_num, fun j hj y hy => by
            by_cases e : j = k
            · subst e
              rw [hx.out] at hy
              cases hy
              exact hf
            · exact hp.out j (by omega) y hy⟩
          case measure => simp [intOf]; omega
      · go_wp2
        go_ret
        exact ⟨ret_bool (by rw [hfin.out, badFrom_all l k hp.out (by omega)]), hbl.out⟩
  · have hfin : Hid (validB s = false) := by show _ = _; simp [validB, h60]
    go_enter Tryd.func36, Tryd.ntmps36
    go_wp2_with fail
    go_ret
    exact ⟨ret_bool hfin.out.symm, Below.refl _ _⟩

theorem rmember_any (s : ByteArray) (w : World) : Calls Tryd.prog 37 #[.string s] w fun e w' => e = .returned (.bool (memberB s)) ∧ w' = w := by
  by_cases h60 : s.size ≤ 60
  · have P := Lib.hid (rpart_any s (by omega) w)
    go_enter Tryd.func37, Tryd.ntmps37
    go_wp2_with (go_at_call 63; refine P.out.mono ?_; rintro e w1 ⟨rfl, rfl⟩)
    all_goals
      go_ret
      refine ⟨ret_bool ?_, rfl⟩
      simp_all [memberB]
  · have h60' : decide (s.size ≤ 60) = false := by simpa using h60
    go_enter Tryd.func37, Tryd.ntmps37
    go_wp2_with fail
    all_goals
      go_ret
      refine ⟨ret_bool ?_, rfl⟩
      rw [memberB, h60']
      simp_all

/-- The last slash among the first k bytes. -/
def lastTo (s : ByteArray) : Nat → Int
  | 0 => -1
  | k + 1 => if bt s k = 47 then k else lastTo s k
theorem lastTo_succ (s : ByteArray) (k : Nat) : lastTo s (k + 1) = if bt s k = 47 then (k : Int) else lastTo s k := rfl
theorem lastTo_eq (s : ByteArray) (k : Nat) (hk : k ≤ s.size) : lastTo s k = Lib.lastIdx s 47 k := by
  induction k with
  | zero => rfl
  | succ k ih =>
    have e : ((s.data[k]!).toNat : Int) = bt s k := by
      rw [← bt_at s k hk, getElem!_pos s.data k hk]
      rfl
    rw [lastTo_succ, ih (by omega)]
    by_cases h : bt s k = 47
    · rw [if_pos h, Lib.lastIdx_hit s 47 k (by rw [e]; exact h)]
    · rw [if_neg h, Lib.lastIdx_miss s 47 k (by rw [e]; exact h)]
theorem lastTo_all (s : ByteArray) : lastTo s s.size = slash s := lastTo_eq s s.size (Nat.le_refl _)

theorem rlast_any (s : ByteArray) (hs : s.size ≤ 4611686018427387904) (w : World) : Calls Tryd.prog 69 #[.string s] w fun e w' => e = .returned (.int .i64 (slash s)) ∧ w' = w := by
  go_enter Tryd.func69, Tryd.ntmps69
  go_wp2
  go_loop [3, 4] (fun a i => ∃ k : Nat, k ≤ s.size ∧ i = .int .i64 k ∧ a = .int .i64 (lastTo s k)) (fun _ i => s.size - (intOf i).toNat)
  case atStart => exact ⟨0, Nat.zero_le _, rfl, rfl⟩
  case round =>
    obtain ⟨k, hk, rfl, rfl⟩ := hrel
    by_cases hlt : k < s.size
    · have hb := bt_at s k hlt
      have hsn := lastTo_succ s k
      generalize bt s k = n at *
      generalize lastTo s k = a at *
      replace hsn := Lib.hid hsn
      go_wp2
      · have hn : n = 47 := by simp_all
        go_round
        case rel => exact ⟨k + 1, by omega, by go_num, by rw [hsn.out, if_pos hn]⟩
        case measure => simp [intOf]; omega
      · have hn : ¬ n = 47 := by simp_all
        go_round
        case rel => exact ⟨k + 1, by omega, by go_num, by rw [hsn.out, if_neg hn]⟩
        case measure => simp [intOf]; omega
    · obtain rfl : k = s.size := by omega
      go_wp2
      go_ret
      exact ⟨ret_int (lastTo_all s), rfl⟩

theorem rpackage_any (s : ByteArray) (hs : s.size < 4611686018427387904) (w : World) : Calls Tryd.prog 38 #[.string s] w fun e w' => e = .returned (.string (pkgB s)) ∧ w' = w := by
  have L := Lib.hid (rlast_any s (by omega) w)
  have hb := slash_bd s
  have hfin : pkgB s = s.extract 0 (max 0 (slash s)).toNat := rfl
  generalize slash s = i at *
  replace hfin := Lib.hid hfin
  by_cases h0 : i < 0
  · go_enter Tryd.func38, Tryd.ntmps38
    go_wp2_with (go_at_call 69; refine L.out.mono ?_; rintro e w1 ⟨rfl, rfl⟩)
    go_ret
    refine ⟨?_, rfl⟩
    have e0 : s.extract 0 0 = ⟨#[]⟩ := bytes_inj (by simp [ex_data])
    rw [hfin.out, show (max 0 i).toNat = 0 by omega, e0]
    rfl
  · go_enter Tryd.func38, Tryd.ntmps38
    go_wp2_with (go_at_call 69; refine L.out.mono ?_; rintro e w1 ⟨rfl, rfl⟩)
    go_ret
    exact ⟨by rw [hfin.out, show (max 0 i).toNat = i.toNat by omega]; rfl, rfl⟩
theorem rsimple_any (s : ByteArray) (hs : s.size < 4611686018427387904) (w : World) : Calls Tryd.prog 39 #[.string s] w fun e w' => e = .returned (.string (simpleB s)) ∧ w' = w := by
  have L := Lib.hid (rlast_any s (by omega) w)
  have hb := slash_bd s
  have hfin : simpleB s = s.extract (slash s + 1).toNat s.size := rfl
  generalize slash s = i at *
  replace hfin := Lib.hid hfin
  go_enter Tryd.func39, Tryd.ntmps39
  go_wp2_with (go_at_call 69; refine L.out.mono ?_; rintro e w1 ⟨rfl, rfl⟩)
  go_ret
  exact ⟨by rw [hfin.out]; rfl, rfl⟩
end Go.Proofs.YtpcdfjifhoofjaaDoor.Nm
