/- The walks of package names: letter, part, Member. -/
import Derived.Test.YtpcdfjifhoofjaaDoorProg
import Derived.Test.YtpcdfjifhoofjaaDoorBase
import Derived.Test.YtpcdfjifhoofjaaDoorNmPure
import Derived.Test.YtpcdfjifhoofjaaDoorNmCut
import Derived.Test.YtpcdfjifhoofjaaDoorShelf
import Derived.WalkLawsBesides
namespace Go.Proofs.YtpcdfjifhoofjaaDoor.Nm
open Go Go.RowKit
set_option linter.unusedVariables false
set_option linter.unusedSimpArgs false
set_option maxHeartbeats 400000

theorem letter_any (n : Int) (first : Bool) (h0 : 0 ≤ n) (h1 : n ≤ 255) (w : World) : Calls Tryd.prog 77 #[.int .u8 n, .bool first] w fun e w' => e = .returned (.bool (letB n first)) ∧ w' = w := by
  go_enter Tryd.func77, Tryd.ntmps77
  go_wp2
  all_goals
    go_ret
    refine ⟨ret_bool ?_, rfl⟩
    simp_all [letB]
  all_goals omega

theorem part_any (s : ByteArray) (hs : s.size ≤ 4611686018427387904) (w : World) : Calls Tryd.prog 56 #[.string s] w fun e w' => e = .returned (.bool (partB s)) ∧ w' = w := by
  go_enter Tryd.func56, Tryd.ntmps56
  go_wp2
  go_loop [6] (fun i => ∃ k : Nat, k ≤ s.size ∧ i = .int .i64 k ∧ lets s k = true) (fun i => s.size - (intOf i).toNat)
  case atStart => exact ⟨0, Nat.zero_le _, rfl, rfl⟩
  case round =>
    obtain ⟨k, hk, rfl, hl⟩ := hrel
    replace hl := Lib.hid hl
    by_cases hlt : k < s.size
    · have hb := bt_at s k hlt
      have hr := bt_range s k
      have hsn := lets_succ s k
      generalize hbk : bt s k = n at *
      replace hbk := Lib.hid hbk
      replace hsn := Lib.hid hsn
      go_wp2_with (go_at_call 77; refine (letter_any _ _ (by omega) (by omega) _).mono ?_; rintro e w1 ⟨rfl, rfl⟩)
      · have hL : letB n ((k : Int) == 0) = false := by simp_all
        go_ret
        exact ⟨ret_bool (by rw [partB, lets_false s k s.size hlt (by rw [hbk.out]; exact hL)]; rfl), rfl⟩
      · have hL : letB n ((k : Int) == 0) = true := by simp_all
        go_round
        case rel => exact ⟨k + 1, by omega, by go_num, by rw [hsn.out, hl.out, hL]; rfl⟩
        case measure => simp [intOf]; omega
    · obtain rfl : k = s.size := by omega
      go_wp2
      go_ret
      exact ⟨ret_bool (by rw [partB, hl.out]; rfl), rfl⟩

/-- The library's variable MaxLen is there. -/
def ML (w : World) : Prop := ∃ m : Int, w.cell? ⟨0, 0, none⟩ = some (.int .i64 m)
theorem ML.below {w w1 : World} (h : ML w) (hb : Below w.heap.size w w1) : ML w1 := by
  obtain ⟨m, hm⟩ := h
  exact ⟨m, bl_cell hb hm⟩

def strC (l : List ByteArray) : Array Value := (l.map Value.string).toArray
theorem parts_any (s : ByteArray) (hs : s.size < 4294967281) (w : World) (hm : ML w) : Calls Tryd.prog 17 #[.string s] w fun e w' =>
    e = .returned (.slice (some ⟨w.heap.size, 0, none⟩) (partsB s).length (partsB s).length) ∧ w' = w.alloc (.cells (strC (partsB s)) 9) := by
  obtain ⟨m, hm⟩ := hm
  have S := Tryd.strings_Split s ⟨#[47]⟩ m w hs hm (by decide)
  rw [← partsB_len] at S
  replace S := Lib.hid S
  clear hm
  go_enter Tryd.func17, Tryd.ntmps17
  go_wp2_with (go_at_call 60; refine S.out.mono ?_; rintro e w1 ⟨rfl, rfl⟩)
  go_ret
  exact ⟨rfl, rfl⟩

theorem member_any (s : ByteArray) (w : World) : Calls Tryd.prog 14 #[.string s] w fun e w' => e = .returned (.bool (memberB s)) ∧ w' = w := by
  by_cases h60 : s.size ≤ 60
  · have P := Lib.hid (part_any s (by omega) w)
    go_enter Tryd.func14, Tryd.ntmps14
    go_wp2_with (go_at_call 56; refine P.out.mono ?_; rintro e w1 ⟨rfl, rfl⟩)
    all_goals
      go_ret
      refine ⟨ret_bool ?_, rfl⟩
      simp_all [memberB]
  · have h60' : decide (s.size ≤ 60) = false := by simpa using h60
    go_enter Tryd.func14, Tryd.ntmps14
    go_wp2_with fail
    all_goals
      go_ret
      refine ⟨ret_bool ?_, rfl⟩
      rw [memberB, h60']
      simp_all

theorem valid1_any (s : ByteArray) (hs : s.size ≤ 4611686018427387904) (w : World) : Calls Tryd.prog 58 #[.string s] w fun e w' => e = .returned (.bool (!partB s)) ∧ w' = w := by
  have P := Lib.hid (part_any s hs w)
  go_enter Tryd.func58, Tryd.ntmps58
  go_wp2_with (go_at_call 56; refine P.out.mono ?_; rintro e w1 ⟨rfl, rfl⟩)
  go_ret
  exact ⟨rfl, rfl⟩

/-- A row of strings that is read. -/
def RdS (w : World) (b o : Nat) (l : List ByteArray) : Prop := ∀ j x, l[j]? = some x → w.cell? ⟨b, o + j, none⟩ = some (.string x)
theorem RdS.below {w w1 : World} {b o : Nat} {l : List ByteArray} (h : RdS w b o l) (hb : Below w.heap.size w w1) : RdS w1 b o l := fun j x hx => bl_cell hb (h j x hx)
theorem RdS.new (w : World) (l : List ByteArray) (t : TypeId) : RdS (w.alloc (.cells (strC l) t)) w.heap.size 0 l := by
  intro j x hx
  rw [Nat.zero_add, cell_new]
  simp [strC, hx]

theorem indexFunc_any (l : List ByteArray) (hl : l.length ≤ 4611686018427387904) (hs : ∀ x ∈ l, x.size ≤ 4611686018427387904) (b o c : Nat) (w : World) (hr : RdS w b o l) :
    Calls Tryd.prog 78 #[.slice (some ⟨b, o, none⟩) l.length c, .func (.func 58) #[] #[]] w fun e w' => (∃ n : Int, e = .returned (.int .i64 n) ∧ decide (0 ≤ n) = !l.all partB) ∧ w' = w := by
  go_enter Tryd.func78, Tryd.ntmps78
  go_wp2
  go_loop [8] (fun i => ∃ k : Nat, k ≤ l.length ∧ i = .int .i64 k ∧ Hid (∀ j, j < k → ∀ x, l[j]? = some x → partB x = true)) (fun i => l.length - (intOf i).toNat)
  case atStart => exact ⟨0, Nat.zero_le _, rfl, fun j hj => absurd hj (by omega)⟩
  case round =>
    obtain ⟨k, hk, rfl, hp⟩ := hrel
    replace hr := Lib.hid hr
    replace hs := Lib.hid hs
    by_cases hlt : k < l.length
    · obtain ⟨x, hx⟩ : ∃ x, l[k]? = some x := ⟨_, List.getElem?_eq_getElem hlt⟩
      have hcell := hr.out k x hx
      have V := Lib.hid (valid1_any x (hs.out x (List.mem_of_getElem? hx)) w)
      replace hx := Lib.hid hx
      go_wp2_with (go_at_call 58; refine V.out.mono ?_; rintro e w1 ⟨rfl, rfl⟩)
      · have hf : partB x = false := by simp_all
        go_ret
        exact ⟨⟨k, rfl, by rw [bad_at l k x hx.out hf]; simp⟩, rfl⟩
      · have hf : partB x = true := by simp_all
        go_round
        case rel => exact ⟨k + 1, by omega, by go_num, fun j hj y hy => by
          by_cases e : j = k
          · subst e
            rw [hx.out] at hy
            cases hy
            exact hf
          · exact hp.out j (by omega) y hy⟩
        case measure => simp [intOf]; omega
    · go_wp2
      go_ret
      exact ⟨⟨-1, rfl, by rw [badFrom_all l k hp.out (by omega)]; rfl⟩, rfl⟩

theorem containsFunc_any (l : List ByteArray) (hl : l.length ≤ 4611686018427387904) (hs : ∀ x ∈ l, x.size ≤ 4611686018427387904) (b o c : Nat) (w : World) (hr : RdS w b o l) :
    Calls Tryd.prog 57 #[.slice (some ⟨b, o, none⟩) l.length c, .func (.func 58) #[] #[]] w fun e w' => e = .returned (.bool (!l.all partB)) ∧ w' = w := by
  have I := Lib.hid (indexFunc_any l hl hs b o c w hr)
  clear hs hr
  go_enter Tryd.func57, Tryd.ntmps57
  go_wp2_with (go_at_call 78; refine I.out.mono ?_; rintro e w1 ⟨⟨n, rfl, hn⟩, rfl⟩; replace hn := Lib.hid hn)
  go_ret
  exact ⟨ret_bool hn.out, rfl⟩

theorem valid_any (s : ByteArray) (w : World) (hm : ML w) : Calls Tryd.prog 15 #[.string s] w fun e w' => e = .returned (.bool (validB s)) ∧ Below w.heap.size w w' := by
  by_cases h60 : s.size ≤ 60
  · have P := Lib.hid (parts_any s (by omega) w hm)
    have hle := partsB_le s
    have C := Lib.hid (containsFunc_any (partsB s) (by omega) (fun x hx => by have := partsB_size s x hx; omega) w.heap.size 0 (partsB s).length _ (RdS.new w (partsB s) 9))
    clear hm
    go_enter Tryd.func15, Tryd.ntmps15
    go_wp2_with (first
      | (go_at_call 17; refine P.out.mono ?_; rintro e w1 ⟨rfl, rfl⟩)
      | (go_at_call 57; refine C.out.mono ?_; rintro e w1 ⟨rfl, rfl⟩))
    go_ret
    exact ⟨ret_bool (by simp [validB, h60]), (Below.refl _ _).alloc (Nat.le_refl _) _⟩
  · have h60' : decide (s.size ≤ 60) = false := by simpa using h60
    clear hm
    go_enter Tryd.func15, Tryd.ntmps15
    go_wp2_with fail
    go_ret
    exact ⟨ret_bool (by rw [validB, h60']; rfl), Below.refl _ _⟩

/-- The place of the last slash, or -1. -/
def slash (s : ByteArray) : Int := Lib.lastIndexByte s 47
theorem slash_bd (s : ByteArray) : -1 ≤ slash s ∧ slash s < s.size := by
  rcases Lib.lastIndexByte_spec s 47 with ⟨h, _⟩ | ⟨i, hi, h, _⟩
  · unfold slash; omega
  · unfold slash; omega
def pkgB (s : ByteArray) : ByteArray := s.extract 0 (max 0 (slash s)).toNat
def simpleB (s : ByteArray) : ByteArray := s.extract (slash s + 1).toNat s.size
theorem package_any (s : ByteArray) (hs : s.size < 4611686018427387904) (w : World) : Calls Tryd.prog 16 #[.string s] w fun e w' => e = .returned (.string (pkgB s)) ∧ w' = w := by
  have L : Calls Tryd.prog 59 #[.string s, .int .u8 47] w fun e w' => e = .returned (.int .i64 (slash s)) ∧ w' = w := Tryd.strings_LastIndexByte s 47 hs w
  replace L := Lib.hid L
  have hb := slash_bd s
  have hfin : pkgB s = s.extract 0 (max 0 (slash s)).toNat := rfl
  generalize slash s = i at *
  have hb2 : 0 ≤ max 0 i ∧ max 0 i ≤ (s.size : Int) := by omega
  replace hfin := Lib.hid hfin
  go_enter Tryd.func16, Tryd.ntmps16
  go_wp2_with (go_at_call 59; refine L.out.mono ?_; rintro e w1 ⟨rfl, rfl⟩)
  go_ret
  exact ⟨by rw [hfin.out]; rfl, rfl⟩
theorem simple_any (s : ByteArray) (hs : s.size < 4611686018427387904) (w : World) : Calls Tryd.prog 18 #[.string s] w fun e w' => e = .returned (.string (simpleB s)) ∧ w' = w := by
  have L : Calls Tryd.prog 59 #[.string s, .int .u8 47] w fun e w' => e = .returned (.int .i64 (slash s)) ∧ w' = w := Tryd.strings_LastIndexByte s 47 hs w
  replace L := Lib.hid L
  have hb := slash_bd s
  have hfin : simpleB s = s.extract (slash s + 1).toNat s.size := rfl
  generalize slash s = i at *
  replace hfin := Lib.hid hfin
  go_enter Tryd.func18, Tryd.ntmps18
  go_wp2_with (go_at_call 59; refine L.out.mono ?_; rintro e w1 ⟨rfl, rfl⟩)
  go_ret
  exact ⟨by rw [hfin.out]; rfl, rfl⟩

theorem isNaN_any (s : ByteArray) (w : World) : Calls Tryd.prog 91 #[.string s] w fun e w' => e = .returned (.bool false) ∧ w' = w := by
  go_enter Tryd.func91, Tryd.ntmps91
  go_wp2
  go_ret
  exact ⟨by simp, rfl⟩
/-- The order of two texts: -1, 0, 1. -/
def cmpS (a b : ByteArray) : Int := if Op.bytesLess a.toList b.toList then -1 else if a.toList == b.toList then 0 else 1
theorem cmpStr_any (a b : ByteArray) (w : World) : Calls Tryd.prog 81 #[.string a, .string b] w fun e w' => e = .returned (.int .i64 (cmpS a b)) ∧ w' = w := by
  go_enter Tryd.func81, Tryd.ntmps81
  go_wp2_with (go_at_call 91; refine (isNaN_any _ _).mono ?_; rintro e w1 ⟨rfl, rfl⟩)
  all_goals
    go_ret
    refine ⟨ret_int ?_, rfl⟩
    simp_all [cmpS]
/-- slices.Compare -/
def cmpL : List ByteArray → List ByteArray → Int
  | [], [] => 0
  | [], _ :: _ => -1
  | _ :: _, [] => 1
  | a :: l, b :: m => if cmpS a b = 0 then cmpL l m else cmpS a b
theorem cmpL_drop (l m : List ByteArray) (k : Nat) (a b : ByteArray) (ha : l[k]? = some a) (hb : m[k]? = some b) : cmpL (l.drop k) (m.drop k) = if cmpS a b = 0 then cmpL (l.drop (k + 1)) (m.drop (k + 1)) else cmpS a b := by
  obtain ⟨h1, rfl⟩ := List.getElem?_eq_some_iff.1 ha
  obtain ⟨h2, rfl⟩ := List.getElem?_eq_some_iff.1 hb
  rw [List.drop_eq_getElem_cons h1, List.drop_eq_getElem_cons h2, cmpL]
theorem cmpL_end1 (l m : List ByteArray) (k : Nat) (h1 : k < l.length) (h2 : m.length ≤ k) : cmpL (l.drop k) (m.drop k) = 1 := by
  rw [List.drop_eq_getElem_cons h1, List.drop_of_length_le h2, cmpL]
theorem cmpL_end2 (l m : List ByteArray) (k : Nat) (h1 : l.length ≤ k) (h2 : k < m.length) : cmpL (l.drop k) (m.drop k) = -1 := by
  rw [List.drop_eq_getElem_cons h2, List.drop_of_length_le h1, cmpL]
theorem cmpL_end0 (l m : List ByteArray) (k : Nat) (h1 : l.length ≤ k) (h2 : m.length ≤ k) : cmpL (l.drop k) (m.drop k) = 0 := by
  rw [List.drop_of_length_le h2, List.drop_of_length_le h1, cmpL]

theorem sliceCompare_any (l m : List ByteArray) (hl : l.length ≤ 4611686018427387904) (hm : m.length ≤ 4611686018427387904) (b1 o1 c1 b2 o2 c2 : Nat) (w : World) (r1 : RdS w b1 o1 l) (r2 : RdS w b2 o2 m) :
    Calls Tryd.prog 61 #[.slice (some ⟨b1, o1, none⟩) l.length c1, .slice (some ⟨b2, o2, none⟩) m.length c2] w fun e w' => e = .returned (.int .i64 (cmpL l m)) ∧ w' = w := by
  replace r1 := Lib.hid r1
  replace r2 := Lib.hid r2
  go_enter Tryd.func61, Tryd.ntmps61
  go_wp2
  go_loop [11] (fun i => ∃ k : Nat, k ≤ l.length ∧ k ≤ m.length ∧ i = .int .i64 k ∧ Hid (cmpL l m = cmpL (l.drop k) (m.drop k))) (fun i => l.length - (intOf i).toNat)
  case atStart => exact ⟨0, Nat.zero_le _, Nat.zero_le _, rfl, rfl⟩
  case round =>
    obtain ⟨k, hk1, hk2, rfl, hc⟩ := hrel
    by_cases hlt1 : k < l.length
    · obtain ⟨x, hx⟩ : ∃ x, l[k]? = some x := ⟨_, List.getElem?_eq_getElem hlt1⟩
      have cx := r1.out k x hx
      by_cases hlt2 : k < m.length
      · obtain ⟨y, hy⟩ : ∃ y, m[k]? = some y := ⟨_, List.getElem?_eq_getElem hlt2⟩
        have cy := r2.out k y hy
        have hd := Lib.hid (cmpL_drop l m k x y hx hy)
        clear hx hy
        go_wp2_with (go_at_call 81; refine (cmpStr_any _ _ _).mono ?_; rintro e w1 ⟨rfl, rfl⟩)
        · have hne : cmpS x y ≠ 0 := by simp_all
          go_ret
          exact ⟨ret_int (by rw [hc.out, hd.out, if_neg hne]), rfl⟩
        · have hne : cmpS x y = 0 := by simp_all
          go_round
          case rel => exact ⟨k + 1, by omega, by omega, by go_num, by show _ = _; rw [hc.out, hd.out, if_pos hne]⟩
          case measure => simp [intOf]; omega
      · have hd := Lib.hid (cmpL_end1 l m k hlt1 (by omega))
        clear hx
        go_wp2
        go_ret
        exact ⟨ret_int (by rw [hc.out, hd.out]), rfl⟩
    · by_cases hlt2 : k < m.length
      · have hd := Lib.hid (cmpL_end2 l m k (by omega) hlt2)
        go_wp2
        go_ret
        exact ⟨ret_int (by rw [hc.out, hd.out]), rfl⟩
      · have hd := Lib.hid (cmpL_end0 l m k (by omega) (by omega))
        go_wp2
        go_ret
        exact ⟨ret_int (by rw [hc.out, hd.out]), rfl⟩

theorem compare_any (a b : ByteArray) (ha : a.size < 4294967281) (hb : b.size < 4294967281) (w : World) (hm : ML w) : Calls Tryd.prog 19 #[.string a, .string b] w fun e w' => e = .returned (.int .i64 (cmpL (partsB a) (partsB b))) ∧ Below w.heap.size w w' := by
  have b1 : Below w.heap.size w (w.alloc (.cells (strC (partsB a)) 9)) := (Below.refl _ _).alloc (Nat.le_refl _) _
  have P1 := Lib.hid (parts_any a ha w hm)
  have P2 := Lib.hid (parts_any b hb _ (hm.below b1))
  have b2 : Below (w.alloc (.cells (strC (partsB a)) 9)).heap.size (w.alloc (.cells (strC (partsB a)) 9)) ((w.alloc (.cells (strC (partsB a)) 9)).alloc (.cells (strC (partsB b)) 9)) := (Below.refl _ _).alloc (Nat.le_refl _) _
  have hla := partsB_le a
  have hlb := partsB_le b
  have e1 : (w.alloc (.cells (strC (partsB a)) 9)).heap.size = w.heap.size + 1 := by simp
  have R2 := RdS.new (w.alloc (.cells (strC (partsB a)) 9)) (partsB b) 9
  rw [e1] at R2
  have C := Lib.hid (sliceCompare_any (partsB a) (partsB b) (by omega) (by omega) w.heap.size 0 (partsB a).length (w.heap.size + 1) 0 (partsB b).length _ ((RdS.new w (partsB a) 9).below b2) R2)
  have B := Lib.hid (bl_trans b1 b2)
  clear hm b1 b2 e1 R2
  go_enter Tryd.func19, Tryd.ntmps19
  go_wp2_with (go_at_call 17; refine P1.out.mono ?_; clear P1; rintro e w1 ⟨rfl, rfl⟩)
  refine P2.out.mono ?_
  clear P2
  rintro e w1 ⟨rfl, rfl⟩
  go_wp2_with (go_at_call 61; refine C.out.mono ?_; rintro e w1 ⟨rfl, rfl⟩)
  go_ret
  exact ⟨rfl, B.out⟩
end Go.Proofs.YtpcdfjifhoofjaaDoor.Nm
