/- Lemmas and contracts for the statement of PwArraysSteps: joined by program out of this session's texts. -/
import Derived.Test.YtmlifggklaeieaaDoorBdPwArraysSteps2
import Derived.Outline
/- slices.Contains of texts, shapes.header, walked by hand. -/
namespace Go.Proofs.YtmlifggklaeieaaDoor.Pt
open Go Go.RowKit Go.Proofs.YtmlifggklaeieaaDoor.Nm Go.Proofs.YtmlifggklaeieaaDoor.Ty Go.Proofs.YtmlifggklaeieaaDoor.Cd Go.Proofs.YtmlifggklaeieaaDoorW.PrintWords Go.Proofs.YtmlifggklaeieaaDoorW.PrintLast Go.Proofs.YtmlifggklaeieaaDoorW.PrintMore
set_option linter.unusedVariables false
set_option linter.unusedSimpArgs false
set_option maxHeartbeats 2000000
set_option maxRecDepth 100000

theorem rd_at {l : List ByteArray} {i : Nat} (h : i < l.length) : l[i]? = some (rdOf ByteArray.empty l (i : Int)) := by
  simp [rdOf, List.getD_eq_getElem?_getD, List.getElem?_eq_getElem h]
theorem ba_eq {a b : ByteArray} (h : a.toList = b.toList) : a = b := by
  rw [ByteArray.toList_eq, ByteArray.toList_eq] at h
  exact ByteArray.ext (Array.toList_inj.1 h)
/-- The place of a text, or -1. -/
def placeF : List ByteArray → ByteArray → Int → Int
  | [], _, _ => -1
  | n :: l, s, i => if s.toList = n.toList then i else placeF l s (i + 1)
theorem place_in (l : List ByteArray) (s : ByteArray) : ∀ (i : Int), 0 ≤ i → (placeF l s i ≥ 0 ↔ s ∈ l) := by
  induction l with
  | nil => intro i hi; simp [placeF]
  | cons n l ih =>
    intro i hi
    unfold placeF
    by_cases h : s.toList = n.toList
    · rw [if_pos h, ba_eq h]
      simp
      omega
    · rw [if_neg h, ih (i + 1) (by omega)]
      have : s ≠ n := fun e => h (by rw [e])
      simp [this]
theorem place_step (l : List ByteArray) (s : ByteArray) (i : Nat) (n : ByteArray) (hx : l[i]? = some n) : placeF (l.drop i) s i = if s.toList = n.toList then (i : Int) else placeF (l.drop (i + 1)) s ((i + 1 : Nat) : Int) := by
  have hi : i < l.length := by
    rcases Nat.lt_or_ge i l.length with h | h
    · exact h
    · rw [List.getElem?_eq_none h] at hx; cases hx
  rw [List.drop_eq_getElem_cons hi, placeF]
  rw [List.getElem?_eq_getElem hi] at hx
  rw [Option.some.inj hx]
  push_cast
  rfl
theorem index_any (A : Option Addr) (c : Nat) (l : List ByteArray) (s : ByteArray) (w : World) (hk : Kd.C Kd.string w A l.length l) :
    Calls Tryd.prog 74 #[.slice A l.length c, .string s] w fun e w' => e = .returned (.int .i64 (placeF l s 0)) ∧ w' = w := by
  have HK := Lib.hid hk
  have hmx := Kd.C_max hk
  clear hk
  generalize hr : placeF l s 0 = r
  replace hr := Lib.hid hr
  go_enter Tryd.func74, Tryd.ntmps74
  go_wp2_with fail
  go_loopw [8] (fun v8 wr => ∃ j : Nat, j ≤ l.length ∧ v8 = .int .i64 j ∧ Hid (placeF (l.drop j) s j = r) ∧ wr = w) (fun v8 _ => l.length - (intOf v8).toNat)
  case atStart => exact ⟨0, Nat.zero_le _, rfl, hr, rfl⟩
  case round =>
    obtain ⟨j, hj, rfl, HT, hw⟩ := hrel
    subst hw
    by_cases hlt : j < l.length
    · have hjd : decide (j < l.length) = true := decide_eq_true hlt
      obtain ⟨ad, cc, rfl, hcl, hKK, hic⟩ := Kd.C_get HK.out ByteArray.empty (j : Int) (by omega) (by omega)
      have hx := rd_at hlt
      obtain rfl : cc = [.string (rdOf ByteArray.empty l (j : Int))] := hKK
      have hic := hic 0 _ rfl
      rw [show Kd.string.sz = 1 from rfl, Nat.mul_one, Nat.add_zero, Int.toNat_natCast] at hic
      generalize rdOf ByteArray.empty l (j : Int) = n at *
      have hst := HT.out
      rw [place_step l s j n hx] at hst
      clear HT hx hcl
      by_cases he : s.toList = n.toList
      · rw [if_pos he] at hst
        have hq : (s.toList == n.toList) = true := beq_iff_eq.2 he
        subst hst
        go_wp2
        go_ret
        exact ⟨rfl, rfl⟩
      · rw [if_neg he] at hst
        have hq : (s.toList == n.toList) = false := beq_eq_false_iff_ne.2 he
        replace hst := Lib.hid hst
        go_wp2
        exact ⟨⟨j + 1, by omega, by push_cast; rfl, hst, trivial⟩, by simp [intOf]; omega⟩
    · have hjd : decide (j < l.length) = false := decide_eq_false hlt
      have h1 := HT.out
      rw [List.drop_eq_nil_of_le (by omega), placeF] at h1
      subst h1
      go_wp2
      go_ret
      exact ⟨rfl, rfl⟩
def memB (l : List ByteArray) (s : ByteArray) : Bool := decide (placeF l s 0 ≥ 0)
theorem memB_iff {l : List ByteArray} {s : ByteArray} : memB l s = true ↔ s ∈ l := by
  unfold memB
  rw [decide_eq_true_eq]
  exact place_in l s 0 (by omega)
theorem conts_any (A : Option Addr) (c : Nat) (l : List ByteArray) (s : ByteArray) (w : World) (hk : Kd.C Kd.string w A l.length l) :
    Calls Tryd.prog 62 #[.slice A l.length c, .string s] w fun e w' => e = .returned (.bool (memB l s)) ∧ w' = w := by
  have C1 := Lib.hid (index_any A c l s w hk)
  have hd : Hid (memB l s = decide (placeF l s 0 ≥ 0)) := Lib.hid rfl
  clear hk
  generalize placeF l s 0 = p at *
  go_enter Tryd.func62, Tryd.ntmps62
  go_wp2_with fail
  refine C1.out.mono ?_
  rintro e w2 ⟨rfl, rfl⟩
  go_wp2
  go_ret
  exact ⟨by rw [hd.out]; rfl, rfl⟩
def ifOk (l : List ByteArray) (f0 : ByteArray) (j : Nat) (n : ByteArray) : Bool := validB n && (!(n.toList == f0.toList) && !memB (l.take j) n)
/-- What is asked of the interfaces from a place on. -/
def ifB (l : List ByteArray) (f0 : ByteArray) : Nat → List ByteArray → Bool
  | _, [] => true
  | j, n :: r => ifOk l f0 j n && ifB l f0 (j + 1) r
theorem ifB_step {l : List ByteArray} {f0 n : ByteArray} {j : Nat} (hx : l[j]? = some n) : ifB l f0 j (l.drop j) = (ifOk l f0 j n && ifB l f0 (j + 1) (l.drop (j + 1))) := by
  have hi : j < l.length := by
    rcases Nat.lt_or_ge j l.length with h | h
    · exact h
    · rw [List.getElem?_eq_none h] at hx; cases hx
  rw [List.drop_eq_getElem_cons hi, ifB]
  rw [List.getElem?_eq_getElem hi] at hx
  rw [Option.some.inj hx]
def headB (f0 f1 : ByteArray) (l : List ByteArray) (f3 f4 : Int) : Bool :=
  validB f0 && (validB f1 && (!(f0.toList == f1.toList) && (clsV f3 == 0 && (ifB l f0 0 l && (decide ((l.length : Int) ≤ 20) && (decide (0 ≤ f4) && decide (f4 ≤ 9)))))))
theorem head_any (f0 f1 : ByteArray) (A2 : Option Addr) (c2 : Nat) (l2 : List ByteArray) (f3 f4 : Int) (v5 : Value) (h5 : ∃ A n c, v5 = .slice A n c) (w : World) (hk : Kd.C Kd.string w A2 l2.length l2) (hc : l2.length ≤ c2) :
    Calls Tryd.prog 53 #[.agg #[.string f0, .string f1, .slice A2 l2.length c2, .int .i64 f3, .int .i64 f4, v5]] w fun e w' => e = .returned (.bool (headB f0 f1 l2 f3 f4)) ∧ Below w.heap.size w w' := by
  obtain ⟨A5, n5, c5, rfl⟩ := h5
  have hmx := Kd.C_max hk
  have HK := Lib.hid hk
  have hcc := hc
  have B0 := Lib.hid (blk_new w (.cells #[.string f0, .string f1, .slice A2 l2.length c2, .int .i64 f3, .int .i64 f4, .slice A5 n5 c5] 44))
  have AB := Lib.hid ((Below.refl w.heap.size w).alloc (Nat.le_refl _) (.cells #[.string f0, .string f1, .slice A2 l2.length c2, .int .i64 f3, .int .i64 f4, .slice A5 n5 c5] 44))
  have CV := Lib.hid (fun s W => names_Valid.calls s _ W rfl)
  have CF := Lib.hid (fun W => cls_any f3 W)
  clear hk
  generalize hr : headB f0 f1 l2 f3 f4 = r
  replace hr := Lib.hid hr
  unfold headB at hr
  generalize hv0 : validB f0 = b0 at hr
  generalize hv1 : validB f1 = b1 at hr
  have C0 := Lib.hid (CV.out f0 (w.alloc (.cells #[.string f0, .string f1, .slice A2 l2.length c2, .int .i64 f3, .int .i64 f4, .slice A5 n5 c5] 44)))
  have C1 := Lib.hid (fun W => CV.out f1 W)
  rw [hv0] at C0
  rw [hv1] at C1
  generalize clsV f3 = cv at *
  go_enter Tryd.func53, Tryd.ntmps53
  go_upto_region 1 with (fail)
  go_cut [1, 27] (fun v1 v27 wr => v1 = .pointer (some ⟨w.heap.size, 0, none⟩) ∧ v27 = .bool (!b0 || (!b1 || ((f0.toList == f1.toList) || (cv != 0)))) ∧ Hid (wr.heap[w.heap.size]? = some (.cells #[.string f0, .string f1, .slice A2 l2.length c2, .int .i64 f3, .int .i64 f4, .slice A5 n5 c5] 44 (0, 0))) ∧ Hid (Below w.heap.size w wr))
  case first =>
    go_wp2_with fail
    refine C0.out.mono ?_
    rintro e w1 ⟨rfl, hb1⟩
    have B1 := Lib.hid (blk_below B0.out hb1)
    have H1 := Lib.hid (AB.out.trans (hb1.mono AB.out.size))
    clear hb1 C0
    have q1 : w1.cell? ⟨w.heap.size, 1, none⟩ = some (.string f1) := (blk_cell B1.out 1).trans rfl
    cases b0 with
    | false =>
      go_wp2
      go_meet
      case rel => exact ⟨rfl, rfl, B1, H1⟩
    | true =>
      go_wp2_with fail
      refine (C1.out _).mono ?_
      rintro e w2 ⟨rfl, hb2⟩
      have B2 := Lib.hid (blk_below B1.out hb2)
      have H2 := Lib.hid (H1.out.trans (hb2.mono H1.out.size))
      clear hb2 C1 q1
      have q0 : w2.cell? ⟨w.heap.size, 0, none⟩ = some (.string f0) := (blk_cell B2.out 0).trans rfl
      have q1 : w2.cell? ⟨w.heap.size, 1, none⟩ = some (.string f1) := (blk_cell B2.out 1).trans rfl
      have q3 : w2.cell? ⟨w.heap.size, 3, none⟩ = some (.int .i64 f3) := (blk_cell B2.out 3).trans rfl
      cases b1 with
      | false =>
        go_wp2
        go_meet
        case rel => exact ⟨rfl, rfl, B2, H2⟩
      | true =>
        cases he : (f0.toList == f1.toList) with
        | true =>
          go_wp2
          go_meet
          case rel => exact ⟨rfl, by rw [he]; rfl, B2, H2⟩
        | false =>
          go_wp2_with fail
          refine (CF.out _).mono ?_
          rintro e w3 ⟨rfl, rfl⟩
          go_wp2
          go_meet
          case rel => exact ⟨rfl, by rw [he]; rfl, B2, H2⟩
  case rest =>
    clear B0 AB C0 C1 CF
    obtain ⟨rfl, rfl, B2, H2⟩ := hcut
    cases hbad : (!b0 || (!b1 || ((f0.toList == f1.toList) || (cv != 0)))) with
    | true =>
      have hr2 : false = r := by
        rw [← hr.out]
        cases b0 <;> cases b1 <;> cases he : (f0.toList == f1.toList) <;> simp_all
      subst hr2
      clear hbad
      go_wp2
      go_ret
      exact ⟨rfl, H2.out⟩
    | false =>
      have hr2 : Hid ((ifB l2 f0 0 l2 && (decide ((l2.length : Int) ≤ 20) && (decide (0 ≤ f4) && decide (f4 ≤ 9)))) = r) := Lib.hid (by
        rw [← hr.out]
        cases b0 <;> cases b1 <;> cases he : (f0.toList == f1.toList) <;> simp_all)
      clear hbad hr hv0 hv1
      have q2 : wc.cell? ⟨w.heap.size, 2, none⟩ = some (.slice A2 l2.length c2) := (blk_cell B2.out 2).trans rfl
      go_wp2_with fail
      go_loopw [31] (fun v31 wr => ∃ j : Nat, j ≤ l2.length ∧ v31 = .int .i64 j ∧ Hid (ifB l2 f0 0 l2 = ifB l2 f0 j (l2.drop j)) ∧ Hid (wr.heap[w.heap.size]? = some (.cells #[.string f0, .string f1, .slice A2 l2.length c2, .int .i64 f3, .int .i64 f4, .slice A5 n5 c5] 44 (0, 0))) ∧ Hid (Below w.heap.size w wr)) (fun v31 _ => l2.length - (intOf v31).toNat)
      case atStart => exact ⟨0, Nat.zero_le _, rfl, Lib.hid rfl, B2, H2⟩
      case round =>
        clear B2 H2 q2
        obtain ⟨j, hj, rfl, HT, B2, H2⟩ := hrel
        by_cases hlt : j < l2.length
        · have hjd : decide (j < l2.length) = true := decide_eq_true hlt
          obtain ⟨ad, cc, rfl, hcl, hKK, hic⟩ := Kd.C_get (Kd.C_below HK.out H2.out) ByteArray.empty (j : Int) (by omega) (by omega)
          have hx := rd_at hlt
          obtain rfl : cc = [.string (rdOf ByteArray.empty l2 (j : Int))] := hKK
          have hic := hic 0 _ rfl
          rw [show Kd.string.sz = 1 from rfl, Nat.mul_one, Nat.add_zero, Int.toNat_natCast] at hic
          generalize rdOf ByteArray.empty l2 (j : Int) = n at *
          have hst : Hid (ifB l2 f0 0 l2 = (ifOk l2 f0 j n && ifB l2 f0 (j + 1) (l2.drop (j + 1)))) := Lib.hid (HT.out.trans (ifB_step hx))
          have hok : Hid (ifOk l2 f0 j n = (validB n && (!(n.toList == f0.toList) && !memB (l2.take j) n))) := Lib.hid rfl
          have C3 := Lib.hid (CV.out n wr)
          obtain ⟨i0, hi0, _, hsz0, _⟩ := info_parts info9
          obtain ⟨hcut0, _, _⟩ := print_take_of (P := Tryd.prog) Value.string (⟨#[]⟩ : ByteArray) 41 9 .i64 Tryd.underlying41 hi0 hsz0 (some ad) c2 l2 (j : Int) (by omega) (by omega) hcc
          rw [Int.toNat_natCast] at hcut0
          have C4 := Lib.hid (fun (W : World) (hb : Below w.heap.size w W) => conts_any (some ad) c2 (l2.take j) n W (Kd.C_take (Kd.C_below HK.out hb) (by omega)))
          clear HT hx hcl hi0 hsz0
          generalize ifOk l2 f0 j n = ok at *
          go_wp2_with fail
          refine C3.out.mono ?_
          rintro e w3 ⟨rfl, hb3⟩
          have B3 := Lib.hid (blk_below B2.out hb3)
          have H3 := Lib.hid (H2.out.trans (hb3.mono H2.out.size))
          clear hb3 C3 B2 H2 hic
          have q0 : w3.cell? ⟨w.heap.size, 0, none⟩ = some (.string f0) := (blk_cell B3.out 0).trans rfl
          have q2 : w3.cell? ⟨w.heap.size, 2, none⟩ = some (.slice (some ad) l2.length c2) := (blk_cell B3.out 2).trans rfl
          have hbad : Hid (ok = false → false = r) := Lib.hid (fun h => by rw [← hr2.out, hst.out, h]; rfl)
          cases hv : validB n with
          | false =>
            have h1 := hok.out
            rw [hv, Bool.false_and] at h1
            obtain rfl := hbad.out h1
            go_wp2
            go_ret
            exact ⟨rfl, H3.out⟩
          | true =>
            cases he : (n.toList == f0.toList) with
            | true =>
              have h1 := hok.out
              rw [hv, he] at h1
              obtain rfl := hbad.out h1
              go_wp2
              go_ret
              exact ⟨rfl, H3.out⟩
            | false =>
              have C5 := C4.out w3 H3.out
              rw [show (l2.take j).length = j by rw [List.length_take]; omega] at C5
              replace C5 := Lib.hid C5
              go_wp2_with fail
              refine C5.out.mono ?_
              rintro e w4 ⟨rfl, rfl⟩
              clear C5 C4
              cases hm : memB (l2.take j) n with
              | true =>
                have h1 := hok.out
                rw [hv, he, hm] at h1
                obtain rfl := hbad.out h1
                go_wp2
                go_ret
                exact ⟨rfl, H3.out⟩
              | false =>
                have h1 : Hid (ok = true) := Lib.hid (by rw [hok.out, hv, he, hm]; rfl)
                clear hv he hm
                go_wp2
                exact ⟨⟨j + 1, by omega, by push_cast; rfl, Lib.hid (by rw [hst.out, h1.out, Bool.true_and]), B3, H3⟩, by simp [intOf]; omega⟩
        · have hjd : decide (j < l2.length) = false := decide_eq_false hlt
          have h1 := HT.out
          rw [List.drop_eq_nil_of_le (by omega), ifB] at h1
          rw [h1, Bool.true_and] at hr2
          clear h1 HT
          have q2 : wr.cell? ⟨w.heap.size, 2, none⟩ = some (.slice A2 l2.length c2) := (blk_cell B2.out 2).trans rfl
          have q4 : wr.cell? ⟨w.heap.size, 4, none⟩ = some (.int .i64 f4) := (blk_cell B2.out 4).trans rfl
          cases d1 : decide ((l2.length : Int) ≤ 20) with
          | false =>
            have h2 := hr2.out
            rw [d1] at h2
            simp at h2
            subst h2
            go_wp2
            go_ret
            exact ⟨rfl, H2.out⟩
          | true =>
            cases d2 : decide (0 ≤ f4) with
            | false =>
              have h2 := hr2.out
              rw [d1, d2] at h2
              simp at h2
              subst h2
              go_wp2
              go_ret
              exact ⟨rfl, H2.out⟩
            | true =>
              rw [d1, d2, Bool.true_and, Bool.true_and] at hr2
              go_wp2
              go_ret
              exact ⟨by rw [← hr2.out]; rfl, H2.out⟩
end Go.Proofs.YtmlifggklaeieaaDoor.Pt

/- shapes.Check, walked by hand. -/
namespace Go.Proofs.YtmlifggklaeieaaDoor.Pt
open Go Go.RowKit Go.Proofs.YtmlifggklaeieaaDoor.Nm Go.Proofs.YtmlifggklaeieaaDoor.Ty Go.Proofs.YtmlifggklaeieaaDoor.Cd Go.Proofs.YtmlifggklaeieaaDoorW.PrintWords Go.Proofs.YtmlifggklaeieaaDoorW.PrintLast Go.Proofs.YtmlifggklaeieaaDoorW.PrintMore
set_option linter.unusedVariables false
set_option linter.unusedSimpArgs false
set_option maxHeartbeats 2000000
set_option maxRecDepth 100000

def mOk (l : List S51) (b : Bool) (j : Nat) (m : S51) : Bool := methB m b && findM 0 l m.f0 m.f1 == (j : Int)
/-- What is asked of the methods from a place on. -/
def msB (l : List S51) (b : Bool) : Nat → List S51 → Bool
  | _, [] => true
  | j, m :: r => mOk l b j m && msB l b (j + 1) r
theorem msB_step {l : List S51} {b : Bool} {m : S51} {j : Nat} (hx : l[j]? = some m) : msB l b j (l.drop j) = (mOk l b j m && msB l b (j + 1) (l.drop (j + 1))) := by
  have hi : j < l.length := by
    rcases Nat.lt_or_ge j l.length with h | h
    · exact h
    · rw [List.getElem?_eq_none h] at hx; cases hx
  rw [List.drop_eq_getElem_cons hi, msB]
  rw [List.getElem?_eq_getElem hi] at hx
  rw [Option.some.inj hx]
/-- Classes that are sound. -/
def soundB (c : S44) : Bool :=
  !decide ((c.f5.length : Int) > 40) && (!decide ((c.f2.length : Int) > 20) && (headB c.f0 c.f1 c.f2 c.f3 c.f4 && msB c.f5 (Go.bits .and .i64 c.f3 512 != 0) 0 c.f5))
/-- What shapes.Check answers. -/
def chkC (c : S44) : Int := if soundB c = true then 0 else 1
theorem rd51 {l : List S51} {i : Nat} (h : i < l.length) : l[i]? = some (rd_T51 l (i : Int)) := by
  simp [rd_T51, List.getD_eq_getElem?_getD, List.getElem?_eq_getElem h]
theorem chk_any (f0 f1 : ByteArray) (A2 : Option Addr) (c2 : Nat) (l2 : List ByteArray) (f3 f4 : Int) (A5 : Option Addr) (c5 : Nat) (l5 : List S51) (w : World) (hk : Kd.C Kd.string w A2 l2.length l2) (hc : l2.length ≤ c2) (hk5 : Kd.C k51 w A5 l5.length l5) (hc5 : l5.length ≤ c5) :
    Calls Tryd.prog 42 #[.agg #[.string f0, .string f1, .slice A2 l2.length c2, .int .i64 f3, .int .i64 f4, .slice A5 l5.length c5]] w fun e w' => e = .returned (.int .i64 (chkC ⟨f0, f1, l2, f3, f4, l5⟩)) ∧ Below w.heap.size w w' := by
  have B0 := Lib.hid (blk_new w (.cells #[.string f0, .string f1, .slice A2 l2.length c2, .int .i64 f3, .int .i64 f4, .slice A5 l5.length c5] 44))
  have AB := Lib.hid ((Below.refl w.heap.size w).alloc (Nat.le_refl _) (.cells #[.string f0, .string f1, .slice A2 l2.length c2, .int .i64 f3, .int .i64 f4, .slice A5 l5.length c5] 44))
  have HK := Lib.hid hk5
  have CH := Lib.hid (head_any f0 f1 A2 c2 l2 f3 f4 (.slice A5 l5.length c5) ⟨_, _, _, rfl⟩ _ (Kd.C_below hk AB.out) hc)
  have CFd := Lib.hid (fun (W : World) (hb : Below w.heap.size w W) (hl : l5.length ≤ 4611686018427387904) (nm ds : ByteArray) => shapes_Find.calls f0 f1 A2 c2 l2 f3 f4 A5 c5 l5 nm ds _ W (Kd.C_below hk hb) hc (Kd.C_below hk5 hb) hc5 (if_pos hl))
  clear hk hk5
  generalize hr : chkC ⟨f0, f1, l2, f3, f4, l5⟩ = r
  replace hr := Lib.hid hr
  unfold chkC soundB at hr
  simp only at hr
  generalize headB f0 f1 l2 f3 f4 = hb_ at *
  have q2 : (w.alloc (.cells #[.string f0, .string f1, .slice A2 l2.length c2, .int .i64 f3, .int .i64 f4, .slice A5 l5.length c5] 44)).cell? ⟨w.heap.size, 2, none⟩ = some (.slice A2 l2.length c2) := (blk_cell B0.out 2).trans rfl
  go_enter Tryd.func42, Tryd.ntmps42
  go_upto_region 1 with (fail)
  cases d5 : decide ((l5.length : Int) > 40) with
  | true =>
    rw [d5] at hr
    have h := hr.out
    simp at h
    subst h
    go_wp2
    go_ret
    exact ⟨rfl, AB.out⟩
  | false =>
    rw [d5, Bool.not_false, Bool.true_and] at hr
    cases d2 : decide ((l2.length : Int) > 20) with
    | true =>
      rw [d2] at hr
      have h := hr.out
      simp at h
      subst h
      go_wp2
      go_ret
      exact ⟨rfl, AB.out⟩
    | false =>
      rw [d2, Bool.not_false, Bool.true_and] at hr
      go_wp2_with fail
      refine CH.out.mono ?_
      rintro e w1 ⟨rfl, hb1⟩
      have B1 := Lib.hid (blk_below B0.out hb1)
      have H1 := Lib.hid (AB.out.trans (hb1.mono AB.out.size))
      clear CH B0 AB hb1 q2
      cases hb_ with
      | false =>
        have h := hr.out
        simp at h
        subst h
        go_wp2
        go_ret
        exact ⟨rfl, H1.out⟩
      | true =>
        rw [Bool.true_and] at hr
        have hl5 : l5.length ≤ 40 := by
          have := of_decide_eq_false d5
          omega
        clear d5 d2
        have q5 : w1.cell? ⟨w.heap.size, 5, none⟩ = some (.slice A5 l5.length c5) := (blk_cell B1.out 5).trans rfl
        go_wp2_with fail
        go_loopw [23] (fun v23 wr => ∃ j : Nat, j ≤ l5.length ∧ v23 = .int .i64 j ∧ Hid (msB l5 (Go.bits .and .i64 f3 512 != 0) 0 l5 = msB l5 (Go.bits .and .i64 f3 512 != 0) j (l5.drop j)) ∧ Hid (wr.heap[w.heap.size]? = some (.cells #[.string f0, .string f1, .slice A2 l2.length c2, .int .i64 f3, .int .i64 f4, .slice A5 l5.length c5] 44 (0, 0))) ∧ Hid (Below w.heap.size w wr)) (fun v23 _ => l5.length - (intOf v23).toNat)
        case atStart => exact ⟨0, Nat.zero_le _, rfl, Lib.hid rfl, B1, H1⟩
        case round =>
          clear B1 H1 q5
          obtain ⟨j, hj, rfl, HT, B2, H2⟩ := hrel
          by_cases hlt : j < l5.length
          · have hjd : decide (j < l5.length) = true := decide_eq_true hlt
            obtain ⟨ad, A6, c6, rfl, p0, p1, p2, p3, p4, p5, hc6, K6⟩ := at_T51 (Kd.C_below HK.out H2.out) (j : Int) (by omega) (by omega)
            have hx := rd51 hlt
            rw [Int.toNat_natCast] at p0 p1 p2 p3 p4 p5
            generalize rd_T51 l5 (j : Int) = x at *
            obtain ⟨x0, x1, x2, x3, x4, x5⟩ := x
            simp only at p0 p1 p2 p3 p4 p5 hc6 K6
            have hst : Hid (msB l5 (Go.bits .and .i64 f3 512 != 0) 0 l5 = (mOk l5 (Go.bits .and .i64 f3 512 != 0) j ⟨x0, x1, x2, x3, x4, x5⟩ && msB l5 (Go.bits .and .i64 f3 512 != 0) (j + 1) (l5.drop (j + 1)))) := Lib.hid (HT.out.trans (msB_step hx))
            have hok : Hid (mOk l5 (Go.bits .and .i64 f3 512 != 0) j ⟨x0, x1, x2, x3, x4, x5⟩ = (methB ⟨x0, x1, x2, x3, x4, x5⟩ (Go.bits .and .i64 f3 512 != 0) && findM 0 l5 x0 x1 == (j : Int))) := Lib.hid rfl
            have D0 := Lib.hid (blk_new wr (.cells #[.string x0, .string x1, .int .i64 x2, .int .i64 x3, .int .i64 x4, .slice A6 x5.length c6] 51))
            have hal := (Below.refl wr.heap.size wr).alloc (Nat.le_refl _) (.cells #[.string x0, .string x1, .int .i64 x2, .int .i64 x3, .int .i64 x4, .slice A6 x5.length c6] 51)
            have B3 := Lib.hid (blk_below B2.out hal)
            have H3 := Lib.hid (H2.out.trans (hal.mono H2.out.size))
            have CM := Lib.hid (meth_any x0 x1 x2 x3 x4 A6 c6 x5 (Go.bits .and .i64 f3 512 != 0) _ (Kd.C_below K6 hal) hc6)
            have q3 : (wr.alloc (.cells #[.string x0, .string x1, .int .i64 x2, .int .i64 x3, .int .i64 x4, .slice A6 x5.length c6] 51)).cell? ⟨w.heap.size, 3, none⟩ = some (.int .i64 f3) := (blk_cell B3.out 3).trans rfl
            clear HT hx K6 hal B2 H2
            have hbad : Hid (mOk l5 (Go.bits .and .i64 f3 512 != 0) j ⟨x0, x1, x2, x3, x4, x5⟩ = false → (1 : Int) = r) := Lib.hid (fun h => by rw [← hr.out, hst.out, h]; rfl)
            generalize mOk l5 (Go.bits .and .i64 f3 512 != 0) j ⟨x0, x1, x2, x3, x4, x5⟩ = ok at *
            generalize methB ⟨x0, x1, x2, x3, x4, x5⟩ (Go.bits .and .i64 f3 512 != 0) = mb at *
            go_wp2_with fail
            refine CM.out.mono ?_
            rintro e w4 ⟨rfl, hb4⟩
            have B4 := Lib.hid (blk_below B3.out hb4)
            have D4 := Lib.hid (blk_below D0.out hb4)
            have H4 := Lib.hid (H3.out.trans (hb4.mono H3.out.size))
            clear CM hb4 B3 D0 H3 q3 p0 p1 p2 p3 p4 p5
            cases mb with
            | false =>
              have h1 := hok.out
              rw [Bool.false_and] at h1
              obtain rfl := hbad.out h1
              go_wp2
              go_ret
              exact ⟨rfl, H4.out⟩
            | true =>
              have q0 : w4.cell? ⟨w.heap.size, 0, none⟩ = some (.string f0) := (blk_cell B4.out 0).trans rfl
              have q1 : w4.cell? ⟨w.heap.size, 1, none⟩ = some (.string f1) := (blk_cell B4.out 1).trans rfl
              have q2 : w4.cell? ⟨w.heap.size, 2, none⟩ = some (.slice A2 l2.length c2) := (blk_cell B4.out 2).trans rfl
              have q3 : w4.cell? ⟨w.heap.size, 3, none⟩ = some (.int .i64 f3) := (blk_cell B4.out 3).trans rfl
              have q4 : w4.cell? ⟨w.heap.size, 4, none⟩ = some (.int .i64 f4) := (blk_cell B4.out 4).trans rfl
              have q5 : w4.cell? ⟨w.heap.size, 5, none⟩ = some (.slice (some ad) l5.length c5) := (blk_cell B4.out 5).trans rfl
              have r0 : w4.cell? ⟨wr.heap.size, 0, none⟩ = some (.string x0) := (blk_cell D4.out 0).trans rfl
              have r1 : w4.cell? ⟨wr.heap.size, 1, none⟩ = some (.string x1) := (blk_cell D4.out 1).trans rfl
              have CD := Lib.hid (CFd.out w4 H4.out (by omega) x0 x1)
              rw [Bool.true_and] at hok
              generalize findM 0 l5 x0 x1 = fm at *
              go_wp2_with fail
              refine CD.out.mono ?_
              rintro e w5 ⟨rfl, hb5⟩
              have B5 := Lib.hid (blk_below B4.out hb5)
              have H5 := Lib.hid (H4.out.trans (hb5.mono H4.out.size))
              clear CD hb5 B4 D4 H4 q0 q1 q2 q3 q4 q5 r0 r1
              by_cases hf : fm = (j : Int)
              · have hne : (fm != (j : Int)) = false := bne_eq_false_iff_eq.2 hf
                have h1 : Hid (ok = true) := Lib.hid (hok.out.trans (beq_iff_eq.2 hf))
                clear hf
                go_wp2
                exact ⟨⟨j + 1, by omega, by push_cast; rfl, Lib.hid (by rw [hst.out, h1.out, Bool.true_and]), B5, H5⟩, by simp [intOf]; omega⟩
              · have hne : (fm != (j : Int)) = true := bne_iff_ne.2 hf
                have h1 := hok.out.trans (beq_eq_false_iff_ne.2 hf)
                obtain rfl := hbad.out h1
                clear hf
                go_wp2
                go_ret
                exact ⟨rfl, H5.out⟩
          · have hjd : decide (j < l5.length) = false := decide_eq_false hlt
            have h1 := HT.out
            rw [List.drop_eq_nil_of_le (by omega), msB] at h1
            have h2 := hr.out
            rw [h1] at h2
            simp at h2
            subst h2
            clear h1
            go_wp2
            go_ret
            exact ⟨rfl, H2.out⟩
/-! what a sound class is known to be -/
theorem valid_size {s : ByteArray} (h : validB s = true) : s.size ≤ 60 := by
  unfold validB at h
  rw [Bool.and_eq_true] at h
  exact of_decide_eq_true h.1
theorem ifB_mem {l : List ByteArray} {f0 : ByteArray} : ∀ (r : List ByteArray) (j : Nat), ifB l f0 j r = true → ∀ n ∈ r, validB n = true
  | [], _, _ => fun n hn => by cases hn
  | m :: r, j, h => by
    rw [ifB, Bool.and_eq_true] at h
    intro n hn
    rcases List.mem_cons.1 hn with rfl | hn
    · have := h.1
      unfold ifOk at this
      rw [Bool.and_eq_true] at this
      exact this.1
    · exact ifB_mem r (j + 1) h.2 n hn
theorem msB_mem {l : List S51} {b : Bool} : ∀ (r : List S51) (j : Nat), msB l b j r = true → ∀ m ∈ r, methB m b = true
  | [], _, _ => fun n hn => by cases hn
  | m :: r, j, h => by
    rw [msB, Bool.and_eq_true] at h
    intro n hn
    rcases List.mem_cons.1 hn with rfl | hn
    · have := h.1
      unfold mOk at this
      rw [Bool.and_eq_true] at this
      exact this.1
    · exact msB_mem r (j + 1) h.2 n hn
theorem meth_code {m : S51} {b : Bool} (h : methB m b = true) : m.f5.length ≤ 200 := by
  unfold methB at h
  rw [Bool.and_eq_true, Bool.and_eq_true] at h
  have h2 := h.2.2
  by_cases ha : Go.bits .and .i64 m.f2 1024 = 0
  · rw [if_pos ha] at h2
    simp only [Bool.and_eq_true] at h2
    have h3 := h2.2.2.2.2
    unfold codeB wthB at h3
    simp only [Bool.and_eq_true, decide_eq_true_eq] at h3
    omega
  · rw [if_neg ha] at h2
    simp only [Bool.and_eq_true, beq_iff_eq] at h2
    omega
theorem chk_sizes {c : S44} (h : chkC c = 0) : c.f0.size ≤ 60 ∧ c.f1.size ≤ 60 ∧ c.f2.length ≤ 20 ∧ (∀ n ∈ c.f2, n.size ≤ 60) ∧ c.f5.length ≤ 40 ∧ ∀ m ∈ c.f5, m.f5.length ≤ 200 := by
  have hs : soundB c = true := by
    cases hs : soundB c with
    | true => rfl
    | false => unfold chkC at h; rw [hs] at h; cases h
  unfold soundB headB at hs
  simp only [Bool.and_eq_true, Bool.not_eq_true', decide_eq_false_iff_not] at hs
  obtain ⟨h5, h2, ⟨v0, v1, _, _, hi, _⟩, hm⟩ := hs
  exact ⟨valid_size v0, valid_size v1, by omega, fun n hn => valid_size (ifB_mem _ _ hi n hn), by omega, fun m hm2 => meth_code (msB_mem _ _ hm m hm2)⟩
end Go.Proofs.YtmlifggklaeieaaDoor.Pt

/- hier.World.Define: a class arrives. -/
namespace Go.Proofs.YtmlifggklaeieaaDoor.Hi
open Go Go.RowKit Go.Proofs.YtmlifggklaeieaaDoor.Nm Go.Proofs.YtmlifggklaeieaaDoorW.PrintWords Go.Proofs.YtmlifggklaeieaaDoorW.PrintLast Go.Proofs.YtmlifggklaeieaaDoorW.PrintMore Go.Proofs.YtmlifggklaeieaaDoor.Pt
set_option linter.unusedVariables false
set_option linter.unusedSimpArgs false
set_option maxHeartbeats 4000000
set_option maxRecDepth 100000

/-- The numbers of the interfaces that a class names, or the first error. -/
def ifsF (es : List Ent) (c : S44) : List ByteArray → Int × List Int
  | [] => (0, [])
  | n :: l => if (aboveF es c n true).2 = 0 then ((ifsF es c l).1, (aboveF es c n true).1 :: (ifsF es c l).2) else ((aboveF es c n true).2, [])
/-- What comes of a class that arrives, shapes.Check having answered r: the classes, the number, the error. -/
def defF (r : Int) (es : List Ent) (c : S44) : List Ent × Int × Int :=
  if r ≠ 0 then (es, 0, r) else if es.length ≥ 300 then (es, 0, 5) else if (nameF es c.f0).2 = 0 then (es, 0, 25) else
  if (aboveF es c c.f1 false).2 ≠ 0 then (es, 0, (aboveF es c c.f1 false).2) else if (ifsF es c c.f2).1 ≠ 0 then (es, 0, (ifsF es c c.f2).1) else
  (es ++ [putE es c (aboveF es c c.f1 false).1 (ifsF es c c.f2).2], es.length, 0)
/-- What is known of the classes of a world. -/
structure Good (es : List Ent) : Prop where
  fine : ∀ x ∈ es, Fine x
  tree : Tree es
  clo : ∀ x ∈ es, Rng es.length x.clo ∧ 0 ≤ x.depth ∧ x.depth ≤ es.length
  len : es.length ≤ 300
theorem ifsF_take (es : List Ent) (c : S44) : ∀ (l : List ByteArray) (k : Nat), (∀ (j : Nat) (n : ByteArray), j < k → l[j]? = some n → (aboveF es c n true).2 = 0) → (∀ (n : ByteArray), l[k]? = some n → (aboveF es c n true).2 ≠ 0 → (ifsF es c l).1 = (aboveF es c n true).2) ∧ (l.length ≤ k → ifsF es c l = (0, l.map fun n => (aboveF es c n true).1))
  | [], k, _ => ⟨fun n h => by simp at h, fun _ => rfl⟩
  | m :: l, 0, _ => ⟨fun n h hn => by
      simp at h
      subst h
      unfold ifsF
      rw [if_neg hn], fun h => by simp at h⟩
  | m :: l, k + 1, h => by
    have h0 := h 0 m (by omega) rfl
    obtain ⟨h1, h2⟩ := ifsF_take es c l k (fun j n hj hn => h (j + 1) n (by omega) hn)
    refine ⟨fun n hn hne => ?_, fun hl => ?_⟩
    · unfold ifsF
      rw [if_pos h0]
      exact h1 n hn hne
    · have h3 := h2 (by simpa using hl)
      unfold ifsF
      rw [if_pos h0, h3]
      rfl
theorem nameF_in {es : List Ent} {s : ByteArray} (h : (nameF es s).2 = 0) : 0 ≤ (nameF es s).1 ∧ (nameF es s).1 < es.length ∧ (ent es (nameF es s).1).c.f0 = s := by
  unfold nameF at h ⊢
  cases hf : (es.map (·.c.f0)).findIdx? (fun t => decide (t = s)) with
  | none => rw [hf] at h; simp at h
  | some i =>
    obtain ⟨hi, hs, _⟩ := List.findIdx?_eq_some_iff_getElem.1 hf
    have hs := of_decide_eq_true hs
    rw [List.length_map] at hi
    refine ⟨by simp, by simpa using hi, ?_⟩
    have := ent_get (List.getElem?_eq_getElem hi)
    show (ent es (i : Int)).c.f0 = s
    rw [this]
    simpa using hs
theorem nameF_not {es : List Ent} {s : ByteArray} (h : ¬ (nameF es s).2 = 0) : nameF es s = (0, 6) ∧ s ∉ es.map (·.c.f0) := by
  unfold nameF at h ⊢
  cases hf : (es.map (·.c.f0)).findIdx? (fun t => decide (t = s)) with
  | none =>
    refine ⟨rfl, fun hm => ?_⟩
    rw [List.findIdx?_eq_none_iff] at hf
    have := hf s hm
    simp at this
  | some i => rw [hf] at h; simp at h
theorem aboveF_in {es : List Ent} {c : S44} {n : ByteArray} {want : Bool} (h : (aboveF es c n want).2 = 0) : 0 ≤ (aboveF es c n want).1 ∧ (aboveF es c n want).1 < es.length ∧ (aboveF es c n want).1 = (nameF es n).1 ∧ (nameF es n).2 = 0 := by
  unfold aboveF at h ⊢
  split at h
  · rename_i h0
    rw [if_pos h0]
    have h1 := nameF_in h0
    unfold fitF at h ⊢
    split at h
    · simp at h
    · split at h
      · simp at h
      · split at h
        · simp at h
        · rename_i a b c
          rw [if_neg a, if_neg b, if_neg c]
          exact ⟨h1.1, h1.2.1, rfl, h0⟩
  · simp at h
theorem fin_no {w W : World} {base g : Nat} {v : Value} {mb : Nat} {ps : List Nat} {es : List Ent} (h : WIn w base g v mb ps es) (hbs : base ≤ w.heap.size) (hb : Below w.heap.size w W) {V : List Ent × Int × Int} {err : Int} (hV : (es, (0 : Int), err) = V) :
    Ending.returned (.tuple #[.int .i64 0, .int .i64 err]) = Ending.returned (.tuple #[.int .i64 V.2.1, .int .i64 V.2.2]) ∧ ∃ v' ps', WIn W base g v' mb ps' V.1 ∧ Below base w W ∧ KeptT w W := by
  subst hV
  exact ⟨rfl, v, ps, h.below hb, hb.mono hbs, KeptT.of_below hb⟩
theorem define_any (w : World) (base g : Nat) (v : Value) (mb : Nat) (ps : List Nat) (es : List Ent) (h : WIn w base g v mb ps es) (hbs : base ≤ w.heap.size) (hg : Good es)
    (f0 f1 : ByteArray) (A2 : Option Addr) (c2 : Nat) (l2 : List ByteArray) (f3 f4 : Int) (A5 : Option Addr) (c5 : Nat) (l5 : List S51) (h2 : Kd.C Kd.string w A2 l2.length l2) (hc2 : l2.length ≤ c2) (h5 : Kd.C k51 w A5 l5.length l5) (hc5 : l5.length ≤ c5)
    (r : Int) (hr : chkC ⟨f0, f1, l2, f3, f4, l5⟩ = r) (hck : r = 0 → f0.size ≤ 1000 ∧ f1.size ≤ 1000 ∧ l2.length ≤ 1000 ∧ (∀ n ∈ l2, n.size ≤ 1000) ∧ Short l5) :
    Calls Tryd.prog 29 #[.pointer (some ⟨g, 0, none⟩), .agg #[.string f0, .string f1, .slice A2 l2.length c2, .int .i64 f3, .int .i64 f4, .slice A5 l5.length c5]] w fun e w' =>
      e = .returned (.tuple #[.int .i64 (defF r es ⟨f0, f1, l2, f3, f4, l5⟩).2.1, .int .i64 (defF r es ⟨f0, f1, l2, f3, f4, l5⟩).2.2]) ∧ ∃ v' ps', WIn w' base g v' mb ps' (defF r es ⟨f0, f1, l2, f3, f4, l5⟩).1 ∧ Below base w w' ∧ KeptT w w' := by
  generalize hV : defF r es ⟨f0, f1, l2, f3, f4, l5⟩ = V
  replace hV := Lib.hid hV
  have B0 := Lib.hid (blk_new w (.cells #[.string f0, .string f1, .slice A2 l2.length c2, .int .i64 f3, .int .i64 f4, .slice A5 l5.length c5] 44))
  have AB : Hid (Below w.heap.size w (w.alloc (.cells #[.string f0, .string f1, .slice A2 l2.length c2, .int .i64 f3, .int .i64 f4, .slice A5 l5.length c5] 44))) := Lib.hid ((Below.refl _ _).alloc (Nat.le_refl _) _)
  have HW := Lib.hid h
  have H2 := Lib.hid h2
  have H5 := Lib.hid h5
  have CK := Lib.hid (fun (W : World) (hb : Below w.heap.size w W) => chk_any f0 f1 A2 c2 l2 f3 f4 A5 c5 l5 W (Kd.C_below h2 hb) hc2 (Kd.C_below h5 hb) hc5)
  rw [hr] at CK
  have HK := Lib.hid hck
  have HG := Lib.hid hg
  clear h h2 h5 hck hg hr
  have C1 := Lib.hid (CK.out _ AB.out)
  go_enter Tryd.func29, Tryd.ntmps29
  go_wp2_with fail
  refine C1.out.mono ?_
  rintro e w1 ⟨rfl, hb1⟩
  have HB := Lib.hid (AB.out.trans (hb1.mono AB.out.size))
  have B1 := Lib.hid (blk_below B0.out hb1)
  clear hb1 C1 CK AB B0
  have HW1 := Lib.hid (HW.out.below HB.out)
  by_cases h0 : r = 0
  · subst h0
    obtain ⟨s0, s1, s2, s3, s5⟩ := HK.out rfl
    replace s3 := Lib.hid s3
    replace s5 := Lib.hid s5
    have q0 : w1.cell? ⟨g, 0, none⟩ = some v := (blk_cell HW1.out.blk 0).trans rfl
    have q1 : w1.cell? ⟨g, 1, none⟩ = some (.map (some mb)) := (blk_cell HW1.out.blk 1).trans rfl
    obtain ⟨Av, cv, rfl⟩ := Kd.R_slice HW.out.row
    have hpl := Lib.hid HW.out.len
    by_cases h300 : es.length ≥ 300
    · have hd : decide ((ps.length : Int) ≥ 300) = true := decide_eq_true (by rw [hpl.out]; omega)
      have hV2 : Hid ((es, (0 : Int), (5 : Int)) = V) := Lib.hid (by rw [← hV.out, defF, if_neg (by simp), if_pos h300])
      clear hV
      go_wp2
      go_ret2
      exact fin_no HW.out hbs HB.out hV2.out
    · have hd : decide ((ps.length : Int) ≥ 300) = false := decide_eq_false (by rw [hpl.out]; omega)
      have hlen : es.length ≤ 1000 := by omega
      have hl3 := Lib.hid (show ¬ es.length ≥ 300 from h300)
      clear h300
      obtain ⟨D, hD, hS⟩ := HW1.out.map
      obtain ⟨vi, pi_, hrun, hvi⟩ := hD.drew.look_ok (Maps.string_keyed Tryd.underlying9) Tryd.underlying85 (zeroInt _) (plainElem_int Tryd.underlying3 (by decide)) (Go.WideMaps.keyOf_string_mk Tryd.underlying9 (s := f0) (by unfold maxLen; omega))
      obtain ⟨ci, rfl, hci, _⟩ := plainElem_int_inv Tryd.underlying3 hvi
      have hci := Lib.hid (congrArg Prod.fst hci)
      have LN := Lib.hid (look_name hS f0 ci hci.out)
      clear hvi hD hS
      have y0 : w1.cell? ⟨w.heap.size, 0, none⟩ = some (.string f0) := (blk_cell B1.out 0).trans rfl
      have y1 : w1.cell? ⟨w.heap.size, 1, none⟩ = some (.string f1) := (blk_cell B1.out 1).trans rfl
      have y2 : w1.cell? ⟨w.heap.size, 2, none⟩ = some (.slice A2 l2.length c2) := (blk_cell B1.out 2).trans rfl
      have y3 : w1.cell? ⟨w.heap.size, 3, none⟩ = some (.int .i64 f3) := (blk_cell B1.out 3).trans rfl
      have y4 : w1.cell? ⟨w.heap.size, 4, none⟩ = some (.int .i64 f4) := (blk_cell B1.out 4).trans rfl
      have y5 : w1.cell? ⟨w.heap.size, 5, none⟩ = some (.slice A5 l5.length c5) := (blk_cell B1.out 5).trans rfl
      cases hh : Maps.has D (.string f0.data.toList)
      · rw [hh] at hrun
        have hnm := Lib.hid (LN.out.2 hh)
        have hnn : Hid (¬ (nameF es f0).2 = 0) := Lib.hid (by rw [hnm.out]; decide)
        clear LN hh
        go_wp2
        go_region
        go_wp2_with fail
        clear hrun q1
        have AB := Lib.hid (above_any w1.drew base g _ mb ps es (HW1.out.below (below_drew1 (Below.refl _ _))) HG.out.fine ⟨f0, f1, l2, f3, f4, l5⟩ (.string f1) (.slice A2 l2.length c2) (.slice A5 l5.length c5) f1 false (by show f0.size < _; omega) (by omega) hlen)
        refine AB.out.mono ?_
        rintro e w2 ⟨rfl, hb2⟩
        have B2 := Lib.hid (blk_below (blk_drew B1.out) hb2)
        have HB2 := Lib.hid ((below_drew1 HB.out).trans (hb2.mono HB.out.size))
        clear AB B1 HB hb2 y0 y1 y2 y3 y4 y5 HW1 q0
        by_cases he : (aboveF es ⟨f0, f1, l2, f3, f4, l5⟩ f1 false).2 = 0
        · have hsup := Lib.hid (aboveF_in he)
          have he1 := Lib.hid he
          generalize hx : (aboveF es ⟨f0, f1, l2, f3, f4, l5⟩ f1 false).1 = sup at *
          rw [he]
          replace hx := Lib.hid hx
          have y2 : w2.cell? ⟨w.heap.size, 2, none⟩ = some (.slice A2 l2.length c2) := (blk_cell B2.out 2).trans rfl
          clear he
          go_wp2_with fail
          go_loopw [11, 54] (fun v11 v54 wr => ∃ j : Nat, j ≤ l2.length ∧ v54 = .int .i64 j ∧ Hid (Kd.R (Kd.int .i64) 3 wr w.heap.size (fun _ => True) v11 ((l2.take j).map fun n => (aboveF es ⟨f0, f1, l2, f3, f4, l5⟩ n true).1)) ∧ Hid (∀ (i : Nat) (n : ByteArray), i < j → l2[i]? = some n → (aboveF es ⟨f0, f1, l2, f3, f4, l5⟩ n true).2 = 0) ∧
            Hid (wr.heap[w.heap.size]? = some (.cells #[.string f0, .string f1, .slice A2 l2.length c2, .int .i64 f3, .int .i64 f4, .slice A5 l5.length c5] 44 (0, 0))) ∧ Hid (Below w.heap.size w wr)) (fun _ v54 _ => l2.length - (intOf v54).toNat)
          case atStart => exact ⟨0, Nat.zero_le _, rfl, Lib.hid (Kd.R_nil _ _ _ _ _), Lib.hid (fun i n hi => absurd hi (by omega)), B2, HB2⟩
          case round =>
            clear B2 HB2 y2
            obtain ⟨j, hj, rfl, RR, HE, B2, HB2⟩ := hrel
            have y0 : wr.cell? ⟨w.heap.size, 0, none⟩ = some (.string f0) := (blk_cell B2.out 0).trans rfl
            have y1 : wr.cell? ⟨w.heap.size, 1, none⟩ = some (.string f1) := (blk_cell B2.out 1).trans rfl
            have y2 : wr.cell? ⟨w.heap.size, 2, none⟩ = some (.slice A2 l2.length c2) := (blk_cell B2.out 2).trans rfl
            have y3 : wr.cell? ⟨w.heap.size, 3, none⟩ = some (.int .i64 f3) := (blk_cell B2.out 3).trans rfl
            have y4 : wr.cell? ⟨w.heap.size, 4, none⟩ = some (.int .i64 f4) := (blk_cell B2.out 4).trans rfl
            have y5 : wr.cell? ⟨w.heap.size, 5, none⟩ = some (.slice A5 l5.length c5) := (blk_cell B2.out 5).trans rfl
            by_cases hlt : j < l2.length
            · obtain ⟨ad0, cc, rfl, hcl, hKK, hic⟩ := Kd.C_get H2.out ⟨#[]⟩ (j : Int) (by omega) (by omega)
              obtain rfl : cc = [.string (l2.getD j ⟨#[]⟩)] := hKK
              have hic := hic 0 _ rfl
              rw [show Kd.string.sz = 1 from rfl, Nat.mul_one, Nat.add_zero, Int.toNat_natCast] at hic
              have hx2 : l2[j]? = some (l2.getD j ⟨#[]⟩) := by rw [List.getD_eq_getElem?_getD, List.getElem?_eq_getElem hlt]; rfl
              have hns := s3.out _ (List.mem_of_getElem? hx2)
              generalize l2.getD j ⟨#[]⟩ = n at *
              replace hx2 := Lib.hid hx2
              have hic1 := pw_cell_below HB2.out hic
              replace hic := Lib.hid hic
              have hjd : decide (j < l2.length) = true := decide_eq_true hlt
              have AB := Lib.hid (above_any wr base g _ mb ps es (HW.out.below HB2.out) HG.out.fine ⟨f0, f1, l2, f3, f4, l5⟩ (.string f1) (.slice (some ad0) l2.length c2) (.slice A5 l5.length c5) n true (by show f0.size < _; omega) (by omega) hlen)
              go_wp2_with fail
              refine AB.out.mono ?_
              rintro e w3 ⟨rfl, hb3⟩
              have B3 := Lib.hid (blk_below B2.out hb3)
              have HB3 := Lib.hid (HB2.out.trans (hb3.mono HB2.out.size))
              have R3 := Lib.hid (Kd.R_below RR.out hb3)
              clear AB B2 HB2 RR hb3 y0 y1 y2 y3 y4 y5 hic1
              by_cases hee : (aboveF es ⟨f0, f1, l2, f3, f4, l5⟩ n true).2 = 0
              · have hee1 := Lib.hid hee
                rw [hee]
                obtain ⟨A11, c11, rfl⟩ := Kd.R_slice R3.out
                have hll : ((l2.take j).map fun n => (aboveF es ⟨f0, f1, l2, f3, f4, l5⟩ n true).1).length ≤ 1000 := by
                  rw [List.length_map, List.length_take]; omega
                have hstep : Hid ((l2.take (j + 1)).map (fun n => (aboveF es ⟨f0, f1, l2, f3, f4, l5⟩ n true).1) = (l2.take j).map (fun n => (aboveF es ⟨f0, f1, l2, f3, f4, l5⟩ n true).1) ++ [(aboveF es ⟨f0, f1, l2, f3, f4, l5⟩ n true).1]) := Lib.hid (by
                  rw [List.take_add_one, hx2.out, List.map_append]; rfl)
                have HE2 : Hid (∀ (i : Nat) (m : ByteArray), i < j + 1 → l2[i]? = some m → (aboveF es ⟨f0, f1, l2, f3, f4, l5⟩ m true).2 = 0) := Lib.hid (fun i m hi hm => by
                  by_cases hij : i = j
                  · subst hij
                    rw [hx2.out] at hm
                    cases hm
                    exact hee1.out
                  · exact HE.out i m (by omega) hm)
                generalize (l2.take j).map (fun n => (aboveF es ⟨f0, f1, l2, f3, f4, l5⟩ n true).1) = ids at *
                generalize (aboveF es ⟨f0, f1, l2, f3, f4, l5⟩ n true).1 = idn at *
                clear hee HE
                go_wp2_with (at_builtin; refine Kd.R_append (Kd.int .i64) (w0 := w) (W := w3) w.heap.size rfl (.tmp 68) (.tmp 70) 75 3 (.int .i64 0) 8 rfl Tryd.underlying75 info_int rfl (by decide) (by omega) _ ids idn [.int .i64 idn] (fun _ => True) (fun _ => False) rfl rfl rfl (fun _ h => h.elim) (fun _ _ => trivial) R3.out HB3.out HB3.out.size (by omega) ?_; intro v1 w4 g1 g2 g3 g4; obtain ⟨A12, c12, rfl⟩ := Kd.R_slice g1; replace g1 := Lib.hid g1; replace g2 := Lib.hid g2; have B4 := Lib.hid (blk_grown (w := w3) B3.out g3 (Kd.R_ne R3.out B3.out (by decide))); clear g3 g4)
                refine ⟨⟨j + 1, by omega, by push_cast; rfl, Lib.hid (by
                  have e := g1.out
                  rw [hstep.out]
                  rwa [show (ids ++ [idn]).length = ids.length + 1 by simp] at e), HE2, B4, g2⟩, by simp [intOf]; omega⟩
              · have hne : ((aboveF es ⟨f0, f1, l2, f3, f4, l5⟩ n true).2 != 0) = true := bne_iff_ne.2 hee
                have hV2 : Hid ((es, (0 : Int), (aboveF es ⟨f0, f1, l2, f3, f4, l5⟩ n true).2) = V) := Lib.hid (by
                  rw [← hV.out, defF, if_neg (by simp), if_neg hl3.out, if_neg hnn.out, if_neg (fun h => h he1.out)]
                  have e1 := (ifsF_take es ⟨f0, f1, l2, f3, f4, l5⟩ l2 j HE.out).1 n hx2.out hee
                  show _ = if (ifsF es ⟨f0, f1, l2, f3, f4, l5⟩ l2).1 ≠ 0 then (es, (0 : Int), (ifsF es ⟨f0, f1, l2, f3, f4, l5⟩ l2).1) else _
                  rw [if_pos (by rw [e1]; exact hee), e1])
                clear hV hee HE R3
                generalize (aboveF es ⟨f0, f1, l2, f3, f4, l5⟩ n true).2 = err at *
                go_wp2
                go_ret2
                exact fin_no HW.out hbs HB3.out hV2.out
            · have hjl : j = l2.length := by omega
              have hjd : decide (j < l2.length) = false := decide_eq_false hlt
              have e2 := (ifsF_take es ⟨f0, f1, l2, f3, f4, l5⟩ l2 j HE.out).2 (by omega)
              have hV2 : Hid ((es ++ [putE es ⟨f0, f1, l2, f3, f4, l5⟩ sup (l2.map fun n => (aboveF es ⟨f0, f1, l2, f3, f4, l5⟩ n true).1)], (es.length : Int), (0 : Int)) = V) := Lib.hid (by
                rw [← hV.out, defF, if_neg (by simp), if_neg hl3.out, if_neg hnn.out, if_neg (fun h => h he1.out)]
                show _ = if (ifsF es ⟨f0, f1, l2, f3, f4, l5⟩ l2).1 ≠ 0 then (es, (0 : Int), (ifsF es ⟨f0, f1, l2, f3, f4, l5⟩ l2).1) else _
                rw [if_neg (by rw [e2]; simp), e2, hx.out])
              have hRng : Hid (∀ i ∈ (l2.map fun n => (aboveF es ⟨f0, f1, l2, f3, f4, l5⟩ n true).1), 0 ≤ i ∧ i < es.length) := Lib.hid (fun i hi => by
                obtain ⟨n, hn, rfl⟩ := List.mem_map.1 hi
                obtain ⟨q, hq⟩ := List.getElem?_of_mem hn
                have hq2 : q < l2.length := by
                  rcases Nat.lt_or_ge q l2.length with h | h
                  · exact h
                  · rw [List.getElem?_eq_none h] at hq; cases hq
                have := aboveF_in (HE.out q n (by omega) hq)
                exact ⟨this.1, this.2.1⟩)
              rw [hjl, List.take_length] at RR
              clear hV e2 HE
              have hill : (l2.map fun n => (aboveF es ⟨f0, f1, l2, f3, f4, l5⟩ n true).1).length ≤ 1000 := by rw [List.length_map]; omega
              generalize (l2.map fun n => (aboveF es ⟨f0, f1, l2, f3, f4, l5⟩ n true).1) = ids at *
              obtain ⟨A11, c11, rfl⟩ := Kd.R_slice RR.out
              have CP := Lib.hid (copied_any f0 f1 A2 c2 l2 f3 f4 A5 c5 l5 wr (Kd.C_below H2.out HB2.out) (Kd.C_below H5.out HB2.out) (by omega) s5.out)
              go_wp2_with fail
              clear y0 y1 y2 y3 y4 y5
              refine CP.out.mono ?_
              rintro e w3 ⟨v2, v5, rfl, R2, R5, hb3⟩
              have HB3 := Lib.hid (HB2.out.trans (hb3.mono HB2.out.size))
              have hsz := HB2.out.size
              have PU := Lib.hid (put_any w3 base g _ mb ps es (HW.out.below HB3.out) (Nat.le_trans hbs HB3.out.size) f0 f1 v2 v5 l2 f3 f4 l5 (Kd.R_lower R2 (by omega)) (Kd.R_lower R5 (by omega)) sup (.inr ⟨hsup.out.1, hsup.out.2.1⟩) A11 c11 ids (Kd.R_reads' (Kd.R_below RR.out hb3)).2.2 hRng.out hlen (fun x hx => ⟨(HG.out.clo x hx).1, (HG.out.clo x hx).2.1, by have := (HG.out.clo x hx).2.2; omega⟩) hill (nameF_not hnn.out).2 (by omega))
              clear CP R2 R5 hb3 RR HB2 B2
              go_wp2_with fail
              refine PU.out.mono ?_
              rintro e w4 ⟨rfl, v', p, I4, hb4, hk4⟩
              replace I4 := Lib.hid I4
              have HB4 := Lib.hid ((HB3.out.mono hbs).trans hb4)
              have HK4 := Lib.hid ((KeptT.of_below HB3.out).trans hk4)
              clear PU hb4 hk4
              go_wp2
              go_ret2
              have hV3 := hV2.out
              clear hV2
              subst hV3
              exact ⟨rfl, _, _, I4.out, HB4.out, HK4.out⟩
        · have hne : ((aboveF es ⟨f0, f1, l2, f3, f4, l5⟩ f1 false).2 != 0) = true := bne_iff_ne.2 he
          have hV2 : Hid ((es, (0 : Int), (aboveF es ⟨f0, f1, l2, f3, f4, l5⟩ f1 false).2) = V) := Lib.hid (by
            rw [← hV.out, defF, if_neg (by simp), if_neg hl3.out, if_neg hnn.out]
            show _ = if (aboveF es ⟨f0, f1, l2, f3, f4, l5⟩ f1 false).2 ≠ 0 then _ else _
            rw [if_pos he])
          clear hV he
          generalize (aboveF es ⟨f0, f1, l2, f3, f4, l5⟩ f1 false).2 = err at *
          go_wp2
          go_ret2
          exact fin_no HW.out hbs HB2.out hV2.out
      · rw [hh] at hrun
        obtain ⟨n1, n2, n3⟩ := LN.out.1 hh
        have hV2 : Hid ((es, (0 : Int), (25 : Int)) = V) := Lib.hid (by rw [← hV.out, defF, if_neg (by simp), if_neg hl3.out, if_pos (show (nameF es f0).2 = 0 from n2)])
        clear n1 n2 n3 LN hh hV
        go_wp2
        go_region
        go_wp2
        go_ret2
        exact fin_no HW.out hbs (below_drew1 HB.out) hV2.out
  · have hne : (r != 0) = true := bne_iff_ne.2 h0
    have hV2 : Hid ((es, (0 : Int), r) = V) := Lib.hid (by rw [← hV.out, defF, if_pos h0])
    clear hV h0
    go_wp2
    go_ret2
    exact fin_no HW.out hbs HB.out hV2.out
end Go.Proofs.YtmlifggklaeieaaDoor.Hi

/- hier.object: the class above all others, in memory of the call's own. -/
namespace Go.Proofs.YtmlifggklaeieaaDoor.Hi
open Go Go.RowKit Go.Proofs.YtmlifggklaeieaaDoorW.PrintWords Go.Proofs.YtmlifggklaeieaaDoorW.PrintLast Go.Proofs.YtmlifggklaeieaaDoorW.PrintMore Go.Proofs.YtmlifggklaeieaaDoor.Pt
set_option linter.unusedVariables false
set_option linter.unusedSimpArgs false
set_option maxHeartbeats 2000000
set_option maxRecDepth 100000

/-- A block that holds the cells of a list is a row of the call's own. -/
theorem R_block {α : Type} (d : Kd α) (e : Nat) {W : World} {base g : Nat} {ok : Nat → Prop} {xs : List α} {inner : List Value} (h : W.heap[g]? = some (.cells inner.toArray e (0, 0))) (hb : base ≤ g) (hok : ok g) (hm : xs.length ≤ maxLen) (hr : Reps (d.M W base (fun k => ok k ∧ some k ≠ some g)) d.sz xs inner) :
    d.R e W base ok (.slice (some ⟨g, 0, none⟩) xs.length xs.length) xs :=
  ⟨fun k hk => by
    have : g = k := by simpa [Value.ownBlock] using hk
    exact this ▸ hok, inner, ⟨hr.1, .inr ⟨g, xs.length, inner.toArray, rfl, hb, h, Nat.le_refl _, hm, by simpa using hr.1, by simp [← hr.1]⟩⟩, hr⟩
def inst (op n : Int) : S83 := ⟨op, n, ⟨#[]⟩, ⟨false, ⟨#[]⟩, ⟨#[]⟩, ⟨#[]⟩⟩⟩
def instC (op n : Int) : List Value := [.int .i64 op, .int .i64 n, .string ⟨#[]⟩, .bool false, .string ⟨#[]⟩, .string ⟨#[]⟩, .string ⟨#[]⟩]
theorem reps_inst (W : World) (base : Nat) (ok : Nat → Prop) (op n : Int) : Reps (k83.M W base ok) k83.sz [inst op n] (instC op n) :=
  (Reps.none _ _).snoc (k83_mkM W base ok (inst op n)) rfl
theorem reps_inst2 (W : World) (base : Nat) (ok : Nat → Prop) (op n op' n' : Int) : Reps (k83.M W base ok) k83.sz [inst op n, inst op' n'] (instC op n ++ instC op' n') :=
  (reps_inst W base ok op n).snoc (k83_mkM W base ok (inst op' n')) rfl
def sObject : ByteArray := ⟨#[79, 98, 106, 101, 99, 116]⟩
def sInit : ByteArray := ⟨#[60, 105, 110, 105, 116, 62]⟩
def sV : ByteArray := ⟨#[40, 41, 86]⟩
def sId : ByteArray := ⟨#[105, 100]⟩
def sI : ByteArray := ⟨#[40, 41, 73]⟩
def sKin : ByteArray := ⟨#[107, 105, 110]⟩
def sLO : ByteArray := ⟨#[40, 41, 76, 79, 98, 106, 101, 99, 116, 59]⟩
def objM : List S51 := [⟨sInit, sV, 1, 1, 0, [inst 38 0]⟩, ⟨sId, sI, 1, 1, 1, [inst 1 7, inst 36 0]⟩, ⟨sKin, sLO, 4, 1, 1, [inst 4 0, inst 37 0]⟩]
def objC : S44 := ⟨sObject, ⟨#[]⟩, [], 33, 0, objM⟩
def methC (g : Nat) : List Value := (([.string sInit, .string sV, .int .i64 1, .int .i64 1, .int .i64 0, .slice (some ⟨g + 1, 0, none⟩) 1 1] : List Value) ++ [.string sId, .string sI, .int .i64 1, .int .i64 1, .int .i64 1, .slice (some ⟨g + 1 + 1, 0, none⟩) 2 2]) ++ [.string sKin, .string sLO, .int .i64 4, .int .i64 1, .int .i64 1, .slice (some ⟨g + 1 + 1 + 1, 0, none⟩) 2 2]
theorem five_new (w : World) (o0 o1 o2 o3 o4 : Obj) : (((((w.alloc o0).alloc o1).alloc o2).alloc o3).alloc o4).heap[w.heap.size]? = some o0 ∧ (((((w.alloc o0).alloc o1).alloc o2).alloc o3).alloc o4).heap[w.heap.size + 1]? = some o1 ∧ (((((w.alloc o0).alloc o1).alloc o2).alloc o3).alloc o4).heap[w.heap.size + 1 + 1]? = some o2 ∧
    (((((w.alloc o0).alloc o1).alloc o2).alloc o3).alloc o4).heap[w.heap.size + 1 + 1 + 1]? = some o3 ∧ (((((w.alloc o0).alloc o1).alloc o2).alloc o3).alloc o4).heap[w.heap.size + 1 + 1 + 1 + 1]? = some o4 ∧ Below w.heap.size w (((((w.alloc o0).alloc o1).alloc o2).alloc o3).alloc o4) := by
  have e0 : (w.alloc o0).heap.size = w.heap.size + 1 := by simp
  have e1 : ((w.alloc o0).alloc o1).heap.size = w.heap.size + 1 + 1 := by simp
  have e2 : (((w.alloc o0).alloc o1).alloc o2).heap.size = w.heap.size + 1 + 1 + 1 := by simp
  have e3 : ((((w.alloc o0).alloc o1).alloc o2).alloc o3).heap.size = w.heap.size + 1 + 1 + 1 + 1 := by simp
  refine ⟨blk_alloc (blk_alloc (blk_alloc (blk_alloc (blk_new w o0) o1) o2) o3) o4, ?_, ?_, ?_, ?_, ?_⟩
  · have := blk_alloc (blk_alloc (blk_alloc (blk_new (w.alloc o0) o1) o2) o3) o4
    rwa [e0] at this
  · have := blk_alloc (blk_alloc (blk_new ((w.alloc o0).alloc o1) o2) o3) o4
    rwa [e1] at this
  · have := blk_alloc (blk_new (((w.alloc o0).alloc o1).alloc o2) o3) o4
    rwa [e2] at this
  · have := blk_new ((((w.alloc o0).alloc o1).alloc o2).alloc o3) o4
    rwa [e3] at this
  · exact (((((Below.refl _ _).alloc (Nat.le_refl _) _).alloc (by omega) _).alloc (by omega) _).alloc (by omega) _).alloc (by omega) _
theorem objR {W : World} {base g : Nat} (hb : base ≤ g)
    (h1 : W.heap[g + 1]? = some (.cells (instC 38 0).toArray 83 (0, 0))) (h2 : W.heap[g + 1 + 1]? = some (.cells (instC 1 7 ++ instC 36 0).toArray 83 (0, 0))) (h3 : W.heap[g + 1 + 1 + 1]? = some (.cells (instC 4 0 ++ instC 37 0).toArray 83 (0, 0)))
    (h4 : W.heap[g + 1 + 1 + 1 + 1]? = some (.cells (methC g).toArray 51 (0, 0))) :
    Kd.R k51 51 W base (fun _ => True) (.slice (some ⟨g + 1 + 1 + 1 + 1, 0, none⟩) 3 3) objM := by
  have r1 := R_block k83 83 (base := base) (ok := fun k => True ∧ some k ≠ some (g + 1 + 1 + 1 + 1)) h1 (by omega) ⟨trivial, by simp⟩ (by decide) (reps_inst W base _ 38 0)
  have r2 := R_block k83 83 (base := base) (ok := fun k => True ∧ some k ≠ some (g + 1 + 1 + 1 + 1)) h2 (by omega) ⟨trivial, by simp⟩ (by decide) (reps_inst2 W base _ 1 7 36 0)
  have r3 := R_block k83 83 (base := base) (ok := fun k => True ∧ some k ≠ some (g + 1 + 1 + 1 + 1)) h3 (by omega) ⟨trivial, by simp⟩ (by decide) (reps_inst2 W base _ 4 0 37 0)
  refine R_block k51 51 (xs := objM) h4 (by omega) trivial (by decide) ?_
  exact (((Reps.none _ _).snoc (k51_mkM W base _ ⟨sInit, sV, 1, 1, 0, [inst 38 0]⟩ r1) rfl).snoc (k51_mkM W base _ ⟨sId, sI, 1, 1, 1, [inst 1 7, inst 36 0]⟩ r2) rfl).snoc (k51_mkM W base _ ⟨sKin, sLO, 4, 1, 1, [inst 4 0, inst 37 0]⟩ r3) rfl
theorem object_any (w : World) : Calls Tryd.prog 38 #[] w fun e w' => ∃ v5, e = .returned (.agg #[.string objC.f0, .string objC.f1, .slice none 0 0, .int .i64 objC.f3, .int .i64 objC.f4, v5]) ∧ Kd.R k51 51 w' w.heap.size (fun _ => True) v5 objC.f5 ∧ Below w.heap.size w w' := by
  go_enter Tryd.func38, Tryd.ntmps38
  go_wp2
  refine bodyPost_ret (results_cell_row rfl _ _ w.heap.size 44 _ (0, 0) _ rfl (five_new _ _ _ _ _ _).1 Tryd.underlying44 rfl (by kernel_rfl)) rfl ?_
  have F := five_new w (.cells #[.string sObject, .string ⟨#[]⟩, .slice none 0 0, .int .i64 33, .int .i64 0, .slice (some ⟨w.heap.size + 1 + 1 + 1 + 1, 0, none⟩) 3 3] 44) (.cells (instC 38 0).toArray 83) (.cells (instC 1 7 ++ instC 36 0).toArray 83) (.cells (instC 4 0 ++ instC 37 0).toArray 83)
    (.cells (methC w.heap.size).toArray 51)
  exact ⟨_, rfl, objR (Nat.le_refl _) F.2.1 F.2.2.1 F.2.2.2.1 F.2.2.2.2.1, F.2.2.2.2.2⟩
end Go.Proofs.YtmlifggklaeieaaDoor.Hi

/- hier.New: a world of Object, Cloneable and Serializable. -/
namespace Go.Proofs.YtmlifggklaeieaaDoor.Hi
open Go Go.RowKit Go.Proofs.YtmlifggklaeieaaDoorW.PrintWords Go.Proofs.YtmlifggklaeieaaDoorW.PrintLast Go.Proofs.YtmlifggklaeieaaDoorW.PrintMore Go.Proofs.YtmlifggklaeieaaDoor.Pt
set_option linter.unusedVariables false
set_option linter.unusedSimpArgs false
set_option maxHeartbeats 2000000
set_option maxRecDepth 100000

def sCloneable : ByteArray := ⟨#[67, 108, 111, 110, 101, 97, 98, 108, 101]⟩
def sSerializable : ByteArray := ⟨#[83, 101, 114, 105, 97, 108, 105, 122, 97, 98, 108, 101]⟩
def ifaceC (s : ByteArray) : S44 := ⟨s, sObject, [], 1537, 0, []⟩
def newE : List Ent := [⟨objC, -1, 0, []⟩, ⟨ifaceC sCloneable, 0, 1, []⟩, ⟨ifaceC sSerializable, 0, 1, []⟩]
theorem WIn.start (w : World) : WIn ((w.alloc (.map #[] 0)).alloc (.cells #[.slice none 0 0, .map (some w.heap.size)] 88)) w.heap.size (w.heap.size + 1) (.slice none 0 0) w.heap.size [] [] := by
  have e0 : (w.alloc (.map #[] 0)).heap.size = w.heap.size + 1 := by simp
  refine ⟨Nat.le_succ _, ?_, Kd.R_nil _ _ _ _ _, rfl, fun j x p hx => by simp at hx, Nat.le_refl _, .map [], ?_, MapSays.nil⟩
  · have := blk_new (w.alloc (.map #[] 0)) (.cells #[.slice none 0 0, .map (some w.heap.size)] 88)
    rwa [e0] at this
  · exact (World.ownsMap_made w _ _ _).alloc _
theorem ne_size {a b : ByteArray} (h : a.size ≠ b.size) : a ≠ b := fun e => h (by rw [e])
theorem notIn1 : sCloneable ∉ ([putE [] objC (-1) []] : List Ent).map (·.c.f0) := by
  intro h
  exact ne_size (by decide) (List.mem_singleton.1 h)
theorem notIn2 : sSerializable ∉ ([putE [] objC (-1) [], putE [putE [] objC (-1) []] (ifaceC sCloneable) 0 []] : List Ent).map (·.c.f0) := by
  intro h
  rcases List.mem_cons.1 h with h | h
  · exact ne_size (by decide) h
  · exact ne_size (by decide) (List.mem_singleton.1 h)
theorem new_any (w : World) : Calls Tryd.prog 23 #[] w fun e w' => ∃ g v mb ps, e = .returned (.pointer (some ⟨g, 0, none⟩)) ∧ WIn w' w.heap.size g v mb ps newE ∧ Below w.heap.size w w' := by
  have hmm := @run_makeMap Tryd.prog
  have S0 := Lib.hid (WIn.start w)
  have B0 : Hid (Below w.heap.size w ((w.alloc (.map #[] 0)).alloc (.cells #[.slice none 0 0, .map (some w.heap.size)] 88))) := Lib.hid (((Below.refl _ _).alloc (Nat.le_refl _) _).alloc (by simp) _)
  go_enter Tryd.func23, Tryd.ntmps23
  go_wp2_with fail
  refine (object_any _).mono ?_
  rintro e w1 ⟨v5, rfl, R5, hb1⟩
  obtain ⟨A5, c5, rfl⟩ := Kd.R_slice R5
  have S1 := Lib.hid (S0.out.below hb1)
  have B1 := Lib.hid (B0.out.trans (hb1.mono B0.out.size))
  have P1 := Lib.hid (put_any w1 w.heap.size (w.heap.size + 1) _ w.heap.size [] [] S1.out B1.out.size objC.f0 objC.f1 (.slice none 0 0) (.slice A5 objC.f5.length c5) [] objC.f3 objC.f4 objC.f5 (Kd.R_nil _ _ _ _ _) (Kd.R_lower R5 B0.out.size) (-1) (.inl rfl) none 0 [] (Kd.C_nil _ _) (fun i hi => by cases hi) (by decide) (fun x hx => by cases hx) (by decide) (by simp) (by decide))
  clear S0 B0 R5 hb1
  go_wp2_with fail
  refine P1.out.mono ?_
  rintro e w2 ⟨rfl, v2, p, S2, hb2, hk2⟩
  have RB := Lib.hid (blk_new w2 (.cells #[.string sCloneable, .string sSerializable] 9))
  have AB := (Below.refl w2.heap.size w2).alloc (Nat.le_refl _) (.cells #[.string sCloneable, .string sSerializable] 9)
  have S3 := Lib.hid (S2.below AB)
  have B2 := B1.out.trans hb2
  have B3 := Lib.hid (B2.trans (AB.mono B2.size))
  clear P1 S1 B1 S2 hb2 hk2 AB B2
  go_wp2_with fail
  change Code.wp _ _ _ _ (w2.alloc (.cells #[.string sCloneable, .string sSerializable] 9))
  generalize w2.alloc (.cells #[.string sCloneable, .string sSerializable] 9) = w3 at *
  have q0 : w3.cell? ⟨w2.heap.size, 0, none⟩ = some (.string sCloneable) := (blk_cell RB.out 0).trans rfl
  have P2 := Lib.hid (put_any w3 w.heap.size (w.heap.size + 1) _ w.heap.size _ _ S3.out B3.out.size sCloneable sObject (.slice none 0 0) (.slice none 0 0) [] 1537 0 [] (Kd.R_nil _ _ _ _ _) (Kd.R_nil _ _ _ _ _) 0 (.inr ⟨by omega, by decide⟩) none 0 [] (Kd.C_nil _ _) (fun i hi => by cases hi) (by decide) (fun x hx => by
    rw [List.mem_singleton.1 hx]
    exact ⟨Rng.nil _, by decide, by decide⟩) (by decide) notIn1 (by decide))
  clear S3
  refine wp_loop_rounds 3 ?_
  rw [rounds_succ]
  go_wp2_with fail
  refine P2.out.mono ?_
  rintro e w4 ⟨rfl, v4, p4, S4, hb4, hk4⟩
  have B4 := Lib.hid (B3.out.trans hb4)
  have RB4 := Lib.hid (hk4 _ _ _ RB.out (by decide) (by decide))
  have q1 : w4.cell? ⟨w2.heap.size, 1, none⟩ = some (.string sSerializable) := (blk_cell RB4.out 1).trans rfl
  have P3 := Lib.hid (put_any w4 w.heap.size (w.heap.size + 1) _ w.heap.size _ _ S4 B4.out.size sSerializable sObject (.slice none 0 0) (.slice none 0 0) [] 1537 0 [] (Kd.R_nil _ _ _ _ _) (Kd.R_nil _ _ _ _ _) 0 (.inr ⟨by omega, by decide⟩) none 0 [] (Kd.C_nil _ _) (fun i hi => by cases hi) (by decide) (fun x hx => by
    rcases List.mem_cons.1 hx with rfl | hx
    · exact ⟨Rng.nil _, by decide, by decide⟩
    · rw [List.mem_singleton.1 hx]
      exact ⟨Rng.nil _, by decide, by decide⟩) (by decide) notIn2 (by decide))
  clear S4 hb4 hk4 P2 B3 RB RB4 q0
  go_wp2_with fail
  rw [rounds_succ]
  go_wp2_with fail
  refine P3.out.mono ?_
  rintro e w5 ⟨rfl, v5, p5, S5, hb5, hk5⟩
  have B5 := Lib.hid (B4.out.trans hb5)
  replace S5 := Lib.hid S5
  clear hb5 hk5 P3 B4 q1
  go_wp2_with fail
  rw [rounds_succ]
  go_wp2
  go_ret
  exact ⟨_, _, _, _, rfl, S5.out, B5.out⟩
end Go.Proofs.YtmlifggklaeieaaDoor.Hi

/- A new world is a sound one. -/
namespace Go.Proofs.YtmlifggklaeieaaDoor.Pt
open Go Go.RowKit Go.Proofs.YtmlifggklaeieaaDoor.Nm Go.Proofs.YtmlifggklaeieaaDoor.Hi Go.Proofs.YtmlifggklaeieaaDoorW.PrintWords Go.Proofs.YtmlifggklaeieaaDoorW.PrintLast Go.Proofs.YtmlifggklaeieaaDoorW.PrintMore
set_option linter.unusedVariables false
set_option linter.unusedSimpArgs false

theorem fine_new : ∀ x ∈ newE, Fine x := by
  intro x hx
  simp only [newE, List.mem_cons, List.not_mem_nil, or_false] at hx
  rcases hx with rfl | rfl | rfl
  · exact ⟨⟨by decide, by decide, by decide⟩, by decide, by decide⟩
  · exact ⟨⟨by decide, by decide, by decide⟩, by decide, by decide⟩
  · exact ⟨⟨by decide, by decide, by decide⟩, by decide, by decide⟩
theorem tree_new : Tree newE := by
  intro i x hx
  match i, hx with
  | 0, hx => simp [newE] at hx; subst hx; exact .inl ⟨rfl, rfl⟩
  | 1, hx => simp [newE] at hx; subst hx; exact .inr ⟨by decide, by decide, by decide⟩
  | 2, hx => simp [newE] at hx; subst hx; exact .inr ⟨by decide, by decide, by decide⟩
  | i + 3, hx => simp [newE] at hx
theorem _root_.Go.Proofs.YtmlifggklaeieaaDoor.Pt.WOK.at_ {w w' : World} {m g : Nat} {es : List Ent} (hq : w.drewN m = w') (h : WOK w g es) : WOK w' g es := hq ▸ h.drewN m
theorem wok_new {w : World} {base g : Nat} {v : Value} {mb : Nat} {ps : List Nat} (h : WIn w base g v mb ps newE) : WOK w g newE := ⟨⟨_, _, _, _, h⟩, fine_new, tree_new, by decide⟩
end Go.Proofs.YtmlifggklaeieaaDoor.Pt

/- The worlds that come of classes arriving one at a time. -/
namespace Go.Proofs.YtmlifggklaeieaaDoor.Hi
open Go Go.RowKit Go.Proofs.YtmlifggklaeieaaDoor.Nm Go.Proofs.YtmlifggklaeieaaDoorW.PrintWords Go.Proofs.YtmlifggklaeieaaDoorW.PrintLast Go.Proofs.YtmlifggklaeieaaDoorW.PrintMore Go.Proofs.YtmlifggklaeieaaDoor.Pt
set_option linter.unusedVariables false
set_option linter.unusedSimpArgs false
set_option maxRecDepth 100000

def stepF (es : List Ent) (c : S44) : List Ent := (defF (chkC c) es c).1
def builtF (l : List S44) : List Ent := l.foldl stepF newE
inductive Made : List Ent → Prop
  | new : Made newE
  | step (es : List Ent) (c : S44) : Made es → Made (stepF es c)
theorem made_fold (l : List S44) : ∀ es, Made es → Made (l.foldl stepF es) := by
  induction l with
  | nil => exact fun es h => h
  | cons c l ih => exact fun es h => ih _ (.step es c h)
theorem made_built (l : List S44) : Made (builtF l) := made_fold l _ .new
theorem sound_sizes {c : S44} (h : chkC c = 0) : c.f0.size ≤ 60 ∧ c.f1.size ≤ 60 ∧ c.f2.length ≤ 20 ∧ (∀ n ∈ c.f2, n.size ≤ 60) ∧ Short c.f5 := by
  obtain ⟨s0, s1, s2, s3, s4, s5⟩ := chk_sizes h
  exact ⟨s0, s1, s2, s3, by omega, fun x hx => by have := s5 x hx; omega⟩
/-- A class that is taken: what is known of it. -/
structure Took (es : List Ent) (c : S44) (x : Ent) : Prop where
  sound : chkC c = 0
  len : es.length < 300
  fresh : c.f0 ∉ es.map (·.c.f0)
  sup : (aboveF es c c.f1 false).2 = 0
  ifs : ∀ n ∈ c.f2, (aboveF es c n true).2 = 0
  isx : x = putE es c (aboveF es c c.f1 false).1 (c.f2.map fun n => (aboveF es c n true).1)
theorem ifs_all (es : List Ent) (c : S44) : ∀ (l : List ByteArray), (ifsF es c l).1 = 0 → (∀ n ∈ l, (aboveF es c n true).2 = 0) ∧ (ifsF es c l).2 = l.map fun n => (aboveF es c n true).1
  | [], _ => ⟨fun n hn => (by cases hn), rfl⟩
  | m :: l, h => by
    unfold ifsF at h ⊢
    by_cases h0 : (aboveF es c m true).2 = 0
    · rw [if_pos h0] at h ⊢
      obtain ⟨h1, h2⟩ := ifs_all es c l h
      refine ⟨fun n hn => ?_, ?_⟩
      · rcases List.mem_cons.1 hn with rfl | hn
        · exact h0
        · exact h1 n hn
      · show _ :: (ifsF es c l).2 = _
        rw [h2]
        rfl
    · rw [if_neg h0] at h
      exact absurd h h0
theorem stepF_cases (es : List Ent) (c : S44) : stepF es c = es ∨ ∃ x, stepF es c = es ++ [x] ∧ Took es c x := by
  unfold stepF defF
  by_cases h0 : chkC c = 0
  · rw [if_neg (fun h => h h0)]
    by_cases h1 : es.length ≥ 300
    · rw [if_pos h1]; exact .inl rfl
    · rw [if_neg h1]
      by_cases h2 : (nameF es c.f0).2 = 0
      · rw [if_pos h2]; exact .inl rfl
      · rw [if_neg h2]
        by_cases h3 : (aboveF es c c.f1 false).2 = 0
        · rw [if_neg (fun h => h h3)]
          by_cases h4 : (ifsF es c c.f2).1 = 0
          · rw [if_neg (fun h => h h4)]
            obtain ⟨h5, h6⟩ := ifs_all es c c.f2 h4
            exact .inr ⟨_, rfl, h0, by omega, (nameF_not h2).2, h3, h5, by rw [h6]⟩
          · rw [if_pos h4]; exact .inl rfl
        · rw [if_pos h3]; exact .inl rfl
  · rw [if_pos h0]; exact .inl rfl
theorem ent_old {es : List Ent} {x : Ent} {i : Int} (h0 : 0 ≤ i) (h1 : i < es.length) : ent (es ++ [x]) i = ent es i := by
  unfold ent
  rw [List.getD_eq_getElem?_getD, List.getD_eq_getElem?_getD, List.getElem?_append_left (by omega)]
theorem ent_last {es : List Ent} {x : Ent} : ent (es ++ [x]) es.length = x := by
  unfold ent
  rw [List.getD_eq_getElem?_getD, Int.toNat_natCast, List.getElem?_append_right (Nat.le_refl _), Nat.sub_self]
  rfl
theorem rng_more {n m : Nat} {l : List Int} (h : Rng n l) (hm : n ≤ m) : Rng m l := ⟨h.1, fun x hx => by have := h.2 x hx; omega⟩
theorem Took.clo {es : List Ent} {c : S44} {x : Ent} (h : Took es c x) (hg : Good es) : Rng es.length x.clo := by
  have h1 := aboveF_in h.sup
  have hm : ent es (aboveF es c c.f1 false).1 ∈ es := List.mem_of_getElem? (get_ent h1.1 h1.2.1)
  rw [h.isx]
  show Rng _ (closF es _ _)
  rw [if_pos h1.1]
  refine Rng.clos (fun y hy => (hg.clo y hy).1) (hg.clo _ hm).1 (fun i hi => ?_) (Nat.le_refl _)
  obtain ⟨n, hn, rfl⟩ := List.mem_map.1 hi
  have := aboveF_in (h.ifs n hn)
  exact ⟨this.1, this.2.1⟩
theorem good_new : Good newE := by
  refine ⟨fine_new, tree_new, fun x hx => ?_, by decide⟩
  simp only [newE, List.mem_cons, List.not_mem_nil, or_false] at hx
  rcases hx with rfl | rfl | rfl
  all_goals exact ⟨Rng.nil _, by decide, by decide⟩
theorem good_took {es : List Ent} {c : S44} {x : Ent} (hg : Good es) (h : Took es c x) : Good (es ++ [x]) := by
  have h1 := aboveF_in h.sup
  have hm : ent es (aboveF es c c.f1 false).1 ∈ es := List.mem_of_getElem? (get_ent h1.1 h1.2.1)
  have hl : (es ++ [x]).length = es.length + 1 := by simp
  have hc := h.clo hg
  obtain ⟨s0, s1, s2, s3, s5⟩ := sound_sizes h.sound
  have hxc : x.c = c := by rw [h.isx]; rfl
  have hxa : x.above = (aboveF es c c.f1 false).1 := by rw [h.isx]; rfl
  have hxd : x.depth = (ent es (aboveF es c c.f1 false).1).depth + 1 := by
    rw [h.isx]
    exact if_pos h1.1
  have hlen := h.len
  refine ⟨fun y hy => ?_, fun i y hi => ?_, fun y hy => ?_, by omega⟩
  · rcases List.mem_append.1 hy with hy | hy
    · exact hg.fine y hy
    · rw [List.mem_singleton.1 hy]
      refine ⟨?_, ?_, ?_⟩
      · rw [hxc]
        exact ⟨by omega, s5⟩
      · rw [hxc]
        omega
      · have := hc.len
        omega
  · rcases Nat.lt_trichotomy i es.length with hi2 | hi2 | hi2
    · rw [List.getElem?_append_left hi2] at hi
      rcases hg.tree i y hi with h2 | ⟨h2, h3, h4⟩
      · exact .inl h2
      · exact .inr ⟨h2, h3, by rw [ent_old h2 (by omega)]; exact h4⟩
    · subst hi2
      rw [List.getElem?_append_right (Nat.le_refl _), Nat.sub_self] at hi
      cases hi
      refine .inr ⟨by rw [hxa]; exact h1.1, by rw [hxa]; exact h1.2.1, ?_⟩
      rw [hxa, ent_old h1.1 h1.2.1]
      exact hxd
    · rw [List.getElem?_eq_none (by omega)] at hi
      cases hi
  · rcases List.mem_append.1 hy with hy | hy
    · have := hg.clo y hy
      exact ⟨rng_more this.1 (by omega), this.2.1, by omega⟩
    · rw [List.mem_singleton.1 hy]
      have h2 := hg.clo _ hm
      exact ⟨rng_more hc (by omega), by omega, by omega⟩
theorem good_step {es : List Ent} {c : S44} (hg : Good es) : Good (stepF es c) := by
  rcases stepF_cases es c with h | ⟨x, h, ht⟩
  · rw [h]; exact hg
  · rw [h]; exact good_took hg ht
theorem good_made {es : List Ent} (h : Made es) : Good es := by
  induction h with
  | new => exact good_new
  | step es c _ ih => exact good_step ih
theorem good_fold (l : List S44) : ∀ es, Good es → Good (l.foldl stepF es) := by
  induction l with
  | nil => exact fun es h => h
  | cons c l ih => exact fun es h => ih _ (good_step h)
end Go.Proofs.YtmlifggklaeieaaDoor.Hi

/- Types in a world, as plain functions. -/
namespace Go.Proofs.YtmlifggklaeieaaDoor.Pt
open Go Go.RowKit Go.Proofs.YtmlifggklaeieaaDoor.Nm Go.Proofs.YtmlifggklaeieaaDoor.Ty Go.Proofs.YtmlifggklaeieaaDoor.Hi Go.Proofs.YtmlifggklaeieaaDoorW.PrintWords Go.Proofs.YtmlifggklaeieaaDoorW.PrintLast Go.Proofs.YtmlifggklaeieaaDoorW.PrintMore
set_option linter.unusedVariables false
set_option linter.unusedSimpArgs false
set_option maxHeartbeats 1000000
set_option maxRecDepth 100000

def loadF (es : List Ent) (d : Int) (s : ByteArray) : Int :=
  if chk d s.data.toList = 0 then (if s.toList = [] then 0 else if (nameF es s).2 = 0 then 0 else 20) else chk d s.data.toList
def intT (d : Int) (s : ByteArray) : Bool := d == 0 && (s.toList == ([] : List UInt8))
def topB (t : ByteArray) : Bool := if t.toList = ([79, 98, 106, 101, 99, 116] : List UInt8) then true else if t.toList = ([67, 108, 111, 110, 101, 97, 98, 108, 101] : List UInt8) then true else t.toList == ([83, 101, 114, 105, 97, 108, 105, 122, 97, 98, 108, 101] : List UInt8)
/-- Below, of types that are not both arrays. -/
def redF (es : List Ent) (a : Int) (s : ByteArray) (b : Int) (t : ByteArray) : Bool :=
  if (intT a s || intT b t) = true then (a == b && (s.toList == t.toList)) else if a > 0 then topB t else if b > 0 then false else extF es (nameF es s).1 (nameF es t).1
def belowF (es : List Ent) (a : Int) (s : ByteArray) (b : Int) (t : ByteArray) : Bool := redF es (a - min a b) s (b - min a b) t
def subF (es : List Ent) (a : Int) (s : ByteArray) (b : Int) (t : ByteArray) : Bool × Int :=
  if loadF es a s ≠ 0 then (false, loadF es a s) else if loadF es b t ≠ 0 then (false, loadF es b t) else (belowF es a s b t, 0)
theorem ck_size (d : Int) (nm : ByteArray) (h : chk d nm.data.toList = 0) : nm.size ≤ 60 ∧ 0 ≤ d ∧ d ≤ 255 := by
  unfold chk at h
  split at h
  · cases h
  · rename_i hd
    split at h
    · cases h
    · rename_i hn
      refine ⟨?_, by omega, by omega⟩
      by_cases he : nm.data.toList = []
      · have := congrArg List.length he
        simp at this
        have h2 : nm.size = nm.data.size := rfl
        rw [h2, this]
        simp
      · have hv : validB (bs nm.data.toList) = true := by
          cases hb : validB (bs nm.data.toList) with
          | true => rfl
          | false => exact absurd ⟨he, hb⟩ hn
        rw [mk_data] at hv
        exact valid_size hv
theorem load_size {es : List Ent} {d : Int} {s : ByteArray} (h : loadF es d s = 0) : s.size ≤ 60 ∧ 0 ≤ d ∧ d ≤ 255 := by
  unfold loadF at h
  by_cases hc : chk d s.data.toList = 0
  · exact ck_size d s hc
  · rw [if_neg hc] at h
    exact absurd h hc
theorem byName_tot (es : List Ent) (s : ByteArray) (hs : s.size ≤ 60) : hier_World_ByName.f es s = some (nameF es s) := by
  unfold hier_World_ByName.f
  rw [if_pos (by omega)]
theorem load_tot (es : List Ent) (d : Int) (s : ByteArray) : arrays_Loaded.f es d s = some (loadF es d s) := by
  unfold arrays_Loaded.f loadF
  rw [show types_Check.f d s = some (chk d s.data.toList) from rfl, Option.bind_some]
  by_cases hc : chk d s.data.toList = 0
  · rw [if_pos hc, if_pos hc, byName_tot es s (ck_size d s hc).1, Option.bind_some]
    by_cases h1 : s.toList = []
    · rw [if_pos h1, if_pos h1]
    · rw [if_neg h1, if_neg h1]
      by_cases h2 : (nameF es s).2 = 0
      · rw [if_pos h2, if_pos h2]
      · rw [if_neg h2, if_neg h2]
  · rw [if_neg hc, if_neg hc]
theorem red_tot (k : Nat) (es : List Ent) (a : Int) (s : ByteArray) (b : Int) (t : ByteArray) (hs : s.size ≤ 60) (ht : t.size ≤ 60) : arrays_below.j1 (k + 2) es a s b t = some (redF es a s b t) := by
  rw [arrays_below.j1]
  have h2 : ∀ x : Bool, arrays_below.j2 (k + 1) es x a s b t = some (if x = true then (a == b && (s.toList == t.toList)) else if a > 0 then topB t else if b > 0 then false else extF es (nameF es s).1 (nameF es t).1) := by
    intro x
    rw [arrays_below.j2, byName_tot es s hs, byName_tot es t ht, Option.bind_some, Option.bind_some]
    cases x
    · rw [if_neg (show ¬ (false = true) by simp), if_neg (show ¬ (false = true) by simp)]
      by_cases h1 : a > 0
      · rw [if_pos h1, if_pos h1]
        unfold arrays_top.f topB
        by_cases c1 : t.toList = ([79, 98, 106, 101, 99, 116] : List UInt8)
        · rw [if_pos c1, if_pos c1]; rfl
        · rw [if_neg c1, if_neg c1]
          by_cases c2 : t.toList = ([67, 108, 111, 110, 101, 97, 98, 108, 101] : List UInt8)
          · rw [if_pos c2, if_pos c2]; rfl
          · rw [if_neg c2, if_neg c2]; rfl
      · rw [if_neg h1, if_neg h1]
        by_cases h2 : b > 0
        · rw [if_pos h2, if_pos h2]
        · rw [if_neg h2, if_neg h2]
          rfl
    · rfl
  rw [show arrays_isInt.f a s = some (intT a s) from rfl, Option.bind_some, show arrays_isInt.f b t = some (intT b t) from rfl, Option.bind_some, h2, h2]
  unfold redF
  cases intT a s <;> cases intT b t <;> rfl
theorem below_tot (es : List Ent) (s t : ByteArray) (hs : s.size ≤ 60) (ht : t.size ≤ 60) : ∀ (n : Nat) (a b : Int) (k : Nat), 0 ≤ a → 0 ≤ b → a ≤ 255 → b ≤ 255 → min a b ≤ n → n + 3 ≤ k → arrays_below.l0 k es a s b t = some (belowF es a s b t)
  | 0, a, b, k, ha, hb, ha2, hb2, hm, hk => by
    obtain ⟨k, rfl⟩ : ∃ m, k = m + 3 := ⟨k - 3, by omega⟩
    have h0 : min a b = 0 := by omega
    rw [arrays_below.l0, red_tot k es a s b t hs ht]
    unfold belowF
    rw [h0, Int.sub_zero, Int.sub_zero]
    by_cases h1 : a > 0
    · rw [if_pos h1, if_neg (by omega)]
    · rw [if_neg h1]
  | n + 1, a, b, k, ha, hb, ha2, hb2, hm, hk => by
    obtain ⟨k, rfl⟩ : ∃ m, k = m + 3 := ⟨k - 3, by omega⟩
    rw [arrays_below.l0]
    by_cases h1 : a > 0
    · rw [if_pos h1]
      by_cases h2 : b > 0
      · rw [if_pos h2, show wrap64 (a - 1) = a - 1 by unfold wrap64; omega, show wrap64 (b - 1) = b - 1 by unfold wrap64; omega]
        rw [below_tot es s t hs ht n (a - 1) (b - 1) (k + 2) (by omega) (by omega) (by omega) (by omega) (by omega) (by omega)]
        unfold belowF
        rw [show a - 1 - min (a - 1) (b - 1) = a - min a b by omega, show b - 1 - min (a - 1) (b - 1) = b - min a b by omega]
      · rw [if_neg h2, red_tot k es a s b t hs ht]
        unfold belowF
        rw [show min a b = 0 by omega, Int.sub_zero, Int.sub_zero]
    · rw [if_neg h1, red_tot k es a s b t hs ht]
      unfold belowF
      rw [show min a b = 0 by omega, Int.sub_zero, Int.sub_zero]
theorem below_all {es : List Ent} {a b : Int} {s t : ByteArray} (h1 : loadF es a s = 0) (h2 : loadF es b t = 0) : arrays_below.f 300 es a s b t = some (belowF es a s b t) := by
  obtain ⟨s1, s2, s3⟩ := load_size h1
  obtain ⟨t1, t2, t3⟩ := load_size h2
  exact below_tot es s t s1 t1 255 a b 300 s2 t2 s3 t3 (by omega) (by omega)
end Go.Proofs.YtmlifggklaeieaaDoor.Pt

/- What holds of every world that comes of classes arriving: the order of its classes. -/
namespace Go.Proofs.YtmlifggklaeieaaDoor.Hi
open Go Go.RowKit Go.Proofs.YtmlifggklaeieaaDoor.Nm Go.Proofs.YtmlifggklaeieaaDoorW.PrintWords Go.Proofs.YtmlifggklaeieaaDoorW.PrintLast Go.Proofs.YtmlifggklaeieaaDoorW.PrintMore Go.Proofs.YtmlifggklaeieaaDoor.Pt
set_option linter.unusedVariables false
set_option linter.unusedSimpArgs false
set_option maxRecDepth 100000

theorem mem_addI {l : List Int} {i k : Int} : k ∈ addI l i ↔ k ∈ l ∨ k = i := by
  unfold addI
  split
  · rename_i h
    have h : i ∈ l := by simpa using h
    exact ⟨.inl, fun h2 => h2.elim id (fun e => e ▸ h)⟩
  · simp
theorem mem_foldI {ks : List Int} {k : Int} : ∀ {l : List Int}, k ∈ foldI ks l ↔ k ∈ l ∨ k ∈ ks := by
  induction ks with
  | nil => intro l; simp [foldI]
  | cons a ks ih =>
    intro l
    show k ∈ foldI ks (addI l a) ↔ _
    rw [ih, mem_addI]
    simp [or_assoc]
theorem mem_closF {es : List Ent} {ifs : List Int} {k : Int} : ∀ {acc : List Int}, k ∈ closF es acc ifs ↔ k ∈ acc ∨ ∃ i ∈ ifs, k = i ∨ k ∈ (ent es i).clo := by
  induction ifs with
  | nil => intro l; simp [closF]
  | cons a ifs ih =>
    intro l
    show k ∈ closF es (addI (foldI (ent es a).clo l) a) ifs ↔ _
    rw [ih, mem_addI, mem_foldI]
    constructor
    · rintro (((h | h) | h) | ⟨i, hi, h⟩)
      · exact .inl h
      · exact .inr ⟨a, by simp, .inr h⟩
      · exact .inr ⟨a, by simp, .inl h⟩
      · exact .inr ⟨i, by simp [hi], h⟩
    · rintro (h | ⟨i, hi, h⟩)
      · exact .inl (.inl (.inl h))
      · rcases List.mem_cons.1 hi with rfl | hi
        · rcases h with h | h
          · exact .inl (.inr h)
          · exact .inl (.inl (.inr h))
        · exact .inr ⟨i, hi, h⟩
/-- What fits: an interface or not, as is asked; and open. -/
theorem aboveF_fit {es : List Ent} {c : S44} {n : ByteArray} {want : Bool} (h : (aboveF es c n want).2 = 0) : isI (ent es (aboveF es c n want).1).c = want ∧ (want = false → isI c = true → (aboveF es c n want).1 = 0) ∧
    (Go.bits .and .i64 (ent es (aboveF es c n want).1).c.f3 1 ≠ 0 ∨ tog c (ent es (aboveF es c n want).1).c = true) := by
  have h0 := aboveF_in h
  have h1 : aboveF es c n want = fitF (nameF es n).1 (ent es (nameF es n).1).c c want := if_pos h0.2.2.2
  have h2 := h0.2.2.1
  rw [h2]
  rw [h1] at h
  unfold fitF at h
  split at h
  · cases h
  · rename_i c1
    split at h
    · cases h
    · rename_i c2
      split at h
      · cases h
      · rename_i c3
        refine ⟨by simpa using c1, fun hw hi => ?_, ?_⟩
        · subst hw
          rw [hi] at c2
          simpa using c2
        · by_cases hp : Go.bits .and .i64 (ent es (nameF es n).1).c.f3 1 = 0
          · right
            rw [hp] at c3
            simpa using c3
          · exact .inl hp
/-- The order of the classes. -/
structure Thy (es : List Ent) : Prop where
  good : Good es
  base : ∃ rest, es = newE ++ rest
  names : (es.map (·.c.f0)).Nodup
  sup : ∀ (i : Nat) (x : Ent), es[i]? = some x → 1 ≤ i → 0 ≤ x.above ∧ x.above < i ∧ isI (ent es x.above).c = false ∧ (isI x.c = true → x.above = 0)
  clo : ∀ (i : Nat) (x : Ent), es[i]? = some x → ∀ j ∈ x.clo, 0 ≤ j ∧ j < i ∧ isI (ent es j).c = true ∧ ∀ k ∈ (ent es j).clo, k ∈ x.clo
  up : ∀ (i : Nat) (x : Ent), es[i]? = some x → 1 ≤ i → ∀ k ∈ (ent es x.above).clo, k ∈ x.clo
  src : ∀ (i : Nat) (x : Ent), es[i]? = some x → 3 ≤ i → Took (es.take i) x.c x
theorem thy_new : Thy newE := by
  have h3 : ∀ (i : Nat) (x : Ent), newE[i]? = some x → (i = 0 ∧ x = ⟨objC, -1, 0, []⟩) ∨ (i = 1 ∧ x = ⟨ifaceC sCloneable, 0, 1, []⟩) ∨ (i = 2 ∧ x = ⟨ifaceC sSerializable, 0, 1, []⟩) := by
    intro i x hx
    match i, hx with
    | 0, hx => simp [newE] at hx; exact .inl ⟨rfl, hx.symm⟩
    | 1, hx => simp [newE] at hx; exact .inr (.inl ⟨rfl, hx.symm⟩)
    | 2, hx => simp [newE] at hx; exact .inr (.inr ⟨rfl, hx.symm⟩)
    | i + 3, hx => simp [newE] at hx
  refine ⟨good_new, ⟨[], by simp⟩, by decide, fun i x hx h1 => ?_, fun i x hx j hj => ?_, fun i x hx h1 k hk => ?_, fun i x hx h1 => ?_⟩
  · rcases h3 i x hx with ⟨rfl, rfl⟩ | ⟨rfl, rfl⟩ | ⟨rfl, rfl⟩
    · omega
    · exact ⟨by decide, by decide, by decide, fun _ => rfl⟩
    · exact ⟨by decide, by decide, by decide, fun _ => rfl⟩
  · rcases h3 i x hx with ⟨rfl, rfl⟩ | ⟨rfl, rfl⟩ | ⟨rfl, rfl⟩ <;> cases hj
  · rcases h3 i x hx with ⟨rfl, rfl⟩ | ⟨rfl, rfl⟩ | ⟨rfl, rfl⟩
    · omega
    · exact hk
    · exact hk
  · rcases h3 i x hx with ⟨rfl, rfl⟩ | ⟨rfl, rfl⟩ | ⟨rfl, rfl⟩ <;> omega
theorem get_last {es : List Ent} {x y : Ent} {i : Nat} (h : (es ++ [x])[i]? = some y) : (i < es.length ∧ es[i]? = some y) ∨ (i = es.length ∧ y = x) := by
  rcases Nat.lt_trichotomy i es.length with hi | hi | hi
  · rw [List.getElem?_append_left hi] at h
    exact .inl ⟨hi, h⟩
  · subst hi
    rw [List.getElem?_append_right (Nat.le_refl _), Nat.sub_self] at h
    cases h
    exact .inr ⟨rfl, rfl⟩
  · rw [List.getElem?_eq_none (by simp; omega)] at h
    cases h
theorem len_base {es : List Ent} (h : ∃ rest, es = newE ++ rest) : 3 ≤ es.length := by
  obtain ⟨r, rfl⟩ := h
  rw [List.length_append]
  show 3 ≤ 3 + _
  omega
theorem thy_took {es : List Ent} {c : S44} {x : Ent} (h : Thy es) (ht : Took es c x) : Thy (es ++ [x]) := by
  have h1 := aboveF_in ht.sup
  have f1 := aboveF_fit ht.sup
  have hxc : x.c = c := by rw [ht.isx]; rfl
  have hxa : x.above = (aboveF es c c.f1 false).1 := by rw [ht.isx]; rfl
  have hxk : x.clo = closF es (ent es x.above).clo (c.f2.map fun n => (aboveF es c n true).1) := by
    rw [hxa, ht.isx]
    show closF es _ _ = _
    rw [if_pos h1.1]
  generalize (aboveF es c c.f1 false).1 = sp at *
  have hl3 := len_base h.base
  have hsp := get_ent h1.1 h1.2.1
  -- what is in the new closure
  have hcl : ∀ j ∈ x.clo, 0 ≤ j ∧ j < es.length ∧ isI (ent es j).c = true ∧ ∀ k ∈ (ent es j).clo, k ∈ x.clo := by
    intro j hj
    rw [hxk] at hj ⊢
    rcases mem_closF.1 hj with hj | ⟨i, hi, hj⟩
    · rw [hxa] at hj
      obtain ⟨a1, a2, a3, a4⟩ := h.clo _ _ hsp j hj
      exact ⟨a1, by omega, a3, fun k hk => mem_closF.2 (.inl (by rw [hxa]; exact a4 k hk))⟩
    · obtain ⟨n, hn, rfl⟩ := List.mem_map.1 hi
      have hi2 := aboveF_in (ht.ifs n hn)
      have hf := (aboveF_fit (ht.ifs n hn)).1
      generalize (aboveF es c n true).1 = i at *
      rcases hj with rfl | hj
      · exact ⟨hi2.1, hi2.2.1, hf, fun k hk => mem_closF.2 (.inr ⟨_, hi, .inr hk⟩)⟩
      · obtain ⟨a1, a2, a3, a4⟩ := h.clo _ _ (get_ent hi2.1 hi2.2.1) j hj
        exact ⟨a1, by omega, a3, fun k hk => mem_closF.2 (.inr ⟨_, hi, .inr (a4 k hk)⟩)⟩
  refine ⟨good_took h.good ht, ?_, ?_, fun i y hy hi => ?_, fun i y hy j hj => ?_, fun i y hy hi k hk => ?_, fun i y hy hi => ?_⟩
  · obtain ⟨r, rfl⟩ := h.base
    exact ⟨r ++ [x], by rw [List.append_assoc]⟩
  · rw [List.map_append]
    refine List.nodup_append.2 ⟨h.names, by simp, fun a ha b hb => ?_⟩
    rw [List.map_cons, List.map_nil, List.mem_singleton, hxc] at hb
    rw [hb]
    rintro rfl
    exact ht.fresh ha
  · rcases get_last hy with ⟨hi2, hy⟩ | ⟨rfl, rfl⟩
    · obtain ⟨a1, a2, a3, a4⟩ := h.sup i y hy hi
      exact ⟨a1, a2, by rw [ent_old a1 (by omega)]; exact a3, a4⟩
    · rw [hxa]
      exact ⟨h1.1, h1.2.1, by rw [ent_old h1.1 h1.2.1]; exact f1.1, fun hi => f1.2.1 rfl (by rw [← hxc]; exact hi)⟩
  · rcases get_last hy with ⟨hi2, hy⟩ | ⟨rfl, rfl⟩
    · obtain ⟨a1, a2, a3, a4⟩ := h.clo i y hy j hj
      refine ⟨a1, a2, ?_⟩
      rw [ent_old a1 (by omega)]
      exact ⟨a3, a4⟩
    · obtain ⟨a1, a2, a3, a4⟩ := hcl j hj
      refine ⟨a1, a2, ?_⟩
      rw [ent_old a1 (by omega)]
      exact ⟨a3, a4⟩
  · rcases get_last hy with ⟨hi2, hy⟩ | ⟨rfl, rfl⟩
    · obtain ⟨a1, a2, _, _⟩ := h.sup i y hy hi
      rw [ent_old a1 (by omega)] at hk
      exact h.up i y hy hi k hk
    · rw [hxa, ent_old h1.1 h1.2.1] at hk
      rw [hxk]
      exact mem_closF.2 (.inl (by rw [hxa]; exact hk))
  · rcases get_last hy with ⟨hi2, hy⟩ | ⟨rfl, rfl⟩
    · rw [List.take_append_of_le_length (by omega)]
      exact h.src i y hy hi
    · rw [List.take_append_of_le_length (Nat.le_refl _), List.take_length, hxc]
      exact ht
theorem thy_made {es : List Ent} (h : Made es) : Thy es := by
  induction h with
  | new => exact thy_new
  | step es c _ ih =>
    rcases stepF_cases es c with h | ⟨x, h, ht⟩
    · rw [h]; exact ih
    · rw [h]; exact thy_took ih ht
/-- Up from class to class. -/
inductive Anc (es : List Ent) : Int → Int → Prop
  | refl (a : Int) : Anc es a a
  | up (a b : Int) : 0 ≤ (ent es a).above → Anc es (ent es a).above b → Anc es a b
theorem Anc.trans {es : List Ent} {a b c : Int} (h : Anc es a b) (h2 : Anc es b c) : Anc es a c := by
  induction h with
  | refl => exact h2
  | up a b h0 _ ih => exact .up a c h0 (ih h2)
theorem Anc.le {es : List Ent} (ht : Tree es) {a b : Int} (h : Anc es a b) : 0 ≤ a → a < es.length → 0 ≤ b ∧ b ≤ a ∧ (ent es b).depth ≤ (ent es a).depth ∧ ((ent es b).depth = (ent es a).depth → b = a) := by
  induction h with
  | refl => exact fun h0 h1 => ⟨h0, Int.le_refl _, Int.le_refl _, fun _ => rfl⟩
  | up a b h0 _ ih =>
    intro h1 h2
    rcases ht.at_ h1 h2 with ⟨h3, _⟩ | ⟨h3, h4, h5⟩
    · omega
    · obtain ⟨i1, i2, i3, i4⟩ := ih h3 (by omega)
      exact ⟨i1, by omega, by omega, fun e => by omega⟩
theorem climb_anc {es : List Ent} (ht : Tree es) : ∀ (k : Nat) (a d : Int), 0 ≤ a → a < es.length → 0 ≤ d → Anc es a (climb es k a d)
  | 0, a, d, _, _, _ => .refl a
  | k + 1, a, d, h0, h1, hd => by
    rw [climb]
    by_cases hc : (ent es a).depth > d
    · rw [if_pos hc]
      rcases ht.at_ h0 h1 with ⟨_, h4⟩ | ⟨h3, h4, h5⟩
      · omega
      · exact .up _ _ h3 (climb_anc ht k _ d h3 (by omega) hd)
    · rw [if_neg hc]
      exact .refl a
theorem anc_climb {es : List Ent} (ht : Tree es) {a b : Int} (h : Anc es a b) : ∀ (k : Nat), 0 ≤ a → a < es.length → (ent es a).depth ≤ (ent es b).depth + k → climb es k a (ent es b).depth = b := by
  induction h with
  | refl a =>
    intro k h0 h1 hk
    cases k with
    | zero => rfl
    | succ k => rw [climb, if_neg (by omega)]
  | up a b ha hb ih =>
    intro k h0 h1 hk
    rcases ht.at_ h0 h1 with ⟨h3, _⟩ | ⟨h3, h4, h5⟩
    · omega
    · have hl := hb.le ht h3 (by omega)
      cases k with
      | zero => omega
      | succ k =>
        rw [climb, if_pos (by omega)]
        exact ih k h3 (by omega) (by omega)
/-- Extends, as it is told: up by interfaces, or by superclasses. -/
def Ext (es : List Ent) (a b : Int) : Prop := (isI (ent es b).c = true ∧ (a = b ∨ b ∈ (ent es a).clo)) ∨ (isI (ent es b).c = false ∧ Anc es a b)
theorem extF_iff {es : List Ent} (ht : Tree es) {a b : Int} (h0 : 0 ≤ a) (h1 : a < es.length) (h2 : 0 ≤ b) (h3 : b < es.length) : extF es a b = true ↔ Ext es a b := by
  unfold extF Ext inB
  rw [decide_eq_true (⟨h0, h1⟩ : 0 ≤ a ∧ a < (es.length : Int)), decide_eq_true (⟨h2, h3⟩ : 0 ≤ b ∧ b < (es.length : Int))]
  cases hi : isI (ent es b).c with
  | true => simp
  | false =>
    simp only [Bool.and_self, if_true, Bool.false_eq_true, if_false, beq_iff_eq, false_and, false_or, true_and]
    have hb := ht.depth_ h2 h3
    have ha := ht.depth_ h0 h1
    constructor
    · intro e
      rw [← e]
      exact climb_anc ht _ _ _ h0 h1 hb.1
    · intro h
      exact anc_climb ht h _ h0 h1 (by omega)
theorem Thy.anc_clo {es : List Ent} (h : Thy es) {a b : Int} (hab : Anc es a b) : 0 ≤ a → a < es.length → ∀ k ∈ (ent es b).clo, k ∈ (ent es a).clo := by
  induction hab with
  | refl => exact fun _ _ _ hk => hk
  | up a b ha _ ih =>
    intro h0 h1 k hk
    have hx := get_ent h0 h1
    rcases h.good.tree.at_ h0 h1 with ⟨h3, _⟩ | ⟨h3, h4, h5⟩
    · omega
    · exact h.up _ _ hx (by omega) k (ih h3 (by omega) k hk)
theorem Thy.ext_le {es : List Ent} (h : Thy es) {a b : Int} (h0 : 0 ≤ a) (h1 : a < es.length) (hab : Ext es a b) : 0 ≤ b ∧ b ≤ a := by
  rcases hab with ⟨_, rfl | hb⟩ | ⟨_, hb⟩
  · exact ⟨h0, Int.le_refl _⟩
  · have := h.clo _ _ (get_ent h0 h1) b hb
    exact ⟨this.1, by omega⟩
  · have := hb.le h.good.tree h0 h1
    exact ⟨this.1, this.2.1⟩
theorem Thy.anc0 {es : List Ent} (h : Thy es) : ∀ (n : Nat) (a : Int), a.toNat < n → 0 ≤ a → a < es.length → Anc es a 0
  | 0, a, hn, _, _ => absurd hn (by omega)
  | n + 1, a, hn, h0, h1 => by
    by_cases ha : a = 0
    · subst ha; exact .refl 0
    · obtain ⟨a1, a2, _, _⟩ := h.sup _ _ (get_ent h0 h1) (by omega)
      exact .up _ _ a1 (Thy.anc0 h n _ (by omega) a1 (by omega))
theorem Thy.obj {es : List Ent} (h : Thy es) : ent es 0 = ⟨objC, -1, 0, []⟩ ∧ ent es 1 = ⟨ifaceC sCloneable, 0, 1, []⟩ ∧ ent es 2 = ⟨ifaceC sSerializable, 0, 1, []⟩ := by
  obtain ⟨r, rfl⟩ := h.base
  exact ⟨rfl, rfl, rfl⟩
theorem Thy.ext_refl {es : List Ent} (h : Thy es) (a : Int) : Ext es a a := by
  cases hi : isI (ent es a).c with
  | true => exact .inl ⟨hi, .inl rfl⟩
  | false => exact .inr ⟨hi, .refl a⟩
theorem Thy.ext_trans {es : List Ent} (h : Thy es) {a b c : Int} (h0 : 0 ≤ a) (h1 : a < es.length) (hab : Ext es a b) (hbc : Ext es b c) : Ext es a c := by
  have hb := h.ext_le h0 h1 hab
  rcases hbc with ⟨hc, rfl | hk⟩ | ⟨hc, hk⟩
  · exact hab
  · refine .inl ⟨hc, .inr ?_⟩
    rcases hab with ⟨_, rfl | hj⟩ | ⟨_, hj⟩
    · exact hk
    · exact (h.clo _ _ (get_ent h0 h1) b hj).2.2.2 c hk
    · exact h.anc_clo hj h0 h1 c hk
  · rcases hab with ⟨hbi, hj⟩ | ⟨_, hj⟩
    · -- b is an interface: above it stands Object alone
      cases hk with
      | refl => rw [hc] at hbi; cases hbi
      | up _ _ hu hk =>
        have hb1 : 1 ≤ b := by
          apply Classical.byContradiction
          intro hn
          have : b = 0 := by omega
          subst this
          rw [h.obj.1] at hbi
          revert hbi
          decide
        have := (h.sup _ _ (get_ent hb.1 (by omega)) (by omega)).2.2.2 hbi
        rw [this] at hk
        have h3 := len_base h.base
        have hc0 := hk.le h.good.tree (by omega) (by omega)
        have : c = 0 := by omega
        subst this
        exact .inr ⟨hc, h.anc0 _ a (Nat.lt_succ_self _) h0 h1⟩
    · exact .inr ⟨hc, hj.trans hk⟩
theorem Thy.ext_anti {es : List Ent} (h : Thy es) {a b : Int} (h0 : 0 ≤ a) (h1 : a < es.length) (h2 : 0 ≤ b) (h3 : b < es.length) (hab : Ext es a b) (hba : Ext es b a) : a = b := by
  have := h.ext_le h0 h1 hab
  have := h.ext_le h2 h3 hba
  omega
end Go.Proofs.YtmlifggklaeieaaDoor.Hi

/- Below, as a relation of the loaded types of a made world. -/
namespace Go.Proofs.YtmlifggklaeieaaDoor.Pt
open Go Go.RowKit Go.Proofs.YtmlifggklaeieaaDoor.Nm Go.Proofs.YtmlifggklaeieaaDoor.Ty Go.Proofs.YtmlifggklaeieaaDoor.Hi Go.Proofs.YtmlifggklaeieaaDoorW.PrintWords Go.Proofs.YtmlifggklaeieaaDoorW.PrintLast Go.Proofs.YtmlifggklaeieaaDoorW.PrintMore
set_option linter.unusedVariables false
set_option linter.unusedSimpArgs false
set_option maxRecDepth 100000

theorem name_at {es : List Ent} {d : Int} {s : ByteArray} (h : loadF es d s = 0) (hs : s.toList ≠ []) : 0 ≤ (nameF es s).1 ∧ (nameF es s).1 < es.length ∧ (ent es (nameF es s).1).c.f0 = s := by
  unfold loadF at h
  by_cases hc : chk d s.data.toList = 0
  · rw [if_pos hc, if_neg hs] at h
    by_cases h2 : (nameF es s).2 = 0
    · exact nameF_in h2
    · rw [if_neg h2] at h
      cases h
  · rw [if_neg hc] at h
    exact absurd h hc
theorem _root_.Go.Proofs.YtmlifggklaeieaaDoor.Hi.Thy.name_inj {es : List Ent} (h : Thy es) {i j : Int} (h0 : 0 ≤ i) (h1 : i < es.length) (h2 : 0 ≤ j) (h3 : j < es.length) (he : (ent es i).c.f0 = (ent es j).c.f0) : i = j := by
  have hi : (es.map (·.c.f0))[i.toNat]? = some (ent es i).c.f0 := by
    rw [List.getElem?_map, get_ent h0 h1]; rfl
  have hj : (es.map (·.c.f0))[j.toNat]? = some (ent es j).c.f0 := by
    rw [List.getElem?_map, get_ent h2 h3]; rfl
  have hl : (es.map (·.c.f0)).length = es.length := List.length_map _
  rw [List.getElem?_eq_getElem (by omega)] at hi hj
  have hij := (Option.some.inj hi).trans (he.trans (Option.some.inj hj).symm)
  have hp := List.pairwise_iff_getElem.1 h.names
  rcases Nat.lt_trichotomy i.toNat j.toNat with hlt | heq | hlt
  · exact absurd hij (hp _ _ (by omega) (by omega) hlt)
  · omega
  · exact absurd hij.symm (hp _ _ (by omega) (by omega) hlt)
theorem nameF_of {es : List Ent} (h : Thy es) {i : Int} (h0 : 0 ≤ i) (h1 : i < es.length) : nameF es (ent es i).c.f0 = (i, 0) := by
  have h2 : (nameF es (ent es i).c.f0).2 = 0 := by
    unfold nameF
    cases hf : (es.map (·.c.f0)).findIdx? (fun t => decide (t = (ent es i).c.f0)) with
    | some k => rfl
    | none =>
      rw [List.findIdx?_eq_none_iff] at hf
      have := hf _ (List.mem_map_of_mem (List.mem_of_getElem? (get_ent h0 h1)))
      simp at this
  have h3 := nameF_in h2
  have h4 := h.name_inj h3.1 h3.2.1 h0 h1 h3.2.2
  exact Prod.ext h4 h2
theorem top_cases {s : ByteArray} (h : topB s = true) : s = sObject ∨ s = sCloneable ∨ s = sSerializable := by
  unfold topB at h
  split at h
  · rename_i h1
    exact .inl (ba_eq (h1.trans (by decide +kernel)))
  · split at h
    · rename_i h1
      exact .inr (.inl (ba_eq (h1.trans (by decide +kernel))))
    · exact .inr (.inr (ba_eq ((beq_iff_eq.1 h).trans (by decide +kernel))))
theorem _root_.Go.Proofs.YtmlifggklaeieaaDoor.Hi.Thy.top_le {es : List Ent} (h : Thy es) {d : Int} {s : ByteArray} (hl : loadF es d s = 0) (ht : topB s = true) : (nameF es s).1 ≤ 2 := by
  have h3 := len_base h.base
  obtain ⟨o0, o1, o2⟩ := h.obj
  rcases top_cases ht with rfl | rfl | rfl
  · have := nameF_of h (i := 0) (by omega) (by omega)
    rw [o0] at this
    rw [show (sObject : ByteArray) = objC.f0 from rfl, this]
    decide
  · have := nameF_of h (i := 1) (by omega) (by omega)
    rw [o1] at this
    rw [show (sCloneable : ByteArray) = (ifaceC sCloneable).f0 from rfl, this]
    decide
  · have := nameF_of h (i := 2) (by omega) (by omega)
    rw [o2] at this
    rw [show (sSerializable : ByteArray) = (ifaceC sSerializable).f0 from rfl, this]
    decide
theorem _root_.Go.Proofs.YtmlifggklaeieaaDoor.Hi.Thy.le_top {es : List Ent} (h : Thy es) {i : Int} (h0 : 0 ≤ i) (h2 : i ≤ 2) : topB (ent es i).c.f0 = true := by
  obtain ⟨o0, o1, o2⟩ := h.obj
  have : i = 0 ∨ i = 1 ∨ i = 2 := by omega
  rcases this with rfl | rfl | rfl
  · rw [o0]; decide +kernel
  · rw [o1]; decide +kernel
  · rw [o2]; decide +kernel
theorem top_ne {s : ByteArray} (h : topB s = true) : s.toList ≠ [] := by
  intro e
  unfold topB at h
  rw [e] at h
  simp at h
/-- Below, told. -/
def BelP (es : List Ent) (a : Int) (s : ByteArray) (b : Int) (t : ByteArray) : Prop :=
  (a = b ∧ ((s.toList = [] ∧ t.toList = []) ∨ (s.toList ≠ [] ∧ t.toList ≠ [] ∧ Ext es (nameF es s).1 (nameF es t).1))) ∨ (b < a ∧ topB t = true)
theorem bel_iff {es : List Ent} (h : Thy es) {a b : Int} {s t : ByteArray} (hs : loadF es a s = 0) (ht : loadF es b t = 0) : belowF es a s b t = true ↔ BelP es a s b t := by
  obtain ⟨s1, s2, s3⟩ := load_size hs
  obtain ⟨t1, t2, t3⟩ := load_size ht
  unfold belowF redF intT BelP
  rcases Int.lt_trichotomy a b with hab | rfl | hab
  · rw [show min a b = a by omega, Int.sub_self]
    have e1 : (b - a == 0) = false := beq_eq_false_iff_ne.2 (by omega)
    have e2 : ((0 : Int) == b - a) = false := beq_eq_false_iff_ne.2 (by omega)
    rw [e1, e2]
    simp only [Bool.false_and, Bool.or_false]
    constructor
    · intro h
      split at h
      · cases h
      · rw [if_neg (by omega), if_pos (by omega)] at h
        cases h
    · rintro (⟨h, _⟩ | ⟨h, _⟩) <;> omega
  · rw [show min a a = a by omega, Int.sub_self]
    simp only [beq_self_eq_true, Bool.true_and, Int.lt_irrefl, false_and, or_false, true_and, gt_iff_lt, if_false]
    by_cases e1 : s.toList = []
    · rw [e1]
      simp only [beq_self_eq_true, Bool.true_or, if_true, beq_iff_eq, ne_eq, not_true_eq_false, false_and, or_false, true_and]
      exact ⟨fun h => h.symm, fun h => h.symm⟩
    · by_cases e2 : t.toList = []
      · rw [e2]
        simp [e1]
      · have n1 := name_at hs e1
        have n2 := name_at ht e2
        have d1 : (s.toList == []) = false := beq_eq_false_iff_ne.2 e1
        have d2 : (t.toList == []) = false := beq_eq_false_iff_ne.2 e2
        rw [d1, d2]
        simp only [Bool.or_self, Bool.false_eq_true, if_false]
        rw [extF_iff h.good.tree n1.1 n1.2.1 n2.1 n2.2.1]
        simp [e1, e2]
  · rw [show min a b = b by omega, Int.sub_self]
    have e1 : (a - b == 0) = false := beq_eq_false_iff_ne.2 (by omega)
    rw [e1]
    simp only [Bool.false_and, Bool.false_or, beq_self_eq_true, Bool.true_and]
    by_cases e2 : t.toList = []
    · rw [e2]
      simp only [beq_self_eq_true, if_true, Bool.false_eq_true, false_iff]
      rintro (⟨h, _⟩ | ⟨_, h⟩)
      · omega
      · exact top_ne h e2
    · have d2 : (t.toList == []) = false := beq_eq_false_iff_ne.2 e2
      rw [d2, if_neg (by simp), if_pos (by omega)]
      exact ⟨fun h => .inr ⟨hab, h⟩, fun h => h.elim (fun h => by omega) (fun h => h.2)⟩
theorem bel_refl {es : List Ent} (h : Thy es) (a : Int) (s : ByteArray) : BelP es a s a s := by
  by_cases e : s.toList = []
  · exact .inl ⟨rfl, .inl ⟨e, e⟩⟩
  · exact .inl ⟨rfl, .inr ⟨e, e, h.ext_refl _⟩⟩
theorem bel_trans {es : List Ent} (h : Thy es) {a b c : Int} {s t u : ByteArray} (hs : loadF es a s = 0) (ht : loadF es b t = 0) (hu : loadF es c u = 0) (h1 : BelP es a s b t) (h2 : BelP es b t c u) : BelP es a s c u := by
  rcases h1 with ⟨rfl, h1⟩ | ⟨hba, h1⟩
  · rcases h2 with ⟨rfl, h2⟩ | ⟨hcb, h2⟩
    · rcases h1 with ⟨e1, e2⟩ | ⟨e1, e2, x1⟩
      · rcases h2 with ⟨e3, e4⟩ | ⟨e3, _⟩
        · exact .inl ⟨rfl, .inl ⟨e1, e4⟩⟩
        · exact absurd e2 e3
      · rcases h2 with ⟨e3, e4⟩ | ⟨e3, e4, x2⟩
        · exact absurd e3 e2
        · have n1 := name_at hs e1
          exact .inl ⟨rfl, .inr ⟨e1, e4, h.ext_trans n1.1 n1.2.1 x1 x2⟩⟩
    · exact .inr ⟨hcb, h2⟩
  · rcases h2 with ⟨rfl, h2⟩ | ⟨hcb, h2⟩
    · rcases h2 with ⟨e3, e4⟩ | ⟨e3, e4, x2⟩
      · exact absurd e3 (top_ne h1)
      · have n2 := name_at ht e3
        have n3 := name_at hu e4
        have l1 := h.top_le ht h1
        have l2 := h.ext_le n2.1 n2.2.1 x2
        refine .inr ⟨hba, ?_⟩
        have := h.le_top (i := (nameF es u).1) l2.1 (by omega)
        rwa [n3.2.2] at this
    · exact .inr ⟨by omega, h2⟩
theorem bel_anti {es : List Ent} (h : Thy es) {a b : Int} {s t : ByteArray} (hs : loadF es a s = 0) (ht : loadF es b t = 0) (h1 : BelP es a s b t) (h2 : BelP es b t a s) : a = b ∧ s.data.toList = t.data.toList := by
  rcases h1 with ⟨rfl, h1⟩ | ⟨hba, h1⟩
  · refine ⟨rfl, ?_⟩
    rcases h1 with ⟨e1, e2⟩ | ⟨e1, e2, x1⟩
    · rw [ByteArray.toList_eq] at e1 e2
      rw [e1, e2]
    · rcases h2 with ⟨_, h2⟩ | ⟨h2, _⟩
      · rcases h2 with ⟨e3, e4⟩ | ⟨e3, e4, x2⟩
        · exact absurd e4 e1
        · have n1 := name_at hs e1
          have n2 := name_at ht e2
          have := h.ext_anti n1.1 n1.2.1 n2.1 n2.2.1 x1 x2
          rw [← n1.2.2, ← n2.2.2, this]
      · omega
  · rcases h2 with ⟨h2, _⟩ | ⟨h2, _⟩ <;> omega
theorem bel_up {es : List Ent} {a b : Int} {s t : ByteArray} : BelP es (a + 1) s (b + 1) t ↔ BelP es a s b t := by
  unfold BelP
  rw [show (a + 1 = b + 1) ↔ (a = b) by omega, show (b + 1 < a + 1) ↔ (b < a) by omega]
theorem load_up {es : List Ent} {a : Int} {s : ByteArray} (h : loadF es a s = 0) (ha : a < 255) : loadF es (a + 1) s = 0 := by
  have hs := load_size h
  unfold loadF at h ⊢
  have hc : chk a s.data.toList = 0 := by
    apply Classical.byContradiction
    intro hc
    rw [if_neg hc] at h
    exact hc h
  have hc2 : chk (a + 1) s.data.toList = 0 := by
    unfold chk at hc ⊢
    rw [if_neg (by omega)] at hc ⊢
    exact hc
  rw [if_pos hc] at h
  rw [if_pos hc2]
  exact h
end Go.Proofs.YtmlifggklaeieaaDoor.Pt

/- access.ClassOpen, walked by hand. -/
namespace Go.Proofs.YtmlifggklaeieaaDoor.Pt
open Go Go.RowKit Go.Proofs.YtmlifggklaeieaaDoor.Nm Go.Proofs.YtmlifggklaeieaaDoor.Hi Go.Proofs.YtmlifggklaeieaaDoorW.PrintWords Go.Proofs.YtmlifggklaeieaaDoorW.PrintLast Go.Proofs.YtmlifggklaeieaaDoorW.PrintMore
set_option linter.unusedVariables false
set_option linter.unusedSimpArgs false
set_option maxHeartbeats 2000000
set_option maxRecDepth 100000

theorem tl_eq {a b : ByteArray} (h : a.toList = b.toList) : a = b := by
  rw [ByteArray.toList_eq, ByteArray.toList_eq] at h
  exact ByteArray.ext (Array.toList_inj.1 h)
theorem two_new (w : World) (o1 o2 : Obj) : ((w.alloc o1).alloc o2).heap[w.heap.size]? = some o1 ∧ ((w.alloc o1).alloc o2).heap[w.heap.size + 1]? = some o2 ∧ Below w.heap.size w ((w.alloc o1).alloc o2) :=
  ⟨heap_alloc2_old w o1 o2, heap_alloc2_new w o1 o2, ((Below.refl _ _).alloc (Nat.le_refl _) o1).alloc (by simp) o2⟩
/-- Whether two run-time packages are one. -/
def nearF (h1 h2 : Int × ByteArray × S44 × Int) : Bool := decide (h1.1 = h2.1) && decide (h1.2.1 = h2.2.1)
def copenF (es : List Ent) (d c : Int) : Bool × Int :=
  if (homeF es d).2.2.2 ≠ 0 then (false, (homeF es d).2.2.2) else if (homeF es c).2.2.2 ≠ 0 then (false, (homeF es c).2.2.2) else
  ((Go.bits .and .i64 (homeF es c).2.2.1.f3 1 != 0) || nearF (homeF es d) (homeF es c), 0)
def access_ClassOpen.f (a0 : List Hi.Ent) (a1 : Int) (a2 : Int) : Option (Bool × Int) := some (copenF a0 a1 a2)
theorem access_ClassOpen.calls (G_ : Nat) (a0 : List Hi.Ent) (a1 : Int) (a2 : Int) (r1 : Bool) (r2 : Int) (w : World) (hq0 : WOK w G_ a0) (h : access_ClassOpen.f a0 a1 a2 = some (r1, r2)) :
    Calls Tryd.prog 9 #[.pointer (some ⟨G_, 0, none⟩), .int .i64 a1, .int .i64 a2] w fun e w' => e = .returned (.tuple #[.bool r1, .int .i64 r2]) ∧ Below w.heap.size w w' := by
  obtain h := Option.some.inj h
  have hF := Lib.hid h
  have HO := fun (W : World) (hb : Below w.heap.size w W) (i : Int) => access_homeOf.calls G_ a0 i _ _ _ _ _ _ _ _ _ W (hq0.below hb) rfl
  replace HO := Lib.hid HO
  clear h hq0
  have C1 := Lib.hid (HO.out w (Below.refl _ _) a1)
  unfold copenF at hF
  generalize homeF a0 a1 = h1 at *
  obtain ⟨l1, n1, x1, e1⟩ := h1
  go_enter Tryd.func9, Tryd.ntmps9
  go_upto_region 1 with (fail)
  go_cut [0, 1, 2, 6, 7, 8, 10] (fun v0 v1 v2 v6 v7 v8 v10 wr => v0 = .pointer (some ⟨G_, 0, none⟩) ∧ v1 = .int .i64 a1 ∧ v2 = .int .i64 a2 ∧ v10 = .int .i64 e1 ∧ ∃ g1, v8 = .pointer (some ⟨g1, 0, none⟩) ∧ Hid (wr.heap[g1]? = some (.cells #[.int .i64 l1, .string n1] 61 (0, 0))) ∧ Hid (Below w.heap.size w wr))
  case first =>
    go_wp2_with fail
    refine C1.out.mono ?_
    rintro e w1 ⟨v2, v5, rfl, R2, R5, hb1⟩
    obtain ⟨A2, c2, rfl⟩ := Kd.R_slice R2
    obtain ⟨A5, c5, rfl⟩ := Kd.R_slice R5
    clear C1
    go_wp2
    go_meet
    case rel => exact ⟨rfl, rfl, rfl, rfl, _, rfl, Lib.hid (two_new _ _ _).1, Lib.hid (hb1.trans ((two_new _ _ _).2.2.mono hb1.size))⟩
  case rest =>
    clear C1
    obtain ⟨rfl, rfl, rfl, rfl, g1, rfl, E1, HB⟩ := hcut
    by_cases he1 : e1 = 0
    · subst he1
      rw [if_neg (by simp)] at hF
      have C2 := Lib.hid (HO.out wc HB.out a2)
      clear HO
      generalize homeF a0 a2 = h2 at *
      obtain ⟨l2, n2, x2, e2⟩ := h2
      go_upto_region 4 with (fail)
      go_cut [0, 1, 2, 6, 7, 8, 10, 11, 12] (fun v0 v1 v2 v6 v7 v8 v10 v11 v12 wr => v8 = .pointer (some ⟨g1, 0, none⟩) ∧ v10 = .int .i64 e2 ∧ ∃ g2 v1 v2 v4 v5, v11 = .pointer (some ⟨g2, 0, none⟩) ∧ v12 = .pointer (some ⟨g2 + 1, 0, none⟩) ∧ Hid (wr.heap[g1]? = some (.cells #[.int .i64 l1, .string n1] 61 (0, 0))) ∧ Hid (wr.heap[g2]? = some (.cells #[.int .i64 l2, .string n2] 61 (0, 0))) ∧
        Hid (wr.heap[g2 + 1]? = some (.cells #[.string x2.f0, v1, v2, .int .i64 x2.f3, v4, v5] 44 (0, 0))) ∧ Hid (Below w.heap.size w wr))
      case first =>
        go_wp2_with fail
        refine C2.out.mono ?_
        rintro e w2 ⟨v2, v5, rfl, R2, R5, hb2⟩
        obtain ⟨A2, c2, rfl⟩ := Kd.R_slice R2
        obtain ⟨A5, c5, rfl⟩ := Kd.R_slice R5
        clear C2
        go_wp2
        go_meet
        case rel => exact ⟨rfl, rfl, _, _, _, _, _, rfl, rfl, Lib.hid (blk_below (blk_below E1.out hb2) (two_new _ _ _).2.2), Lib.hid (two_new _ _ _).1, Lib.hid (two_new _ _ _).2.1, Lib.hid ((HB.out.trans (hb2.mono HB.out.size)).trans ((two_new _ _ _).2.2.mono (HB.out.trans (hb2.mono HB.out.size)).size))⟩
      case rest =>
        clear C2 E1 HB
        obtain ⟨rfl, rfl, g2, u1, u2, u4, u5, rfl, rfl, E1, E2, E3, HB⟩ := hcut
        by_cases he2 : e2 = 0
        · subst he2
          rw [if_neg (by simp)] at hF
          have q0 : wc.cell? ⟨g1, 0, none⟩ = some (.int .i64 l1) := (blk_cell E1.out 0).trans rfl
          have q1 : wc.cell? ⟨g1, 1, none⟩ = some (.string n1) := (blk_cell E1.out 1).trans rfl
          have r0 : wc.cell? ⟨g2, 0, none⟩ = some (.int .i64 l2) := (blk_cell E2.out 0).trans rfl
          have r1 : wc.cell? ⟨g2, 1, none⟩ = some (.string n2) := (blk_cell E2.out 1).trans rfl
          have r3 : wc.cell? ⟨g2 + 1, 3, none⟩ = some (.int .i64 x2.f3) := (blk_cell E3.out 3).trans rfl
          by_cases hp : Go.bits .and .i64 x2.f3 1 = 0
          · have hp2 : (Go.bits .and .i64 x2.f3 1 != 0) = false := bne_eq_false_iff_eq.2 hp
            rw [hp2, Bool.false_or] at hF
            clear hp
            go_wp2
            all_goals go_ret2
            all_goals have hh := Prod.mk.inj hF.out
            all_goals refine ⟨?_, HB.out⟩
            all_goals rw [← hh.1, ← hh.2]
            · simp [nearF, *]
              exact tl_eq (by assumption)
            · simp [nearF, *]
              intro e
              subst e
              simp_all
            · simp [nearF, *]
          · have hp2 : (Go.bits .and .i64 x2.f3 1 != 0) = true := bne_iff_ne.2 hp
            rw [hp2, Bool.true_or] at hF
            clear hp
            go_wp2
            go_ret2
            have := hF.out
            cases this
            exact ⟨rfl, HB.out⟩
        · have hne : (e2 != 0) = true := bne_iff_ne.2 he2
          rw [if_pos he2] at hF
          clear he2
          go_wp2
          go_ret2
          have := hF.out
          cases this
          exact ⟨rfl, HB.out⟩
    · have hne : (e1 != 0) = true := bne_iff_ne.2 he1
      rw [if_pos he1] at hF
      clear he1 HO
      go_wp2
      go_ret2
      have := hF.out
      cases this
      exact ⟨rfl, HB.out⟩
end Go.Proofs.YtmlifggklaeieaaDoor.Pt

/- access.TypeOpen, walked by hand. -/
namespace Go.Proofs.YtmlifggklaeieaaDoor.Pt
open Go Go.RowKit Go.Proofs.YtmlifggklaeieaaDoor.Nm Go.Proofs.YtmlifggklaeieaaDoor.Hi Go.Proofs.YtmlifggklaeieaaDoorW.PrintWords Go.Proofs.YtmlifggklaeieaaDoorW.PrintLast Go.Proofs.YtmlifggklaeieaaDoorW.PrintMore
set_option linter.unusedVariables false
set_option linter.unusedSimpArgs false
set_option maxHeartbeats 2000000
set_option maxRecDepth 100000

def topenF (es : List Ent) (d a : Int) (s : ByteArray) : Bool × Int :=
  if (homeF es d).2.2.2 ≠ 0 then (false, (homeF es d).2.2.2) else if loadF es a s ≠ 0 then (false, loadF es a s) else if s.toList = [] then (true, 0) else copenF es d (nameF es s).1
def access_TypeOpen.f (a0 : List Hi.Ent) (a1 : Int) (a2_0 : Int) (a2_1 : ByteArray) : Option (Bool × Int) := some (topenF a0 a1 a2_0 a2_1)
theorem access_TypeOpen.calls (G_ : Nat) (a0 : List Hi.Ent) (a1 : Int) (a2_0 : Int) (a2_1 : ByteArray) (r1 : Bool) (r2 : Int) (w : World) (hq0 : WOK w G_ a0) (h : access_TypeOpen.f a0 a1 a2_0 a2_1 = some (r1, r2)) :
    Calls Tryd.prog 10 #[.pointer (some ⟨G_, 0, none⟩), .int .i64 a1, .agg #[.int .i64 a2_0, .string a2_1]] w fun e w' => e = .returned (.tuple #[.bool r1, .int .i64 r2]) ∧ Below w.heap.size w w' := by
  have hF := Lib.hid (Option.some.inj h)
  have HO := Lib.hid (fun (W : World) (hb : Below w.heap.size w W) (i : Int) => access_homeOf.calls G_ a0 i _ _ _ _ _ _ _ _ _ W (hq0.below hb) rfl)
  have HL := Lib.hid (fun (W : World) (hb : Below w.heap.size w W) => arrays_Loaded.calls G_ a0 a2_0 a2_1 _ W (hq0.below hb) (load_tot a0 a2_0 a2_1))
  have HN := Lib.hid (fun (W : World) (hb : Below w.heap.size w W) (hl : loadF a0 a2_0 a2_1 = 0) => hier_World_ByName.calls G_ a0 a2_1 (nameF a0 a2_1).1 (nameF a0 a2_1).2 W (hq0.below hb) (byName_tot a0 a2_1 (load_size hl).1))
  have HC := Lib.hid (fun (W : World) (hb : Below w.heap.size w W) (i : Int) => access_ClassOpen.calls G_ a0 a1 i (copenF a0 a1 i).1 (copenF a0 a1 i).2 W (hq0.below hb) rfl)
  clear h hq0
  have B0 := Lib.hid (blk_new w (.cells #[.int .i64 a2_0, .string a2_1] 28))
  have AB := Lib.hid ((Below.refl w.heap.size w).alloc (Nat.le_refl _) (.cells #[.int .i64 a2_0, .string a2_1] 28))
  have C1 := Lib.hid (HO.out _ AB.out a1)
  unfold topenF at hF
  generalize homeF a0 a1 = h1 at *
  obtain ⟨l1, n1, x1, e1⟩ := h1
  go_enter Tryd.func10, Tryd.ntmps10
  go_upto_region 1 with (fail)
  go_cut [0, 1, 2, 5, 10] (fun v0 v1 v2 v5 v10 wr => v0 = .pointer (some ⟨G_, 0, none⟩) ∧ v1 = .int .i64 a1 ∧ v5 = .pointer (some ⟨w.heap.size, 0, none⟩) ∧ v10 = .int .i64 e1 ∧ Hid (wr.heap[w.heap.size]? = some (.cells #[.int .i64 a2_0, .string a2_1] 28 (0, 0))) ∧ Hid (Below w.heap.size w wr))
  case first =>
    go_wp2_with fail
    refine C1.out.mono ?_
    rintro e w1 ⟨v2, v5, rfl, R2, R5, hb1⟩
    obtain ⟨A2, c2, rfl⟩ := Kd.R_slice R2
    obtain ⟨A5, c5, rfl⟩ := Kd.R_slice R5
    clear C1
    go_wp2
    go_meet
    case rel => exact ⟨rfl, rfl, rfl, rfl, Lib.hid (blk_below (blk_below B0.out hb1) (two_new _ _ _).2.2), Lib.hid ((AB.out.trans (hb1.mono AB.out.size)).trans ((two_new _ _ _).2.2.mono (AB.out.trans (hb1.mono AB.out.size)).size))⟩
  case rest =>
    clear C1 B0 AB HO
    obtain ⟨rfl, rfl, rfl, rfl, B0, HB⟩ := hcut
    by_cases he1 : e1 = 0
    · subst he1
      rw [if_neg (by simp)] at hF
      have q0 : wc.cell? ⟨w.heap.size, 0, none⟩ = some (.int .i64 a2_0) := (blk_cell B0.out 0).trans rfl
      have q1 : wc.cell? ⟨w.heap.size, 1, none⟩ = some (.string a2_1) := (blk_cell B0.out 1).trans rfl
      have C2 := Lib.hid (HL.out wc HB.out)
      go_wp2_with fail
      refine C2.out.mono ?_
      rintro e w2 ⟨rfl, hb2⟩
      have HB2 := Lib.hid (HB.out.trans (hb2.mono HB.out.size))
      have B2 := Lib.hid (blk_below B0.out hb2)
      clear C2 hb2 HB B0 q0 q1 HL
      by_cases he2 : loadF a0 a2_0 a2_1 = 0
      · rw [if_neg (fun h => h he2)] at hF
        have hk := Lib.hid he2
        rw [he2]
        have q1 : w2.cell? ⟨w.heap.size, 1, none⟩ = some (.string a2_1) := (blk_cell B2.out 1).trans rfl
        have C3 := Lib.hid (HN.out w2 HB2.out he2)
        clear he2 HN
        by_cases hs : a2_1.toList = []
        · rw [if_pos hs] at hF
          have hs2 : (a2_1.toList == ([] : List UInt8)) = true := beq_iff_eq.2 hs
          go_wp2
          go_ret2
          have := hF.out
          cases this
          exact ⟨rfl, HB2.out⟩
        · rw [if_neg hs] at hF
          have hs2 : (a2_1.toList == ([] : List UInt8)) = false := beq_eq_false_iff_ne.2 hs
          go_wp2_with fail
          refine C3.out.mono ?_
          rintro e w3 ⟨rfl, hb3⟩
          have HB3 := Lib.hid (HB2.out.trans (hb3.mono HB2.out.size))
          have C4 := Lib.hid (HC.out w3 HB3.out (nameF a0 a2_1).1)
          clear C3 hb3 HB2 B2 q1 HC
          generalize nameF a0 a2_1 = nf at *
          generalize copenF a0 a1 nf.1 = co at *
          go_wp2_with fail
          refine C4.out.mono ?_
          rintro e w4 ⟨rfl, hb4⟩
          have HB4 := Lib.hid (HB3.out.trans (hb4.mono HB3.out.size))
          clear C4 hb4 HB3
          go_wp2
          go_ret2
          have := hF.out
          rw [this]
          exact ⟨rfl, HB4.out⟩
      · have hne : (loadF a0 a2_0 a2_1 != 0) = true := bne_iff_ne.2 he2
        rw [if_pos he2] at hF
        clear he2
        go_wp2
        go_ret2
        have := hF.out
        cases this
        exact ⟨rfl, HB2.out⟩
    · have hne : (e1 != 0) = true := bne_iff_ne.2 he1
      rw [if_pos he1] at hF
      clear he1
      go_wp2
      go_ret2
      have := hF.out
      cases this
      exact ⟨rfl, HB.out⟩
end Go.Proofs.YtmlifggklaeieaaDoor.Pt

/- Plain facts on homes, open classes and types of a made world. -/
namespace Go.Proofs.YtmlifggklaeieaaDoor.Pt
open Go Go.RowKit Go.Proofs.YtmlifggklaeieaaDoor.Nm Go.Proofs.YtmlifggklaeieaaDoor.Ty Go.Proofs.YtmlifggklaeieaaDoor.Hi Go.Proofs.YtmlifggklaeieaaDoorW.PrintWords Go.Proofs.YtmlifggklaeieaaDoorW.PrintLast Go.Proofs.YtmlifggklaeieaaDoorW.PrintMore
set_option linter.unusedVariables false
set_option linter.unusedSimpArgs false
set_option maxRecDepth 100000

theorem classF_in {es : List Ent} {i : Int} (h : 0 ≤ i ∧ i < es.length) : classF es i = ((ent es i).c, 0) := if_pos h
theorem classF_out {es : List Ent} {i : Int} (h : ¬ (0 ≤ i ∧ i < es.length)) : classF es i = (z44, 3) := if_neg h
theorem homeF_in {es : List Ent} {i : Int} (h : 0 ≤ i ∧ i < es.length) : homeF es i = ((ent es i).c.f4, pkgB (ent es i).c.f0, (ent es i).c, 0) := if_pos h
theorem homeF_out {es : List Ent} {i : Int} (h : ¬ (0 ≤ i ∧ i < es.length)) : homeF es i = (0, ⟨#[]⟩, z44, 3) := if_neg h
theorem inB_in {es : List Ent} {i : Int} (h : 0 ≤ i ∧ i < es.length) : inB es i = true := decide_eq_true h
theorem inB_out {es : List Ent} {i : Int} (h : ¬ (0 ≤ i ∧ i < es.length)) : inB es i = false := decide_eq_false h
theorem near_tog {es : List Ent} {i j : Int} (hi : 0 ≤ i ∧ i < es.length) (hj : 0 ≤ j ∧ j < es.length) : nearF (homeF es i) (homeF es j) = tog (ent es j).c (ent es i).c := by
  rw [homeF_in hi, homeF_in hj]
  unfold nearF tog
  simp only
  by_cases h1 : (ent es i).c.f4 = (ent es j).c.f4
  · rw [decide_eq_true h1, show ((ent es j).c.f4 == (ent es i).c.f4) = true from beq_iff_eq.2 h1.symm, Bool.true_and, Bool.true_and]
    by_cases h2 : pkgB (ent es i).c.f0 = pkgB (ent es j).c.f0
    · rw [decide_eq_true h2, h2]
      simp
    · rw [decide_eq_false h2]
      symm
      exact beq_eq_false_iff_ne.2 (fun e => h2 (tl_eq e.symm))
  · rw [decide_eq_false h1, show ((ent es j).c.f4 == (ent es i).c.f4) = false from beq_eq_false_iff_ne.2 (fun e => h1 e.symm), Bool.false_and, Bool.false_and]
theorem copen_in {es : List Ent} {d c : Int} (hd : 0 ≤ d ∧ d < es.length) (hc : 0 ≤ c ∧ c < es.length) : copenF es d c = ((Go.bits .and .i64 (ent es c).c.f3 1 != 0) || tog (ent es c).c (ent es d).c, 0) := by
  unfold copenF
  rw [near_tog hd hc, homeF_in hd, homeF_in hc]
  simp
theorem copen_outd {es : List Ent} {d c : Int} (hd : ¬ (0 ≤ d ∧ d < es.length)) : copenF es d c = (false, 3) := by
  unfold copenF
  rw [homeF_out hd]
  simp
theorem copen_outc {es : List Ent} {d c : Int} (hc : ¬ (0 ≤ c ∧ c < es.length)) : copenF es d c = (false, 3) := by
  by_cases hd : 0 ≤ d ∧ d < es.length
  · unfold copenF
    rw [homeF_in hd, homeF_out hc]
    simp
  · exact copen_outd hd
theorem tog_refl (c : S44) : tog c c = true := by simp [tog]
theorem tog_symm (a b : S44) : tog a b = tog b a := by
  unfold tog
  rw [Bool.eq_iff_iff]
  simp only [Bool.and_eq_true, beq_iff_eq]
  exact ⟨fun h => ⟨h.1.symm, h.2.symm⟩, fun h => ⟨h.1.symm, h.2.symm⟩⟩
theorem tog_trans {a b c : S44} (h1 : tog a b = true) (h2 : tog b c = true) : tog a c = true := by
  unfold tog at *
  simp only [Bool.and_eq_true, beq_iff_eq] at *
  exact ⟨h1.1.trans h2.1, h1.2.trans h2.2⟩
theorem _root_.Go.Proofs.YtmlifggklaeieaaDoor.Hi.Thy.valid {es : List Ent} (h : Thy es) {i : Int} (hi : 0 ≤ i ∧ i < es.length) : validB (ent es i).c.f0 = true := by
  by_cases h3 : 3 ≤ i
  · have ht := h.src _ _ (get_ent hi.1 hi.2) (by omega)
    have hs : soundB (ent es i).c = true := by
      cases hb : soundB (ent es i).c with
      | true => rfl
      | false =>
        have := ht.sound
        unfold chkC at this
        rw [hb] at this
        cases this
    unfold soundB headB at hs
    simp only [Bool.and_eq_true] at hs
    exact hs.2.2.1.1
  · obtain ⟨o0, o1, o2⟩ := h.obj
    have : i = 0 ∨ i = 1 ∨ i = 2 := by omega
    rcases this with rfl | rfl | rfl
    · rw [o0]; decide +kernel
    · rw [o1]; decide +kernel
    · rw [o2]; decide +kernel
theorem valid_ne {s : ByteArray} (h : validB s = true) : s.toList ≠ [] := by
  intro e
  have : s = ⟨#[]⟩ := tl_eq (e.trans (by decide +kernel))
  subst this
  revert h
  decide +kernel
theorem load_at {es : List Ent} (h : Thy es) {i : Int} (hi : 0 ≤ i ∧ i < es.length) {d : Int} (h0 : 0 ≤ d) (h1 : d ≤ 255) : loadF es d (ent es i).c.f0 = 0 := by
  have hv := h.valid hi
  have hc : chk d (ent es i).c.f0.data.toList = 0 := by
    unfold chk
    rw [if_neg (by omega), mk_data, if_neg (fun hh => by rw [hv] at hh; cases hh.2)]
  unfold loadF
  rw [if_pos hc, if_neg (valid_ne hv), nameF_of h hi.1 hi.2]
  rfl
end Go.Proofs.YtmlifggklaeieaaDoor.Pt

/- arrays.Above, walked by hand. -/
namespace Go.Proofs.YtmlifggklaeieaaDoor.Pt
open Go Go.RowKit Go.Proofs.YtmlifggklaeieaaDoor.Nm Go.Proofs.YtmlifggklaeieaaDoor.Hi Go.Proofs.YtmlifggklaeieaaDoorW.PrintWords Go.Proofs.YtmlifggklaeieaaDoorW.PrintLast Go.Proofs.YtmlifggklaeieaaDoorW.PrintMore
set_option linter.unusedVariables false
set_option linter.unusedSimpArgs false
set_option maxHeartbeats 2000000
set_option maxRecDepth 100000

theorem info_T : (Tryd.prog.info? 28).map (fun i => (i.zero, i.size, i.bytes)) = some (some (.agg #[.int .i64 0, .string ⟨#[]⟩]), k28.sz, 24) := by kernel_rfl
/-- What is no list of types stays. -/
def KeptL (w w' : World) : Prop := ∀ (k : Nat) (cells : Array Value) (t : Nat), w.heap[k]? = some (.cells cells t (0, 0)) → t ≠ 55 → t ≠ 28 → w'.heap[k]? = some (.cells cells t (0, 0))
theorem KeptL.trans {w w1 w2 : World} (h : KeptL w w1) (h2 : KeptL w1 w2) : KeptL w w2 := fun k cells t hk h3 h4 => h2 k cells t (h k cells t hk h3 h4) h3 h4
theorem KeptL.refl (w : World) : KeptL w w := fun _ _ _ h _ _ => h
theorem KeptL.str {w w' : World} (h : KeptL w w') {b : Nat} {v : Value} {xs : List ByteArray} (hr : Kd.R Kd.string 9 w b (fun _ => True) v xs) : Kd.R Kd.string 9 w' b (fun _ => True) v xs := by
  refine Kd.R_mono (Kd.R_move (Kd.R_bound hr) (fun k hk => ?_)) (fun _ _ => trivial)
  obtain ⟨_, _, _, q, hq, cells, hc⟩ := hk
  have hq : q = 9 := by
    rcases List.mem_cons.1 hq with rfl | hq
    · rfl
    · cases hq
  subst hq
  rw [hc]
  exact h k cells _ hc (by decide) (by decide)
/-- The list under way. -/
structure Stp (w wr : World) (gl gd : Nat) (dims : Int) (ts : List S28) : Prop where
  bl : ∃ v, wr.heap[gl]? = some (.cells #[v] 55 (0, 0)) ∧ Kd.R k28 28 wr w.heap.size (fun _ => True) v ts
  bd : wr.heap[gd]? = some (.cells #[.int .i64 dims] 3 (0, 0))
  hb : Below w.heap.size w wr
  le : w.heap.size ≤ gl
theorem step_any {w wr : World} {gl gd : Nat} {dims : Int} {ts : List S28} (h : Stp w wr gl gd dims ts) (name : ByteArray) (hl : ts.length ≤ 1000) :
    Calls Tryd.prog 36 #[.string name, .pointer (some ⟨gl, 0, none⟩), .pointer (some ⟨gd, 0, none⟩)] wr fun e w' => e = .returned (.tuple #[]) ∧ Stp w w' gl gd dims (ts ++ [⟨dims, name⟩]) ∧ KeptL wr w' := by
  obtain ⟨⟨v, hg, hR⟩, hd, hb, hle⟩ := h
  obtain ⟨A, c, rfl⟩ := Kd.R_slice hR
  have q0 : wr.cell? ⟨gl, 0, none⟩ = some (.slice A ts.length c) := (blk_cell hg 0).trans rfl
  have q1 : wr.cell? ⟨gd, 0, none⟩ = some (.int .i64 dims) := (blk_cell hd 0).trans rfl
  have k0 := blk_frozen hg 0
  have HG := Lib.hid hg
  have HD := Lib.hid hd
  have HR := Lib.hid hR
  have HB := Lib.hid hb
  have hng := Lib.hid (Kd.R_ne hR hg (by decide))
  have hnd := Lib.hid (Kd.R_ne hR hd (by decide))
  have hne : gd ≠ gl := blk_ne hd hg (by decide)
  have hgl := blk_lt hg
  have hgdl := blk_lt hd
  clear hg hd hR hb
  go_enter Tryd.func36, Tryd.ntmps36
  go_wp2_with (at_builtin; refine Kd.R_append k28 (w0 := w) (W := wr) w.heap.size rfl (.tmp 4) (.tmp 8) 55 28 (.agg #[.int .i64 0, .string ⟨#[]⟩]) 24 rfl Tryd.underlying55 info_T rfl (by decide) (by omega) _ ts ⟨dims, name⟩ [.int .i64 dims, .string name] (fun _ => True) (fun _ => False) rfl rfl (k28_mkM _ _ _ ⟨dims, name⟩) (fun _ h => h.elim) (fun _ _ => trivial) HR.out HB.out HB.out.size (by omega) ?_; intro v1 w2 h1 h2 h3 h4; obtain ⟨A9, c9, rfl⟩ := Kd.R_slice h1; rw [show (ts ++ [(⟨dims, name⟩ : S28)]).length = ts.length + 1 by simp] at h1; replace h1 := Lib.hid h1; replace h2 := Lib.hid h2; replace h3 := Lib.hid h3; have kx := (h3.out.frozen_far ⟨gl, 0, none⟩ hgl hng.out).trans k0; have qg := (h3.out.cell_far ⟨gl, 0, none⟩ hgl hng.out).trans q0; clear h4)
  go_end0
  refine ⟨rfl, ⟨⟨_, blk_put (blk_grown (w := wr) HG.out h3.out hng.out) 0 _ rfl, Kd.R_set h1.out (blk_grown (w := wr) HG.out h3.out hng.out) (by decide) 0 _⟩, blk_far (p := ⟨gl, 0, none⟩) (blk_grown (w := wr) HD.out h3.out hnd.out) hne _, h2.out.setCell (p := ⟨gl, 0, none⟩) hle _, hle⟩, fun k cells t hk ht1 ht2 => ?_⟩
  exact blk_far (p := ⟨gl, 0, none⟩) (blk_grown (w := wr) hk h3.out (Kd.R_ne HR.out hk (Ne.symm ht2))) (blk_ne hk HG.out ht1) _
theorem Stp.below {w wr w1 : World} {gl gd : Nat} {dims : Int} {ts : List S28} (h : Stp w wr gl gd dims ts) (hb : Below wr.heap.size wr w1) : Stp w w1 gl gd dims ts := by
  obtain ⟨⟨v, h1, h2⟩, h3, h4, h5⟩ := h
  exact ⟨⟨v, blk_below h1 hb, Kd.R_below h2 hb⟩, blk_below h3 hb, h4.trans (hb.mono h4.size), h5⟩
def aCond (d : Int) (s : ByteArray) : Bool := decide (d > 0) && ((s.toList == ([] : List UInt8)) || (s.toList == ([79, 98, 106, 101, 99, 116] : List UInt8)))
def aboveTF (es : List Ent) (d : Int) (s : ByteArray) : List S28 × Int :=
  if loadF es d s ≠ 0 then ([], loadF es d s) else if aCond d s = true then ([⟨d - 1, sObject⟩, ⟨d - 1, sCloneable⟩, ⟨d - 1, sSerializable⟩], 0) else if s.toList = [] then ([], 0) else
  ((if (classF es (nameF es s).1).1.f1.toList = [] then [] else [⟨d, (classF es (nameF es s).1).1.f1⟩]) ++ (classF es (nameF es s).1).1.f2.map (fun n => ⟨d, n⟩), 0)
def arrays_Above.f (a0 : List Hi.Ent) (a1_0 : Int) (a1_1 : ByteArray) : Option (List S28 × Int) := if (classF a0 (nameF a0 a1_1).1).1.f2.length ≤ 900 then some (aboveTF a0 a1_0 a1_1) else none
theorem arrays_Above.calls (G_ : Nat) (a0 : List Hi.Ent) (a1_0 : Int) (a1_1 : ByteArray) (r1 : List S28) (r2 : Int) (w : World) (hq0 : WOK w G_ a0) (h : arrays_Above.f a0 a1_0 a1_1 = some (r1, r2)) :
    Calls Tryd.prog 22 #[.pointer (some ⟨G_, 0, none⟩), .agg #[.int .i64 a1_0, .string a1_1]] w fun e w' => ∃ v0_ : Value, e = .returned (.tuple #[v0_, .int .i64 r2]) ∧ Kd.R k28 28 w' w.heap.size (fun _ => True) v0_ r1 ∧ Below w.heap.size w w' := by
  unfold arrays_Above.f at h
  obtain ⟨hlen, h⟩ := if_some h
  have hF := Lib.hid (Option.some.inj h)
  have B0 := Lib.hid (blk_new w (.cells #[.int .i64 a1_0, .string a1_1] 28))
  have AB := Lib.hid ((Below.refl w.heap.size w).alloc (Nat.le_refl _) (.cells #[.int .i64 a1_0, .string a1_1] 28))
  have C1 := Lib.hid (arrays_Loaded.calls G_ a0 a1_0 a1_1 _ _ (hq0.below AB.out) (load_tot a0 a1_0 a1_1))
  have HN := Lib.hid (fun (W : World) (hb : Below w.heap.size w W) (hl : loadF a0 a1_0 a1_1 = 0) => hier_World_ByName.calls G_ a0 a1_1 (nameF a0 a1_1).1 (nameF a0 a1_1).2 W (hq0.below hb) (byName_tot a0 a1_1 (load_size hl).1))
  have HC := Lib.hid (fun (W : World) (hb : Below w.heap.size w W) => hier_World_Class.calls G_ a0 (nameF a0 a1_1).1 _ _ _ _ _ _ _ W (hq0.below hb) rfl)
  have HS := Lib.hid (fun h : loadF a0 a1_0 a1_1 = 0 => load_size h)
  clear h hq0
  unfold aboveTF at hF
  generalize loadF a0 a1_0 a1_1 = e1 at *
  generalize nameF a0 a1_1 = nf at *
  generalize classF a0 nf.1 = cf at *
  obtain ⟨x, xe⟩ := cf
  obtain ⟨x0, x1, x2, x3, x4, x5⟩ := x
  simp only at hF HC hlen
  go_enter Tryd.func22, Tryd.ntmps22
  go_wp2_with fail
  refine C1.out.mono ?_
  rintro e w1 ⟨rfl, hb1⟩
  have B1 := Lib.hid (blk_below B0.out hb1)
  have H1 := Lib.hid (AB.out.trans (hb1.mono AB.out.size))
  clear C1 B0 AB hb1
  by_cases h1 : e1 = 0
  · subst h1
    rw [if_neg (fun h => h rfl)] at hF
    obtain ⟨ss, d0, d1⟩ := HS.out rfl
    have q0 : w1.cell? ⟨w.heap.size, 0, none⟩ = some (.int .i64 a1_0) := (blk_cell B1.out 0).trans rfl
    have q0a := cell_allocs q0
    go_upto_region 7 with (fail)
    change Code.wp _ _ _ _ ((w1.alloc (.cells #[.slice none 0 0] 55)).alloc (.cells #[.int .i64 a1_0] 3))
    have t3 := two_new w1 (.cells #[.slice none 0 0] 55) (.cells #[.int .i64 a1_0] 3)
    generalize (w1.alloc (.cells #[.slice none 0 0] 55)).alloc (.cells #[.int .i64 a1_0] 3) = W at *
    have ST : Hid (Stp w W w1.heap.size (w1.heap.size + 1) a1_0 []) := Lib.hid ⟨⟨_, t3.1, Kd.R_nil _ _ _ _ _⟩, t3.2.1, H1.out.trans (t3.2.2.mono H1.out.size), H1.out.size⟩
    have B2 := Lib.hid (blk_below B1.out t3.2.2)
    clear t3 q0 q0a B1 H1
    have q0 : W.cell? ⟨w.heap.size, 0, none⟩ = some (.int .i64 a1_0) := (blk_cell B2.out 0).trans rfl
    have q1 : W.cell? ⟨w.heap.size, 1, none⟩ = some (.string a1_1) := (blk_cell B2.out 1).trans rfl
    generalize hgl : w1.heap.size = gl at *
    clear hgl
    go_cut [0, 3, 7, 8, 9, 37] (fun v0 v3 v7 v8 v9 v37 wr => v0 = .pointer (some ⟨G_, 0, none⟩) ∧ v3 = .pointer (some ⟨w.heap.size, 0, none⟩) ∧ v7 = .pointer (some ⟨gl, 0, none⟩) ∧ v8 = .pointer (some ⟨gl + 1, 0, none⟩) ∧ v9 = .func (.func 36) #[] #[.pointer (some ⟨gl, 0, none⟩), .pointer (some ⟨gl + 1, 0, none⟩)] ∧ v37 = .bool (aCond a1_0 a1_1) ∧
      Hid (wr.heap[w.heap.size]? = some (.cells #[.int .i64 a1_0, .string a1_1] 28 (0, 0))) ∧ Hid (Stp w wr gl (gl + 1) a1_0 []))
    case first =>
      cases hd : decide (a1_0 > 0) with
      | false =>
        have hc : Hid (aCond a1_0 a1_1 = false) := Lib.hid (by unfold aCond; rw [hd]; rfl)
        go_wp2
        go_meet
        case rel => exact ⟨rfl, rfl, rfl, rfl, rfl, by rw [hc.out], B2, ST⟩
      | true =>
        cases hs : (a1_1.toList == ([] : List UInt8)) with
        | true =>
          have hc : Hid (aCond a1_0 a1_1 = true) := Lib.hid (by unfold aCond; rw [hd, hs]; rfl)
          go_wp2
          go_meet
          case rel => exact ⟨rfl, rfl, rfl, rfl, rfl, by rw [hc.out], B2, ST⟩
        | false =>
          cases ho : (a1_1.toList == ([79, 98, 106, 101, 99, 116] : List UInt8)) with
          | true =>
            have hc : Hid (aCond a1_0 a1_1 = true) := Lib.hid (by unfold aCond; rw [hd, hs, ho]; rfl)
            go_wp2
            go_meet
            case rel => exact ⟨rfl, rfl, rfl, rfl, rfl, by rw [hc.out], B2, ST⟩
          | false =>
            have hc : Hid (aCond a1_0 a1_1 = false) := Lib.hid (by unfold aCond; rw [hd, hs, ho]; rfl)
            go_wp2
            go_meet
            case rel => exact ⟨rfl, rfl, rfl, rfl, rfl, by rw [hc.out], B2, ST⟩
    case rest =>
      clear q0 q1 B2 ST
      obtain ⟨rfl, rfl, rfl, rfl, rfl, rfl, B2, ST⟩ := hcut
      cases hA : aCond a1_0 a1_1 with
      | true =>
        rw [hA, if_pos rfl] at hF
        have hd : 0 < a1_0 := by
          unfold aCond at hA
          rw [Bool.and_eq_true, decide_eq_true_eq] at hA
          exact hA.1
        have qd : wc.cell? ⟨gl + 1, 0, none⟩ = some (.int .i64 a1_0) := (blk_cell ST.out.bd 0).trans rfl
        have kd := blk_frozen ST.out.bd 0
        clear HN HC hA
        go_upto_region 9 with (fail)
        have S1 : Hid (Stp w (wc.setCell ⟨gl + 1, 0, none⟩ (.int .i64 (a1_0 - 1))) gl (gl + 1) (a1_0 - 1) []) := by
          obtain ⟨⟨v, s1, s2⟩, s3, s4, s5⟩ := ST.out
          exact Lib.hid ⟨⟨v, blk_far (p := ⟨gl + 1, 0, none⟩) s1 (by simp) _, Kd.R_set s2 s3 (by decide) 0 _⟩, blk_put s3 0 _ rfl, s4.setCell (p := ⟨gl + 1, 0, none⟩) (Nat.le_succ_of_le s5) _, s5⟩
        clear qd kd ST B2
        generalize wc.setCell ⟨gl + 1, 0, none⟩ (.int .i64 (a1_0 - 1)) = W1 at *
        have P1 := Lib.hid (step_any S1.out sObject (by simp))
        clear S1
        go_wp2_with fail
        refine P1.out.mono ?_
        rintro e w2 ⟨rfl, S2, _⟩
        have P2 := Lib.hid (step_any S2 sCloneable (by simp))
        clear P1 S2
        go_wp2_with fail
        refine P2.out.mono ?_
        rintro e w3 ⟨rfl, S3, _⟩
        have P3 := Lib.hid (step_any S3 sSerializable (by simp))
        clear P2 S3
        go_wp2_with fail
        refine P3.out.mono ?_
        rintro e w4 ⟨rfl, S4, _⟩
        obtain ⟨⟨v, s1, s2⟩, _, s4, _⟩ := S4
        obtain ⟨A9, c9, rfl⟩ := Kd.R_slice s2
        have q9 : w4.cell? ⟨gl, 0, none⟩ = some (.slice A9 _ c9) := (blk_cell s1 0).trans rfl
        replace s2 := Lib.hid s2
        replace s4 := Lib.hid s4
        clear P3 s1
        go_wp2
        go_ret2
        have := hF.out
        cases this
        exact ⟨_, rfl, s2.out, s4.out⟩
      | false =>
        rw [hA, if_neg (by simp)] at hF
        have q1 : wc.cell? ⟨w.heap.size, 1, none⟩ = some (.string a1_1) := (blk_cell B2.out 1).trans rfl
        clear hA
        by_cases hs : a1_1.toList = []
        · rw [if_pos hs] at hF
          have hs2 : (a1_1.toList == ([] : List UInt8)) = true := beq_iff_eq.2 hs
          clear HN HC hs
          go_wp2
          go_ret2
          have := hF.out
          cases this
          exact ⟨_, rfl, Kd.R_nil _ _ _ _ _, ST.out.hb⟩
        · rw [if_neg hs] at hF
          have hs2 : (a1_1.toList == ([] : List UInt8)) = false := beq_eq_false_iff_ne.2 hs
          have C3 := Lib.hid (HN.out wc ST.out.hb trivial)
          clear HN hs
          go_wp2_with fail
          refine C3.out.mono ?_
          rintro e w2 ⟨rfl, hb2⟩
          have ST2 := Lib.hid (ST.out.below hb2)
          clear C3 hb2 ST B2 q1
          have C4 := Lib.hid (HC.out w2 ST2.out.hb)
          clear HC
          go_upto_region 16 with (fail)
          go_cut [0, 7, 8, 9, 12] (fun v0 v7 v8 v9 v12 wr => v7 = .pointer (some ⟨gl, 0, none⟩) ∧ v8 = .pointer (some ⟨gl + 1, 0, none⟩) ∧ v9 = .func (.func 36) #[] #[.pointer (some ⟨gl, 0, none⟩), .pointer (some ⟨gl + 1, 0, none⟩)] ∧ ∃ gc A2 c2 y0 y3 y4 y5, v12 = .pointer (some ⟨gc, 0, none⟩) ∧ Hid (wr.heap[gc]? = some (.cells #[y0, .string x1, .slice A2 x2.length c2, y3, y4, y5] 44 (0, 0))) ∧ Hid (Kd.R Kd.string 9 wr w.heap.size (fun _ => True) (.slice A2 x2.length c2) x2) ∧ Hid (Stp w wr gl (gl + 1) a1_0 []))
          case first =>
            go_wp2_with fail
            refine C4.out.mono ?_
            rintro e w3 ⟨v2, v5, rfl, R2, R5, hb3⟩
            obtain ⟨A2, c2, rfl⟩ := Kd.R_slice R2
            obtain ⟨A5, c5, rfl⟩ := Kd.R_slice R5
            clear C4
            go_wp2
            go_meet
            case rel =>
              have hal := (Below.refl w3.heap.size w3).alloc (Nat.le_refl _) (.cells #[.string x0, .string x1, .slice A2 x2.length c2, .int .i64 x3, .int .i64 x4, .slice A5 x5.length c5] 44)
              exact ⟨rfl, rfl, rfl, _, _, _, _, _, _, _, rfl, Lib.hid (blk_new _ _), Lib.hid (Kd.R_below (Kd.R_lower R2 ST2.out.hb.size) hal), Lib.hid ((ST2.out.below hb3).below hal)⟩
          case rest =>
            clear C4 ST2
            obtain ⟨rfl, rfl, rfl, gc, A2, c2, y0, y3, y4, y5, rfl, BC, R2, ST⟩ := hcut
            have p1 : wc.cell? ⟨gc, 1, none⟩ = some (.string x1) := (blk_cell BC.out 1).trans rfl
            go_upto_region 17 with (fail)
            go_cut [0, 7, 8, 9, 12, 65] (fun v0 v7 v8 v9 v12 v65 wr => v7 = .pointer (some ⟨gl, 0, none⟩) ∧ v9 = .func (.func 36) #[] #[.pointer (some ⟨gl, 0, none⟩), .pointer (some ⟨gl + 1, 0, none⟩)] ∧ v12 = .pointer (some ⟨gc, 0, none⟩) ∧ v65 = .bool (!x1.toList.isEmpty) ∧ Hid (wr.heap[gc]? = some (.cells #[y0, .string x1, .slice A2 x2.length c2, y3, y4, y5] 44 (0, 0))) ∧ Hid (Kd.R Kd.string 9 wr w.heap.size (fun _ => True) (.slice A2 x2.length c2) x2) ∧ Hid (Stp w wr gl (gl + 1) a1_0 []))
            case first =>
              go_wp2
              all_goals
                go_meet
                case rel => exact ⟨rfl, rfl, rfl, by simp [*], BC, R2, ST⟩
            case rest =>
            clear p1 BC R2 ST
            obtain ⟨rfl, rfl, rfl, rfl, BC, R2, ST⟩ := hcut
            generalize hbb : (!x1.toList.isEmpty) = bb at *
            have p1 : wc.cell? ⟨gc, 1, none⟩ = some (.string x1) := (blk_cell BC.out 1).trans rfl
            go_upto_if 65 with (fail)
            go_cut [7, 8, 9, 12] (fun v7 v8 v9 v12 wr => v7 = .pointer (some ⟨gl, 0, none⟩) ∧ v9 = .func (.func 36) #[] #[.pointer (some ⟨gl, 0, none⟩), .pointer (some ⟨gl + 1, 0, none⟩)] ∧ v12 = .pointer (some ⟨gc, 0, none⟩) ∧ Hid (wr.heap[gc]? = some (.cells #[y0, .string x1, .slice A2 x2.length c2, y3, y4, y5] 44 (0, 0))) ∧ Hid (Kd.R Kd.string 9 wr w.heap.size (fun _ => True) (.slice A2 x2.length c2) x2) ∧ Hid (Stp w wr gl (gl + 1) a1_0 (if x1.toList = [] then [] else [⟨a1_0, x1⟩])))
            case first =>
              cases bb with
              | false =>
                have he : x1.toList = [] := by simpa using hbb
                clear hbb p1
                go_wp2
                go_meet
                case rel => exact ⟨rfl, rfl, rfl, BC, R2, by rw [if_pos he]; exact ST⟩
              | true =>
                have he : ¬ x1.toList = [] := by simpa using hbb
                clear hbb
                have P1 := Lib.hid (step_any ST.out x1 (by simp))
                go_wp2_with fail
                refine P1.out.mono ?_
                rintro e w2 ⟨rfl, S2, K2⟩
                have hk2 := K2 _ _ _ BC.out (by decide) (by decide)
                have hr2 := K2.str R2.out
                go_wp2
                go_meet
                case rel => exact ⟨rfl, rfl, rfl, Lib.hid hk2, Lib.hid hr2, by rw [if_neg he]; exact Lib.hid S2⟩
            case rest =>
              clear BC R2 ST p1 hbb
              obtain ⟨rfl, rfl, rfl, BC, R2, ST⟩ := hcut
              have hpre : (if x1.toList = [] then ([] : List S28) else [⟨a1_0, x1⟩]).length ≤ 1 := by split <;> simp
              generalize (if x1.toList = [] then ([] : List S28) else [⟨a1_0, x1⟩]) = pre at *
              have p2 : wc.cell? ⟨gc, 2, none⟩ = some (.slice A2 x2.length c2) := (blk_cell BC.out 2).trans rfl
              have hpre := Lib.hid hpre
              go_wp2_with fail
              go_loopw [73] (fun v73 wr => ∃ j : Nat, j ≤ x2.length ∧ v73 = .int .i64 j ∧ Hid (Kd.R Kd.string 9 wr w.heap.size (fun _ => True) (.slice A2 x2.length c2) x2) ∧ Hid (Stp w wr gl (gl + 1) a1_0 (pre ++ (x2.take j).map (fun n => (⟨a1_0, n⟩ : S28))))) (fun v73 _ => x2.length - (intOf v73).toNat)
              case atStart => exact ⟨0, Nat.zero_le _, rfl, R2, by simpa using ST⟩
              case round =>
                clear R2 ST BC p2
                obtain ⟨j, hj, rfl, R2, ST⟩ := hrel
                by_cases hlt : j < x2.length
                · have hjd : decide (j < x2.length) = true := decide_eq_true hlt
                  obtain ⟨ad0, cc, rfl, hcl, hKK, hic⟩ := Kd.C_get (Kd.R_reads' R2.out).2.2 ⟨#[]⟩ (j : Int) (by omega) (by omega)
                  obtain rfl : cc = [.string (x2.getD j ⟨#[]⟩)] := hKK
                  have hic := hic 0 _ rfl
                  rw [show Kd.string.sz = 1 from rfl, Nat.mul_one, Nat.add_zero, Int.toNat_natCast] at hic
                  have hx2 : x2[j]? = some (x2.getD j ⟨#[]⟩) := by rw [List.getD_eq_getElem?_getD, List.getElem?_eq_getElem hlt]; rfl
                  generalize x2.getD j ⟨#[]⟩ = n at *
                  have hst : Hid (pre ++ (x2.take (j + 1)).map (fun n => (⟨a1_0, n⟩ : S28)) = (pre ++ (x2.take j).map (fun n => (⟨a1_0, n⟩ : S28))) ++ [⟨a1_0, n⟩]) := Lib.hid (by
                    rw [List.take_add_one, hx2, List.map_append, List.append_assoc]; rfl)
                  have P1 := Lib.hid (step_any ST.out n (by
                    have := hpre.out
                    rw [List.length_append, List.length_map, List.length_take]; omega))
                  clear ST hx2 hcl
                  go_wp2_with fail
                  refine P1.out.mono ?_
                  rintro e w2 ⟨rfl, S2, K2⟩
                  have hr2 := Lib.hid (K2.str R2.out)
                  replace S2 := Lib.hid S2
                  clear P1 K2 R2 hic
                  go_wp2
                  exact ⟨⟨j + 1, by omega, by push_cast; rfl, hr2, Lib.hid (by rw [hst.out]; exact S2.out)⟩, by simp [intOf]; omega⟩
                · have hjd : decide (j < x2.length) = false := decide_eq_false hlt
                  have e1 : j = x2.length := by omega
                  subst e1
                  have S4 := ST.out
                  rw [List.take_length] at S4
                  generalize pre ++ x2.map (fun n => (⟨a1_0, n⟩ : S28)) = ts at *
                  obtain ⟨⟨v, s1, s2⟩, _, s4, _⟩ := S4
                  obtain ⟨A9, c9, rfl⟩ := Kd.R_slice s2
                  have q9 : wr.cell? ⟨gl, 0, none⟩ = some (.slice A9 _ c9) := (blk_cell s1 0).trans rfl
                  replace s2 := Lib.hid s2
                  replace s4 := Lib.hid s4
                  clear s1 ST R2
                  go_wp2
                  go_ret2
                  have hz := hF.out
                  cases hz
                  exact ⟨_, rfl, s2.out, s4.out⟩
  · have hne : (e1 != 0) = true := bne_iff_ne.2 h1
    rw [if_pos h1] at hF
    have := hF.out
    cases this
    clear h1 HC HN HS
    go_wp2
    go_ret2
    exact ⟨_, rfl, Kd.R_nil _ _ _ _ _, H1.out⟩
end Go.Proofs.YtmlifggklaeieaaDoor.Pt

/- Where a class's place in its world comes from: its own words. -/
namespace Go.Proofs.YtmlifggklaeieaaDoor.Hi
open Go Go.RowKit Go.Proofs.YtmlifggklaeieaaDoor.Nm Go.Proofs.YtmlifggklaeieaaDoorW.PrintWords Go.Proofs.YtmlifggklaeieaaDoorW.PrintLast Go.Proofs.YtmlifggklaeieaaDoorW.PrintMore Go.Proofs.YtmlifggklaeieaaDoor.Pt
set_option linter.unusedVariables false
set_option linter.unusedSimpArgs false
set_option maxRecDepth 100000

theorem ent_take {es : List Ent} {n : Nat} {k : Int} (h0 : 0 ≤ k) (h1 : k < n) : ent (es.take n) k = ent es k := by
  unfold ent
  rw [List.getD_eq_getElem?_getD, List.getD_eq_getElem?_getD, List.getElem?_take_of_lt (by omega)]
/-- The places of the interfaces that a class names. -/
structure Src (es : List Ent) (i : Int) : Prop where
  len : (ent es i).c.f2.length ≤ 20
  sup : 1 ≤ i → (ent es (ent es i).above).c.f0 = (ent es i).c.f1
  ifs : ∀ n ∈ (ent es i).c.f2, ∃ k, 0 ≤ k ∧ k < i ∧ (ent es k).c.f0 = n ∧ isI (ent es k).c = true ∧ k ∈ (ent es i).clo
  clo : 1 ≤ i → ∀ j ∈ (ent es i).clo, j ∈ (ent es (ent es i).above).clo ∨ ∃ n ∈ (ent es i).c.f2, ∃ k, 0 ≤ k ∧ k < i ∧ (ent es k).c.f0 = n ∧ (j = k ∨ j ∈ (ent es k).clo)
theorem Thy.src_ {es : List Ent} (h : Thy es) {i : Int} (h0 : 0 ≤ i) (h1 : i < es.length) : Src es i := by
  by_cases h3 : 3 ≤ i
  · have hx := get_ent h0 h1
    have ht := h.src _ _ hx (by omega)
    obtain ⟨s0, s1, s2, s3, s5⟩ := sound_sizes ht.sound
    have hsp := aboveF_in ht.sup
    have hl : (es.take i.toNat).length = i.toNat := by rw [List.length_take]; omega
    rw [hl] at hsp
    have ha : (ent es i).above = (aboveF (es.take i.toNat) (ent es i).c (ent es i).c.f1 false).1 := by
      have := ht.isx
      rw [this]
      rfl
    have hclo : (ent es i).clo = closF (es.take i.toNat) (ent (es.take i.toNat) (ent es i).above).clo ((ent es i).c.f2.map fun n => (aboveF (es.take i.toNat) (ent es i).c n true).1) := by
      have := congrArg Ent.clo ht.isx
      rw [this, ha]
      show closF _ _ _ = _
      rw [if_pos hsp.1]
    have hif : ∀ n ∈ (ent es i).c.f2, 0 ≤ (aboveF (es.take i.toNat) (ent es i).c n true).1 ∧ (aboveF (es.take i.toNat) (ent es i).c n true).1 < i ∧ (ent es (aboveF (es.take i.toNat) (ent es i).c n true).1).c.f0 = n ∧ isI (ent es (aboveF (es.take i.toNat) (ent es i).c n true).1).c = true := by
      intro n hn
      have h4 := aboveF_in (ht.ifs n hn)
      have h5 := (aboveF_fit (ht.ifs n hn)).1
      rw [hl] at h4
      have h6 := (nameF_in h4.2.2.2).2.2
      rw [← h4.2.2.1] at h6
      rw [ent_take h4.1 h4.2.1] at h5 h6
      exact ⟨h4.1, by omega, h6, h5⟩
    refine ⟨s2, fun _ => ?_, fun n hn => ?_, fun _ j hj => ?_⟩
    · rw [ha]
      have h6 := (nameF_in hsp.2.2.2).2.2
      rw [← hsp.2.2.1, ent_take hsp.1 hsp.2.1] at h6
      exact h6
    · obtain ⟨a1, a2, a3, a4⟩ := hif n hn
      refine ⟨_, a1, a2, a3, a4, ?_⟩
      rw [hclo]
      exact mem_closF.2 (.inr ⟨_, List.mem_map_of_mem hn, .inl rfl⟩)
    · rw [hclo] at hj
      rcases mem_closF.1 hj with hj | ⟨k, hk, hj⟩
      · rw [ent_take (by rw [ha]; exact hsp.1) (by rw [ha]; exact hsp.2.1)] at hj
        exact .inl hj
      · obtain ⟨n, hn, rfl⟩ := List.mem_map.1 hk
        obtain ⟨a1, a2, a3, a4⟩ := hif n hn
        rw [ent_take a1 (by omega)] at hj
        exact .inr ⟨n, hn, _, a1, a2, a3, hj⟩
  · obtain ⟨o0, o1, o2⟩ := h.obj
    have : i = 0 ∨ i = 1 ∨ i = 2 := by omega
    rcases this with rfl | rfl | rfl
    · refine ⟨by rw [o0]; decide, fun h => absurd h (by omega), fun n hn => ?_, fun h => absurd h (by omega)⟩
      rw [o0] at hn
      cases hn
    · refine ⟨by rw [o1]; decide, fun _ => by rw [o1]; show (ent es 0).c.f0 = _; rw [o0]; rfl, fun n hn => ?_, fun _ j hj => ?_⟩
      · rw [o1] at hn
        cases hn
      · rw [o1] at hj
        cases hj
    · refine ⟨by rw [o2]; decide, fun _ => by rw [o2]; show (ent es 0).c.f0 = _; rw [o0]; rfl, fun n hn => ?_, fun _ j hj => ?_⟩
      · rw [o2] at hn
        cases hn
      · rw [o2] at hj
        cases hj
/-- A way up begins with a direct step. -/
theorem Thy.ext_step {es : List Ent} (h : Thy es) {i j : Int} (h0 : 0 ≤ i) (h1 : i < es.length) (hij : Ext es i j) (hne : i ≠ j) :
    1 ≤ i ∧ (Ext es (ent es i).above j ∨ ∃ n ∈ (ent es i).c.f2, ∃ k, 0 ≤ k ∧ k < i ∧ (ent es k).c.f0 = n ∧ Ext es k j) := by
  have hle := h.ext_le h0 h1 hij
  have hi : 1 ≤ i := by omega
  refine ⟨hi, ?_⟩
  have hs := h.src_ h0 h1
  rcases hij with ⟨hj, rfl | hj2⟩ | ⟨hj, hj2⟩
  · exact absurd rfl hne
  · rcases hs.clo hi j hj2 with h2 | ⟨n, hn, k, k0, k1, k2, h2⟩
    · exact .inl (.inl ⟨hj, .inr h2⟩)
    · refine .inr ⟨n, hn, k, k0, k1, k2, .inl ⟨hj, ?_⟩⟩
      rcases h2 with rfl | h2
      · exact .inl rfl
      · exact .inr h2
  · cases hj2 with
    | refl => exact absurd rfl hne
    | up _ _ _ h2 => exact .inl (.inr ⟨hj, h2⟩)
end Go.Proofs.YtmlifggklaeieaaDoor.Hi

/- arrays.Sub, walked by hand. -/
namespace Go.Proofs.YtmlifggklaeieaaDoor.Pt
open Go Go.RowKit Go.Proofs.YtmlifggklaeieaaDoor.Nm Go.Proofs.YtmlifggklaeieaaDoor.Hi Go.Proofs.YtmlifggklaeieaaDoorW.PrintWords Go.Proofs.YtmlifggklaeieaaDoorW.PrintLast Go.Proofs.YtmlifggklaeieaaDoorW.PrintMore
set_option linter.unusedVariables false
set_option linter.unusedSimpArgs false
set_option maxHeartbeats 2000000
set_option maxRecDepth 100000

theorem index_two (a : Int) (s : ByteArray) (b : Int) (t : ByteArray) (w : World) : (Instr.index 70 (.agg #[.int .i64 a, .string s, .int .i64 b, .string t]) (.int .i64 0)).run Tryd.prog w = .ok (.agg #[.int .i64 a, .string s]) w := by rfl
theorem index_two1 (a : Int) (s : ByteArray) (b : Int) (t : ByteArray) (w : World) : (Instr.index 70 (.agg #[.int .i64 a, .string s, .int .i64 b, .string t]) (.int .i64 1)).run Tryd.prog w = .ok (.agg #[.int .i64 b, .string t]) w := by rfl
def arrays_Sub.f (a0 : List Hi.Ent) (a1_0 : Int) (a1_1 : ByteArray) (a2_0 : Int) (a2_1 : ByteArray) : Option (Bool × Int) := some (subF a0 a1_0 a1_1 a2_0 a2_1)
theorem arrays_Sub.calls (G_ : Nat) (a0 : List Hi.Ent) (a1_0 : Int) (a1_1 : ByteArray) (a2_0 : Int) (a2_1 : ByteArray) (r1 : Bool) (r2 : Int) (w : World) (hq0 : WOK w G_ a0) (h : arrays_Sub.f a0 a1_0 a1_1 a2_0 a2_1 = some (r1, r2)) :
    Calls Tryd.prog 16 #[.pointer (some ⟨G_, 0, none⟩), .agg #[.int .i64 a1_0, .string a1_1], .agg #[.int .i64 a2_0, .string a2_1]] w fun e w' => e = .returned (.tuple #[.bool r1, .int .i64 r2]) ∧ Below w.heap.size w w' := by
  have hF := Lib.hid (Option.some.inj h)
  have B0 := heap_alloc2_old w (.cells #[.int .i64 a1_0, .string a1_1] 28) (.cells #[.int .i64 a2_0, .string a2_1] 28)
  have B1 := heap_alloc2_new w (.cells #[.int .i64 a1_0, .string a1_1] 28) (.cells #[.int .i64 a2_0, .string a2_1] 28)
  have BB := ((Below.refl w.heap.size w).alloc (Nat.le_refl _) (.cells #[.int .i64 a1_0, .string a1_1] 28)).alloc (by simp) (.cells #[.int .i64 a2_0, .string a2_1] 28)
  replace B0 := Lib.hid B0
  replace B1 := Lib.hid B1
  replace BB := Lib.hid BB
  have LD := Lib.hid (fun (W : World) (hb : Below w.heap.size w W) (d : Int) (s : ByteArray) => arrays_Loaded.calls G_ a0 d s _ W (hq0.below hb) (load_tot a0 d s))
  have BL := Lib.hid (fun (W : World) (hb : Below w.heap.size w W) (h1 : loadF a0 a1_0 a1_1 = 0) (h2 : loadF a0 a2_0 a2_1 = 0) => arrays_below.calls 300 G_ a0 a1_0 a1_1 a2_0 a2_1 _ W (hq0.below hb) (below_all h1 h2))
  have I0 := fun w => index_two a1_0 a1_1 a2_0 a2_1 w
  have I1 := fun w => index_two1 a1_0 a1_1 a2_0 a2_1 w
  clear h hq0
  unfold subF at hF
  go_enter Tryd.func16, Tryd.ntmps16
  go_wp2_with fail
  change Code.wp _ _ _ _ ((w.alloc (.cells #[.int .i64 a1_0, .string a1_1] 28)).alloc (.cells #[.int .i64 a2_0, .string a2_1] 28))
  generalize (w.alloc (.cells #[.int .i64 a1_0, .string a1_1] 28)).alloc (.cells #[.int .i64 a2_0, .string a2_1] 28) = w0 at *
  have Z1 := Lib.hid ((Below.refl w0.heap.size w0).alloc (Nat.le_refl _) (.cells #[.int .i64 a1_0, .string a1_1] 28))
  have N1 := Lib.hid (BB.out.alloc BB.out.size (.cells #[.int .i64 a1_0, .string a1_1] 28))
  have L1 := Lib.hid (LD.out _ N1.out a1_0 a1_1)
  refine wp_loop_rounds 3 ?_
  rw [rounds_succ]
  go_wp2_with fail
  refine L1.out.mono ?_
  rintro e w1 ⟨rfl, hb1⟩
  have M1 := Lib.hid (N1.out.trans (hb1.mono N1.out.size))
  have Z2 := Lib.hid (Z1.out.trans (hb1.mono Z1.out.size))
  clear L1 hb1 N1 Z1
  by_cases he1 : loadF a0 a1_0 a1_1 = 0
  · rw [if_neg (fun h => h he1)] at hF
    have hk1 := Lib.hid he1
    rw [he1]
    clear he1
    go_wp2_with fail
    rw [rounds_succ]
    have N2 := Lib.hid (M1.out.alloc M1.out.size (.cells #[.int .i64 a2_0, .string a2_1] 28))
    have Z3 := Lib.hid (Z2.out.alloc Z2.out.size (.cells #[.int .i64 a2_0, .string a2_1] 28))
    have L2 := Lib.hid (LD.out _ N2.out a2_0 a2_1)
    go_wp2_with fail
    refine L2.out.mono ?_
    rintro e w2 ⟨rfl, hb2⟩
    have M2 := Lib.hid (N2.out.trans (hb2.mono N2.out.size))
    have Z4 := Lib.hid (Z3.out.trans (hb2.mono Z3.out.size))
    clear L2 hb2 N2 M1 Z2 Z3
    by_cases he2 : loadF a0 a2_0 a2_1 = 0
    · rw [if_neg (fun h => h he2)] at hF
      have hk2 := Lib.hid he2
      rw [he2]
      clear he2
      have C0 := Lib.hid (blk_below B0.out Z4.out)
      have C1 := Lib.hid (blk_below B1.out Z4.out)
      have q0 : w2.cell? ⟨w.heap.size, 0, none⟩ = some (.int .i64 a1_0) := (blk_cell C0.out 0).trans rfl
      have q1 : w2.cell? ⟨w.heap.size, 1, none⟩ = some (.string a1_1) := (blk_cell C0.out 1).trans rfl
      have q2 : w2.cell? ⟨w.heap.size + 1, 0, none⟩ = some (.int .i64 a2_0) := (blk_cell C1.out 0).trans rfl
      have q3 : w2.cell? ⟨w.heap.size + 1, 1, none⟩ = some (.string a2_1) := (blk_cell C1.out 1).trans rfl
      have L3 := Lib.hid (BL.out _ M2.out hk1.out hk2.out)
      go_wp2_with fail
      rw [rounds_succ]
      go_wp2_with fail
      refine L3.out.mono ?_
      rintro e w3 ⟨rfl, hb3⟩
      have M3 := Lib.hid (M2.out.trans (hb3.mono M2.out.size))
      clear L3 hb3 M2
      go_wp2
      go_ret2
      have := hF.out
      cases this
      exact ⟨rfl, M3.out⟩
    · have hne : (loadF a0 a2_0 a2_1 != 0) = true := bne_iff_ne.2 he2
      rw [if_pos he2] at hF
      clear he2
      go_wp2
      go_ret2
      have := hF.out
      cases this
      exact ⟨rfl, M2.out⟩
  · have hne : (loadF a0 a1_0 a1_1 != 0) = true := bne_iff_ne.2 he1
    rw [if_pos he1] at hF
    clear he1
    go_wp2
    go_ret2
    have := hF.out
    cases this
    exact ⟨rfl, M1.out⟩
end Go.Proofs.YtmlifggklaeieaaDoor.Pt

/- arbiterlaw07.awake: what the document fixes of a new world's arrays. -/
namespace Go.Proofs.YtmlifggklaeieaaDoor.Pt
open Go Go.RowKit Go.Proofs.YtmlifggklaeieaaDoor.Nm Go.Proofs.YtmlifggklaeieaaDoor.Hi Go.Proofs.YtmlifggklaeieaaDoorW.PrintWords Go.Proofs.YtmlifggklaeieaaDoorW.PrintLast Go.Proofs.YtmlifggklaeieaaDoorW.PrintMore
set_option linter.unusedVariables false
set_option linter.unusedSimpArgs false
set_option maxHeartbeats 2000000
set_option maxRecDepth 100000

theorem sub_new : arrays_Sub.f newE 1 ⟨#[]⟩ 0 ⟨#[67, 108, 111, 110, 101, 97, 98, 108, 101]⟩ = some (true, 0) := by
  unfold arrays_Sub.f
  decide +kernel
def arbiterlaw07_awake.f : Option Bool := some true
theorem arbiterlaw07_awake.calls (r : Bool) (w : World) (h : arbiterlaw07_awake.f = some r) : Calls Tryd.prog 13 #[] w fun e w' => e = .returned (.bool r) ∧ Below w.heap.size w w' := by
  obtain rfl := Option.some.inj h
  go_enter Tryd.func13, Tryd.ntmps13
  go_wp2_with fail
  refine (new_any _).mono ?_
  rintro e w1 ⟨g, v, mb, ps, rfl, hI, hb⟩
  have HO := Lib.hid (arrays_Sub.calls g newE 1 ⟨#[]⟩ 0 ⟨#[67, 108, 111, 110, 101, 97, 98, 108, 101]⟩ true 0 w1 (wok_new hI) sub_new)
  have HB := Lib.hid hb
  clear hI hb
  go_wp2_with fail
  refine HO.out.mono ?_
  rintro e w2 ⟨rfl, hb2⟩
  have HB2 := Lib.hid (HB.out.trans (hb2.mono HB.out.size))
  clear hb2
  go_wp2
  go_ret
  exact ⟨rfl, HB2.out⟩
end Go.Proofs.YtmlifggklaeieaaDoor.Pt

/- The worlds of the laws: classes arrive, one at a time. -/
namespace Go.Proofs.YtmlifggklaeieaaDoor.Pt
open Go Go.RowKit Go.Proofs.YtmlifggklaeieaaDoor.Nm Go.Proofs.YtmlifggklaeieaaDoor.Hi Go.Proofs.YtmlifggklaeieaaDoorW.PrintWords Go.Proofs.YtmlifggklaeieaaDoorW.PrintLast Go.Proofs.YtmlifggklaeieaaDoorW.PrintMore
set_option linter.unusedVariables false
set_option linter.unusedSimpArgs false
set_option maxHeartbeats 2000000
set_option maxRecDepth 100000

theorem rd44 {l : List S44} {i : Nat} (h : i < l.length) : l[i]? = some (rd_T44 l (i : Int)) := by
  simp [rd_T44, List.getD_eq_getElem?_getD, List.getElem?_eq_getElem h]

def arbiterlaw07_built.f (l0 : List (S44)) : Option (List Hi.Ent) := some (builtF l0)
theorem arbiterlaw07_built.calls (A0 : Option Addr) (c0 : Nat) (l0 : List (S44)) (r : List Hi.Ent) (w : World) (hr0 : Kd.C k44 w A0 l0.length l0) (hc0 : l0.length ≤ c0) (h : arbiterlaw07_built.f l0 = some r) :
    Calls Tryd.prog 14 #[.slice A0 l0.length c0] w fun e w' => ∃ G_, e = .returned (.pointer (some ⟨G_, 0, none⟩)) ∧ WOK w' G_ r ∧ Below w.heap.size w w' := by
  obtain rfl := Option.some.inj h
  have HR := Lib.hid hr0
  have hmax := Kd.C_max hr0
  clear h hr0
  go_enter Tryd.func14, Tryd.ntmps14
  go_wp2_with fail
  refine (new_any _).mono ?_
  rintro e w1 ⟨g, v, mb, ps, rfl, hI, hb⟩
  have HI := Lib.hid hI
  have HB := Lib.hid hb
  clear hI hb
  go_wp2_with fail
  go_loopw [4] (fun v4 wr => ∃ j : Nat, j ≤ l0.length ∧ v4 = .int .i64 j ∧ Hid (∃ v ps, WIn wr w.heap.size g v mb ps (builtF (l0.take j))) ∧ Hid (Below w.heap.size w wr)) (fun v4 _ => l0.length - (intOf v4).toNat)
  case atStart => exact ⟨0, Nat.zero_le _, rfl, Lib.hid ⟨_, _, HI.out⟩, HB⟩
  case round =>
    clear HI HB
    obtain ⟨j, hj, rfl, HI, HB⟩ := hrel
    by_cases hlt : j < l0.length
    · have hjd : decide (j < l0.length) = true := decide_eq_true hlt
      obtain ⟨ad, A2, c2, A5, c5, rfl, q0, q1, q2, q3, q4, q5, hc2, K2, hc5, K5⟩ := at_T44 (Kd.C_below HR.out HB.out) (j : Int) (by omega) (by omega)
      have hx := rd44 hlt
      rw [Int.toNat_natCast] at q0 q1 q2 q3 q4 q5
      generalize rd_T44 l0 (j : Int) = x at *
      obtain ⟨v, ps, hI⟩ := HI.out
      have hst : Hid (builtF (l0.take (j + 1)) = stepF (builtF (l0.take j)) x) := Lib.hid (by
        unfold builtF
        rw [List.take_add_one, hx, List.foldl_append]
        rfl)
      have DF := Lib.hid (define_any wr w.heap.size g v mb ps _ hI HB.out.size (good_made (made_built _)) x.f0 x.f1 A2 c2 x.f2 x.f3 x.f4 A5 c5 x.f5 K2 hc2 K5 hc5 (chkC x) rfl (fun h => by
        obtain ⟨s0, s1, s2, s3, s5⟩ := sound_sizes h
        exact ⟨by omega, by omega, by omega, fun n hn => by have := s3 n hn; omega, s5⟩))
      clear K2 K5 hI HI hx
      obtain ⟨n0, n1, n2, n3, n4, n5⟩ := x
      go_wp2_with fail
      refine DF.out.mono ?_
      rintro e w2 ⟨rfl, v', ps', I2, hb2, hk2⟩
      replace I2 := Lib.hid I2
      have HB2 := Lib.hid (HB.out.trans hb2)
      clear hb2 hk2 DF HB q0 q1 q2 q3 q4 q5
      go_wp2
      exact ⟨⟨j + 1, by omega, by push_cast; rfl, Lib.hid ⟨_, _, by rw [hst.out]; exact I2.out⟩, HB2⟩, by simp [intOf]; omega⟩
    · have hjd : decide (j < l0.length) = false := decide_eq_false hlt
      have e1 : j = l0.length := by omega
      subst e1
      rw [List.take_length] at HI
      go_wp2
      go_ret
      obtain ⟨v, ps, hI⟩ := HI.out
      have hg := good_made (made_built l0)
      exact ⟨g, rfl, ⟨⟨_, _, _, _, hI⟩, hg.fine, hg.tree, by have := hg.len; omega⟩, HB.out⟩

def arbiterlaw08_built.f (l0 : List (S44)) : Option (List Hi.Ent) := some (builtF l0)
theorem arbiterlaw08_built.calls (A0 : Option Addr) (c0 : Nat) (l0 : List (S44)) (r : List Hi.Ent) (w : World) (hr0 : Kd.C k44 w A0 l0.length l0) (hc0 : l0.length ≤ c0) (h : arbiterlaw08_built.f l0 = some r) :
    Calls Tryd.prog 18 #[.slice A0 l0.length c0] w fun e w' => ∃ G_, e = .returned (.pointer (some ⟨G_, 0, none⟩)) ∧ WOK w' G_ r ∧ Below w.heap.size w w' := by
  obtain rfl := Option.some.inj h
  have HR := Lib.hid hr0
  have hmax := Kd.C_max hr0
  clear h hr0
  go_enter Tryd.func18, Tryd.ntmps18
  go_wp2_with fail
  refine (new_any _).mono ?_
  rintro e w1 ⟨g, v, mb, ps, rfl, hI, hb⟩
  have HI := Lib.hid hI
  have HB := Lib.hid hb
  clear hI hb
  go_wp2_with fail
  go_loopw [4] (fun v4 wr => ∃ j : Nat, j ≤ l0.length ∧ v4 = .int .i64 j ∧ Hid (∃ v ps, WIn wr w.heap.size g v mb ps (builtF (l0.take j))) ∧ Hid (Below w.heap.size w wr)) (fun v4 _ => l0.length - (intOf v4).toNat)
  case atStart => exact ⟨0, Nat.zero_le _, rfl, Lib.hid ⟨_, _, HI.out⟩, HB⟩
  case round =>
    clear HI HB
    obtain ⟨j, hj, rfl, HI, HB⟩ := hrel
    by_cases hlt : j < l0.length
    · have hjd : decide (j < l0.length) = true := decide_eq_true hlt
      obtain ⟨ad, A2, c2, A5, c5, rfl, q0, q1, q2, q3, q4, q5, hc2, K2, hc5, K5⟩ := at_T44 (Kd.C_below HR.out HB.out) (j : Int) (by omega) (by omega)
      have hx := rd44 hlt
      rw [Int.toNat_natCast] at q0 q1 q2 q3 q4 q5
      generalize rd_T44 l0 (j : Int) = x at *
      obtain ⟨v, ps, hI⟩ := HI.out
      have hst : Hid (builtF (l0.take (j + 1)) = stepF (builtF (l0.take j)) x) := Lib.hid (by
        unfold builtF
        rw [List.take_add_one, hx, List.foldl_append]
        rfl)
      have DF := Lib.hid (define_any wr w.heap.size g v mb ps _ hI HB.out.size (good_made (made_built _)) x.f0 x.f1 A2 c2 x.f2 x.f3 x.f4 A5 c5 x.f5 K2 hc2 K5 hc5 (chkC x) rfl (fun h => by
        obtain ⟨s0, s1, s2, s3, s5⟩ := sound_sizes h
        exact ⟨by omega, by omega, by omega, fun n hn => by have := s3 n hn; omega, s5⟩))
      clear K2 K5 hI HI hx
      obtain ⟨n0, n1, n2, n3, n4, n5⟩ := x
      go_wp2_with fail
      refine DF.out.mono ?_
      rintro e w2 ⟨rfl, v', ps', I2, hb2, hk2⟩
      replace I2 := Lib.hid I2
      have HB2 := Lib.hid (HB.out.trans hb2)
      clear hb2 hk2 DF HB q0 q1 q2 q3 q4 q5
      go_wp2
      exact ⟨⟨j + 1, by omega, by push_cast; rfl, Lib.hid ⟨_, _, by rw [hst.out]; exact I2.out⟩, HB2⟩, by simp [intOf]; omega⟩
    · have hjd : decide (j < l0.length) = false := decide_eq_false hlt
      have e1 : j = l0.length := by omega
      subst e1
      rw [List.take_length] at HI
      go_wp2
      go_ret
      obtain ⟨v, ps, hI⟩ := HI.out
      have hg := good_made (made_built l0)
      exact ⟨g, rfl, ⟨⟨_, _, _, _, hI⟩, hg.fine, hg.tree, by have := hg.len; omega⟩, HB.out⟩
end Go.Proofs.YtmlifggklaeieaaDoor.Pt
