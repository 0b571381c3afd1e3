/- Lemmas and contracts for the statement of PwAccessOpen: joined by program out of this session's texts. -/
import Derived.Test.YtmlifggklaeieaaDoorBdPwAccessOpen2
import Derived.Outline
import Derived.Deep.Slices
import Derived.WideShapes
/- slices.Contains of texts, shapes.header, walked by hand. -/
namespace Go.Proofs.YtmlifggklaeieaaDoor.Pt
open Go Go.RowKit Go.Proofs.YtmlifggklaeieaaDoor.Nm Go.Proofs.YtmlifggklaeieaaDoor.Ty Go.Proofs.YtmlifggklaeieaaDoor.Cd Go.Proofs.YtmlifggklaeieaaDoorW.PrintWords Go.Proofs.YtmlifggklaeieaaDoorW.PrintLast Go.Proofs.YtmlifggklaeieaaDoorW.PrintMore
set_option linter.unusedVariables false
set_option linter.unusedSimpArgs false
set_option maxHeartbeats 2000000
set_option maxRecDepth 100000

theorem rd_at {l : List ByteArray} {i : Nat} (h : i < l.length) : l[i]? = some (rdOf ByteArray.empty l (i : Int)) := by
  simp [rdOf, List.getD_eq_getElem?_getD, List.getElem?_eq_getElem h]
theorem ba_eq {a b : ByteArray} (h : a.toList = b.toList) : a = b := by
  rw [ByteArray.toList_eq, ByteArray.toList_eq] at h
  exact ByteArray.ext (Array.toList_inj.1 h)
/-- The place of a text, or -1. -/
def placeF : List ByteArray → ByteArray → Int → Int
  | [], _, _ => -1
  | n :: l, s, i => if s.toList = n.toList then i else placeF l s (i + 1)
theorem place_in (l : List ByteArray) (s : ByteArray) : ∀ (i : Int), 0 ≤ i → (placeF l s i ≥ 0 ↔ s ∈ l) := by
  induction l with
  | nil => intro i hi; simp [placeF]
  | cons n l ih =>
    intro i hi
    unfold placeF
    by_cases h : s.toList = n.toList
    · rw [if_pos h, ba_eq h]
      simp
      omega
    · rw [if_neg h, ih (i + 1) (by omega)]
      have : s ≠ n := fun e => h (by rw [e])
      simp [this]
theorem place_step (l : List ByteArray) (s : ByteArray) (i : Nat) (n : ByteArray) (hx : l[i]? = some n) : placeF (l.drop i) s i = if s.toList = n.toList then (i : Int) else placeF (l.drop (i + 1)) s ((i + 1 : Nat) : Int) := by
  have hi : i < l.length := by
    rcases Nat.lt_or_ge i l.length with h | h
    · exact h
    · rw [List.getElem?_eq_none h] at hx; cases hx
  rw [List.drop_eq_getElem_cons hi, placeF]
  rw [List.getElem?_eq_getElem hi] at hx
  rw [Option.some.inj hx]
  push_cast
  rfl
theorem index_any (A : Option Addr) (c : Nat) (l : List ByteArray) (s : ByteArray) (w : World) (hk : Kd.C Kd.string w A l.length l) :
    Calls Tryd.prog 74 #[.slice A l.length c, .string s] w fun e w' => e = .returned (.int .i64 (placeF l s 0)) ∧ w' = w := by
  have HK := Lib.hid hk
  have hmx := Kd.C_max hk
  clear hk
  generalize hr : placeF l s 0 = r
  replace hr := Lib.hid hr
  go_enter Tryd.func74, Tryd.ntmps74
  go_wp2_with fail
  go_loopw [8] (fun v8 wr => ∃ j : Nat, j ≤ l.length ∧ v8 = .int .i64 j ∧ Hid (placeF (l.drop j) s j = r) ∧ wr = w) (fun v8 _ => l.length - (intOf v8).toNat)
  case atStart => exact ⟨0, Nat.zero_le _, rfl, hr, rfl⟩
  case round =>
    obtain ⟨j, hj, rfl, HT, hw⟩ := hrel
    subst hw
    by_cases hlt : j < l.length
    · have hjd : decide (j < l.length) = true := decide_eq_true hlt
      obtain ⟨ad, cc, rfl, hcl, hKK, hic⟩ := Kd.C_get HK.out ByteArray.empty (j : Int) (by omega) (by omega)
      have hx := rd_at hlt
      obtain rfl : cc = [.string (rdOf ByteArray.empty l (j : Int))] := hKK
      have hic := hic 0 _ rfl
      rw [show Kd.string.sz = 1 from rfl, Nat.mul_one, Nat.add_zero, Int.toNat_natCast] at hic
      generalize rdOf ByteArray.empty l (j : Int) = n at *
      have hst := HT.out
      rw [place_step l s j n hx] at hst
      clear HT hx hcl
      by_cases he : s.toList = n.toList
      · rw [if_pos he] at hst
        have hq : (s.toList == n.toList) = true := beq_iff_eq.2 he
        subst hst
        go_wp2
        go_ret
        exact ⟨rfl, rfl⟩
      · rw [if_neg he] at hst
        have hq : (s.toList == n.toList) = false := beq_eq_false_iff_ne.2 he
        replace hst := Lib.hid hst
        go_wp2
        exact ⟨⟨j + 1, by omega, by push_cast; rfl, hst, trivial⟩, by simp [intOf]; omega⟩
    · have hjd : decide (j < l.length) = false := decide_eq_false hlt
      have h1 := HT.out
      rw [List.drop_eq_nil_of_le (by omega), placeF] at h1
      subst h1
      go_wp2
      go_ret
      exact ⟨rfl, rfl⟩
def memB (l : List ByteArray) (s : ByteArray) : Bool := decide (placeF l s 0 ≥ 0)
theorem memB_iff {l : List ByteArray} {s : ByteArray} : memB l s = true ↔ s ∈ l := by
  unfold memB
  rw [decide_eq_true_eq]
  exact place_in l s 0 (by omega)
theorem conts_any (A : Option Addr) (c : Nat) (l : List ByteArray) (s : ByteArray) (w : World) (hk : Kd.C Kd.string w A l.length l) :
    Calls Tryd.prog 62 #[.slice A l.length c, .string s] w fun e w' => e = .returned (.bool (memB l s)) ∧ w' = w := by
  have C1 := Lib.hid (index_any A c l s w hk)
  have hd : Hid (memB l s = decide (placeF l s 0 ≥ 0)) := Lib.hid rfl
  clear hk
  generalize placeF l s 0 = p at *
  go_enter Tryd.func62, Tryd.ntmps62
  go_wp2_with fail
  refine C1.out.mono ?_
  rintro e w2 ⟨rfl, rfl⟩
  go_wp2
  go_ret
  exact ⟨by rw [hd.out]; rfl, rfl⟩
def ifOk (l : List ByteArray) (f0 : ByteArray) (j : Nat) (n : ByteArray) : Bool := validB n && (!(n.toList == f0.toList) && !memB (l.take j) n)
/-- What is asked of the interfaces from a place on. -/
def ifB (l : List ByteArray) (f0 : ByteArray) : Nat → List ByteArray → Bool
  | _, [] => true
  | j, n :: r => ifOk l f0 j n && ifB l f0 (j + 1) r
theorem ifB_step {l : List ByteArray} {f0 n : ByteArray} {j : Nat} (hx : l[j]? = some n) : ifB l f0 j (l.drop j) = (ifOk l f0 j n && ifB l f0 (j + 1) (l.drop (j + 1))) := by
  have hi : j < l.length := by
    rcases Nat.lt_or_ge j l.length with h | h
    · exact h
    · rw [List.getElem?_eq_none h] at hx; cases hx
  rw [List.drop_eq_getElem_cons hi, ifB]
  rw [List.getElem?_eq_getElem hi] at hx
  rw [Option.some.inj hx]
def headB (f0 f1 : ByteArray) (l : List ByteArray) (f3 f4 : Int) : Bool :=
  validB f0 && (validB f1 && (!(f0.toList == f1.toList) && (clsV f3 == 0 && (ifB l f0 0 l && (decide ((l.length : Int) ≤ 20) && (decide (0 ≤ f4) && decide (f4 ≤ 9)))))))
theorem head_any (f0 f1 : ByteArray) (A2 : Option Addr) (c2 : Nat) (l2 : List ByteArray) (f3 f4 : Int) (v5 : Value) (h5 : ∃ A n c, v5 = .slice A n c) (w : World) (hk : Kd.C Kd.string w A2 l2.length l2) (hc : l2.length ≤ c2) :
    Calls Tryd.prog 53 #[.agg #[.string f0, .string f1, .slice A2 l2.length c2, .int .i64 f3, .int .i64 f4, v5]] w fun e w' => e = .returned (.bool (headB f0 f1 l2 f3 f4)) ∧ Below w.heap.size w w' := by
  obtain ⟨A5, n5, c5, rfl⟩ := h5
  have hmx := Kd.C_max hk
  have HK := Lib.hid hk
  have hcc := hc
  have B0 := Lib.hid (blk_new w (.cells #[.string f0, .string f1, .slice A2 l2.length c2, .int .i64 f3, .int .i64 f4, .slice A5 n5 c5] 44))
  have AB := Lib.hid ((Below.refl w.heap.size w).alloc (Nat.le_refl _) (.cells #[.string f0, .string f1, .slice A2 l2.length c2, .int .i64 f3, .int .i64 f4, .slice A5 n5 c5] 44))
  have CV := Lib.hid (fun s W => names_Valid.calls s _ W rfl)
  have CF := Lib.hid (fun W => cls_any f3 W)
  clear hk
  generalize hr : headB f0 f1 l2 f3 f4 = r
  replace hr := Lib.hid hr
  unfold headB at hr
  generalize hv0 : validB f0 = b0 at hr
  generalize hv1 : validB f1 = b1 at hr
  have C0 := Lib.hid (CV.out f0 (w.alloc (.cells #[.string f0, .string f1, .slice A2 l2.length c2, .int .i64 f3, .int .i64 f4, .slice A5 n5 c5] 44)))
  have C1 := Lib.hid (fun W => CV.out f1 W)
  rw [hv0] at C0
  rw [hv1] at C1
  generalize clsV f3 = cv at *
  go_enter Tryd.func53, Tryd.ntmps53
  go_upto_region 1 with (fail)
  go_cut [1, 27] (fun v1 v27 wr => v1 = .pointer (some ⟨w.heap.size, 0, none⟩) ∧ v27 = .bool (!b0 || (!b1 || ((f0.toList == f1.toList) || (cv != 0)))) ∧ Hid (wr.heap[w.heap.size]? = some (.cells #[.string f0, .string f1, .slice A2 l2.length c2, .int .i64 f3, .int .i64 f4, .slice A5 n5 c5] 44 (0, 0))) ∧ Hid (Below w.heap.size w wr))
  case first =>
    go_wp2_with fail
    refine C0.out.mono ?_
    rintro e w1 ⟨rfl, hb1⟩
    have B1 := Lib.hid (blk_below B0.out hb1)
    have H1 := Lib.hid (AB.out.trans (hb1.mono AB.out.size))
    clear hb1 C0
    have q1 : w1.cell? ⟨w.heap.size, 1, none⟩ = some (.string f1) := (blk_cell B1.out 1).trans rfl
    cases b0 with
    | false =>
      go_wp2
      go_meet
      case rel => exact ⟨rfl, rfl, B1, H1⟩
    | true =>
      go_wp2_with fail
      refine (C1.out _).mono ?_
      rintro e w2 ⟨rfl, hb2⟩
      have B2 := Lib.hid (blk_below B1.out hb2)
      have H2 := Lib.hid (H1.out.trans (hb2.mono H1.out.size))
      clear hb2 C1 q1
      have q0 : w2.cell? ⟨w.heap.size, 0, none⟩ = some (.string f0) := (blk_cell B2.out 0).trans rfl
      have q1 : w2.cell? ⟨w.heap.size, 1, none⟩ = some (.string f1) := (blk_cell B2.out 1).trans rfl
      have q3 : w2.cell? ⟨w.heap.size, 3, none⟩ = some (.int .i64 f3) := (blk_cell B2.out 3).trans rfl
      cases b1 with
      | false =>
        go_wp2
        go_meet
        case rel => exact ⟨rfl, rfl, B2, H2⟩
      | true =>
        cases he : (f0.toList == f1.toList) with
        | true =>
          go_wp2
          go_meet
          case rel => exact ⟨rfl, by rw [he]; rfl, B2, H2⟩
        | false =>
          go_wp2_with fail
          refine (CF.out _).mono ?_
          rintro e w3 ⟨rfl, rfl⟩
          go_wp2
          go_meet
          case rel => exact ⟨rfl, by rw [he]; rfl, B2, H2⟩
  case rest =>
    clear B0 AB C0 C1 CF
    obtain ⟨rfl, rfl, B2, H2⟩ := hcut
    cases hbad : (!b0 || (!b1 || ((f0.toList == f1.toList) || (cv != 0)))) with
    | true =>
      have hr2 : false = r := by
        rw [← hr.out]
        cases b0 <;> cases b1 <;> cases he : (f0.toList == f1.toList) <;> simp_all
      subst hr2
      clear hbad
      go_wp2
      go_ret
      exact ⟨rfl, H2.out⟩
    | false =>
      have hr2 : Hid ((ifB l2 f0 0 l2 && (decide ((l2.length : Int) ≤ 20) && (decide (0 ≤ f4) && decide (f4 ≤ 9)))) = r) := Lib.hid (by
        rw [← hr.out]
        cases b0 <;> cases b1 <;> cases he : (f0.toList == f1.toList) <;> simp_all)
      clear hbad hr hv0 hv1
      have q2 : wc.cell? ⟨w.heap.size, 2, none⟩ = some (.slice A2 l2.length c2) := (blk_cell B2.out 2).trans rfl
      go_wp2_with fail
      go_loopw [31] (fun v31 wr => ∃ j : Nat, j ≤ l2.length ∧ v31 = .int .i64 j ∧ Hid (ifB l2 f0 0 l2 = ifB l2 f0 j (l2.drop j)) ∧ Hid (wr.heap[w.heap.size]? = some (.cells #[.string f0, .string f1, .slice A2 l2.length c2, .int .i64 f3, .int .i64 f4, .slice A5 n5 c5] 44 (0, 0))) ∧ Hid (Below w.heap.size w wr)) (fun v31 _ => l2.length - (intOf v31).toNat)
      case atStart => exact ⟨0, Nat.zero_le _, rfl, Lib.hid rfl, B2, H2⟩
      case round =>
        clear B2 H2 q2
        obtain ⟨j, hj, rfl, HT, B2, H2⟩ := hrel
        by_cases hlt : j < l2.length
        · have hjd : decide (j < l2.length) = true := decide_eq_true hlt
          obtain ⟨ad, cc, rfl, hcl, hKK, hic⟩ := Kd.C_get (Kd.C_below HK.out H2.out) ByteArray.empty (j : Int) (by omega) (by omega)
          have hx := rd_at hlt
          obtain rfl : cc = [.string (rdOf ByteArray.empty l2 (j : Int))] := hKK
          have hic := hic 0 _ rfl
          rw [show Kd.string.sz = 1 from rfl, Nat.mul_one, Nat.add_zero, Int.toNat_natCast] at hic
          generalize rdOf ByteArray.empty l2 (j : Int) = n at *
          have hst : Hid (ifB l2 f0 0 l2 = (ifOk l2 f0 j n && ifB l2 f0 (j + 1) (l2.drop (j + 1)))) := Lib.hid (HT.out.trans (ifB_step hx))
          have hok : Hid (ifOk l2 f0 j n = (validB n && (!(n.toList == f0.toList) && !memB (l2.take j) n))) := Lib.hid rfl
          have C3 := Lib.hid (CV.out n wr)
          obtain ⟨i0, hi0, _, hsz0, _⟩ := info_parts info9
          obtain ⟨hcut0, _, _⟩ := print_take_of (P := Tryd.prog) Value.string (⟨#[]⟩ : ByteArray) 41 9 .i64 Tryd.underlying41 hi0 hsz0 (some ad) c2 l2 (j : Int) (by omega) (by omega) hcc
          rw [Int.toNat_natCast] at hcut0
          have C4 := Lib.hid (fun (W : World) (hb : Below w.heap.size w W) => conts_any (some ad) c2 (l2.take j) n W (Kd.C_take (Kd.C_below HK.out hb) (by omega)))
          clear HT hx hcl hi0 hsz0
          generalize ifOk l2 f0 j n = ok at *
          go_wp2_with fail
          refine C3.out.mono ?_
          rintro e w3 ⟨rfl, hb3⟩
          have B3 := Lib.hid (blk_below B2.out hb3)
          have H3 := Lib.hid (H2.out.trans (hb3.mono H2.out.size))
          clear hb3 C3 B2 H2 hic
          have q0 : w3.cell? ⟨w.heap.size, 0, none⟩ = some (.string f0) := (blk_cell B3.out 0).trans rfl
          have q2 : w3.cell? ⟨w.heap.size, 2, none⟩ = some (.slice (some ad) l2.length c2) := (blk_cell B3.out 2).trans rfl
          have hbad : Hid (ok = false → false = r) := Lib.hid (fun h => by rw [← hr2.out, hst.out, h]; rfl)
          cases hv : validB n with
          | false =>
            have h1 := hok.out
            rw [hv, Bool.false_and] at h1
            obtain rfl := hbad.out h1
            go_wp2
            go_ret
            exact ⟨rfl, H3.out⟩
          | true =>
            cases he : (n.toList == f0.toList) with
            | true =>
              have h1 := hok.out
              rw [hv, he] at h1
              obtain rfl := hbad.out h1
              go_wp2
              go_ret
              exact ⟨rfl, H3.out⟩
            | false =>
              have C5 := C4.out w3 H3.out
              rw [show (l2.take j).length = j by rw [List.length_take]; omega] at C5
              replace C5 := Lib.hid C5
              go_wp2_with fail
              refine C5.out.mono ?_
              rintro e w4 ⟨rfl, rfl⟩
              clear C5 C4
              cases hm : memB (l2.take j) n with
              | true =>
                have h1 := hok.out
                rw [hv, he, hm] at h1
                obtain rfl := hbad.out h1
                go_wp2
                go_ret
                exact ⟨rfl, H3.out⟩
              | false =>
                have h1 : Hid (ok = true) := Lib.hid (by rw [hok.out, hv, he, hm]; rfl)
                clear hv he hm
                go_wp2
                exact ⟨⟨j + 1, by omega, by push_cast; rfl, Lib.hid (by rw [hst.out, h1.out, Bool.true_and]), B3, H3⟩, by simp [intOf]; omega⟩
        · have hjd : decide (j < l2.length) = false := decide_eq_false hlt
          have h1 := HT.out
          rw [List.drop_eq_nil_of_le (by omega), ifB] at h1
          rw [h1, Bool.true_and] at hr2
          clear h1 HT
          have q2 : wr.cell? ⟨w.heap.size, 2, none⟩ = some (.slice A2 l2.length c2) := (blk_cell B2.out 2).trans rfl
          have q4 : wr.cell? ⟨w.heap.size, 4, none⟩ = some (.int .i64 f4) := (blk_cell B2.out 4).trans rfl
          cases d1 : decide ((l2.length : Int) ≤ 20) with
          | false =>
            have h2 := hr2.out
            rw [d1] at h2
            simp at h2
            subst h2
            go_wp2
            go_ret
            exact ⟨rfl, H2.out⟩
          | true =>
            cases d2 : decide (0 ≤ f4) with
            | false =>
              have h2 := hr2.out
              rw [d1, d2] at h2
              simp at h2
              subst h2
              go_wp2
              go_ret
              exact ⟨rfl, H2.out⟩
            | true =>
              rw [d1, d2, Bool.true_and, Bool.true_and] at hr2
              go_wp2
              go_ret
              exact ⟨by rw [← hr2.out]; rfl, H2.out⟩
end Go.Proofs.YtmlifggklaeieaaDoor.Pt

/- shapes.Check, walked by hand. -/
namespace Go.Proofs.YtmlifggklaeieaaDoor.Pt
open Go Go.RowKit Go.Proofs.YtmlifggklaeieaaDoor.Nm Go.Proofs.YtmlifggklaeieaaDoor.Ty Go.Proofs.YtmlifggklaeieaaDoor.Cd Go.Proofs.YtmlifggklaeieaaDoorW.PrintWords Go.Proofs.YtmlifggklaeieaaDoorW.PrintLast Go.Proofs.YtmlifggklaeieaaDoorW.PrintMore
set_option linter.unusedVariables false
set_option linter.unusedSimpArgs false
set_option maxHeartbeats 2000000
set_option maxRecDepth 100000

def mOk (l : List S51) (b : Bool) (j : Nat) (m : S51) : Bool := methB m b && findM 0 l m.f0 m.f1 == (j : Int)
/-- What is asked of the methods from a place on. -/
def msB (l : List S51) (b : Bool) : Nat → List S51 → Bool
  | _, [] => true
  | j, m :: r => mOk l b j m && msB l b (j + 1) r
theorem msB_step {l : List S51} {b : Bool} {m : S51} {j : Nat} (hx : l[j]? = some m) : msB l b j (l.drop j) = (mOk l b j m && msB l b (j + 1) (l.drop (j + 1))) := by
  have hi : j < l.length := by
    rcases Nat.lt_or_ge j l.length with h | h
    · exact h
    · rw [List.getElem?_eq_none h] at hx; cases hx
  rw [List.drop_eq_getElem_cons hi, msB]
  rw [List.getElem?_eq_getElem hi] at hx
  rw [Option.some.inj hx]
/-- Classes that are sound. -/
def soundB (c : S44) : Bool :=
  !decide ((c.f5.length : Int) > 40) && (!decide ((c.f2.length : Int) > 20) && (headB c.f0 c.f1 c.f2 c.f3 c.f4 && msB c.f5 (Go.bits .and .i64 c.f3 512 != 0) 0 c.f5))
/-- What shapes.Check answers. -/
def chkC (c : S44) : Int := if soundB c = true then 0 else 1
theorem rd51 {l : List S51} {i : Nat} (h : i < l.length) : l[i]? = some (rd_T51 l (i : Int)) := by
  simp [rd_T51, List.getD_eq_getElem?_getD, List.getElem?_eq_getElem h]
theorem chk_any (f0 f1 : ByteArray) (A2 : Option Addr) (c2 : Nat) (l2 : List ByteArray) (f3 f4 : Int) (A5 : Option Addr) (c5 : Nat) (l5 : List S51) (w : World) (hk : Kd.C Kd.string w A2 l2.length l2) (hc : l2.length ≤ c2) (hk5 : Kd.C k51 w A5 l5.length l5) (hc5 : l5.length ≤ c5) :
    Calls Tryd.prog 42 #[.agg #[.string f0, .string f1, .slice A2 l2.length c2, .int .i64 f3, .int .i64 f4, .slice A5 l5.length c5]] w fun e w' => e = .returned (.int .i64 (chkC ⟨f0, f1, l2, f3, f4, l5⟩)) ∧ Below w.heap.size w w' := by
  have B0 := Lib.hid (blk_new w (.cells #[.string f0, .string f1, .slice A2 l2.length c2, .int .i64 f3, .int .i64 f4, .slice A5 l5.length c5] 44))
  have AB := Lib.hid ((Below.refl w.heap.size w).alloc (Nat.le_refl _) (.cells #[.string f0, .string f1, .slice A2 l2.length c2, .int .i64 f3, .int .i64 f4, .slice A5 l5.length c5] 44))
  have HK := Lib.hid hk5
  have CH := Lib.hid (head_any f0 f1 A2 c2 l2 f3 f4 (.slice A5 l5.length c5) ⟨_, _, _, rfl⟩ _ (Kd.C_below hk AB.out) hc)
  have CFd := Lib.hid (fun (W : World) (hb : Below w.heap.size w W) (hl : l5.length ≤ 4611686018427387904) (nm ds : ByteArray) => shapes_Find.calls f0 f1 A2 c2 l2 f3 f4 A5 c5 l5 nm ds _ W (Kd.C_below hk hb) hc (Kd.C_below hk5 hb) hc5 (if_pos hl))
  clear hk hk5
  generalize hr : chkC ⟨f0, f1, l2, f3, f4, l5⟩ = r
  replace hr := Lib.hid hr
  unfold chkC soundB at hr
  simp only at hr
  generalize headB f0 f1 l2 f3 f4 = hb_ at *
  have q2 : (w.alloc (.cells #[.string f0, .string f1, .slice A2 l2.length c2, .int .i64 f3, .int .i64 f4, .slice A5 l5.length c5] 44)).cell? ⟨w.heap.size, 2, none⟩ = some (.slice A2 l2.length c2) := (blk_cell B0.out 2).trans rfl
  go_enter Tryd.func42, Tryd.ntmps42
  go_upto_region 1 with (fail)
  cases d5 : decide ((l5.length : Int) > 40) with
  | true =>
    rw [d5] at hr
    have h := hr.out
    simp at h
    subst h
    go_wp2
    go_ret
    exact ⟨rfl, AB.out⟩
  | false =>
    rw [d5, Bool.not_false, Bool.true_and] at hr
    cases d2 : decide ((l2.length : Int) > 20) with
    | true =>
      rw [d2] at hr
      have h := hr.out
      simp at h
      subst h
      go_wp2
      go_ret
      exact ⟨rfl, AB.out⟩
    | false =>
      rw [d2, Bool.not_false, Bool.true_and] at hr
      go_wp2_with fail
      refine CH.out.mono ?_
      rintro e w1 ⟨rfl, hb1⟩
      have B1 := Lib.hid (blk_below B0.out hb1)
      have H1 := Lib.hid (AB.out.trans (hb1.mono AB.out.size))
      clear CH B0 AB hb1 q2
      cases hb_ with
      | false =>
        have h := hr.out
        simp at h
        subst h
        go_wp2
        go_ret
        exact ⟨rfl, H1.out⟩
      | true =>
        rw [Bool.true_and] at hr
        have hl5 : l5.length ≤ 40 := by
          have := of_decide_eq_false d5
          omega
        clear d5 d2
        have q5 : w1.cell? ⟨w.heap.size, 5, none⟩ = some (.slice A5 l5.length c5) := (blk_cell B1.out 5).trans rfl
        go_wp2_with fail
        go_loopw [23] (fun v23 wr => ∃ j : Nat, j ≤ l5.length ∧ v23 = .int .i64 j ∧ Hid (msB l5 (Go.bits .and .i64 f3 512 != 0) 0 l5 = msB l5 (Go.bits .and .i64 f3 512 != 0) j (l5.drop j)) ∧ Hid (wr.heap[w.heap.size]? = some (.cells #[.string f0, .string f1, .slice A2 l2.length c2, .int .i64 f3, .int .i64 f4, .slice A5 l5.length c5] 44 (0, 0))) ∧ Hid (Below w.heap.size w wr)) (fun v23 _ => l5.length - (intOf v23).toNat)
        case atStart => exact ⟨0, Nat.zero_le _, rfl, Lib.hid rfl, B1, H1⟩
        case round =>
          clear B1 H1 q5
          obtain ⟨j, hj, rfl, HT, B2, H2⟩ := hrel
          by_cases hlt : j < l5.length
          · have hjd : decide (j < l5.length) = true := decide_eq_true hlt
            obtain ⟨ad, A6, c6, rfl, p0, p1, p2, p3, p4, p5, hc6, K6⟩ := at_T51 (Kd.C_below HK.out H2.out) (j : Int) (by omega) (by omega)
            have hx := rd51 hlt
            rw [Int.toNat_natCast] at p0 p1 p2 p3 p4 p5
            generalize rd_T51 l5 (j : Int) = x at *
            obtain ⟨x0, x1, x2, x3, x4, x5⟩ := x
            simp only at p0 p1 p2 p3 p4 p5 hc6 K6
            have hst : Hid (msB l5 (Go.bits .and .i64 f3 512 != 0) 0 l5 = (mOk l5 (Go.bits .and .i64 f3 512 != 0) j ⟨x0, x1, x2, x3, x4, x5⟩ && msB l5 (Go.bits .and .i64 f3 512 != 0) (j + 1) (l5.drop (j + 1)))) := Lib.hid (HT.out.trans (msB_step hx))
            have hok : Hid (mOk l5 (Go.bits .and .i64 f3 512 != 0) j ⟨x0, x1, x2, x3, x4, x5⟩ = (methB ⟨x0, x1, x2, x3, x4, x5⟩ (Go.bits .and .i64 f3 512 != 0) && findM 0 l5 x0 x1 == (j : Int))) := Lib.hid rfl
            have D0 := Lib.hid (blk_new wr (.cells #[.string x0, .string x1, .int .i64 x2, .int .i64 x3, .int .i64 x4, .slice A6 x5.length c6] 51))
            have hal := (Below.refl wr.heap.size wr).alloc (Nat.le_refl _) (.cells #[.string x0, .string x1, .int .i64 x2, .int .i64 x3, .int .i64 x4, .slice A6 x5.length c6] 51)
            have B3 := Lib.hid (blk_below B2.out hal)
            have H3 := Lib.hid (H2.out.trans (hal.mono H2.out.size))
            have CM := Lib.hid (meth_any x0 x1 x2 x3 x4 A6 c6 x5 (Go.bits .and .i64 f3 512 != 0) _ (Kd.C_below K6 hal) hc6)
            have q3 : (wr.alloc (.cells #[.string x0, .string x1, .int .i64 x2, .int .i64 x3, .int .i64 x4, .slice A6 x5.length c6] 51)).cell? ⟨w.heap.size, 3, none⟩ = some (.int .i64 f3) := (blk_cell B3.out 3).trans rfl
            clear HT hx K6 hal B2 H2
            have hbad : Hid (mOk l5 (Go.bits .and .i64 f3 512 != 0) j ⟨x0, x1, x2, x3, x4, x5⟩ = false → (1 : Int) = r) := Lib.hid (fun h => by rw [← hr.out, hst.out, h]; rfl)
            generalize mOk l5 (Go.bits .and .i64 f3 512 != 0) j ⟨x0, x1, x2, x3, x4, x5⟩ = ok at *
            generalize methB ⟨x0, x1, x2, x3, x4, x5⟩ (Go.bits .and .i64 f3 512 != 0) = mb at *
            go_wp2_with fail
            refine CM.out.mono ?_
            rintro e w4 ⟨rfl, hb4⟩
            have B4 := Lib.hid (blk_below B3.out hb4)
            have D4 := Lib.hid (blk_below D0.out hb4)
            have H4 := Lib.hid (H3.out.trans (hb4.mono H3.out.size))
            clear CM hb4 B3 D0 H3 q3 p0 p1 p2 p3 p4 p5
            cases mb with
            | false =>
              have h1 := hok.out
              rw [Bool.false_and] at h1
              obtain rfl := hbad.out h1
              go_wp2
              go_ret
              exact ⟨rfl, H4.out⟩
            | true =>
              have q0 : w4.cell? ⟨w.heap.size, 0, none⟩ = some (.string f0) := (blk_cell B4.out 0).trans rfl
              have q1 : w4.cell? ⟨w.heap.size, 1, none⟩ = some (.string f1) := (blk_cell B4.out 1).trans rfl
              have q2 : w4.cell? ⟨w.heap.size, 2, none⟩ = some (.slice A2 l2.length c2) := (blk_cell B4.out 2).trans rfl
              have q3 : w4.cell? ⟨w.heap.size, 3, none⟩ = some (.int .i64 f3) := (blk_cell B4.out 3).trans rfl
              have q4 : w4.cell? ⟨w.heap.size, 4, none⟩ = some (.int .i64 f4) := (blk_cell B4.out 4).trans rfl
              have q5 : w4.cell? ⟨w.heap.size, 5, none⟩ = some (.slice (some ad) l5.length c5) := (blk_cell B4.out 5).trans rfl
              have r0 : w4.cell? ⟨wr.heap.size, 0, none⟩ = some (.string x0) := (blk_cell D4.out 0).trans rfl
              have r1 : w4.cell? ⟨wr.heap.size, 1, none⟩ = some (.string x1) := (blk_cell D4.out 1).trans rfl
              have CD := Lib.hid (CFd.out w4 H4.out (by omega) x0 x1)
              rw [Bool.true_and] at hok
              generalize findM 0 l5 x0 x1 = fm at *
              go_wp2_with fail
              refine CD.out.mono ?_
              rintro e w5 ⟨rfl, hb5⟩
              have B5 := Lib.hid (blk_below B4.out hb5)
              have H5 := Lib.hid (H4.out.trans (hb5.mono H4.out.size))
              clear CD hb5 B4 D4 H4 q0 q1 q2 q3 q4 q5 r0 r1
              by_cases hf : fm = (j : Int)
              · have hne : (fm != (j : Int)) = false := bne_eq_false_iff_eq.2 hf
                have h1 : Hid (ok = true) := Lib.hid (hok.out.trans (beq_iff_eq.2 hf))
                clear hf
                go_wp2
                exact ⟨⟨j + 1, by omega, by push_cast; rfl, Lib.hid (by rw [hst.out, h1.out, Bool.true_and]), B5, H5⟩, by simp [intOf]; omega⟩
              · have hne : (fm != (j : Int)) = true := bne_iff_ne.2 hf
                have h1 := hok.out.trans (beq_eq_false_iff_ne.2 hf)
                obtain rfl := hbad.out h1
                clear hf
                go_wp2
                go_ret
                exact ⟨rfl, H5.out⟩
          · have hjd : decide (j < l5.length) = false := decide_eq_false hlt
            have h1 := HT.out
            rw [List.drop_eq_nil_of_le (by omega), msB] at h1
            have h2 := hr.out
            rw [h1] at h2
            simp at h2
            subst h2
            clear h1
            go_wp2
            go_ret
            exact ⟨rfl, H2.out⟩
/-! what a sound class is known to be -/
theorem valid_size {s : ByteArray} (h : validB s = true) : s.size ≤ 60 := by
  unfold validB at h
  rw [Bool.and_eq_true] at h
  exact of_decide_eq_true h.1
theorem ifB_mem {l : List ByteArray} {f0 : ByteArray} : ∀ (r : List ByteArray) (j : Nat), ifB l f0 j r = true → ∀ n ∈ r, validB n = true
  | [], _, _ => fun n hn => by cases hn
  | m :: r, j, h => by
    rw [ifB, Bool.and_eq_true] at h
    intro n hn
    rcases List.mem_cons.1 hn with rfl | hn
    · have := h.1
      unfold ifOk at this
      rw [Bool.and_eq_true] at this
      exact this.1
    · exact ifB_mem r (j + 1) h.2 n hn
theorem msB_mem {l : List S51} {b : Bool} : ∀ (r : List S51) (j : Nat), msB l b j r = true → ∀ m ∈ r, methB m b = true
  | [], _, _ => fun n hn => by cases hn
  | m :: r, j, h => by
    rw [msB, Bool.and_eq_true] at h
    intro n hn
    rcases List.mem_cons.1 hn with rfl | hn
    · have := h.1
      unfold mOk at this
      rw [Bool.and_eq_true] at this
      exact this.1
    · exact msB_mem r (j + 1) h.2 n hn
theorem meth_code {m : S51} {b : Bool} (h : methB m b = true) : m.f5.length ≤ 200 := by
  unfold methB at h
  rw [Bool.and_eq_true, Bool.and_eq_true] at h
  have h2 := h.2.2
  by_cases ha : Go.bits .and .i64 m.f2 1024 = 0
  · rw [if_pos ha] at h2
    simp only [Bool.and_eq_true] at h2
    have h3 := h2.2.2.2.2
    unfold codeB wthB at h3
    simp only [Bool.and_eq_true, decide_eq_true_eq] at h3
    omega
  · rw [if_neg ha] at h2
    simp only [Bool.and_eq_true, beq_iff_eq] at h2
    omega
theorem chk_sizes {c : S44} (h : chkC c = 0) : c.f0.size ≤ 60 ∧ c.f1.size ≤ 60 ∧ c.f2.length ≤ 20 ∧ (∀ n ∈ c.f2, n.size ≤ 60) ∧ c.f5.length ≤ 40 ∧ ∀ m ∈ c.f5, m.f5.length ≤ 200 := by
  have hs : soundB c = true := by
    cases hs : soundB c with
    | true => rfl
    | false => unfold chkC at h; rw [hs] at h; cases h
  unfold soundB headB at hs
  simp only [Bool.and_eq_true, Bool.not_eq_true', decide_eq_false_iff_not] at hs
  obtain ⟨h5, h2, ⟨v0, v1, _, _, hi, _⟩, hm⟩ := hs
  exact ⟨valid_size v0, valid_size v1, by omega, fun n hn => valid_size (ifB_mem _ _ hi n hn), by omega, fun m hm2 => meth_code (msB_mem _ _ hm m hm2)⟩
end Go.Proofs.YtmlifggklaeieaaDoor.Pt

/- hier.World.Define: a class arrives. -/
namespace Go.Proofs.YtmlifggklaeieaaDoor.Hi
open Go Go.RowKit Go.Proofs.YtmlifggklaeieaaDoor.Nm Go.Proofs.YtmlifggklaeieaaDoorW.PrintWords Go.Proofs.YtmlifggklaeieaaDoorW.PrintLast Go.Proofs.YtmlifggklaeieaaDoorW.PrintMore Go.Proofs.YtmlifggklaeieaaDoor.Pt
set_option linter.unusedVariables false
set_option linter.unusedSimpArgs false
set_option maxHeartbeats 4000000
set_option maxRecDepth 100000

/-- The numbers of the interfaces that a class names, or the first error. -/
def ifsF (es : List Ent) (c : S44) : List ByteArray → Int × List Int
  | [] => (0, [])
  | n :: l => if (aboveF es c n true).2 = 0 then ((ifsF es c l).1, (aboveF es c n true).1 :: (ifsF es c l).2) else ((aboveF es c n true).2, [])
/-- What comes of a class that arrives, shapes.Check having answered r: the classes, the number, the error. -/
def defF (r : Int) (es : List Ent) (c : S44) : List Ent × Int × Int :=
  if r ≠ 0 then (es, 0, r) else if es.length ≥ 300 then (es, 0, 5) else if (nameF es c.f0).2 = 0 then (es, 0, 25) else
  if (aboveF es c c.f1 false).2 ≠ 0 then (es, 0, (aboveF es c c.f1 false).2) else if (ifsF es c c.f2).1 ≠ 0 then (es, 0, (ifsF es c c.f2).1) else
  (es ++ [putE es c (aboveF es c c.f1 false).1 (ifsF es c c.f2).2], es.length, 0)
/-- What is known of the classes of a world. -/
structure Good (es : List Ent) : Prop where
  fine : ∀ x ∈ es, Fine x
  tree : Tree es
  clo : ∀ x ∈ es, Rng es.length x.clo ∧ 0 ≤ x.depth ∧ x.depth ≤ es.length
  len : es.length ≤ 300
theorem ifsF_take (es : List Ent) (c : S44) : ∀ (l : List ByteArray) (k : Nat), (∀ (j : Nat) (n : ByteArray), j < k → l[j]? = some n → (aboveF es c n true).2 = 0) → (∀ (n : ByteArray), l[k]? = some n → (aboveF es c n true).2 ≠ 0 → (ifsF es c l).1 = (aboveF es c n true).2) ∧ (l.length ≤ k → ifsF es c l = (0, l.map fun n => (aboveF es c n true).1))
  | [], k, _ => ⟨fun n h => by simp at h, fun _ => rfl⟩
  | m :: l, 0, _ => ⟨fun n h hn => by
      simp at h
      subst h
      unfold ifsF
      rw [if_neg hn], fun h => by simp at h⟩
  | m :: l, k + 1, h => by
    have h0 := h 0 m (by omega) rfl
    obtain ⟨h1, h2⟩ := ifsF_take es c l k (fun j n hj hn => h (j + 1) n (by omega) hn)
    refine ⟨fun n hn hne => ?_, fun hl => ?_⟩
    · unfold ifsF
      rw [if_pos h0]
      exact h1 n hn hne
    · have h3 := h2 (by simpa using hl)
      unfold ifsF
      rw [if_pos h0, h3]
      rfl
theorem nameF_in {es : List Ent} {s : ByteArray} (h : (nameF es s).2 = 0) : 0 ≤ (nameF es s).1 ∧ (nameF es s).1 < es.length ∧ (ent es (nameF es s).1).c.f0 = s := by
  unfold nameF at h ⊢
  cases hf : (es.map (·.c.f0)).findIdx? (fun t => decide (t = s)) with
  | none => rw [hf] at h; simp at h
  | some i =>
    obtain ⟨hi, hs, _⟩ := List.findIdx?_eq_some_iff_getElem.1 hf
    have hs := of_decide_eq_true hs
    rw [List.length_map] at hi
    refine ⟨by simp, by simpa using hi, ?_⟩
    have := ent_get (List.getElem?_eq_getElem hi)
    show (ent es (i : Int)).c.f0 = s
    rw [this]
    simpa using hs
theorem nameF_not {es : List Ent} {s : ByteArray} (h : ¬ (nameF es s).2 = 0) : nameF es s = (0, 6) ∧ s ∉ es.map (·.c.f0) := by
  unfold nameF at h ⊢
  cases hf : (es.map (·.c.f0)).findIdx? (fun t => decide (t = s)) with
  | none =>
    refine ⟨rfl, fun hm => ?_⟩
    rw [List.findIdx?_eq_none_iff] at hf
    have := hf s hm
    simp at this
  | some i => rw [hf] at h; simp at h
theorem aboveF_in {es : List Ent} {c : S44} {n : ByteArray} {want : Bool} (h : (aboveF es c n want).2 = 0) : 0 ≤ (aboveF es c n want).1 ∧ (aboveF es c n want).1 < es.length ∧ (aboveF es c n want).1 = (nameF es n).1 ∧ (nameF es n).2 = 0 := by
  unfold aboveF at h ⊢
  split at h
  · rename_i h0
    rw [if_pos h0]
    have h1 := nameF_in h0
    unfold fitF at h ⊢
    split at h
    · simp at h
    · split at h
      · simp at h
      · split at h
        · simp at h
        · rename_i a b c
          rw [if_neg a, if_neg b, if_neg c]
          exact ⟨h1.1, h1.2.1, rfl, h0⟩
  · simp at h
theorem fin_no {w W : World} {base g : Nat} {v : Value} {mb : Nat} {ps : List Nat} {es : List Ent} (h : WIn w base g v mb ps es) (hbs : base ≤ w.heap.size) (hb : Below w.heap.size w W) {V : List Ent × Int × Int} {err : Int} (hV : (es, (0 : Int), err) = V) :
    Ending.returned (.tuple #[.int .i64 0, .int .i64 err]) = Ending.returned (.tuple #[.int .i64 V.2.1, .int .i64 V.2.2]) ∧ ∃ v' ps', WIn W base g v' mb ps' V.1 ∧ Below base w W ∧ KeptT w W := by
  subst hV
  exact ⟨rfl, v, ps, h.below hb, hb.mono hbs, KeptT.of_below hb⟩
theorem define_any (w : World) (base g : Nat) (v : Value) (mb : Nat) (ps : List Nat) (es : List Ent) (h : WIn w base g v mb ps es) (hbs : base ≤ w.heap.size) (hg : Good es)
    (f0 f1 : ByteArray) (A2 : Option Addr) (c2 : Nat) (l2 : List ByteArray) (f3 f4 : Int) (A5 : Option Addr) (c5 : Nat) (l5 : List S51) (h2 : Kd.C Kd.string w A2 l2.length l2) (hc2 : l2.length ≤ c2) (h5 : Kd.C k51 w A5 l5.length l5) (hc5 : l5.length ≤ c5)
    (r : Int) (hr : chkC ⟨f0, f1, l2, f3, f4, l5⟩ = r) (hck : r = 0 → f0.size ≤ 1000 ∧ f1.size ≤ 1000 ∧ l2.length ≤ 1000 ∧ (∀ n ∈ l2, n.size ≤ 1000) ∧ Short l5) :
    Calls Tryd.prog 29 #[.pointer (some ⟨g, 0, none⟩), .agg #[.string f0, .string f1, .slice A2 l2.length c2, .int .i64 f3, .int .i64 f4, .slice A5 l5.length c5]] w fun e w' =>
      e = .returned (.tuple #[.int .i64 (defF r es ⟨f0, f1, l2, f3, f4, l5⟩).2.1, .int .i64 (defF r es ⟨f0, f1, l2, f3, f4, l5⟩).2.2]) ∧ ∃ v' ps', WIn w' base g v' mb ps' (defF r es ⟨f0, f1, l2, f3, f4, l5⟩).1 ∧ Below base w w' ∧ KeptT w w' := by
  generalize hV : defF r es ⟨f0, f1, l2, f3, f4, l5⟩ = V
  replace hV := Lib.hid hV
  have B0 := Lib.hid (blk_new w (.cells #[.string f0, .string f1, .slice A2 l2.length c2, .int .i64 f3, .int .i64 f4, .slice A5 l5.length c5] 44))
  have AB : Hid (Below w.heap.size w (w.alloc (.cells #[.string f0, .string f1, .slice A2 l2.length c2, .int .i64 f3, .int .i64 f4, .slice A5 l5.length c5] 44))) := Lib.hid ((Below.refl _ _).alloc (Nat.le_refl _) _)
  have HW := Lib.hid h
  have H2 := Lib.hid h2
  have H5 := Lib.hid h5
  have CK := Lib.hid (fun (W : World) (hb : Below w.heap.size w W) => chk_any f0 f1 A2 c2 l2 f3 f4 A5 c5 l5 W (Kd.C_below h2 hb) hc2 (Kd.C_below h5 hb) hc5)
  rw [hr] at CK
  have HK := Lib.hid hck
  have HG := Lib.hid hg
  clear h h2 h5 hck hg hr
  have C1 := Lib.hid (CK.out _ AB.out)
  go_enter Tryd.func29, Tryd.ntmps29
  go_wp2_with fail
  refine C1.out.mono ?_
  rintro e w1 ⟨rfl, hb1⟩
  have HB := Lib.hid (AB.out.trans (hb1.mono AB.out.size))
  have B1 := Lib.hid (blk_below B0.out hb1)
  clear hb1 C1 CK AB B0
  have HW1 := Lib.hid (HW.out.below HB.out)
  by_cases h0 : r = 0
  · subst h0
    obtain ⟨s0, s1, s2, s3, s5⟩ := HK.out rfl
    replace s3 := Lib.hid s3
    replace s5 := Lib.hid s5
    have q0 : w1.cell? ⟨g, 0, none⟩ = some v := (blk_cell HW1.out.blk 0).trans rfl
    have q1 : w1.cell? ⟨g, 1, none⟩ = some (.map (some mb)) := (blk_cell HW1.out.blk 1).trans rfl
    obtain ⟨Av, cv, rfl⟩ := Kd.R_slice HW.out.row
    have hpl := Lib.hid HW.out.len
    by_cases h300 : es.length ≥ 300
    · have hd : decide ((ps.length : Int) ≥ 300) = true := decide_eq_true (by rw [hpl.out]; omega)
      have hV2 : Hid ((es, (0 : Int), (5 : Int)) = V) := Lib.hid (by rw [← hV.out, defF, if_neg (by simp), if_pos h300])
      clear hV
      go_wp2
      go_ret2
      exact fin_no HW.out hbs HB.out hV2.out
    · have hd : decide ((ps.length : Int) ≥ 300) = false := decide_eq_false (by rw [hpl.out]; omega)
      have hlen : es.length ≤ 1000 := by omega
      have hl3 := Lib.hid (show ¬ es.length ≥ 300 from h300)
      clear h300
      obtain ⟨D, hD, hS⟩ := HW1.out.map
      obtain ⟨vi, pi_, hrun, hvi⟩ := hD.drew.look_ok (Maps.string_keyed Tryd.underlying9) Tryd.underlying85 (zeroInt _) (plainElem_int Tryd.underlying3 (by decide)) (Go.WideMaps.keyOf_string_mk Tryd.underlying9 (s := f0) (by unfold maxLen; omega))
      obtain ⟨ci, rfl, hci, _⟩ := plainElem_int_inv Tryd.underlying3 hvi
      have hci := Lib.hid (congrArg Prod.fst hci)
      have LN := Lib.hid (look_name hS f0 ci hci.out)
      clear hvi hD hS
      have y0 : w1.cell? ⟨w.heap.size, 0, none⟩ = some (.string f0) := (blk_cell B1.out 0).trans rfl
      have y1 : w1.cell? ⟨w.heap.size, 1, none⟩ = some (.string f1) := (blk_cell B1.out 1).trans rfl
      have y2 : w1.cell? ⟨w.heap.size, 2, none⟩ = some (.slice A2 l2.length c2) := (blk_cell B1.out 2).trans rfl
      have y3 : w1.cell? ⟨w.heap.size, 3, none⟩ = some (.int .i64 f3) := (blk_cell B1.out 3).trans rfl
      have y4 : w1.cell? ⟨w.heap.size, 4, none⟩ = some (.int .i64 f4) := (blk_cell B1.out 4).trans rfl
      have y5 : w1.cell? ⟨w.heap.size, 5, none⟩ = some (.slice A5 l5.length c5) := (blk_cell B1.out 5).trans rfl
      cases hh : Maps.has D (.string f0.data.toList)
      · rw [hh] at hrun
        have hnm := Lib.hid (LN.out.2 hh)
        have hnn : Hid (¬ (nameF es f0).2 = 0) := Lib.hid (by rw [hnm.out]; decide)
        clear LN hh
        go_wp2
        go_region
        go_wp2_with fail
        clear hrun q1
        have AB := Lib.hid (above_any w1.drew base g _ mb ps es (HW1.out.below (below_drew1 (Below.refl _ _))) HG.out.fine ⟨f0, f1, l2, f3, f4, l5⟩ (.string f1) (.slice A2 l2.length c2) (.slice A5 l5.length c5) f1 false (by show f0.size < _; omega) (by omega) hlen)
        refine AB.out.mono ?_
        rintro e w2 ⟨rfl, hb2⟩
        have B2 := Lib.hid (blk_below (blk_drew B1.out) hb2)
        have HB2 := Lib.hid ((below_drew1 HB.out).trans (hb2.mono HB.out.size))
        clear AB B1 HB hb2 y0 y1 y2 y3 y4 y5 HW1 q0
        by_cases he : (aboveF es ⟨f0, f1, l2, f3, f4, l5⟩ f1 false).2 = 0
        · have hsup := Lib.hid (aboveF_in he)
          have he1 := Lib.hid he
          generalize hx : (aboveF es ⟨f0, f1, l2, f3, f4, l5⟩ f1 false).1 = sup at *
          rw [he]
          replace hx := Lib.hid hx
          have y2 : w2.cell? ⟨w.heap.size, 2, none⟩ = some (.slice A2 l2.length c2) := (blk_cell B2.out 2).trans rfl
          clear he
          go_wp2_with fail
          go_loopw [11, 54] (fun v11 v54 wr => ∃ j : Nat, j ≤ l2.length ∧ v54 = .int .i64 j ∧ Hid (Kd.R (Kd.int .i64) 3 wr w.heap.size (fun _ => True) v11 ((l2.take j).map fun n => (aboveF es ⟨f0, f1, l2, f3, f4, l5⟩ n true).1)) ∧ Hid (∀ (i : Nat) (n : ByteArray), i < j → l2[i]? = some n → (aboveF es ⟨f0, f1, l2, f3, f4, l5⟩ n true).2 = 0) ∧
            Hid (wr.heap[w.heap.size]? = some (.cells #[.string f0, .string f1, .slice A2 l2.length c2, .int .i64 f3, .int .i64 f4, .slice A5 l5.length c5] 44 (0, 0))) ∧ Hid (Below w.heap.size w wr)) (fun _ v54 _ => l2.length - (intOf v54).toNat)
          case atStart => exact ⟨0, Nat.zero_le _, rfl, Lib.hid (Kd.R_nil _ _ _ _ _), Lib.hid (fun i n hi => absurd hi (by omega)), B2, HB2⟩
          case round =>
            clear B2 HB2 y2
            obtain ⟨j, hj, rfl, RR, HE, B2, HB2⟩ := hrel
            have y0 : wr.cell? ⟨w.heap.size, 0, none⟩ = some (.string f0) := (blk_cell B2.out 0).trans rfl
            have y1 : wr.cell? ⟨w.heap.size, 1, none⟩ = some (.string f1) := (blk_cell B2.out 1).trans rfl
            have y2 : wr.cell? ⟨w.heap.size, 2, none⟩ = some (.slice A2 l2.length c2) := (blk_cell B2.out 2).trans rfl
            have y3 : wr.cell? ⟨w.heap.size, 3, none⟩ = some (.int .i64 f3) := (blk_cell B2.out 3).trans rfl
            have y4 : wr.cell? ⟨w.heap.size, 4, none⟩ = some (.int .i64 f4) := (blk_cell B2.out 4).trans rfl
            have y5 : wr.cell? ⟨w.heap.size, 5, none⟩ = some (.slice A5 l5.length c5) := (blk_cell B2.out 5).trans rfl
            by_cases hlt : j < l2.length
            · obtain ⟨ad0, cc, rfl, hcl, hKK, hic⟩ := Kd.C_get H2.out ⟨#[]⟩ (j : Int) (by omega) (by omega)
              obtain rfl : cc = [.string (l2.getD j ⟨#[]⟩)] := hKK
              have hic := hic 0 _ rfl
              rw [show Kd.string.sz = 1 from rfl, Nat.mul_one, Nat.add_zero, Int.toNat_natCast] at hic
              have hx2 : l2[j]? = some (l2.getD j ⟨#[]⟩) := by rw [List.getD_eq_getElem?_getD, List.getElem?_eq_getElem hlt]; rfl
              have hns := s3.out _ (List.mem_of_getElem? hx2)
              generalize l2.getD j ⟨#[]⟩ = n at *
              replace hx2 := Lib.hid hx2
              have hic1 := pw_cell_below HB2.out hic
              replace hic := Lib.hid hic
              have hjd : decide (j < l2.length) = true := decide_eq_true hlt
              have AB := Lib.hid (above_any wr base g _ mb ps es (HW.out.below HB2.out) HG.out.fine ⟨f0, f1, l2, f3, f4, l5⟩ (.string f1) (.slice (some ad0) l2.length c2) (.slice A5 l5.length c5) n true (by show f0.size < _; omega) (by omega) hlen)
              go_wp2_with fail
              refine AB.out.mono ?_
              rintro e w3 ⟨rfl, hb3⟩
              have B3 := Lib.hid (blk_below B2.out hb3)
              have HB3 := Lib.hid (HB2.out.trans (hb3.mono HB2.out.size))
              have R3 := Lib.hid (Kd.R_below RR.out hb3)
              clear AB B2 HB2 RR hb3 y0 y1 y2 y3 y4 y5 hic1
              by_cases hee : (aboveF es ⟨f0, f1, l2, f3, f4, l5⟩ n true).2 = 0
              · have hee1 := Lib.hid hee
                rw [hee]
                obtain ⟨A11, c11, rfl⟩ := Kd.R_slice R3.out
                have hll : ((l2.take j).map fun n => (aboveF es ⟨f0, f1, l2, f3, f4, l5⟩ n true).1).length ≤ 1000 := by
                  rw [List.length_map, List.length_take]; omega
                have hstep : Hid ((l2.take (j + 1)).map (fun n => (aboveF es ⟨f0, f1, l2, f3, f4, l5⟩ n true).1) = (l2.take j).map (fun n => (aboveF es ⟨f0, f1, l2, f3, f4, l5⟩ n true).1) ++ [(aboveF es ⟨f0, f1, l2, f3, f4, l5⟩ n true).1]) := Lib.hid (by
                  rw [List.take_add_one, hx2.out, List.map_append]; rfl)
                have HE2 : Hid (∀ (i : Nat) (m : ByteArray), i < j + 1 → l2[i]? = some m → (aboveF es ⟨f0, f1, l2, f3, f4, l5⟩ m true).2 = 0) := Lib.hid (fun i m hi hm => by
                  by_cases hij : i = j
                  · subst hij
                    rw [hx2.out] at hm
                    cases hm
                    exact hee1.out
                  · exact HE.out i m (by omega) hm)
                generalize (l2.take j).map (fun n => (aboveF es ⟨f0, f1, l2, f3, f4, l5⟩ n true).1) = ids at *
                generalize (aboveF es ⟨f0, f1, l2, f3, f4, l5⟩ n true).1 = idn at *
                clear hee HE
                go_wp2_with (at_builtin; refine Kd.R_append (Kd.int .i64) (w0 := w) (W := w3) w.heap.size rfl (.tmp 68) (.tmp 70) 75 3 (.int .i64 0) 8 rfl Tryd.underlying75 info_int rfl (by decide) (by omega) _ ids idn [.int .i64 idn] (fun _ => True) (fun _ => False) rfl rfl rfl (fun _ h => h.elim) (fun _ _ => trivial) R3.out HB3.out HB3.out.size (by omega) ?_; intro v1 w4 g1 g2 g3 g4; obtain ⟨A12, c12, rfl⟩ := Kd.R_slice g1; replace g1 := Lib.hid g1; replace g2 := Lib.hid g2; have B4 := Lib.hid (blk_grown (w := w3) B3.out g3 (Kd.R_ne R3.out B3.out (by decide))); clear g3 g4)
                refine ⟨⟨j + 1, by omega, by push_cast; rfl, Lib.hid (by
                  have e := g1.out
                  rw [hstep.out]
                  rwa [show (ids ++ [idn]).length = ids.length + 1 by simp] at e), HE2, B4, g2⟩, by simp [intOf]; omega⟩
              · have hne : ((aboveF es ⟨f0, f1, l2, f3, f4, l5⟩ n true).2 != 0) = true := bne_iff_ne.2 hee
                have hV2 : Hid ((es, (0 : Int), (aboveF es ⟨f0, f1, l2, f3, f4, l5⟩ n true).2) = V) := Lib.hid (by
                  rw [← hV.out, defF, if_neg (by simp), if_neg hl3.out, if_neg hnn.out, if_neg (fun h => h he1.out)]
                  have e1 := (ifsF_take es ⟨f0, f1, l2, f3, f4, l5⟩ l2 j HE.out).1 n hx2.out hee
                  show _ = if (ifsF es ⟨f0, f1, l2, f3, f4, l5⟩ l2).1 ≠ 0 then (es, (0 : Int), (ifsF es ⟨f0, f1, l2, f3, f4, l5⟩ l2).1) else _
                  rw [if_pos (by rw [e1]; exact hee), e1])
                clear hV hee HE R3
                generalize (aboveF es ⟨f0, f1, l2, f3, f4, l5⟩ n true).2 = err at *
                go_wp2
                go_ret2
                exact fin_no HW.out hbs HB3.out hV2.out
            · have hjl : j = l2.length := by omega
              have hjd : decide (j < l2.length) = false := decide_eq_false hlt
              have e2 := (ifsF_take es ⟨f0, f1, l2, f3, f4, l5⟩ l2 j HE.out).2 (by omega)
              have hV2 : Hid ((es ++ [putE es ⟨f0, f1, l2, f3, f4, l5⟩ sup (l2.map fun n => (aboveF es ⟨f0, f1, l2, f3, f4, l5⟩ n true).1)], (es.length : Int), (0 : Int)) = V) := Lib.hid (by
                rw [← hV.out, defF, if_neg (by simp), if_neg hl3.out, if_neg hnn.out, if_neg (fun h => h he1.out)]
                show _ = if (ifsF es ⟨f0, f1, l2, f3, f4, l5⟩ l2).1 ≠ 0 then (es, (0 : Int), (ifsF es ⟨f0, f1, l2, f3, f4, l5⟩ l2).1) else _
                rw [if_neg (by rw [e2]; simp), e2, hx.out])
              have hRng : Hid (∀ i ∈ (l2.map fun n => (aboveF es ⟨f0, f1, l2, f3, f4, l5⟩ n true).1), 0 ≤ i ∧ i < es.length) := Lib.hid (fun i hi => by
                obtain ⟨n, hn, rfl⟩ := List.mem_map.1 hi
                obtain ⟨q, hq⟩ := List.getElem?_of_mem hn
                have hq2 : q < l2.length := by
                  rcases Nat.lt_or_ge q l2.length with h | h
                  · exact h
                  · rw [List.getElem?_eq_none h] at hq; cases hq
                have := aboveF_in (HE.out q n (by omega) hq)
                exact ⟨this.1, this.2.1⟩)
              rw [hjl, List.take_length] at RR
              clear hV e2 HE
              have hill : (l2.map fun n => (aboveF es ⟨f0, f1, l2, f3, f4, l5⟩ n true).1).length ≤ 1000 := by rw [List.length_map]; omega
              generalize (l2.map fun n => (aboveF es ⟨f0, f1, l2, f3, f4, l5⟩ n true).1) = ids at *
              obtain ⟨A11, c11, rfl⟩ := Kd.R_slice RR.out
              have CP := Lib.hid (copied_any f0 f1 A2 c2 l2 f3 f4 A5 c5 l5 wr (Kd.C_below H2.out HB2.out) (Kd.C_below H5.out HB2.out) (by omega) s5.out)
              go_wp2_with fail
              clear y0 y1 y2 y3 y4 y5
              refine CP.out.mono ?_
              rintro e w3 ⟨v2, v5, rfl, R2, R5, hb3⟩
              have HB3 := Lib.hid (HB2.out.trans (hb3.mono HB2.out.size))
              have hsz := HB2.out.size
              have PU := Lib.hid (put_any w3 base g _ mb ps es (HW.out.below HB3.out) (Nat.le_trans hbs HB3.out.size) f0 f1 v2 v5 l2 f3 f4 l5 (Kd.R_lower R2 (by omega)) (Kd.R_lower R5 (by omega)) sup (.inr ⟨hsup.out.1, hsup.out.2.1⟩) A11 c11 ids (Kd.R_reads' (Kd.R_below RR.out hb3)).2.2 hRng.out hlen (fun x hx => ⟨(HG.out.clo x hx).1, (HG.out.clo x hx).2.1, by have := (HG.out.clo x hx).2.2; omega⟩) hill (nameF_not hnn.out).2 (by omega))
              clear CP R2 R5 hb3 RR HB2 B2
              go_wp2_with fail
              refine PU.out.mono ?_
              rintro e w4 ⟨rfl, v', p, I4, hb4, hk4⟩
              replace I4 := Lib.hid I4
              have HB4 := Lib.hid ((HB3.out.mono hbs).trans hb4)
              have HK4 := Lib.hid ((KeptT.of_below HB3.out).trans hk4)
              clear PU hb4 hk4
              go_wp2
              go_ret2
              have hV3 := hV2.out
              clear hV2
              subst hV3
              exact ⟨rfl, _, _, I4.out, HB4.out, HK4.out⟩
        · have hne : ((aboveF es ⟨f0, f1, l2, f3, f4, l5⟩ f1 false).2 != 0) = true := bne_iff_ne.2 he
          have hV2 : Hid ((es, (0 : Int), (aboveF es ⟨f0, f1, l2, f3, f4, l5⟩ f1 false).2) = V) := Lib.hid (by
            rw [← hV.out, defF, if_neg (by simp), if_neg hl3.out, if_neg hnn.out]
            show _ = if (aboveF es ⟨f0, f1, l2, f3, f4, l5⟩ f1 false).2 ≠ 0 then _ else _
            rw [if_pos he])
          clear hV he
          generalize (aboveF es ⟨f0, f1, l2, f3, f4, l5⟩ f1 false).2 = err at *
          go_wp2
          go_ret2
          exact fin_no HW.out hbs HB2.out hV2.out
      · rw [hh] at hrun
        obtain ⟨n1, n2, n3⟩ := LN.out.1 hh
        have hV2 : Hid ((es, (0 : Int), (25 : Int)) = V) := Lib.hid (by rw [← hV.out, defF, if_neg (by simp), if_neg hl3.out, if_pos (show (nameF es f0).2 = 0 from n2)])
        clear n1 n2 n3 LN hh hV
        go_wp2
        go_region
        go_wp2
        go_ret2
        exact fin_no HW.out hbs (below_drew1 HB.out) hV2.out
  · have hne : (r != 0) = true := bne_iff_ne.2 h0
    have hV2 : Hid ((es, (0 : Int), r) = V) := Lib.hid (by rw [← hV.out, defF, if_pos h0])
    clear hV h0
    go_wp2
    go_ret2
    exact fin_no HW.out hbs HB.out hV2.out
end Go.Proofs.YtmlifggklaeieaaDoor.Hi

/- hier.object: the class above all others, in memory of the call's own. -/
namespace Go.Proofs.YtmlifggklaeieaaDoor.Hi
open Go Go.RowKit Go.Proofs.YtmlifggklaeieaaDoorW.PrintWords Go.Proofs.YtmlifggklaeieaaDoorW.PrintLast Go.Proofs.YtmlifggklaeieaaDoorW.PrintMore Go.Proofs.YtmlifggklaeieaaDoor.Pt
set_option linter.unusedVariables false
set_option linter.unusedSimpArgs false
set_option maxHeartbeats 2000000
set_option maxRecDepth 100000

/-- A block that holds the cells of a list is a row of the call's own. -/
theorem R_block {α : Type} (d : Kd α) (e : Nat) {W : World} {base g : Nat} {ok : Nat → Prop} {xs : List α} {inner : List Value} (h : W.heap[g]? = some (.cells inner.toArray e (0, 0))) (hb : base ≤ g) (hok : ok g) (hm : xs.length ≤ maxLen) (hr : Reps (d.M W base (fun k => ok k ∧ some k ≠ some g)) d.sz xs inner) :
    d.R e W base ok (.slice (some ⟨g, 0, none⟩) xs.length xs.length) xs :=
  ⟨fun k hk => by
    have : g = k := by simpa [Value.ownBlock] using hk
    exact this ▸ hok, inner, ⟨hr.1, .inr ⟨g, xs.length, inner.toArray, rfl, hb, h, Nat.le_refl _, hm, by simpa using hr.1, by simp [← hr.1]⟩⟩, hr⟩
def inst (op n : Int) : S83 := ⟨op, n, ⟨#[]⟩, ⟨false, ⟨#[]⟩, ⟨#[]⟩, ⟨#[]⟩⟩⟩
def instC (op n : Int) : List Value := [.int .i64 op, .int .i64 n, .string ⟨#[]⟩, .bool false, .string ⟨#[]⟩, .string ⟨#[]⟩, .string ⟨#[]⟩]
theorem reps_inst (W : World) (base : Nat) (ok : Nat → Prop) (op n : Int) : Reps (k83.M W base ok) k83.sz [inst op n] (instC op n) :=
  (Reps.none _ _).snoc (k83_mkM W base ok (inst op n)) rfl
theorem reps_inst2 (W : World) (base : Nat) (ok : Nat → Prop) (op n op' n' : Int) : Reps (k83.M W base ok) k83.sz [inst op n, inst op' n'] (instC op n ++ instC op' n') :=
  (reps_inst W base ok op n).snoc (k83_mkM W base ok (inst op' n')) rfl
def sObject : ByteArray := ⟨#[79, 98, 106, 101, 99, 116]⟩
def sInit : ByteArray := ⟨#[60, 105, 110, 105, 116, 62]⟩
def sV : ByteArray := ⟨#[40, 41, 86]⟩
def sId : ByteArray := ⟨#[105, 100]⟩
def sI : ByteArray := ⟨#[40, 41, 73]⟩
def sKin : ByteArray := ⟨#[107, 105, 110]⟩
def sLO : ByteArray := ⟨#[40, 41, 76, 79, 98, 106, 101, 99, 116, 59]⟩
def objM : List S51 := [⟨sInit, sV, 1, 1, 0, [inst 38 0]⟩, ⟨sId, sI, 1, 1, 1, [inst 1 7, inst 36 0]⟩, ⟨sKin, sLO, 4, 1, 1, [inst 4 0, inst 37 0]⟩]
def objC : S44 := ⟨sObject, ⟨#[]⟩, [], 33, 0, objM⟩
def methC (g : Nat) : List Value := (([.string sInit, .string sV, .int .i64 1, .int .i64 1, .int .i64 0, .slice (some ⟨g + 1, 0, none⟩) 1 1] : List Value) ++ [.string sId, .string sI, .int .i64 1, .int .i64 1, .int .i64 1, .slice (some ⟨g + 1 + 1, 0, none⟩) 2 2]) ++ [.string sKin, .string sLO, .int .i64 4, .int .i64 1, .int .i64 1, .slice (some ⟨g + 1 + 1 + 1, 0, none⟩) 2 2]
theorem five_new (w : World) (o0 o1 o2 o3 o4 : Obj) : (((((w.alloc o0).alloc o1).alloc o2).alloc o3).alloc o4).heap[w.heap.size]? = some o0 ∧ (((((w.alloc o0).alloc o1).alloc o2).alloc o3).alloc o4).heap[w.heap.size + 1]? = some o1 ∧ (((((w.alloc o0).alloc o1).alloc o2).alloc o3).alloc o4).heap[w.heap.size + 1 + 1]? = some o2 ∧
    (((((w.alloc o0).alloc o1).alloc o2).alloc o3).alloc o4).heap[w.heap.size + 1 + 1 + 1]? = some o3 ∧ (((((w.alloc o0).alloc o1).alloc o2).alloc o3).alloc o4).heap[w.heap.size + 1 + 1 + 1 + 1]? = some o4 ∧ Below w.heap.size w (((((w.alloc o0).alloc o1).alloc o2).alloc o3).alloc o4) := by
  have e0 : (w.alloc o0).heap.size = w.heap.size + 1 := by simp
  have e1 : ((w.alloc o0).alloc o1).heap.size = w.heap.size + 1 + 1 := by simp
  have e2 : (((w.alloc o0).alloc o1).alloc o2).heap.size = w.heap.size + 1 + 1 + 1 := by simp
  have e3 : ((((w.alloc o0).alloc o1).alloc o2).alloc o3).heap.size = w.heap.size + 1 + 1 + 1 + 1 := by simp
  refine ⟨blk_alloc (blk_alloc (blk_alloc (blk_alloc (blk_new w o0) o1) o2) o3) o4, ?_, ?_, ?_, ?_, ?_⟩
  · have := blk_alloc (blk_alloc (blk_alloc (blk_new (w.alloc o0) o1) o2) o3) o4
    rwa [e0] at this
  · have := blk_alloc (blk_alloc (blk_new ((w.alloc o0).alloc o1) o2) o3) o4
    rwa [e1] at this
  · have := blk_alloc (blk_new (((w.alloc o0).alloc o1).alloc o2) o3) o4
    rwa [e2] at this
  · have := blk_new ((((w.alloc o0).alloc o1).alloc o2).alloc o3) o4
    rwa [e3] at this
  · exact (((((Below.refl _ _).alloc (Nat.le_refl _) _).alloc (by omega) _).alloc (by omega) _).alloc (by omega) _).alloc (by omega) _
theorem objR {W : World} {base g : Nat} (hb : base ≤ g)
    (h1 : W.heap[g + 1]? = some (.cells (instC 38 0).toArray 83 (0, 0))) (h2 : W.heap[g + 1 + 1]? = some (.cells (instC 1 7 ++ instC 36 0).toArray 83 (0, 0))) (h3 : W.heap[g + 1 + 1 + 1]? = some (.cells (instC 4 0 ++ instC 37 0).toArray 83 (0, 0)))
    (h4 : W.heap[g + 1 + 1 + 1 + 1]? = some (.cells (methC g).toArray 51 (0, 0))) :
    Kd.R k51 51 W base (fun _ => True) (.slice (some ⟨g + 1 + 1 + 1 + 1, 0, none⟩) 3 3) objM := by
  have r1 := R_block k83 83 (base := base) (ok := fun k => True ∧ some k ≠ some (g + 1 + 1 + 1 + 1)) h1 (by omega) ⟨trivial, by simp⟩ (by decide) (reps_inst W base _ 38 0)
  have r2 := R_block k83 83 (base := base) (ok := fun k => True ∧ some k ≠ some (g + 1 + 1 + 1 + 1)) h2 (by omega) ⟨trivial, by simp⟩ (by decide) (reps_inst2 W base _ 1 7 36 0)
  have r3 := R_block k83 83 (base := base) (ok := fun k => True ∧ some k ≠ some (g + 1 + 1 + 1 + 1)) h3 (by omega) ⟨trivial, by simp⟩ (by decide) (reps_inst2 W base _ 4 0 37 0)
  refine R_block k51 51 (xs := objM) h4 (by omega) trivial (by decide) ?_
  exact (((Reps.none _ _).snoc (k51_mkM W base _ ⟨sInit, sV, 1, 1, 0, [inst 38 0]⟩ r1) rfl).snoc (k51_mkM W base _ ⟨sId, sI, 1, 1, 1, [inst 1 7, inst 36 0]⟩ r2) rfl).snoc (k51_mkM W base _ ⟨sKin, sLO, 4, 1, 1, [inst 4 0, inst 37 0]⟩ r3) rfl
theorem object_any (w : World) : Calls Tryd.prog 38 #[] w fun e w' => ∃ v5, e = .returned (.agg #[.string objC.f0, .string objC.f1, .slice none 0 0, .int .i64 objC.f3, .int .i64 objC.f4, v5]) ∧ Kd.R k51 51 w' w.heap.size (fun _ => True) v5 objC.f5 ∧ Below w.heap.size w w' := by
  go_enter Tryd.func38, Tryd.ntmps38
  go_wp2
  refine bodyPost_ret (results_cell_row rfl _ _ w.heap.size 44 _ (0, 0) _ rfl (five_new _ _ _ _ _ _).1 Tryd.underlying44 rfl (by kernel_rfl)) rfl ?_
  have F := five_new w (.cells #[.string sObject, .string ⟨#[]⟩, .slice none 0 0, .int .i64 33, .int .i64 0, .slice (some ⟨w.heap.size + 1 + 1 + 1 + 1, 0, none⟩) 3 3] 44) (.cells (instC 38 0).toArray 83) (.cells (instC 1 7 ++ instC 36 0).toArray 83) (.cells (instC 4 0 ++ instC 37 0).toArray 83)
    (.cells (methC w.heap.size).toArray 51)
  exact ⟨_, rfl, objR (Nat.le_refl _) F.2.1 F.2.2.1 F.2.2.2.1 F.2.2.2.2.1, F.2.2.2.2.2⟩
end Go.Proofs.YtmlifggklaeieaaDoor.Hi

/- hier.New: a world of Object, Cloneable and Serializable. -/
namespace Go.Proofs.YtmlifggklaeieaaDoor.Hi
open Go Go.RowKit Go.Proofs.YtmlifggklaeieaaDoorW.PrintWords Go.Proofs.YtmlifggklaeieaaDoorW.PrintLast Go.Proofs.YtmlifggklaeieaaDoorW.PrintMore Go.Proofs.YtmlifggklaeieaaDoor.Pt
set_option linter.unusedVariables false
set_option linter.unusedSimpArgs false
set_option maxHeartbeats 2000000
set_option maxRecDepth 100000

def sCloneable : ByteArray := ⟨#[67, 108, 111, 110, 101, 97, 98, 108, 101]⟩
def sSerializable : ByteArray := ⟨#[83, 101, 114, 105, 97, 108, 105, 122, 97, 98, 108, 101]⟩
def ifaceC (s : ByteArray) : S44 := ⟨s, sObject, [], 1537, 0, []⟩
def newE : List Ent := [⟨objC, -1, 0, []⟩, ⟨ifaceC sCloneable, 0, 1, []⟩, ⟨ifaceC sSerializable, 0, 1, []⟩]
theorem WIn.start (w : World) : WIn ((w.alloc (.map #[] 0)).alloc (.cells #[.slice none 0 0, .map (some w.heap.size)] 88)) w.heap.size (w.heap.size + 1) (.slice none 0 0) w.heap.size [] [] := by
  have e0 : (w.alloc (.map #[] 0)).heap.size = w.heap.size + 1 := by simp
  refine ⟨Nat.le_succ _, ?_, Kd.R_nil _ _ _ _ _, rfl, fun j x p hx => by simp at hx, Nat.le_refl _, .map [], ?_, MapSays.nil⟩
  · have := blk_new (w.alloc (.map #[] 0)) (.cells #[.slice none 0 0, .map (some w.heap.size)] 88)
    rwa [e0] at this
  · exact (World.ownsMap_made w _ _ _).alloc _
theorem ne_size {a b : ByteArray} (h : a.size ≠ b.size) : a ≠ b := fun e => h (by rw [e])
theorem notIn1 : sCloneable ∉ ([putE [] objC (-1) []] : List Ent).map (·.c.f0) := by
  intro h
  exact ne_size (by decide) (List.mem_singleton.1 h)
theorem notIn2 : sSerializable ∉ ([putE [] objC (-1) [], putE [putE [] objC (-1) []] (ifaceC sCloneable) 0 []] : List Ent).map (·.c.f0) := by
  intro h
  rcases List.mem_cons.1 h with h | h
  · exact ne_size (by decide) h
  · exact ne_size (by decide) (List.mem_singleton.1 h)
theorem new_any (w : World) : Calls Tryd.prog 23 #[] w fun e w' => ∃ g v mb ps, e = .returned (.pointer (some ⟨g, 0, none⟩)) ∧ WIn w' w.heap.size g v mb ps newE ∧ Below w.heap.size w w' := by
  have hmm := @run_makeMap Tryd.prog
  have S0 := Lib.hid (WIn.start w)
  have B0 : Hid (Below w.heap.size w ((w.alloc (.map #[] 0)).alloc (.cells #[.slice none 0 0, .map (some w.heap.size)] 88))) := Lib.hid (((Below.refl _ _).alloc (Nat.le_refl _) _).alloc (by simp) _)
  go_enter Tryd.func23, Tryd.ntmps23
  go_wp2_with fail
  refine (object_any _).mono ?_
  rintro e w1 ⟨v5, rfl, R5, hb1⟩
  obtain ⟨A5, c5, rfl⟩ := Kd.R_slice R5
  have S1 := Lib.hid (S0.out.below hb1)
  have B1 := Lib.hid (B0.out.trans (hb1.mono B0.out.size))
  have P1 := Lib.hid (put_any w1 w.heap.size (w.heap.size + 1) _ w.heap.size [] [] S1.out B1.out.size objC.f0 objC.f1 (.slice none 0 0) (.slice A5 objC.f5.length c5) [] objC.f3 objC.f4 objC.f5 (Kd.R_nil _ _ _ _ _) (Kd.R_lower R5 B0.out.size) (-1) (.inl rfl) none 0 [] (Kd.C_nil _ _) (fun i hi => by cases hi) (by decide) (fun x hx => by cases hx) (by decide) (by simp) (by decide))
  clear S0 B0 R5 hb1
  go_wp2_with fail
  refine P1.out.mono ?_
  rintro e w2 ⟨rfl, v2, p, S2, hb2, hk2⟩
  have RB := Lib.hid (blk_new w2 (.cells #[.string sCloneable, .string sSerializable] 9))
  have AB := (Below.refl w2.heap.size w2).alloc (Nat.le_refl _) (.cells #[.string sCloneable, .string sSerializable] 9)
  have S3 := Lib.hid (S2.below AB)
  have B2 := B1.out.trans hb2
  have B3 := Lib.hid (B2.trans (AB.mono B2.size))
  clear P1 S1 B1 S2 hb2 hk2 AB B2
  go_wp2_with fail
  change Code.wp _ _ _ _ (w2.alloc (.cells #[.string sCloneable, .string sSerializable] 9))
  generalize w2.alloc (.cells #[.string sCloneable, .string sSerializable] 9) = w3 at *
  have q0 : w3.cell? ⟨w2.heap.size, 0, none⟩ = some (.string sCloneable) := (blk_cell RB.out 0).trans rfl
  have P2 := Lib.hid (put_any w3 w.heap.size (w.heap.size + 1) _ w.heap.size _ _ S3.out B3.out.size sCloneable sObject (.slice none 0 0) (.slice none 0 0) [] 1537 0 [] (Kd.R_nil _ _ _ _ _) (Kd.R_nil _ _ _ _ _) 0 (.inr ⟨by omega, by decide⟩) none 0 [] (Kd.C_nil _ _) (fun i hi => by cases hi) (by decide) (fun x hx => by
    rw [List.mem_singleton.1 hx]
    exact ⟨Rng.nil _, by decide, by decide⟩) (by decide) notIn1 (by decide))
  clear S3
  refine wp_loop_rounds 3 ?_
  rw [rounds_succ]
  go_wp2_with fail
  refine P2.out.mono ?_
  rintro e w4 ⟨rfl, v4, p4, S4, hb4, hk4⟩
  have B4 := Lib.hid (B3.out.trans hb4)
  have RB4 := Lib.hid (hk4 _ _ _ RB.out (by decide) (by decide))
  have q1 : w4.cell? ⟨w2.heap.size, 1, none⟩ = some (.string sSerializable) := (blk_cell RB4.out 1).trans rfl
  have P3 := Lib.hid (put_any w4 w.heap.size (w.heap.size + 1) _ w.heap.size _ _ S4 B4.out.size sSerializable sObject (.slice none 0 0) (.slice none 0 0) [] 1537 0 [] (Kd.R_nil _ _ _ _ _) (Kd.R_nil _ _ _ _ _) 0 (.inr ⟨by omega, by decide⟩) none 0 [] (Kd.C_nil _ _) (fun i hi => by cases hi) (by decide) (fun x hx => by
    rcases List.mem_cons.1 hx with rfl | hx
    · exact ⟨Rng.nil _, by decide, by decide⟩
    · rw [List.mem_singleton.1 hx]
      exact ⟨Rng.nil _, by decide, by decide⟩) (by decide) notIn2 (by decide))
  clear S4 hb4 hk4 P2 B3 RB RB4 q0
  go_wp2_with fail
  rw [rounds_succ]
  go_wp2_with fail
  refine P3.out.mono ?_
  rintro e w5 ⟨rfl, v5, p5, S5, hb5, hk5⟩
  have B5 := Lib.hid (B4.out.trans hb5)
  replace S5 := Lib.hid S5
  clear hb5 hk5 P3 B4 q1
  go_wp2_with fail
  rw [rounds_succ]
  go_wp2
  go_ret
  exact ⟨_, _, _, _, rfl, S5.out, B5.out⟩
end Go.Proofs.YtmlifggklaeieaaDoor.Hi

/- A new world is a sound one. -/
namespace Go.Proofs.YtmlifggklaeieaaDoor.Pt
open Go Go.RowKit Go.Proofs.YtmlifggklaeieaaDoor.Nm Go.Proofs.YtmlifggklaeieaaDoor.Hi Go.Proofs.YtmlifggklaeieaaDoorW.PrintWords Go.Proofs.YtmlifggklaeieaaDoorW.PrintLast Go.Proofs.YtmlifggklaeieaaDoorW.PrintMore
set_option linter.unusedVariables false
set_option linter.unusedSimpArgs false

theorem fine_new : ∀ x ∈ newE, Fine x := by
  intro x hx
  simp only [newE, List.mem_cons, List.not_mem_nil, or_false] at hx
  rcases hx with rfl | rfl | rfl
  · exact ⟨⟨by decide, by decide, by decide⟩, by decide, by decide⟩
  · exact ⟨⟨by decide, by decide, by decide⟩, by decide, by decide⟩
  · exact ⟨⟨by decide, by decide, by decide⟩, by decide, by decide⟩
theorem tree_new : Tree newE := by
  intro i x hx
  match i, hx with
  | 0, hx => simp [newE] at hx; subst hx; exact .inl ⟨rfl, rfl⟩
  | 1, hx => simp [newE] at hx; subst hx; exact .inr ⟨by decide, by decide, by decide⟩
  | 2, hx => simp [newE] at hx; subst hx; exact .inr ⟨by decide, by decide, by decide⟩
  | i + 3, hx => simp [newE] at hx
theorem wok_new {w : World} {base g : Nat} {v : Value} {mb : Nat} {ps : List Nat} (h : WIn w base g v mb ps newE) : WOK w g newE := ⟨⟨_, _, _, _, h⟩, fine_new, tree_new, by decide⟩
end Go.Proofs.YtmlifggklaeieaaDoor.Pt

/- The worlds that come of classes arriving one at a time. -/
namespace Go.Proofs.YtmlifggklaeieaaDoor.Hi
open Go Go.RowKit Go.Proofs.YtmlifggklaeieaaDoor.Nm Go.Proofs.YtmlifggklaeieaaDoorW.PrintWords Go.Proofs.YtmlifggklaeieaaDoorW.PrintLast Go.Proofs.YtmlifggklaeieaaDoorW.PrintMore Go.Proofs.YtmlifggklaeieaaDoor.Pt
set_option linter.unusedVariables false
set_option linter.unusedSimpArgs false
set_option maxRecDepth 100000

def stepF (es : List Ent) (c : S44) : List Ent := (defF (chkC c) es c).1
def builtF (l : List S44) : List Ent := l.foldl stepF newE
inductive Made : List Ent → Prop
  | new : Made newE
  | step (es : List Ent) (c : S44) : Made es → Made (stepF es c)
theorem made_fold (l : List S44) : ∀ es, Made es → Made (l.foldl stepF es) := by
  induction l with
  | nil => exact fun es h => h
  | cons c l ih => exact fun es h => ih _ (.step es c h)
theorem made_built (l : List S44) : Made (builtF l) := made_fold l _ .new
theorem sound_sizes {c : S44} (h : chkC c = 0) : c.f0.size ≤ 60 ∧ c.f1.size ≤ 60 ∧ c.f2.length ≤ 20 ∧ (∀ n ∈ c.f2, n.size ≤ 60) ∧ Short c.f5 := by
  obtain ⟨s0, s1, s2, s3, s4, s5⟩ := chk_sizes h
  exact ⟨s0, s1, s2, s3, by omega, fun x hx => by have := s5 x hx; omega⟩
/-- A class that is taken: what is known of it. -/
structure Took (es : List Ent) (c : S44) (x : Ent) : Prop where
  sound : chkC c = 0
  len : es.length < 300
  fresh : c.f0 ∉ es.map (·.c.f0)
  sup : (aboveF es c c.f1 false).2 = 0
  ifs : ∀ n ∈ c.f2, (aboveF es c n true).2 = 0
  isx : x = putE es c (aboveF es c c.f1 false).1 (c.f2.map fun n => (aboveF es c n true).1)
theorem ifs_all (es : List Ent) (c : S44) : ∀ (l : List ByteArray), (ifsF es c l).1 = 0 → (∀ n ∈ l, (aboveF es c n true).2 = 0) ∧ (ifsF es c l).2 = l.map fun n => (aboveF es c n true).1
  | [], _ => ⟨fun n hn => (by cases hn), rfl⟩
  | m :: l, h => by
    unfold ifsF at h ⊢
    by_cases h0 : (aboveF es c m true).2 = 0
    · rw [if_pos h0] at h ⊢
      obtain ⟨h1, h2⟩ := ifs_all es c l h
      refine ⟨fun n hn => ?_, ?_⟩
      · rcases List.mem_cons.1 hn with rfl | hn
        · exact h0
        · exact h1 n hn
      · show _ :: (ifsF es c l).2 = _
        rw [h2]
        rfl
    · rw [if_neg h0] at h
      exact absurd h h0
theorem stepF_cases (es : List Ent) (c : S44) : stepF es c = es ∨ ∃ x, stepF es c = es ++ [x] ∧ Took es c x := by
  unfold stepF defF
  by_cases h0 : chkC c = 0
  · rw [if_neg (fun h => h h0)]
    by_cases h1 : es.length ≥ 300
    · rw [if_pos h1]; exact .inl rfl
    · rw [if_neg h1]
      by_cases h2 : (nameF es c.f0).2 = 0
      · rw [if_pos h2]; exact .inl rfl
      · rw [if_neg h2]
        by_cases h3 : (aboveF es c c.f1 false).2 = 0
        · rw [if_neg (fun h => h h3)]
          by_cases h4 : (ifsF es c c.f2).1 = 0
          · rw [if_neg (fun h => h h4)]
            obtain ⟨h5, h6⟩ := ifs_all es c c.f2 h4
            exact .inr ⟨_, rfl, h0, by omega, (nameF_not h2).2, h3, h5, by rw [h6]⟩
          · rw [if_pos h4]; exact .inl rfl
        · rw [if_pos h3]; exact .inl rfl
  · rw [if_pos h0]; exact .inl rfl
theorem ent_old {es : List Ent} {x : Ent} {i : Int} (h0 : 0 ≤ i) (h1 : i < es.length) : ent (es ++ [x]) i = ent es i := by
  unfold ent
  rw [List.getD_eq_getElem?_getD, List.getD_eq_getElem?_getD, List.getElem?_append_left (by omega)]
theorem ent_last {es : List Ent} {x : Ent} : ent (es ++ [x]) es.length = x := by
  unfold ent
  rw [List.getD_eq_getElem?_getD, Int.toNat_natCast, List.getElem?_append_right (Nat.le_refl _), Nat.sub_self]
  rfl
theorem rng_more {n m : Nat} {l : List Int} (h : Rng n l) (hm : n ≤ m) : Rng m l := ⟨h.1, fun x hx => by have := h.2 x hx; omega⟩
theorem Took.clo {es : List Ent} {c : S44} {x : Ent} (h : Took es c x) (hg : Good es) : Rng es.length x.clo := by
  have h1 := aboveF_in h.sup
  have hm : ent es (aboveF es c c.f1 false).1 ∈ es := List.mem_of_getElem? (get_ent h1.1 h1.2.1)
  rw [h.isx]
  show Rng _ (closF es _ _)
  rw [if_pos h1.1]
  refine Rng.clos (fun y hy => (hg.clo y hy).1) (hg.clo _ hm).1 (fun i hi => ?_) (Nat.le_refl _)
  obtain ⟨n, hn, rfl⟩ := List.mem_map.1 hi
  have := aboveF_in (h.ifs n hn)
  exact ⟨this.1, this.2.1⟩
theorem good_new : Good newE := by
  refine ⟨fine_new, tree_new, fun x hx => ?_, by decide⟩
  simp only [newE, List.mem_cons, List.not_mem_nil, or_false] at hx
  rcases hx with rfl | rfl | rfl
  all_goals exact ⟨Rng.nil _, by decide, by decide⟩
theorem good_took {es : List Ent} {c : S44} {x : Ent} (hg : Good es) (h : Took es c x) : Good (es ++ [x]) := by
  have h1 := aboveF_in h.sup
  have hm : ent es (aboveF es c c.f1 false).1 ∈ es := List.mem_of_getElem? (get_ent h1.1 h1.2.1)
  have hl : (es ++ [x]).length = es.length + 1 := by simp
  have hc := h.clo hg
  obtain ⟨s0, s1, s2, s3, s5⟩ := sound_sizes h.sound
  have hxc : x.c = c := by rw [h.isx]; rfl
  have hxa : x.above = (aboveF es c c.f1 false).1 := by rw [h.isx]; rfl
  have hxd : x.depth = (ent es (aboveF es c c.f1 false).1).depth + 1 := by
    rw [h.isx]
    exact if_pos h1.1
  have hlen := h.len
  refine ⟨fun y hy => ?_, fun i y hi => ?_, fun y hy => ?_, by omega⟩
  · rcases List.mem_append.1 hy with hy | hy
    · exact hg.fine y hy
    · rw [List.mem_singleton.1 hy]
      refine ⟨?_, ?_, ?_⟩
      · rw [hxc]
        exact ⟨by omega, s5⟩
      · rw [hxc]
        omega
      · have := hc.len
        omega
  · rcases Nat.lt_trichotomy i es.length with hi2 | hi2 | hi2
    · rw [List.getElem?_append_left hi2] at hi
      rcases hg.tree i y hi with h2 | ⟨h2, h3, h4⟩
      · exact .inl h2
      · exact .inr ⟨h2, h3, by rw [ent_old h2 (by omega)]; exact h4⟩
    · subst hi2
      rw [List.getElem?_append_right (Nat.le_refl _), Nat.sub_self] at hi
      cases hi
      refine .inr ⟨by rw [hxa]; exact h1.1, by rw [hxa]; exact h1.2.1, ?_⟩
      rw [hxa, ent_old h1.1 h1.2.1]
      exact hxd
    · rw [List.getElem?_eq_none (by omega)] at hi
      cases hi
  · rcases List.mem_append.1 hy with hy | hy
    · have := hg.clo y hy
      exact ⟨rng_more this.1 (by omega), this.2.1, by omega⟩
    · rw [List.mem_singleton.1 hy]
      have h2 := hg.clo _ hm
      exact ⟨rng_more hc (by omega), by omega, by omega⟩
theorem good_step {es : List Ent} {c : S44} (hg : Good es) : Good (stepF es c) := by
  rcases stepF_cases es c with h | ⟨x, h, ht⟩
  · rw [h]; exact hg
  · rw [h]; exact good_took hg ht
theorem good_made {es : List Ent} (h : Made es) : Good es := by
  induction h with
  | new => exact good_new
  | step es c _ ih => exact good_step ih
theorem good_fold (l : List S44) : ∀ es, Good es → Good (l.foldl stepF es) := by
  induction l with
  | nil => exact fun es h => h
  | cons c l ih => exact fun es h => ih _ (good_step h)
end Go.Proofs.YtmlifggklaeieaaDoor.Hi

/- Types in a world, as plain functions. -/
namespace Go.Proofs.YtmlifggklaeieaaDoor.Pt
open Go Go.RowKit Go.Proofs.YtmlifggklaeieaaDoor.Nm Go.Proofs.YtmlifggklaeieaaDoor.Ty Go.Proofs.YtmlifggklaeieaaDoor.Hi Go.Proofs.YtmlifggklaeieaaDoorW.PrintWords Go.Proofs.YtmlifggklaeieaaDoorW.PrintLast Go.Proofs.YtmlifggklaeieaaDoorW.PrintMore
set_option linter.unusedVariables false
set_option linter.unusedSimpArgs false
set_option maxHeartbeats 1000000
set_option maxRecDepth 100000

def loadF (es : List Ent) (d : Int) (s : ByteArray) : Int :=
  if chk d s.data.toList = 0 then (if s.toList = [] then 0 else if (nameF es s).2 = 0 then 0 else 20) else chk d s.data.toList
def intT (d : Int) (s : ByteArray) : Bool := d == 0 && (s.toList == ([] : List UInt8))
def topB (t : ByteArray) : Bool := if t.toList = ([79, 98, 106, 101, 99, 116] : List UInt8) then true else if t.toList = ([67, 108, 111, 110, 101, 97, 98, 108, 101] : List UInt8) then true else t.toList == ([83, 101, 114, 105, 97, 108, 105, 122, 97, 98, 108, 101] : List UInt8)
/-- Below, of types that are not both arrays. -/
def redF (es : List Ent) (a : Int) (s : ByteArray) (b : Int) (t : ByteArray) : Bool :=
  if (intT a s || intT b t) = true then (a == b && (s.toList == t.toList)) else if a > 0 then topB t else if b > 0 then false else extF es (nameF es s).1 (nameF es t).1
def belowF (es : List Ent) (a : Int) (s : ByteArray) (b : Int) (t : ByteArray) : Bool := redF es (a - min a b) s (b - min a b) t
def subF (es : List Ent) (a : Int) (s : ByteArray) (b : Int) (t : ByteArray) : Bool × Int :=
  if loadF es a s ≠ 0 then (false, loadF es a s) else if loadF es b t ≠ 0 then (false, loadF es b t) else (belowF es a s b t, 0)
theorem ck_size (d : Int) (nm : ByteArray) (h : chk d nm.data.toList = 0) : nm.size ≤ 60 ∧ 0 ≤ d ∧ d ≤ 255 := by
  unfold chk at h
  split at h
  · cases h
  · rename_i hd
    split at h
    · cases h
    · rename_i hn
      refine ⟨?_, by omega, by omega⟩
      by_cases he : nm.data.toList = []
      · have := congrArg List.length he
        simp at this
        have h2 : nm.size = nm.data.size := rfl
        rw [h2, this]
        simp
      · have hv : validB (bs nm.data.toList) = true := by
          cases hb : validB (bs nm.data.toList) with
          | true => rfl
          | false => exact absurd ⟨he, hb⟩ hn
        rw [mk_data] at hv
        exact valid_size hv
theorem load_size {es : List Ent} {d : Int} {s : ByteArray} (h : loadF es d s = 0) : s.size ≤ 60 ∧ 0 ≤ d ∧ d ≤ 255 := by
  unfold loadF at h
  by_cases hc : chk d s.data.toList = 0
  · exact ck_size d s hc
  · rw [if_neg hc] at h
    exact absurd h hc
theorem byName_tot (es : List Ent) (s : ByteArray) (hs : s.size ≤ 60) : hier_World_ByName.f es s = some (nameF es s) := by
  unfold hier_World_ByName.f
  rw [if_pos (by omega)]
theorem load_tot (es : List Ent) (d : Int) (s : ByteArray) : arrays_Loaded.f es d s = some (loadF es d s) := by
  unfold arrays_Loaded.f loadF
  rw [show types_Check.f d s = some (chk d s.data.toList) from rfl, Option.bind_some]
  by_cases hc : chk d s.data.toList = 0
  · rw [if_pos hc, if_pos hc, byName_tot es s (ck_size d s hc).1, Option.bind_some]
    by_cases h1 : s.toList = []
    · rw [if_pos h1, if_pos h1]
    · rw [if_neg h1, if_neg h1]
      by_cases h2 : (nameF es s).2 = 0
      · rw [if_pos h2, if_pos h2]
      · rw [if_neg h2, if_neg h2]
  · rw [if_neg hc, if_neg hc]
theorem red_tot (k : Nat) (es : List Ent) (a : Int) (s : ByteArray) (b : Int) (t : ByteArray) (hs : s.size ≤ 60) (ht : t.size ≤ 60) : arrays_below.j1 (k + 2) es a s b t = some (redF es a s b t) := by
  rw [arrays_below.j1]
  have h2 : ∀ x : Bool, arrays_below.j2 (k + 1) es x a s b t = some (if x = true then (a == b && (s.toList == t.toList)) else if a > 0 then topB t else if b > 0 then false else extF es (nameF es s).1 (nameF es t).1) := by
    intro x
    rw [arrays_below.j2, byName_tot es s hs, byName_tot es t ht, Option.bind_some, Option.bind_some]
    cases x
    · rw [if_neg (show ¬ (false = true) by simp), if_neg (show ¬ (false = true) by simp)]
      by_cases h1 : a > 0
      · rw [if_pos h1, if_pos h1]
        unfold arrays_top.f topB
        by_cases c1 : t.toList = ([79, 98, 106, 101, 99, 116] : List UInt8)
        · rw [if_pos c1, if_pos c1]; rfl
        · rw [if_neg c1, if_neg c1]
          by_cases c2 : t.toList = ([67, 108, 111, 110, 101, 97, 98, 108, 101] : List UInt8)
          · rw [if_pos c2, if_pos c2]; rfl
          · rw [if_neg c2, if_neg c2]; rfl
      · rw [if_neg h1, if_neg h1]
        by_cases h2 : b > 0
        · rw [if_pos h2, if_pos h2]
        · rw [if_neg h2, if_neg h2]
          rfl
    · rfl
  rw [show arrays_isInt.f a s = some (intT a s) from rfl, Option.bind_some, show arrays_isInt.f b t = some (intT b t) from rfl, Option.bind_some, h2, h2]
  unfold redF
  cases intT a s <;> cases intT b t <;> rfl
theorem below_tot (es : List Ent) (s t : ByteArray) (hs : s.size ≤ 60) (ht : t.size ≤ 60) : ∀ (n : Nat) (a b : Int) (k : Nat), 0 ≤ a → 0 ≤ b → a ≤ 255 → b ≤ 255 → min a b ≤ n → n + 3 ≤ k → arrays_below.l0 k es a s b t = some (belowF es a s b t)
  | 0, a, b, k, ha, hb, ha2, hb2, hm, hk => by
    obtain ⟨k, rfl⟩ : ∃ m, k = m + 3 := ⟨k - 3, by omega⟩
    have h0 : min a b = 0 := by omega
    rw [arrays_below.l0, red_tot k es a s b t hs ht]
    unfold belowF
    rw [h0, Int.sub_zero, Int.sub_zero]
    by_cases h1 : a > 0
    · rw [if_pos h1, if_neg (by omega)]
    · rw [if_neg h1]
  | n + 1, a, b, k, ha, hb, ha2, hb2, hm, hk => by
    obtain ⟨k, rfl⟩ : ∃ m, k = m + 3 := ⟨k - 3, by omega⟩
    rw [arrays_below.l0]
    by_cases h1 : a > 0
    · rw [if_pos h1]
      by_cases h2 : b > 0
      · rw [if_pos h2, show wrap64 (a - 1) = a - 1 by unfold wrap64; omega, show wrap64 (b - 1) = b - 1 by unfold wrap64; omega]
        rw [below_tot es s t hs ht n (a - 1) (b - 1) (k + 2) (by omega) (by omega) (by omega) (by omega) (by omega) (by omega)]
        unfold belowF
        rw [show a - 1 - min (a - 1) (b - 1) = a - min a b by omega, show b - 1 - min (a - 1) (b - 1) = b - min a b by omega]
      · rw [if_neg h2, red_tot k es a s b t hs ht]
        unfold belowF
        rw [show min a b = 0 by omega, Int.sub_zero, Int.sub_zero]
    · rw [if_neg h1, red_tot k es a s b t hs ht]
      unfold belowF
      rw [show min a b = 0 by omega, Int.sub_zero, Int.sub_zero]
theorem below_all {es : List Ent} {a b : Int} {s t : ByteArray} (h1 : loadF es a s = 0) (h2 : loadF es b t = 0) : arrays_below.f 300 es a s b t = some (belowF es a s b t) := by
  obtain ⟨s1, s2, s3⟩ := load_size h1
  obtain ⟨t1, t2, t3⟩ := load_size h2
  exact below_tot es s t s1 t1 255 a b 300 s2 t2 s3 t3 (by omega) (by omega)
end Go.Proofs.YtmlifggklaeieaaDoor.Pt

/- What holds of every world that comes of classes arriving: the order of its classes. -/
namespace Go.Proofs.YtmlifggklaeieaaDoor.Hi
open Go Go.RowKit Go.Proofs.YtmlifggklaeieaaDoor.Nm Go.Proofs.YtmlifggklaeieaaDoorW.PrintWords Go.Proofs.YtmlifggklaeieaaDoorW.PrintLast Go.Proofs.YtmlifggklaeieaaDoorW.PrintMore Go.Proofs.YtmlifggklaeieaaDoor.Pt
set_option linter.unusedVariables false
set_option linter.unusedSimpArgs false
set_option maxRecDepth 100000

theorem mem_addI {l : List Int} {i k : Int} : k ∈ addI l i ↔ k ∈ l ∨ k = i := by
  unfold addI
  split
  · rename_i h
    have h : i ∈ l := by simpa using h
    exact ⟨.inl, fun h2 => h2.elim id (fun e => e ▸ h)⟩
  · simp
theorem mem_foldI {ks : List Int} {k : Int} : ∀ {l : List Int}, k ∈ foldI ks l ↔ k ∈ l ∨ k ∈ ks := by
  induction ks with
  | nil => intro l; simp [foldI]
  | cons a ks ih =>
    intro l
    show k ∈ foldI ks (addI l a) ↔ _
    rw [ih, mem_addI]
    simp [or_assoc]
theorem mem_closF {es : List Ent} {ifs : List Int} {k : Int} : ∀ {acc : List Int}, k ∈ closF es acc ifs ↔ k ∈ acc ∨ ∃ i ∈ ifs, k = i ∨ k ∈ (ent es i).clo := by
  induction ifs with
  | nil => intro l; simp [closF]
  | cons a ifs ih =>
    intro l
    show k ∈ closF es (addI (foldI (ent es a).clo l) a) ifs ↔ _
    rw [ih, mem_addI, mem_foldI]
    constructor
    · rintro (((h | h) | h) | ⟨i, hi, h⟩)
      · exact .inl h
      · exact .inr ⟨a, by simp, .inr h⟩
      · exact .inr ⟨a, by simp, .inl h⟩
      · exact .inr ⟨i, by simp [hi], h⟩
    · rintro (h | ⟨i, hi, h⟩)
      · exact .inl (.inl (.inl h))
      · rcases List.mem_cons.1 hi with rfl | hi
        · rcases h with h | h
          · exact .inl (.inr h)
          · exact .inl (.inl (.inr h))
        · exact .inr ⟨i, hi, h⟩
/-- What fits: an interface or not, as is asked; and open. -/
theorem aboveF_fit {es : List Ent} {c : S44} {n : ByteArray} {want : Bool} (h : (aboveF es c n want).2 = 0) : isI (ent es (aboveF es c n want).1).c = want ∧ (want = false → isI c = true → (aboveF es c n want).1 = 0) ∧
    (Go.bits .and .i64 (ent es (aboveF es c n want).1).c.f3 1 ≠ 0 ∨ tog c (ent es (aboveF es c n want).1).c = true) := by
  have h0 := aboveF_in h
  have h1 : aboveF es c n want = fitF (nameF es n).1 (ent es (nameF es n).1).c c want := if_pos h0.2.2.2
  have h2 := h0.2.2.1
  rw [h2]
  rw [h1] at h
  unfold fitF at h
  split at h
  · cases h
  · rename_i c1
    split at h
    · cases h
    · rename_i c2
      split at h
      · cases h
      · rename_i c3
        refine ⟨by simpa using c1, fun hw hi => ?_, ?_⟩
        · subst hw
          rw [hi] at c2
          simpa using c2
        · by_cases hp : Go.bits .and .i64 (ent es (nameF es n).1).c.f3 1 = 0
          · right
            rw [hp] at c3
            simpa using c3
          · exact .inl hp
/-- The order of the classes. -/
structure Thy (es : List Ent) : Prop where
  good : Good es
  base : ∃ rest, es = newE ++ rest
  names : (es.map (·.c.f0)).Nodup
  sup : ∀ (i : Nat) (x : Ent), es[i]? = some x → 1 ≤ i → 0 ≤ x.above ∧ x.above < i ∧ isI (ent es x.above).c = false ∧ (isI x.c = true → x.above = 0)
  clo : ∀ (i : Nat) (x : Ent), es[i]? = some x → ∀ j ∈ x.clo, 0 ≤ j ∧ j < i ∧ isI (ent es j).c = true ∧ ∀ k ∈ (ent es j).clo, k ∈ x.clo
  up : ∀ (i : Nat) (x : Ent), es[i]? = some x → 1 ≤ i → ∀ k ∈ (ent es x.above).clo, k ∈ x.clo
  src : ∀ (i : Nat) (x : Ent), es[i]? = some x → 3 ≤ i → Took (es.take i) x.c x
theorem thy_new : Thy newE := by
  have h3 : ∀ (i : Nat) (x : Ent), newE[i]? = some x → (i = 0 ∧ x = ⟨objC, -1, 0, []⟩) ∨ (i = 1 ∧ x = ⟨ifaceC sCloneable, 0, 1, []⟩) ∨ (i = 2 ∧ x = ⟨ifaceC sSerializable, 0, 1, []⟩) := by
    intro i x hx
    match i, hx with
    | 0, hx => simp [newE] at hx; exact .inl ⟨rfl, hx.symm⟩
    | 1, hx => simp [newE] at hx; exact .inr (.inl ⟨rfl, hx.symm⟩)
    | 2, hx => simp [newE] at hx; exact .inr (.inr ⟨rfl, hx.symm⟩)
    | i + 3, hx => simp [newE] at hx
  refine ⟨good_new, ⟨[], by simp⟩, by decide, fun i x hx h1 => ?_, fun i x hx j hj => ?_, fun i x hx h1 k hk => ?_, fun i x hx h1 => ?_⟩
  · rcases h3 i x hx with ⟨rfl, rfl⟩ | ⟨rfl, rfl⟩ | ⟨rfl, rfl⟩
    · omega
    · exact ⟨by decide, by decide, by decide, fun _ => rfl⟩
    · exact ⟨by decide, by decide, by decide, fun _ => rfl⟩
  · rcases h3 i x hx with ⟨rfl, rfl⟩ | ⟨rfl, rfl⟩ | ⟨rfl, rfl⟩ <;> cases hj
  · rcases h3 i x hx with ⟨rfl, rfl⟩ | ⟨rfl, rfl⟩ | ⟨rfl, rfl⟩
    · omega
    · exact hk
    · exact hk
  · rcases h3 i x hx with ⟨rfl, rfl⟩ | ⟨rfl, rfl⟩ | ⟨rfl, rfl⟩ <;> omega
theorem get_last {es : List Ent} {x y : Ent} {i : Nat} (h : (es ++ [x])[i]? = some y) : (i < es.length ∧ es[i]? = some y) ∨ (i = es.length ∧ y = x) := by
  rcases Nat.lt_trichotomy i es.length with hi | hi | hi
  · rw [List.getElem?_append_left hi] at h
    exact .inl ⟨hi, h⟩
  · subst hi
    rw [List.getElem?_append_right (Nat.le_refl _), Nat.sub_self] at h
    cases h
    exact .inr ⟨rfl, rfl⟩
  · rw [List.getElem?_eq_none (by simp; omega)] at h
    cases h
theorem len_base {es : List Ent} (h : ∃ rest, es = newE ++ rest) : 3 ≤ es.length := by
  obtain ⟨r, rfl⟩ := h
  rw [List.length_append]
  show 3 ≤ 3 + _
  omega
theorem thy_took {es : List Ent} {c : S44} {x : Ent} (h : Thy es) (ht : Took es c x) : Thy (es ++ [x]) := by
  have h1 := aboveF_in ht.sup
  have f1 := aboveF_fit ht.sup
  have hxc : x.c = c := by rw [ht.isx]; rfl
  have hxa : x.above = (aboveF es c c.f1 false).1 := by rw [ht.isx]; rfl
  have hxk : x.clo = closF es (ent es x.above).clo (c.f2.map fun n => (aboveF es c n true).1) := by
    rw [hxa, ht.isx]
    show closF es _ _ = _
    rw [if_pos h1.1]
  generalize (aboveF es c c.f1 false).1 = sp at *
  have hl3 := len_base h.base
  have hsp := get_ent h1.1 h1.2.1
  -- what is in the new closure
  have hcl : ∀ j ∈ x.clo, 0 ≤ j ∧ j < es.length ∧ isI (ent es j).c = true ∧ ∀ k ∈ (ent es j).clo, k ∈ x.clo := by
    intro j hj
    rw [hxk] at hj ⊢
    rcases mem_closF.1 hj with hj | ⟨i, hi, hj⟩
    · rw [hxa] at hj
      obtain ⟨a1, a2, a3, a4⟩ := h.clo _ _ hsp j hj
      exact ⟨a1, by omega, a3, fun k hk => mem_closF.2 (.inl (by rw [hxa]; exact a4 k hk))⟩
    · obtain ⟨n, hn, rfl⟩ := List.mem_map.1 hi
      have hi2 := aboveF_in (ht.ifs n hn)
      have hf := (aboveF_fit (ht.ifs n hn)).1
      generalize (aboveF es c n true).1 = i at *
      rcases hj with rfl | hj
      · exact ⟨hi2.1, hi2.2.1, hf, fun k hk => mem_closF.2 (.inr ⟨_, hi, .inr hk⟩)⟩
      · obtain ⟨a1, a2, a3, a4⟩ := h.clo _ _ (get_ent hi2.1 hi2.2.1) j hj
        exact ⟨a1, by omega, a3, fun k hk => mem_closF.2 (.inr ⟨_, hi, .inr (a4 k hk)⟩)⟩
  refine ⟨good_took h.good ht, ?_, ?_, fun i y hy hi => ?_, fun i y hy j hj => ?_, fun i y hy hi k hk => ?_, fun i y hy hi => ?_⟩
  · obtain ⟨r, rfl⟩ := h.base
    exact ⟨r ++ [x], by rw [List.append_assoc]⟩
  · rw [List.map_append]
    refine List.nodup_append.2 ⟨h.names, by simp, fun a ha b hb => ?_⟩
    rw [List.map_cons, List.map_nil, List.mem_singleton, hxc] at hb
    rw [hb]
    rintro rfl
    exact ht.fresh ha
  · rcases get_last hy with ⟨hi2, hy⟩ | ⟨rfl, rfl⟩
    · obtain ⟨a1, a2, a3, a4⟩ := h.sup i y hy hi
      exact ⟨a1, a2, by rw [ent_old a1 (by omega)]; exact a3, a4⟩
    · rw [hxa]
      exact ⟨h1.1, h1.2.1, by rw [ent_old h1.1 h1.2.1]; exact f1.1, fun hi => f1.2.1 rfl (by rw [← hxc]; exact hi)⟩
  · rcases get_last hy with ⟨hi2, hy⟩ | ⟨rfl, rfl⟩
    · obtain ⟨a1, a2, a3, a4⟩ := h.clo i y hy j hj
      refine ⟨a1, a2, ?_⟩
      rw [ent_old a1 (by omega)]
      exact ⟨a3, a4⟩
    · obtain ⟨a1, a2, a3, a4⟩ := hcl j hj
      refine ⟨a1, a2, ?_⟩
      rw [ent_old a1 (by omega)]
      exact ⟨a3, a4⟩
  · rcases get_last hy with ⟨hi2, hy⟩ | ⟨rfl, rfl⟩
    · obtain ⟨a1, a2, _, _⟩ := h.sup i y hy hi
      rw [ent_old a1 (by omega)] at hk
      exact h.up i y hy hi k hk
    · rw [hxa, ent_old h1.1 h1.2.1] at hk
      rw [hxk]
      exact mem_closF.2 (.inl (by rw [hxa]; exact hk))
  · rcases get_last hy with ⟨hi2, hy⟩ | ⟨rfl, rfl⟩
    · rw [List.take_append_of_le_length (by omega)]
      exact h.src i y hy hi
    · rw [List.take_append_of_le_length (Nat.le_refl _), List.take_length, hxc]
      exact ht
theorem thy_made {es : List Ent} (h : Made es) : Thy es := by
  induction h with
  | new => exact thy_new
  | step es c _ ih =>
    rcases stepF_cases es c with h | ⟨x, h, ht⟩
    · rw [h]; exact ih
    · rw [h]; exact thy_took ih ht
/-- Up from class to class. -/
inductive Anc (es : List Ent) : Int → Int → Prop
  | refl (a : Int) : Anc es a a
  | up (a b : Int) : 0 ≤ (ent es a).above → Anc es (ent es a).above b → Anc es a b
theorem Anc.trans {es : List Ent} {a b c : Int} (h : Anc es a b) (h2 : Anc es b c) : Anc es a c := by
  induction h with
  | refl => exact h2
  | up a b h0 _ ih => exact .up a c h0 (ih h2)
theorem Anc.le {es : List Ent} (ht : Tree es) {a b : Int} (h : Anc es a b) : 0 ≤ a → a < es.length → 0 ≤ b ∧ b ≤ a ∧ (ent es b).depth ≤ (ent es a).depth ∧ ((ent es b).depth = (ent es a).depth → b = a) := by
  induction h with
  | refl => exact fun h0 h1 => ⟨h0, Int.le_refl _, Int.le_refl _, fun _ => rfl⟩
  | up a b h0 _ ih =>
    intro h1 h2
    rcases ht.at_ h1 h2 with ⟨h3, _⟩ | ⟨h3, h4, h5⟩
    · omega
    · obtain ⟨i1, i2, i3, i4⟩ := ih h3 (by omega)
      exact ⟨i1, by omega, by omega, fun e => by omega⟩
theorem climb_anc {es : List Ent} (ht : Tree es) : ∀ (k : Nat) (a d : Int), 0 ≤ a → a < es.length → 0 ≤ d → Anc es a (climb es k a d)
  | 0, a, d, _, _, _ => .refl a
  | k + 1, a, d, h0, h1, hd => by
    rw [climb]
    by_cases hc : (ent es a).depth > d
    · rw [if_pos hc]
      rcases ht.at_ h0 h1 with ⟨_, h4⟩ | ⟨h3, h4, h5⟩
      · omega
      · exact .up _ _ h3 (climb_anc ht k _ d h3 (by omega) hd)
    · rw [if_neg hc]
      exact .refl a
theorem anc_climb {es : List Ent} (ht : Tree es) {a b : Int} (h : Anc es a b) : ∀ (k : Nat), 0 ≤ a → a < es.length → (ent es a).depth ≤ (ent es b).depth + k → climb es k a (ent es b).depth = b := by
  induction h with
  | refl a =>
    intro k h0 h1 hk
    cases k with
    | zero => rfl
    | succ k => rw [climb, if_neg (by omega)]
  | up a b ha hb ih =>
    intro k h0 h1 hk
    rcases ht.at_ h0 h1 with ⟨h3, _⟩ | ⟨h3, h4, h5⟩
    · omega
    · have hl := hb.le ht h3 (by omega)
      cases k with
      | zero => omega
      | succ k =>
        rw [climb, if_pos (by omega)]
        exact ih k h3 (by omega) (by omega)
/-- Extends, as it is told: up by interfaces, or by superclasses. -/
def Ext (es : List Ent) (a b : Int) : Prop := (isI (ent es b).c = true ∧ (a = b ∨ b ∈ (ent es a).clo)) ∨ (isI (ent es b).c = false ∧ Anc es a b)
theorem extF_iff {es : List Ent} (ht : Tree es) {a b : Int} (h0 : 0 ≤ a) (h1 : a < es.length) (h2 : 0 ≤ b) (h3 : b < es.length) : extF es a b = true ↔ Ext es a b := by
  unfold extF Ext inB
  rw [decide_eq_true (⟨h0, h1⟩ : 0 ≤ a ∧ a < (es.length : Int)), decide_eq_true (⟨h2, h3⟩ : 0 ≤ b ∧ b < (es.length : Int))]
  cases hi : isI (ent es b).c with
  | true => simp
  | false =>
    simp only [Bool.and_self, if_true, Bool.false_eq_true, if_false, beq_iff_eq, false_and, false_or, true_and]
    have hb := ht.depth_ h2 h3
    have ha := ht.depth_ h0 h1
    constructor
    · intro e
      rw [← e]
      exact climb_anc ht _ _ _ h0 h1 hb.1
    · intro h
      exact anc_climb ht h _ h0 h1 (by omega)
theorem Thy.anc_clo {es : List Ent} (h : Thy es) {a b : Int} (hab : Anc es a b) : 0 ≤ a → a < es.length → ∀ k ∈ (ent es b).clo, k ∈ (ent es a).clo := by
  induction hab with
  | refl => exact fun _ _ _ hk => hk
  | up a b ha _ ih =>
    intro h0 h1 k hk
    have hx := get_ent h0 h1
    rcases h.good.tree.at_ h0 h1 with ⟨h3, _⟩ | ⟨h3, h4, h5⟩
    · omega
    · exact h.up _ _ hx (by omega) k (ih h3 (by omega) k hk)
theorem Thy.ext_le {es : List Ent} (h : Thy es) {a b : Int} (h0 : 0 ≤ a) (h1 : a < es.length) (hab : Ext es a b) : 0 ≤ b ∧ b ≤ a := by
  rcases hab with ⟨_, rfl | hb⟩ | ⟨_, hb⟩
  · exact ⟨h0, Int.le_refl _⟩
  · have := h.clo _ _ (get_ent h0 h1) b hb
    exact ⟨this.1, by omega⟩
  · have := hb.le h.good.tree h0 h1
    exact ⟨this.1, this.2.1⟩
theorem Thy.anc0 {es : List Ent} (h : Thy es) : ∀ (n : Nat) (a : Int), a.toNat < n → 0 ≤ a → a < es.length → Anc es a 0
  | 0, a, hn, _, _ => absurd hn (by omega)
  | n + 1, a, hn, h0, h1 => by
    by_cases ha : a = 0
    · subst ha; exact .refl 0
    · obtain ⟨a1, a2, _, _⟩ := h.sup _ _ (get_ent h0 h1) (by omega)
      exact .up _ _ a1 (Thy.anc0 h n _ (by omega) a1 (by omega))
theorem Thy.obj {es : List Ent} (h : Thy es) : ent es 0 = ⟨objC, -1, 0, []⟩ ∧ ent es 1 = ⟨ifaceC sCloneable, 0, 1, []⟩ ∧ ent es 2 = ⟨ifaceC sSerializable, 0, 1, []⟩ := by
  obtain ⟨r, rfl⟩ := h.base
  exact ⟨rfl, rfl, rfl⟩
theorem Thy.ext_refl {es : List Ent} (h : Thy es) (a : Int) : Ext es a a := by
  cases hi : isI (ent es a).c with
  | true => exact .inl ⟨hi, .inl rfl⟩
  | false => exact .inr ⟨hi, .refl a⟩
theorem Thy.ext_trans {es : List Ent} (h : Thy es) {a b c : Int} (h0 : 0 ≤ a) (h1 : a < es.length) (hab : Ext es a b) (hbc : Ext es b c) : Ext es a c := by
  have hb := h.ext_le h0 h1 hab
  rcases hbc with ⟨hc, rfl | hk⟩ | ⟨hc, hk⟩
  · exact hab
  · refine .inl ⟨hc, .inr ?_⟩
    rcases hab with ⟨_, rfl | hj⟩ | ⟨_, hj⟩
    · exact hk
    · exact (h.clo _ _ (get_ent h0 h1) b hj).2.2.2 c hk
    · exact h.anc_clo hj h0 h1 c hk
  · rcases hab with ⟨hbi, hj⟩ | ⟨_, hj⟩
    · -- b is an interface: above it stands Object alone
      cases hk with
      | refl => rw [hc] at hbi; cases hbi
      | up _ _ hu hk =>
        have hb1 : 1 ≤ b := by
          apply Classical.byContradiction
          intro hn
          have : b = 0 := by omega
          subst this
          rw [h.obj.1] at hbi
          revert hbi
          decide
        have := (h.sup _ _ (get_ent hb.1 (by omega)) (by omega)).2.2.2 hbi
        rw [this] at hk
        have h3 := len_base h.base
        have hc0 := hk.le h.good.tree (by omega) (by omega)
        have : c = 0 := by omega
        subst this
        exact .inr ⟨hc, h.anc0 _ a (Nat.lt_succ_self _) h0 h1⟩
    · exact .inr ⟨hc, hj.trans hk⟩
theorem Thy.ext_anti {es : List Ent} (h : Thy es) {a b : Int} (h0 : 0 ≤ a) (h1 : a < es.length) (h2 : 0 ≤ b) (h3 : b < es.length) (hab : Ext es a b) (hba : Ext es b a) : a = b := by
  have := h.ext_le h0 h1 hab
  have := h.ext_le h2 h3 hba
  omega
end Go.Proofs.YtmlifggklaeieaaDoor.Hi

/- Below, as a relation of the loaded types of a made world. -/
namespace Go.Proofs.YtmlifggklaeieaaDoor.Pt
open Go Go.RowKit Go.Proofs.YtmlifggklaeieaaDoor.Nm Go.Proofs.YtmlifggklaeieaaDoor.Ty Go.Proofs.YtmlifggklaeieaaDoor.Hi Go.Proofs.YtmlifggklaeieaaDoorW.PrintWords Go.Proofs.YtmlifggklaeieaaDoorW.PrintLast Go.Proofs.YtmlifggklaeieaaDoorW.PrintMore
set_option linter.unusedVariables false
set_option linter.unusedSimpArgs false
set_option maxRecDepth 100000

theorem name_at {es : List Ent} {d : Int} {s : ByteArray} (h : loadF es d s = 0) (hs : s.toList ≠ []) : 0 ≤ (nameF es s).1 ∧ (nameF es s).1 < es.length ∧ (ent es (nameF es s).1).c.f0 = s := by
  unfold loadF at h
  by_cases hc : chk d s.data.toList = 0
  · rw [if_pos hc, if_neg hs] at h
    by_cases h2 : (nameF es s).2 = 0
    · exact nameF_in h2
    · rw [if_neg h2] at h
      cases h
  · rw [if_neg hc] at h
    exact absurd h hc
theorem _root_.Go.Proofs.YtmlifggklaeieaaDoor.Hi.Thy.name_inj {es : List Ent} (h : Thy es) {i j : Int} (h0 : 0 ≤ i) (h1 : i < es.length) (h2 : 0 ≤ j) (h3 : j < es.length) (he : (ent es i).c.f0 = (ent es j).c.f0) : i = j := by
  have hi : (es.map (·.c.f0))[i.toNat]? = some (ent es i).c.f0 := by
    rw [List.getElem?_map, get_ent h0 h1]; rfl
  have hj : (es.map (·.c.f0))[j.toNat]? = some (ent es j).c.f0 := by
    rw [List.getElem?_map, get_ent h2 h3]; rfl
  have hl : (es.map (·.c.f0)).length = es.length := List.length_map _
  rw [List.getElem?_eq_getElem (by omega)] at hi hj
  have hij := (Option.some.inj hi).trans (he.trans (Option.some.inj hj).symm)
  have hp := List.pairwise_iff_getElem.1 h.names
  rcases Nat.lt_trichotomy i.toNat j.toNat with hlt | heq | hlt
  · exact absurd hij (hp _ _ (by omega) (by omega) hlt)
  · omega
  · exact absurd hij.symm (hp _ _ (by omega) (by omega) hlt)
theorem nameF_of {es : List Ent} (h : Thy es) {i : Int} (h0 : 0 ≤ i) (h1 : i < es.length) : nameF es (ent es i).c.f0 = (i, 0) := by
  have h2 : (nameF es (ent es i).c.f0).2 = 0 := by
    unfold nameF
    cases hf : (es.map (·.c.f0)).findIdx? (fun t => decide (t = (ent es i).c.f0)) with
    | some k => rfl
    | none =>
      rw [List.findIdx?_eq_none_iff] at hf
      have := hf _ (List.mem_map_of_mem (List.mem_of_getElem? (get_ent h0 h1)))
      simp at this
  have h3 := nameF_in h2
  have h4 := h.name_inj h3.1 h3.2.1 h0 h1 h3.2.2
  exact Prod.ext h4 h2
theorem top_cases {s : ByteArray} (h : topB s = true) : s = sObject ∨ s = sCloneable ∨ s = sSerializable := by
  unfold topB at h
  split at h
  · rename_i h1
    exact .inl (ba_eq (h1.trans (by decide +kernel)))
  · split at h
    · rename_i h1
      exact .inr (.inl (ba_eq (h1.trans (by decide +kernel))))
    · exact .inr (.inr (ba_eq ((beq_iff_eq.1 h).trans (by decide +kernel))))
theorem _root_.Go.Proofs.YtmlifggklaeieaaDoor.Hi.Thy.top_le {es : List Ent} (h : Thy es) {d : Int} {s : ByteArray} (hl : loadF es d s = 0) (ht : topB s = true) : (nameF es s).1 ≤ 2 := by
  have h3 := len_base h.base
  obtain ⟨o0, o1, o2⟩ := h.obj
  rcases top_cases ht with rfl | rfl | rfl
  · have := nameF_of h (i := 0) (by omega) (by omega)
    rw [o0] at this
    rw [show (sObject : ByteArray) = objC.f0 from rfl, this]
    decide
  · have := nameF_of h (i := 1) (by omega) (by omega)
    rw [o1] at this
    rw [show (sCloneable : ByteArray) = (ifaceC sCloneable).f0 from rfl, this]
    decide
  · have := nameF_of h (i := 2) (by omega) (by omega)
    rw [o2] at this
    rw [show (sSerializable : ByteArray) = (ifaceC sSerializable).f0 from rfl, this]
    decide
theorem _root_.Go.Proofs.YtmlifggklaeieaaDoor.Hi.Thy.le_top {es : List Ent} (h : Thy es) {i : Int} (h0 : 0 ≤ i) (h2 : i ≤ 2) : topB (ent es i).c.f0 = true := by
  obtain ⟨o0, o1, o2⟩ := h.obj
  have : i = 0 ∨ i = 1 ∨ i = 2 := by omega
  rcases this with rfl | rfl | rfl
  · rw [o0]; decide +kernel
  · rw [o1]; decide +kernel
  · rw [o2]; decide +kernel
theorem top_ne {s : ByteArray} (h : topB s = true) : s.toList ≠ [] := by
  intro e
  unfold topB at h
  rw [e] at h
  simp at h
/-- Below, told. -/
def BelP (es : List Ent) (a : Int) (s : ByteArray) (b : Int) (t : ByteArray) : Prop :=
  (a = b ∧ ((s.toList = [] ∧ t.toList = []) ∨ (s.toList ≠ [] ∧ t.toList ≠ [] ∧ Ext es (nameF es s).1 (nameF es t).1))) ∨ (b < a ∧ topB t = true)
theorem bel_iff {es : List Ent} (h : Thy es) {a b : Int} {s t : ByteArray} (hs : loadF es a s = 0) (ht : loadF es b t = 0) : belowF es a s b t = true ↔ BelP es a s b t := by
  obtain ⟨s1, s2, s3⟩ := load_size hs
  obtain ⟨t1, t2, t3⟩ := load_size ht
  unfold belowF redF intT BelP
  rcases Int.lt_trichotomy a b with hab | rfl | hab
  · rw [show min a b = a by omega, Int.sub_self]
    have e1 : (b - a == 0) = false := beq_eq_false_iff_ne.2 (by omega)
    have e2 : ((0 : Int) == b - a) = false := beq_eq_false_iff_ne.2 (by omega)
    rw [e1, e2]
    simp only [Bool.false_and, Bool.or_false]
    constructor
    · intro h
      split at h
      · cases h
      · rw [if_neg (by omega), if_pos (by omega)] at h
        cases h
    · rintro (⟨h, _⟩ | ⟨h, _⟩) <;> omega
  · rw [show min a a = a by omega, Int.sub_self]
    simp only [beq_self_eq_true, Bool.true_and, Int.lt_irrefl, false_and, or_false, true_and, gt_iff_lt, if_false]
    by_cases e1 : s.toList = []
    · rw [e1]
      simp only [beq_self_eq_true, Bool.true_or, if_true, beq_iff_eq, ne_eq, not_true_eq_false, false_and, or_false, true_and]
      exact ⟨fun h => h.symm, fun h => h.symm⟩
    · by_cases e2 : t.toList = []
      · rw [e2]
        simp [e1]
      · have n1 := name_at hs e1
        have n2 := name_at ht e2
        have d1 : (s.toList == []) = false := beq_eq_false_iff_ne.2 e1
        have d2 : (t.toList == []) = false := beq_eq_false_iff_ne.2 e2
        rw [d1, d2]
        simp only [Bool.or_self, Bool.false_eq_true, if_false]
        rw [extF_iff h.good.tree n1.1 n1.2.1 n2.1 n2.2.1]
        simp [e1, e2]
  · rw [show min a b = b by omega, Int.sub_self]
    have e1 : (a - b == 0) = false := beq_eq_false_iff_ne.2 (by omega)
    rw [e1]
    simp only [Bool.false_and, Bool.false_or, beq_self_eq_true, Bool.true_and]
    by_cases e2 : t.toList = []
    · rw [e2]
      simp only [beq_self_eq_true, if_true, Bool.false_eq_true, false_iff]
      rintro (⟨h, _⟩ | ⟨_, h⟩)
      · omega
      · exact top_ne h e2
    · have d2 : (t.toList == []) = false := beq_eq_false_iff_ne.2 e2
      rw [d2, if_neg (by simp), if_pos (by omega)]
      exact ⟨fun h => .inr ⟨hab, h⟩, fun h => h.elim (fun h => by omega) (fun h => h.2)⟩
theorem bel_refl {es : List Ent} (h : Thy es) (a : Int) (s : ByteArray) : BelP es a s a s := by
  by_cases e : s.toList = []
  · exact .inl ⟨rfl, .inl ⟨e, e⟩⟩
  · exact .inl ⟨rfl, .inr ⟨e, e, h.ext_refl _⟩⟩
theorem bel_trans {es : List Ent} (h : Thy es) {a b c : Int} {s t u : ByteArray} (hs : loadF es a s = 0) (ht : loadF es b t = 0) (hu : loadF es c u = 0) (h1 : BelP es a s b t) (h2 : BelP es b t c u) : BelP es a s c u := by
  rcases h1 with ⟨rfl, h1⟩ | ⟨hba, h1⟩
  · rcases h2 with ⟨rfl, h2⟩ | ⟨hcb, h2⟩
    · rcases h1 with ⟨e1, e2⟩ | ⟨e1, e2, x1⟩
      · rcases h2 with ⟨e3, e4⟩ | ⟨e3, _⟩
        · exact .inl ⟨rfl, .inl ⟨e1, e4⟩⟩
        · exact absurd e2 e3
      · rcases h2 with ⟨e3, e4⟩ | ⟨e3, e4, x2⟩
        · exact absurd e3 e2
        · have n1 := name_at hs e1
          exact .inl ⟨rfl, .inr ⟨e1, e4, h.ext_trans n1.1 n1.2.1 x1 x2⟩⟩
    · exact .inr ⟨hcb, h2⟩
  · rcases h2 with ⟨rfl, h2⟩ | ⟨hcb, h2⟩
    · rcases h2 with ⟨e3, e4⟩ | ⟨e3, e4, x2⟩
      · exact absurd e3 (top_ne h1)
      · have n2 := name_at ht e3
        have n3 := name_at hu e4
        have l1 := h.top_le ht h1
        have l2 := h.ext_le n2.1 n2.2.1 x2
        refine .inr ⟨hba, ?_⟩
        have := h.le_top (i := (nameF es u).1) l2.1 (by omega)
        rwa [n3.2.2] at this
    · exact .inr ⟨by omega, h2⟩
theorem bel_anti {es : List Ent} (h : Thy es) {a b : Int} {s t : ByteArray} (hs : loadF es a s = 0) (ht : loadF es b t = 0) (h1 : BelP es a s b t) (h2 : BelP es b t a s) : a = b ∧ s.data.toList = t.data.toList := by
  rcases h1 with ⟨rfl, h1⟩ | ⟨hba, h1⟩
  · refine ⟨rfl, ?_⟩
    rcases h1 with ⟨e1, e2⟩ | ⟨e1, e2, x1⟩
    · rw [ByteArray.toList_eq] at e1 e2
      rw [e1, e2]
    · rcases h2 with ⟨_, h2⟩ | ⟨h2, _⟩
      · rcases h2 with ⟨e3, e4⟩ | ⟨e3, e4, x2⟩
        · exact absurd e4 e1
        · have n1 := name_at hs e1
          have n2 := name_at ht e2
          have := h.ext_anti n1.1 n1.2.1 n2.1 n2.2.1 x1 x2
          rw [← n1.2.2, ← n2.2.2, this]
      · omega
  · rcases h2 with ⟨h2, _⟩ | ⟨h2, _⟩ <;> omega
theorem bel_up {es : List Ent} {a b : Int} {s t : ByteArray} : BelP es (a + 1) s (b + 1) t ↔ BelP es a s b t := by
  unfold BelP
  rw [show (a + 1 = b + 1) ↔ (a = b) by omega, show (b + 1 < a + 1) ↔ (b < a) by omega]
theorem load_up {es : List Ent} {a : Int} {s : ByteArray} (h : loadF es a s = 0) (ha : a < 255) : loadF es (a + 1) s = 0 := by
  have hs := load_size h
  unfold loadF at h ⊢
  have hc : chk a s.data.toList = 0 := by
    apply Classical.byContradiction
    intro hc
    rw [if_neg hc] at h
    exact hc h
  have hc2 : chk (a + 1) s.data.toList = 0 := by
    unfold chk at hc ⊢
    rw [if_neg (by omega)] at hc ⊢
    exact hc
  rw [if_pos hc] at h
  rw [if_pos hc2]
  exact h
end Go.Proofs.YtmlifggklaeieaaDoor.Pt

/- access.ClassOpen, walked by hand. -/
namespace Go.Proofs.YtmlifggklaeieaaDoor.Pt
open Go Go.RowKit Go.Proofs.YtmlifggklaeieaaDoor.Nm Go.Proofs.YtmlifggklaeieaaDoor.Hi Go.Proofs.YtmlifggklaeieaaDoorW.PrintWords Go.Proofs.YtmlifggklaeieaaDoorW.PrintLast Go.Proofs.YtmlifggklaeieaaDoorW.PrintMore
set_option linter.unusedVariables false
set_option linter.unusedSimpArgs false
set_option maxHeartbeats 2000000
set_option maxRecDepth 100000

theorem tl_eq {a b : ByteArray} (h : a.toList = b.toList) : a = b := by
  rw [ByteArray.toList_eq, ByteArray.toList_eq] at h
  exact ByteArray.ext (Array.toList_inj.1 h)
theorem two_new (w : World) (o1 o2 : Obj) : ((w.alloc o1).alloc o2).heap[w.heap.size]? = some o1 ∧ ((w.alloc o1).alloc o2).heap[w.heap.size + 1]? = some o2 ∧ Below w.heap.size w ((w.alloc o1).alloc o2) :=
  ⟨heap_alloc2_old w o1 o2, heap_alloc2_new w o1 o2, ((Below.refl _ _).alloc (Nat.le_refl _) o1).alloc (by simp) o2⟩
/-- Whether two run-time packages are one. -/
def nearF (h1 h2 : Int × ByteArray × S44 × Int) : Bool := decide (h1.1 = h2.1) && decide (h1.2.1 = h2.2.1)
def copenF (es : List Ent) (d c : Int) : Bool × Int :=
  if (homeF es d).2.2.2 ≠ 0 then (false, (homeF es d).2.2.2) else if (homeF es c).2.2.2 ≠ 0 then (false, (homeF es c).2.2.2) else
  ((Go.bits .and .i64 (homeF es c).2.2.1.f3 1 != 0) || nearF (homeF es d) (homeF es c), 0)
def access_ClassOpen.f (a0 : List Hi.Ent) (a1 : Int) (a2 : Int) : Option (Bool × Int) := some (copenF a0 a1 a2)
theorem access_ClassOpen.calls (G_ : Nat) (a0 : List Hi.Ent) (a1 : Int) (a2 : Int) (r1 : Bool) (r2 : Int) (w : World) (hq0 : WOK w G_ a0) (h : access_ClassOpen.f a0 a1 a2 = some (r1, r2)) :
    Calls Tryd.prog 9 #[.pointer (some ⟨G_, 0, none⟩), .int .i64 a1, .int .i64 a2] w fun e w' => e = .returned (.tuple #[.bool r1, .int .i64 r2]) ∧ Below w.heap.size w w' := by
  obtain h := Option.some.inj h
  have hF := Lib.hid h
  have HO := fun (W : World) (hb : Below w.heap.size w W) (i : Int) => access_homeOf.calls G_ a0 i _ _ _ _ _ _ _ _ _ W (hq0.below hb) rfl
  replace HO := Lib.hid HO
  clear h hq0
  have C1 := Lib.hid (HO.out w (Below.refl _ _) a1)
  unfold copenF at hF
  generalize homeF a0 a1 = h1 at *
  obtain ⟨l1, n1, x1, e1⟩ := h1
  go_enter Tryd.func9, Tryd.ntmps9
  go_upto_region 1 with (fail)
  go_cut [0, 1, 2, 6, 7, 8, 10] (fun v0 v1 v2 v6 v7 v8 v10 wr => v0 = .pointer (some ⟨G_, 0, none⟩) ∧ v1 = .int .i64 a1 ∧ v2 = .int .i64 a2 ∧ v10 = .int .i64 e1 ∧ ∃ g1, v8 = .pointer (some ⟨g1, 0, none⟩) ∧ Hid (wr.heap[g1]? = some (.cells #[.int .i64 l1, .string n1] 61 (0, 0))) ∧ Hid (Below w.heap.size w wr))
  case first =>
    go_wp2_with fail
    refine C1.out.mono ?_
    rintro e w1 ⟨v2, v5, rfl, R2, R5, hb1⟩
    obtain ⟨A2, c2, rfl⟩ := Kd.R_slice R2
    obtain ⟨A5, c5, rfl⟩ := Kd.R_slice R5
    clear C1
    go_wp2
    go_meet
    case rel => exact ⟨rfl, rfl, rfl, rfl, _, rfl, Lib.hid (two_new _ _ _).1, Lib.hid (hb1.trans ((two_new _ _ _).2.2.mono hb1.size))⟩
  case rest =>
    clear C1
    obtain ⟨rfl, rfl, rfl, rfl, g1, rfl, E1, HB⟩ := hcut
    by_cases he1 : e1 = 0
    · subst he1
      rw [if_neg (by simp)] at hF
      have C2 := Lib.hid (HO.out wc HB.out a2)
      clear HO
      generalize homeF a0 a2 = h2 at *
      obtain ⟨l2, n2, x2, e2⟩ := h2
      go_upto_region 4 with (fail)
      go_cut [0, 1, 2, 6, 7, 8, 10, 11, 12] (fun v0 v1 v2 v6 v7 v8 v10 v11 v12 wr => v8 = .pointer (some ⟨g1, 0, none⟩) ∧ v10 = .int .i64 e2 ∧ ∃ g2 v1 v2 v4 v5, v11 = .pointer (some ⟨g2, 0, none⟩) ∧ v12 = .pointer (some ⟨g2 + 1, 0, none⟩) ∧ Hid (wr.heap[g1]? = some (.cells #[.int .i64 l1, .string n1] 61 (0, 0))) ∧ Hid (wr.heap[g2]? = some (.cells #[.int .i64 l2, .string n2] 61 (0, 0))) ∧
        Hid (wr.heap[g2 + 1]? = some (.cells #[.string x2.f0, v1, v2, .int .i64 x2.f3, v4, v5] 44 (0, 0))) ∧ Hid (Below w.heap.size w wr))
      case first =>
        go_wp2_with fail
        refine C2.out.mono ?_
        rintro e w2 ⟨v2, v5, rfl, R2, R5, hb2⟩
        obtain ⟨A2, c2, rfl⟩ := Kd.R_slice R2
        obtain ⟨A5, c5, rfl⟩ := Kd.R_slice R5
        clear C2
        go_wp2
        go_meet
        case rel => exact ⟨rfl, rfl, _, _, _, _, _, rfl, rfl, Lib.hid (blk_below (blk_below E1.out hb2) (two_new _ _ _).2.2), Lib.hid (two_new _ _ _).1, Lib.hid (two_new _ _ _).2.1, Lib.hid ((HB.out.trans (hb2.mono HB.out.size)).trans ((two_new _ _ _).2.2.mono (HB.out.trans (hb2.mono HB.out.size)).size))⟩
      case rest =>
        clear C2 E1 HB
        obtain ⟨rfl, rfl, g2, u1, u2, u4, u5, rfl, rfl, E1, E2, E3, HB⟩ := hcut
        by_cases he2 : e2 = 0
        · subst he2
          rw [if_neg (by simp)] at hF
          have q0 : wc.cell? ⟨g1, 0, none⟩ = some (.int .i64 l1) := (blk_cell E1.out 0).trans rfl
          have q1 : wc.cell? ⟨g1, 1, none⟩ = some (.string n1) := (blk_cell E1.out 1).trans rfl
          have r0 : wc.cell? ⟨g2, 0, none⟩ = some (.int .i64 l2) := (blk_cell E2.out 0).trans rfl
          have r1 : wc.cell? ⟨g2, 1, none⟩ = some (.string n2) := (blk_cell E2.out 1).trans rfl
          have r3 : wc.cell? ⟨g2 + 1, 3, none⟩ = some (.int .i64 x2.f3) := (blk_cell E3.out 3).trans rfl
          by_cases hp : Go.bits .and .i64 x2.f3 1 = 0
          · have hp2 : (Go.bits .and .i64 x2.f3 1 != 0) = false := bne_eq_false_iff_eq.2 hp
            rw [hp2, Bool.false_or] at hF
            clear hp
            go_wp2
            all_goals go_ret2
            all_goals have hh := Prod.mk.inj hF.out
            all_goals refine ⟨?_, HB.out⟩
            all_goals rw [← hh.1, ← hh.2]
            · simp [nearF, *]
              exact tl_eq (by assumption)
            · simp [nearF, *]
              intro e
              subst e
              simp_all
            · simp [nearF, *]
          · have hp2 : (Go.bits .and .i64 x2.f3 1 != 0) = true := bne_iff_ne.2 hp
            rw [hp2, Bool.true_or] at hF
            clear hp
            go_wp2
            go_ret2
            have := hF.out
            cases this
            exact ⟨rfl, HB.out⟩
        · have hne : (e2 != 0) = true := bne_iff_ne.2 he2
          rw [if_pos he2] at hF
          clear he2
          go_wp2
          go_ret2
          have := hF.out
          cases this
          exact ⟨rfl, HB.out⟩
    · have hne : (e1 != 0) = true := bne_iff_ne.2 he1
      rw [if_pos he1] at hF
      clear he1 HO
      go_wp2
      go_ret2
      have := hF.out
      cases this
      exact ⟨rfl, HB.out⟩
end Go.Proofs.YtmlifggklaeieaaDoor.Pt

/- access.TypeOpen, walked by hand. -/
namespace Go.Proofs.YtmlifggklaeieaaDoor.Pt
open Go Go.RowKit Go.Proofs.YtmlifggklaeieaaDoor.Nm Go.Proofs.YtmlifggklaeieaaDoor.Hi Go.Proofs.YtmlifggklaeieaaDoorW.PrintWords Go.Proofs.YtmlifggklaeieaaDoorW.PrintLast Go.Proofs.YtmlifggklaeieaaDoorW.PrintMore
set_option linter.unusedVariables false
set_option linter.unusedSimpArgs false
set_option maxHeartbeats 2000000
set_option maxRecDepth 100000

def topenF (es : List Ent) (d a : Int) (s : ByteArray) : Bool × Int :=
  if (homeF es d).2.2.2 ≠ 0 then (false, (homeF es d).2.2.2) else if loadF es a s ≠ 0 then (false, loadF es a s) else if s.toList = [] then (true, 0) else copenF es d (nameF es s).1
def access_TypeOpen.f (a0 : List Hi.Ent) (a1 : Int) (a2_0 : Int) (a2_1 : ByteArray) : Option (Bool × Int) := some (topenF a0 a1 a2_0 a2_1)
theorem access_TypeOpen.calls (G_ : Nat) (a0 : List Hi.Ent) (a1 : Int) (a2_0 : Int) (a2_1 : ByteArray) (r1 : Bool) (r2 : Int) (w : World) (hq0 : WOK w G_ a0) (h : access_TypeOpen.f a0 a1 a2_0 a2_1 = some (r1, r2)) :
    Calls Tryd.prog 10 #[.pointer (some ⟨G_, 0, none⟩), .int .i64 a1, .agg #[.int .i64 a2_0, .string a2_1]] w fun e w' => e = .returned (.tuple #[.bool r1, .int .i64 r2]) ∧ Below w.heap.size w w' := by
  have hF := Lib.hid (Option.some.inj h)
  have HO := Lib.hid (fun (W : World) (hb : Below w.heap.size w W) (i : Int) => access_homeOf.calls G_ a0 i _ _ _ _ _ _ _ _ _ W (hq0.below hb) rfl)
  have HL := Lib.hid (fun (W : World) (hb : Below w.heap.size w W) => arrays_Loaded.calls G_ a0 a2_0 a2_1 _ W (hq0.below hb) (load_tot a0 a2_0 a2_1))
  have HN := Lib.hid (fun (W : World) (hb : Below w.heap.size w W) (hl : loadF a0 a2_0 a2_1 = 0) => hier_World_ByName.calls G_ a0 a2_1 (nameF a0 a2_1).1 (nameF a0 a2_1).2 W (hq0.below hb) (byName_tot a0 a2_1 (load_size hl).1))
  have HC := Lib.hid (fun (W : World) (hb : Below w.heap.size w W) (i : Int) => access_ClassOpen.calls G_ a0 a1 i (copenF a0 a1 i).1 (copenF a0 a1 i).2 W (hq0.below hb) rfl)
  clear h hq0
  have B0 := Lib.hid (blk_new w (.cells #[.int .i64 a2_0, .string a2_1] 28))
  have AB := Lib.hid ((Below.refl w.heap.size w).alloc (Nat.le_refl _) (.cells #[.int .i64 a2_0, .string a2_1] 28))
  have C1 := Lib.hid (HO.out _ AB.out a1)
  unfold topenF at hF
  generalize homeF a0 a1 = h1 at *
  obtain ⟨l1, n1, x1, e1⟩ := h1
  go_enter Tryd.func10, Tryd.ntmps10
  go_upto_region 1 with (fail)
  go_cut [0, 1, 2, 5, 10] (fun v0 v1 v2 v5 v10 wr => v0 = .pointer (some ⟨G_, 0, none⟩) ∧ v1 = .int .i64 a1 ∧ v5 = .pointer (some ⟨w.heap.size, 0, none⟩) ∧ v10 = .int .i64 e1 ∧ Hid (wr.heap[w.heap.size]? = some (.cells #[.int .i64 a2_0, .string a2_1] 28 (0, 0))) ∧ Hid (Below w.heap.size w wr))
  case first =>
    go_wp2_with fail
    refine C1.out.mono ?_
    rintro e w1 ⟨v2, v5, rfl, R2, R5, hb1⟩
    obtain ⟨A2, c2, rfl⟩ := Kd.R_slice R2
    obtain ⟨A5, c5, rfl⟩ := Kd.R_slice R5
    clear C1
    go_wp2
    go_meet
    case rel => exact ⟨rfl, rfl, rfl, rfl, Lib.hid (blk_below (blk_below B0.out hb1) (two_new _ _ _).2.2), Lib.hid ((AB.out.trans (hb1.mono AB.out.size)).trans ((two_new _ _ _).2.2.mono (AB.out.trans (hb1.mono AB.out.size)).size))⟩
  case rest =>
    clear C1 B0 AB HO
    obtain ⟨rfl, rfl, rfl, rfl, B0, HB⟩ := hcut
    by_cases he1 : e1 = 0
    · subst he1
      rw [if_neg (by simp)] at hF
      have q0 : wc.cell? ⟨w.heap.size, 0, none⟩ = some (.int .i64 a2_0) := (blk_cell B0.out 0).trans rfl
      have q1 : wc.cell? ⟨w.heap.size, 1, none⟩ = some (.string a2_1) := (blk_cell B0.out 1).trans rfl
      have C2 := Lib.hid (HL.out wc HB.out)
      go_wp2_with fail
      refine C2.out.mono ?_
      rintro e w2 ⟨rfl, hb2⟩
      have HB2 := Lib.hid (HB.out.trans (hb2.mono HB.out.size))
      have B2 := Lib.hid (blk_below B0.out hb2)
      clear C2 hb2 HB B0 q0 q1 HL
      by_cases he2 : loadF a0 a2_0 a2_1 = 0
      · rw [if_neg (fun h => h he2)] at hF
        have hk := Lib.hid he2
        rw [he2]
        have q1 : w2.cell? ⟨w.heap.size, 1, none⟩ = some (.string a2_1) := (blk_cell B2.out 1).trans rfl
        have C3 := Lib.hid (HN.out w2 HB2.out he2)
        clear he2 HN
        by_cases hs : a2_1.toList = []
        · rw [if_pos hs] at hF
          have hs2 : (a2_1.toList == ([] : List UInt8)) = true := beq_iff_eq.2 hs
          go_wp2
          go_ret2
          have := hF.out
          cases this
          exact ⟨rfl, HB2.out⟩
        · rw [if_neg hs] at hF
          have hs2 : (a2_1.toList == ([] : List UInt8)) = false := beq_eq_false_iff_ne.2 hs
          go_wp2_with fail
          refine C3.out.mono ?_
          rintro e w3 ⟨rfl, hb3⟩
          have HB3 := Lib.hid (HB2.out.trans (hb3.mono HB2.out.size))
          have C4 := Lib.hid (HC.out w3 HB3.out (nameF a0 a2_1).1)
          clear C3 hb3 HB2 B2 q1 HC
          generalize nameF a0 a2_1 = nf at *
          generalize copenF a0 a1 nf.1 = co at *
          go_wp2_with fail
          refine C4.out.mono ?_
          rintro e w4 ⟨rfl, hb4⟩
          have HB4 := Lib.hid (HB3.out.trans (hb4.mono HB3.out.size))
          clear C4 hb4 HB3
          go_wp2
          go_ret2
          have := hF.out
          rw [this]
          exact ⟨rfl, HB4.out⟩
      · have hne : (loadF a0 a2_0 a2_1 != 0) = true := bne_iff_ne.2 he2
        rw [if_pos he2] at hF
        clear he2
        go_wp2
        go_ret2
        have := hF.out
        cases this
        exact ⟨rfl, HB2.out⟩
    · have hne : (e1 != 0) = true := bne_iff_ne.2 he1
      rw [if_pos he1] at hF
      clear he1
      go_wp2
      go_ret2
      have := hF.out
      cases this
      exact ⟨rfl, HB.out⟩
end Go.Proofs.YtmlifggklaeieaaDoor.Pt

/- Plain facts on homes, open classes and types of a made world. -/
namespace Go.Proofs.YtmlifggklaeieaaDoor.Pt
open Go Go.RowKit Go.Proofs.YtmlifggklaeieaaDoor.Nm Go.Proofs.YtmlifggklaeieaaDoor.Ty Go.Proofs.YtmlifggklaeieaaDoor.Hi Go.Proofs.YtmlifggklaeieaaDoorW.PrintWords Go.Proofs.YtmlifggklaeieaaDoorW.PrintLast Go.Proofs.YtmlifggklaeieaaDoorW.PrintMore
set_option linter.unusedVariables false
set_option linter.unusedSimpArgs false
set_option maxRecDepth 100000

theorem classF_in {es : List Ent} {i : Int} (h : 0 ≤ i ∧ i < es.length) : classF es i = ((ent es i).c, 0) := if_pos h
theorem classF_out {es : List Ent} {i : Int} (h : ¬ (0 ≤ i ∧ i < es.length)) : classF es i = (z44, 3) := if_neg h
theorem homeF_in {es : List Ent} {i : Int} (h : 0 ≤ i ∧ i < es.length) : homeF es i = ((ent es i).c.f4, pkgB (ent es i).c.f0, (ent es i).c, 0) := if_pos h
theorem homeF_out {es : List Ent} {i : Int} (h : ¬ (0 ≤ i ∧ i < es.length)) : homeF es i = (0, ⟨#[]⟩, z44, 3) := if_neg h
theorem inB_in {es : List Ent} {i : Int} (h : 0 ≤ i ∧ i < es.length) : inB es i = true := decide_eq_true h
theorem inB_out {es : List Ent} {i : Int} (h : ¬ (0 ≤ i ∧ i < es.length)) : inB es i = false := decide_eq_false h
theorem near_tog {es : List Ent} {i j : Int} (hi : 0 ≤ i ∧ i < es.length) (hj : 0 ≤ j ∧ j < es.length) : nearF (homeF es i) (homeF es j) = tog (ent es j).c (ent es i).c := by
  rw [homeF_in hi, homeF_in hj]
  unfold nearF tog
  simp only
  by_cases h1 : (ent es i).c.f4 = (ent es j).c.f4
  · rw [decide_eq_true h1, show ((ent es j).c.f4 == (ent es i).c.f4) = true from beq_iff_eq.2 h1.symm, Bool.true_and, Bool.true_and]
    by_cases h2 : pkgB (ent es i).c.f0 = pkgB (ent es j).c.f0
    · rw [decide_eq_true h2, h2]
      simp
    · rw [decide_eq_false h2]
      symm
      exact beq_eq_false_iff_ne.2 (fun e => h2 (tl_eq e.symm))
  · rw [decide_eq_false h1, show ((ent es j).c.f4 == (ent es i).c.f4) = false from beq_eq_false_iff_ne.2 (fun e => h1 e.symm), Bool.false_and, Bool.false_and]
theorem copen_in {es : List Ent} {d c : Int} (hd : 0 ≤ d ∧ d < es.length) (hc : 0 ≤ c ∧ c < es.length) : copenF es d c = ((Go.bits .and .i64 (ent es c).c.f3 1 != 0) || tog (ent es c).c (ent es d).c, 0) := by
  unfold copenF
  rw [near_tog hd hc, homeF_in hd, homeF_in hc]
  simp
theorem copen_outd {es : List Ent} {d c : Int} (hd : ¬ (0 ≤ d ∧ d < es.length)) : copenF es d c = (false, 3) := by
  unfold copenF
  rw [homeF_out hd]
  simp
theorem copen_outc {es : List Ent} {d c : Int} (hc : ¬ (0 ≤ c ∧ c < es.length)) : copenF es d c = (false, 3) := by
  by_cases hd : 0 ≤ d ∧ d < es.length
  · unfold copenF
    rw [homeF_in hd, homeF_out hc]
    simp
  · exact copen_outd hd
theorem tog_refl (c : S44) : tog c c = true := by simp [tog]
theorem tog_symm (a b : S44) : tog a b = tog b a := by
  unfold tog
  rw [Bool.eq_iff_iff]
  simp only [Bool.and_eq_true, beq_iff_eq]
  exact ⟨fun h => ⟨h.1.symm, h.2.symm⟩, fun h => ⟨h.1.symm, h.2.symm⟩⟩
theorem tog_trans {a b c : S44} (h1 : tog a b = true) (h2 : tog b c = true) : tog a c = true := by
  unfold tog at *
  simp only [Bool.and_eq_true, beq_iff_eq] at *
  exact ⟨h1.1.trans h2.1, h1.2.trans h2.2⟩
theorem _root_.Go.Proofs.YtmlifggklaeieaaDoor.Hi.Thy.valid {es : List Ent} (h : Thy es) {i : Int} (hi : 0 ≤ i ∧ i < es.length) : validB (ent es i).c.f0 = true := by
  by_cases h3 : 3 ≤ i
  · have ht := h.src _ _ (get_ent hi.1 hi.2) (by omega)
    have hs : soundB (ent es i).c = true := by
      cases hb : soundB (ent es i).c with
      | true => rfl
      | false =>
        have := ht.sound
        unfold chkC at this
        rw [hb] at this
        cases this
    unfold soundB headB at hs
    simp only [Bool.and_eq_true] at hs
    exact hs.2.2.1.1
  · obtain ⟨o0, o1, o2⟩ := h.obj
    have : i = 0 ∨ i = 1 ∨ i = 2 := by omega
    rcases this with rfl | rfl | rfl
    · rw [o0]; decide +kernel
    · rw [o1]; decide +kernel
    · rw [o2]; decide +kernel
theorem valid_ne {s : ByteArray} (h : validB s = true) : s.toList ≠ [] := by
  intro e
  have : s = ⟨#[]⟩ := tl_eq (e.trans (by decide +kernel))
  subst this
  revert h
  decide +kernel
theorem load_at {es : List Ent} (h : Thy es) {i : Int} (hi : 0 ≤ i ∧ i < es.length) {d : Int} (h0 : 0 ≤ d) (h1 : d ≤ 255) : loadF es d (ent es i).c.f0 = 0 := by
  have hv := h.valid hi
  have hc : chk d (ent es i).c.f0.data.toList = 0 := by
    unfold chk
    rw [if_neg (by omega), mk_data, if_neg (fun hh => by rw [hv] at hh; cases hh.2)]
  unfold loadF
  rw [if_pos hc, if_neg (valid_ne hv), nameF_of h hi.1 hi.2]
  rfl
end Go.Proofs.YtmlifggklaeieaaDoor.Pt

-- laid by a program of this session's own (a variant of the kit's print)
namespace Go.Proofs.YtmlifggklaeieaaDoor.Pt
open Go.RowKit Go.Proofs.YtmlifggklaeieaaDoorW.PrintWords Go.Proofs.YtmlifggklaeieaaDoorW.PrintLast Go.Proofs.YtmlifggklaeieaaDoorW.PrintMore
attribute [local go_sem] max2_int min2_int max_two min_two max_three min_three max_four min_four   -- for this text's walks alone
set_option linter.unusedVariables false
set_option linter.unusedSimpArgs false

/-! ### access_Package: function 12 -/
def access_Package.f (a0 : List Hi.Ent) (a1 : Int) : Option (Int × ByteArray × Int) := (access_homeOf.f a0 a1).bind fun bt181 => (some (bt181.1, bt181.2.1, bt181.2.2.2.2.2.2.2.2))
set_option maxHeartbeats 8000000 in
set_option maxRecDepth 100000 in
theorem access_Package.calls (G_ : Nat) (a0 : List Hi.Ent) (a1 : Int) (r1 : Int) (r2 : ByteArray) (r3 : Int) (w : World) (hq0 : WOK w G_ a0) (h : access_Package.f a0 a1 = some (r1, r2, r3)) :
    Calls Tryd.prog 12 #[.pointer (some ⟨G_, 0, none⟩), .int .i64 a1] w fun e w' => e = .returned (.tuple #[.int .i64 r1, .string r2, .int .i64 r3]) ∧ Below w.heap.size w w' := by
  have hu61 := Tryd.underlying61
  have hu44 := Tryd.underlying44
  have HQa0 := Aside0.mk hq0
  clear hq0
  have HB := Aside0.mk (Below.refl w.heap.size w)
  have H : ((access_homeOf.f a0 a1).bind fun bt181 => (some (bt181.1, bt181.2.1, bt181.2.2.2.2.2.2.2.2))) = some (r1, r2, r3) := h
  clear h
  replace H := Option.bind_eq_some_iff.mp H
  obtain ⟨⟨t181, t182, t183, t184, t185, t188, t189, t190, t193⟩, A30, H⟩ := H
  replace H : (some (t181, t182, t193)) = some (r1, r2, r3) := H
  have A3 := Aside0.mk A30
  clear A30
  simp only [Option.some.injEq, Prod.mk.injEq] at H
  obtain ⟨rfl, rfl, rfl⟩ := H
  go_enter Tryd.func12, Tryd.ntmps12
  go_wp2_with (first | (go_at_call 24; (with_reducible refine (access_homeOf.calls G_ a0 a1 t181 t182 t183 t184 t185 t188 t189 t190 t193 _ ?side1 A3.out).mono ?_); (case side1 => repeat (first | (with_reducible exact HQa0.out) | (with_reducible refine WOK.alloc ?_ _) | (with_reducible refine WOK.drewN ?_ _) | (with_reducible refine WOK.drew ?_) | exact WOK.below HQa0.out HB.out | exact WOK.below HQa0.out (by repeat (first | (with_reducible first | exact HB.out | apply below_alloc | apply pw_below_drewN | apply below_drew1) | exact HB.out)))); rintro e w4 ⟨v186, v191, rfl, ho0, ho1, hb⟩; have n0_ := Aside0.mk (Kd.R_lower ho0 (below_size (by repeat (first | (with_reducible first | exact HB.out | apply below_alloc | apply pw_below_drewN | apply below_drew1) | exact HB.out)))); have n1_ := Aside0.mk (Kd.R_lower ho1 (below_size (by repeat (first | (with_reducible first | exact HB.out | apply below_alloc | apply pw_below_drewN | apply below_drew1) | exact HB.out)))); have n2_ := Aside0.mk (below_step (by repeat (first | (with_reducible first | exact HB.out | apply below_alloc | apply pw_below_drewN | apply below_drew1) | exact HB.out)) hb); clear HB; have HO187 := n0_; have HO192 := n1_; have HB := n2_; clear n0_ n1_ n2_; (try clear hb); (try clear hb2); (try clear hk); (try clear hi); (try clear ho0); (try clear ho1)) | ((with_reducible refine gate_dst (N := 7) rfl ?_); refine box_event ?hg (N := 7) ?hd (cs := #[.int .i64 0, .string (⟨#[]⟩ : ByteArray)]) (t := 61) ?hr ?_; (case hd => rfl); (case hg => rfl); (case hr => first | (go_simp; done) | (go_simp; rfl)); intro gb194 hg w5 hbox hb; have n0_ := Aside0.mk (Kd.R_below (by (with_reducible repeat (first | apply Kd.R_alloc | apply Kd.R_drewN | apply Kd.R_drew)); exact HO187.out) hb); have n1_ := Aside0.mk (Kd.R_below (by (with_reducible repeat (first | apply Kd.R_alloc | apply Kd.R_drewN | apply Kd.R_drew)); exact HO192.out) hb); have n2_ := Aside0.mk (below_step (by repeat (first | (with_reducible first | exact HB.out | apply below_alloc | apply pw_below_drewN | apply below_drew1) | exact HB.out)) hb); have n3_ := Aside0.mk (hbox); have n4_ := Aside0.mk ((by rw [hg]; exact (below_size (by repeat (first | (with_reducible first | exact HB.out | apply below_alloc | apply pw_below_drewN | apply below_drew1) | exact HB.out))) : w.heap.size ≤ gb194)); have n5_ := Aside0.mk ((by rw [hg]; exact (below_size (by repeat (first | (with_reducible first | exact HB.out | apply below_alloc | apply pw_below_drewN | apply below_drew1) | exact HB.out))) : w.heap.size ≤ gb194)); clear HO187; clear HO192; clear HB; have HO187 := n0_; have HO192 := n1_; have HB := n2_; have BK194 := n3_; have GW194 := n4_; have GE194 := n5_; clear n0_ n1_ n2_ n3_ n4_ n5_; clear hb hbox hg) | ((with_reducible refine gate_dst (N := 8) rfl ?_); refine box_event ?hg (N := 8) ?hd (cs := #[.string (⟨#[]⟩ : ByteArray), .string (⟨#[]⟩ : ByteArray), .slice none 0 0, .int .i64 0, .int .i64 0, .slice none 0 0]) (t := 44) ?hr ?_; (case hd => rfl); (case hg => rfl); (case hr => first | (go_simp; done) | (go_simp; rfl)); intro gb195 hg w6 hbox hb; have n0_ := Aside0.mk (Kd.R_below (by (with_reducible repeat (first | apply Kd.R_alloc | apply Kd.R_drewN | apply Kd.R_drew)); exact HO187.out) hb); have n1_ := Aside0.mk (Kd.R_below (by (with_reducible repeat (first | apply Kd.R_alloc | apply Kd.R_drewN | apply Kd.R_drew)); exact HO192.out) hb); have n2_ := Aside0.mk (blk_below (g := gb194) (o := .cells #[.int .i64 0, .string (⟨#[]⟩ : ByteArray)] 61 (0, 0)) (by (with_reducible repeat (first | refine blk_drewN ?_ _ | refine blk_drew ?_ | refine blk_alloc ?_ _)); exact BK194.out) hb); have n3_ := Aside0.mk (below_step (by repeat (first | (with_reducible first | exact HB.out | apply below_alloc | apply pw_below_drewN | apply below_drew1 | refine below_set ?_ GE194.out) | exact HB.out)) hb); have n4_ := Aside0.mk (hbox); have n5_ := Aside0.mk ((by rw [hg]; exact (below_size (by repeat (first | (with_reducible first | exact HB.out | apply below_alloc | apply pw_below_drewN | apply below_drew1 | refine below_set ?_ GE194.out) | exact HB.out))) : w.heap.size ≤ gb195)); have n6_ := Aside0.mk ((by rw [hg]; exact (below_size (by repeat (first | (with_reducible first | exact HB.out | apply below_alloc | apply pw_below_drewN | apply below_drew1 | refine below_set ?_ GE194.out) | exact HB.out))) : w.heap.size ≤ gb195)); have n7_ := Aside0.mk ((by rw [hg]; exact Nat.ne_of_lt (blk_lt (g := gb194) (o := .cells #[.int .i64 0, .string (⟨#[]⟩ : ByteArray)] 61 (0, 0)) (by (with_reducible repeat (first | refine blk_drewN ?_ _ | refine blk_drew ?_ | refine blk_alloc ?_ _)); exact BK194.out)) : gb194 ≠ gb195)); have n8_ := Aside0.mk ((by rw [hg]; exact Nat.ne_of_gt (blk_lt (g := gb194) (o := .cells #[.int .i64 0, .string (⟨#[]⟩ : ByteArray)] 61 (0, 0)) (by (with_reducible repeat (first | refine blk_drewN ?_ _ | refine blk_drew ?_ | refine blk_alloc ?_ _)); exact BK194.out)) : gb195 ≠ gb194)); clear HO187; clear HO192; clear BK194; clear HB; have HO187 := n0_; have HO192 := n1_; have BK194 := n2_; have HB := n3_; have BK195 := n4_; have GW195 := n5_; have GE195 := n6_; have NB194_195 := n7_; have NB195_194 := n8_; clear n0_ n1_ n2_ n3_ n4_ n5_ n6_ n7_ n8_; clear hb hbox hg; have hnb7 := NB194_195.out; have hnc7 := NB195_194.out; have hcz8_0 : w6.cell? ⟨gb194, 0, none⟩ = some (.int .i64 0) := (blk_cell BK194.out 0).trans rfl; have hcz8_1 : w6.cell? ⟨gb194, 1, none⟩ = some (.string (⟨#[]⟩ : ByteArray)) := (blk_cell BK194.out 1).trans rfl; have hfz8_0 := blk_frozen BK194.out 0; have hfz8_1 := blk_frozen BK194.out 1; have hcz9_0 : w6.cell? ⟨gb195, 0, none⟩ = some (.string (⟨#[]⟩ : ByteArray)) := (blk_cell BK195.out 0).trans rfl; have hcz9_1 : w6.cell? ⟨gb195, 1, none⟩ = some (.string (⟨#[]⟩ : ByteArray)) := (blk_cell BK195.out 1).trans rfl; have hcz9_2 : w6.cell? ⟨gb195, 2, none⟩ = some (.slice none 0 0) := (blk_cell BK195.out 2).trans rfl; have hcz9_3 : w6.cell? ⟨gb195, 3, none⟩ = some (.int .i64 0) := (blk_cell BK195.out 3).trans rfl; have hcz9_4 : w6.cell? ⟨gb195, 4, none⟩ = some (.int .i64 0) := (blk_cell BK195.out 4).trans rfl; have hcz9_5 : w6.cell? ⟨gb195, 5, none⟩ = some (.slice none 0 0) := (blk_cell BK195.out 5).trans rfl; have hfz9_0 := blk_frozen BK195.out 0; have hfz9_1 := blk_frozen BK195.out 1; have hfz9_2 := blk_frozen BK195.out 2; have hfz9_3 := blk_frozen BK195.out 3; have hfz9_4 := blk_frozen BK195.out 4; have hfz9_5 := blk_frozen BK195.out 5; obtain ⟨Ao10, co10, eo10⟩ := Kd.R_slice HO187.out; subst eo10; obtain ⟨Ao11, co11, eo11⟩ := Kd.R_slice HO192.out; subst eo11))
  repeat (go_quiet (first | (go_at_call 24; (with_reducible refine (access_homeOf.calls G_ a0 a1 t181 t182 t183 t184 t185 t188 t189 t190 t193 _ ?side1 A3.out).mono ?_); (case side1 => repeat (first | (with_reducible exact HQa0.out) | (with_reducible refine WOK.alloc ?_ _) | (with_reducible refine WOK.drewN ?_ _) | (with_reducible refine WOK.drew ?_) | exact WOK.below HQa0.out HB.out | exact WOK.below HQa0.out (by repeat (first | (with_reducible first | exact HB.out | apply below_alloc | apply pw_below_drewN | apply below_drew1) | exact HB.out)))); rintro e w4 ⟨v186, v191, rfl, ho0, ho1, hb⟩; have n0_ := Aside0.mk (Kd.R_lower ho0 (below_size (by repeat (first | (with_reducible first | exact HB.out | apply below_alloc | apply pw_below_drewN | apply below_drew1) | exact HB.out)))); have n1_ := Aside0.mk (Kd.R_lower ho1 (below_size (by repeat (first | (with_reducible first | exact HB.out | apply below_alloc | apply pw_below_drewN | apply below_drew1) | exact HB.out)))); have n2_ := Aside0.mk (below_step (by repeat (first | (with_reducible first | exact HB.out | apply below_alloc | apply pw_below_drewN | apply below_drew1) | exact HB.out)) hb); clear HB; have HO187 := n0_; have HO192 := n1_; have HB := n2_; clear n0_ n1_ n2_; (try clear hb); (try clear hb2); (try clear hk); (try clear hi); (try clear ho0); (try clear ho1)) | ((with_reducible refine gate_dst (N := 7) rfl ?_); refine box_event ?hg (N := 7) ?hd (cs := #[.int .i64 0, .string (⟨#[]⟩ : ByteArray)]) (t := 61) ?hr ?_; (case hd => rfl); (case hg => rfl); (case hr => first | (go_simp; done) | (go_simp; rfl)); intro gb194 hg w5 hbox hb; have n0_ := Aside0.mk (Kd.R_below (by (with_reducible repeat (first | apply Kd.R_alloc | apply Kd.R_drewN | apply Kd.R_drew)); exact HO187.out) hb); have n1_ := Aside0.mk (Kd.R_below (by (with_reducible repeat (first | apply Kd.R_alloc | apply Kd.R_drewN | apply Kd.R_drew)); exact HO192.out) hb); have n2_ := Aside0.mk (below_step (by repeat (first | (with_reducible first | exact HB.out | apply below_alloc | apply pw_below_drewN | apply below_drew1) | exact HB.out)) hb); have n3_ := Aside0.mk (hbox); have n4_ := Aside0.mk ((by rw [hg]; exact (below_size (by repeat (first | (with_reducible first | exact HB.out | apply below_alloc | apply pw_below_drewN | apply below_drew1) | exact HB.out))) : w.heap.size ≤ gb194)); have n5_ := Aside0.mk ((by rw [hg]; exact (below_size (by repeat (first | (with_reducible first | exact HB.out | apply below_alloc | apply pw_below_drewN | apply below_drew1) | exact HB.out))) : w.heap.size ≤ gb194)); clear HO187; clear HO192; clear HB; have HO187 := n0_; have HO192 := n1_; have HB := n2_; have BK194 := n3_; have GW194 := n4_; have GE194 := n5_; clear n0_ n1_ n2_ n3_ n4_ n5_; clear hb hbox hg) | ((with_reducible refine gate_dst (N := 8) rfl ?_); refine box_event ?hg (N := 8) ?hd (cs := #[.string (⟨#[]⟩ : ByteArray), .string (⟨#[]⟩ : ByteArray), .slice none 0 0, .int .i64 0, .int .i64 0, .slice none 0 0]) (t := 44) ?hr ?_; (case hd => rfl); (case hg => rfl); (case hr => first | (go_simp; done) | (go_simp; rfl)); intro gb195 hg w6 hbox hb; have n0_ := Aside0.mk (Kd.R_below (by (with_reducible repeat (first | apply Kd.R_alloc | apply Kd.R_drewN | apply Kd.R_drew)); exact HO187.out) hb); have n1_ := Aside0.mk (Kd.R_below (by (with_reducible repeat (first | apply Kd.R_alloc | apply Kd.R_drewN | apply Kd.R_drew)); exact HO192.out) hb); have n2_ := Aside0.mk (blk_below (g := gb194) (o := .cells #[.int .i64 0, .string (⟨#[]⟩ : ByteArray)] 61 (0, 0)) (by (with_reducible repeat (first | refine blk_drewN ?_ _ | refine blk_drew ?_ | refine blk_alloc ?_ _)); exact BK194.out) hb); have n3_ := Aside0.mk (below_step (by repeat (first | (with_reducible first | exact HB.out | apply below_alloc | apply pw_below_drewN | apply below_drew1 | refine below_set ?_ GE194.out) | exact HB.out)) hb); have n4_ := Aside0.mk (hbox); have n5_ := Aside0.mk ((by rw [hg]; exact (below_size (by repeat (first | (with_reducible first | exact HB.out | apply below_alloc | apply pw_below_drewN | apply below_drew1 | refine below_set ?_ GE194.out) | exact HB.out))) : w.heap.size ≤ gb195)); have n6_ := Aside0.mk ((by rw [hg]; exact (below_size (by repeat (first | (with_reducible first | exact HB.out | apply below_alloc | apply pw_below_drewN | apply below_drew1 | refine below_set ?_ GE194.out) | exact HB.out))) : w.heap.size ≤ gb195)); have n7_ := Aside0.mk ((by rw [hg]; exact Nat.ne_of_lt (blk_lt (g := gb194) (o := .cells #[.int .i64 0, .string (⟨#[]⟩ : ByteArray)] 61 (0, 0)) (by (with_reducible repeat (first | refine blk_drewN ?_ _ | refine blk_drew ?_ | refine blk_alloc ?_ _)); exact BK194.out)) : gb194 ≠ gb195)); have n8_ := Aside0.mk ((by rw [hg]; exact Nat.ne_of_gt (blk_lt (g := gb194) (o := .cells #[.int .i64 0, .string (⟨#[]⟩ : ByteArray)] 61 (0, 0)) (by (with_reducible repeat (first | refine blk_drewN ?_ _ | refine blk_drew ?_ | refine blk_alloc ?_ _)); exact BK194.out)) : gb195 ≠ gb194)); clear HO187; clear HO192; clear BK194; clear HB; have HO187 := n0_; have HO192 := n1_; have BK194 := n2_; have HB := n3_; have BK195 := n4_; have GW195 := n5_; have GE195 := n6_; have NB194_195 := n7_; have NB195_194 := n8_; clear n0_ n1_ n2_ n3_ n4_ n5_ n6_ n7_ n8_; clear hb hbox hg; have hnb7 := NB194_195.out; have hnc7 := NB195_194.out; have hcz8_0 : w6.cell? ⟨gb194, 0, none⟩ = some (.int .i64 0) := (blk_cell BK194.out 0).trans rfl; have hcz8_1 : w6.cell? ⟨gb194, 1, none⟩ = some (.string (⟨#[]⟩ : ByteArray)) := (blk_cell BK194.out 1).trans rfl; have hfz8_0 := blk_frozen BK194.out 0; have hfz8_1 := blk_frozen BK194.out 1; have hcz9_0 : w6.cell? ⟨gb195, 0, none⟩ = some (.string (⟨#[]⟩ : ByteArray)) := (blk_cell BK195.out 0).trans rfl; have hcz9_1 : w6.cell? ⟨gb195, 1, none⟩ = some (.string (⟨#[]⟩ : ByteArray)) := (blk_cell BK195.out 1).trans rfl; have hcz9_2 : w6.cell? ⟨gb195, 2, none⟩ = some (.slice none 0 0) := (blk_cell BK195.out 2).trans rfl; have hcz9_3 : w6.cell? ⟨gb195, 3, none⟩ = some (.int .i64 0) := (blk_cell BK195.out 3).trans rfl; have hcz9_4 : w6.cell? ⟨gb195, 4, none⟩ = some (.int .i64 0) := (blk_cell BK195.out 4).trans rfl; have hcz9_5 : w6.cell? ⟨gb195, 5, none⟩ = some (.slice none 0 0) := (blk_cell BK195.out 5).trans rfl; have hfz9_0 := blk_frozen BK195.out 0; have hfz9_1 := blk_frozen BK195.out 1; have hfz9_2 := blk_frozen BK195.out 2; have hfz9_3 := blk_frozen BK195.out 3; have hfz9_4 := blk_frozen BK195.out 4; have hfz9_5 := blk_frozen BK195.out 5; obtain ⟨Ao10, co10, eo10⟩ := Kd.R_slice HO187.out; subst eo10; obtain ⟨Ao11, co11, eo11⟩ := Kd.R_slice HO192.out; subst eo11)); try go_wp2_with (first | (go_at_call 24; (with_reducible refine (access_homeOf.calls G_ a0 a1 t181 t182 t183 t184 t185 t188 t189 t190 t193 _ ?side1 A3.out).mono ?_); (case side1 => repeat (first | (with_reducible exact HQa0.out) | (with_reducible refine WOK.alloc ?_ _) | (with_reducible refine WOK.drewN ?_ _) | (with_reducible refine WOK.drew ?_) | exact WOK.below HQa0.out HB.out | exact WOK.below HQa0.out (by repeat (first | (with_reducible first | exact HB.out | apply below_alloc | apply pw_below_drewN | apply below_drew1) | exact HB.out)))); rintro e w4 ⟨v186, v191, rfl, ho0, ho1, hb⟩; have n0_ := Aside0.mk (Kd.R_lower ho0 (below_size (by repeat (first | (with_reducible first | exact HB.out | apply below_alloc | apply pw_below_drewN | apply below_drew1) | exact HB.out)))); have n1_ := Aside0.mk (Kd.R_lower ho1 (below_size (by repeat (first | (with_reducible first | exact HB.out | apply below_alloc | apply pw_below_drewN | apply below_drew1) | exact HB.out)))); have n2_ := Aside0.mk (below_step (by repeat (first | (with_reducible first | exact HB.out | apply below_alloc | apply pw_below_drewN | apply below_drew1) | exact HB.out)) hb); clear HB; have HO187 := n0_; have HO192 := n1_; have HB := n2_; clear n0_ n1_ n2_; (try clear hb); (try clear hb2); (try clear hk); (try clear hi); (try clear ho0); (try clear ho1)) | ((with_reducible refine gate_dst (N := 7) rfl ?_); refine box_event ?hg (N := 7) ?hd (cs := #[.int .i64 0, .string (⟨#[]⟩ : ByteArray)]) (t := 61) ?hr ?_; (case hd => rfl); (case hg => rfl); (case hr => first | (go_simp; done) | (go_simp; rfl)); intro gb194 hg w5 hbox hb; have n0_ := Aside0.mk (Kd.R_below (by (with_reducible repeat (first | apply Kd.R_alloc | apply Kd.R_drewN | apply Kd.R_drew)); exact HO187.out) hb); have n1_ := Aside0.mk (Kd.R_below (by (with_reducible repeat (first | apply Kd.R_alloc | apply Kd.R_drewN | apply Kd.R_drew)); exact HO192.out) hb); have n2_ := Aside0.mk (below_step (by repeat (first | (with_reducible first | exact HB.out | apply below_alloc | apply pw_below_drewN | apply below_drew1) | exact HB.out)) hb); have n3_ := Aside0.mk (hbox); have n4_ := Aside0.mk ((by rw [hg]; exact (below_size (by repeat (first | (with_reducible first | exact HB.out | apply below_alloc | apply pw_below_drewN | apply below_drew1) | exact HB.out))) : w.heap.size ≤ gb194)); have n5_ := Aside0.mk ((by rw [hg]; exact (below_size (by repeat (first | (with_reducible first | exact HB.out | apply below_alloc | apply pw_below_drewN | apply below_drew1) | exact HB.out))) : w.heap.size ≤ gb194)); clear HO187; clear HO192; clear HB; have HO187 := n0_; have HO192 := n1_; have HB := n2_; have BK194 := n3_; have GW194 := n4_; have GE194 := n5_; clear n0_ n1_ n2_ n3_ n4_ n5_; clear hb hbox hg) | ((with_reducible refine gate_dst (N := 8) rfl ?_); refine box_event ?hg (N := 8) ?hd (cs := #[.string (⟨#[]⟩ : ByteArray), .string (⟨#[]⟩ : ByteArray), .slice none 0 0, .int .i64 0, .int .i64 0, .slice none 0 0]) (t := 44) ?hr ?_; (case hd => rfl); (case hg => rfl); (case hr => first | (go_simp; done) | (go_simp; rfl)); intro gb195 hg w6 hbox hb; have n0_ := Aside0.mk (Kd.R_below (by (with_reducible repeat (first | apply Kd.R_alloc | apply Kd.R_drewN | apply Kd.R_drew)); exact HO187.out) hb); have n1_ := Aside0.mk (Kd.R_below (by (with_reducible repeat (first | apply Kd.R_alloc | apply Kd.R_drewN | apply Kd.R_drew)); exact HO192.out) hb); have n2_ := Aside0.mk (blk_below (g := gb194) (o := .cells #[.int .i64 0, .string (⟨#[]⟩ : ByteArray)] 61 (0, 0)) (by (with_reducible repeat (first | refine blk_drewN ?_ _ | refine blk_drew ?_ | refine blk_alloc ?_ _)); exact BK194.out) hb); have n3_ := Aside0.mk (below_step (by repeat (first | (with_reducible first | exact HB.out | apply below_alloc | apply pw_below_drewN | apply below_drew1 | refine below_set ?_ GE194.out) | exact HB.out)) hb); have n4_ := Aside0.mk (hbox); have n5_ := Aside0.mk ((by rw [hg]; exact (below_size (by repeat (first | (with_reducible first | exact HB.out | apply below_alloc | apply pw_below_drewN | apply below_drew1 | refine below_set ?_ GE194.out) | exact HB.out))) : w.heap.size ≤ gb195)); have n6_ := Aside0.mk ((by rw [hg]; exact (below_size (by repeat (first | (with_reducible first | exact HB.out | apply below_alloc | apply pw_below_drewN | apply below_drew1 | refine below_set ?_ GE194.out) | exact HB.out))) : w.heap.size ≤ gb195)); have n7_ := Aside0.mk ((by rw [hg]; exact Nat.ne_of_lt (blk_lt (g := gb194) (o := .cells #[.int .i64 0, .string (⟨#[]⟩ : ByteArray)] 61 (0, 0)) (by (with_reducible repeat (first | refine blk_drewN ?_ _ | refine blk_drew ?_ | refine blk_alloc ?_ _)); exact BK194.out)) : gb194 ≠ gb195)); have n8_ := Aside0.mk ((by rw [hg]; exact Nat.ne_of_gt (blk_lt (g := gb194) (o := .cells #[.int .i64 0, .string (⟨#[]⟩ : ByteArray)] 61 (0, 0)) (by (with_reducible repeat (first | refine blk_drewN ?_ _ | refine blk_drew ?_ | refine blk_alloc ?_ _)); exact BK194.out)) : gb195 ≠ gb194)); clear HO187; clear HO192; clear BK194; clear HB; have HO187 := n0_; have HO192 := n1_; have BK194 := n2_; have HB := n3_; have BK195 := n4_; have GW195 := n5_; have GE195 := n6_; have NB194_195 := n7_; have NB195_194 := n8_; clear n0_ n1_ n2_ n3_ n4_ n5_ n6_ n7_ n8_; clear hb hbox hg; have hnb7 := NB194_195.out; have hnc7 := NB195_194.out; have hcz8_0 : w6.cell? ⟨gb194, 0, none⟩ = some (.int .i64 0) := (blk_cell BK194.out 0).trans rfl; have hcz8_1 : w6.cell? ⟨gb194, 1, none⟩ = some (.string (⟨#[]⟩ : ByteArray)) := (blk_cell BK194.out 1).trans rfl; have hfz8_0 := blk_frozen BK194.out 0; have hfz8_1 := blk_frozen BK194.out 1; have hcz9_0 : w6.cell? ⟨gb195, 0, none⟩ = some (.string (⟨#[]⟩ : ByteArray)) := (blk_cell BK195.out 0).trans rfl; have hcz9_1 : w6.cell? ⟨gb195, 1, none⟩ = some (.string (⟨#[]⟩ : ByteArray)) := (blk_cell BK195.out 1).trans rfl; have hcz9_2 : w6.cell? ⟨gb195, 2, none⟩ = some (.slice none 0 0) := (blk_cell BK195.out 2).trans rfl; have hcz9_3 : w6.cell? ⟨gb195, 3, none⟩ = some (.int .i64 0) := (blk_cell BK195.out 3).trans rfl; have hcz9_4 : w6.cell? ⟨gb195, 4, none⟩ = some (.int .i64 0) := (blk_cell BK195.out 4).trans rfl; have hcz9_5 : w6.cell? ⟨gb195, 5, none⟩ = some (.slice none 0 0) := (blk_cell BK195.out 5).trans rfl; have hfz9_0 := blk_frozen BK195.out 0; have hfz9_1 := blk_frozen BK195.out 1; have hfz9_2 := blk_frozen BK195.out 2; have hfz9_3 := blk_frozen BK195.out 3; have hfz9_4 := blk_frozen BK195.out 4; have hfz9_5 := blk_frozen BK195.out 5; obtain ⟨Ao10, co10, eo10⟩ := Kd.R_slice HO187.out; subst eo10; obtain ⟨Ao11, co11, eo11⟩ := Kd.R_slice HO192.out; subst eo11)))
  go_ret3
  exact ⟨by first | rfl | (simp [errW_none, errW_some] <;> rfl) | (simp [*, errW_none, errW_some] <;> rfl), by repeat (first | (with_reducible first | exact HB.out | apply below_alloc | apply pw_below_drewN | apply below_drew1 | refine below_set ?_ GE194.out | refine below_set ?_ GE195.out) | exact HB.out)⟩

end Go.Proofs.YtmlifggklaeieaaDoor.Pt

/- Access asked of a nil world. -/
namespace Go.Proofs.YtmlifggklaeieaaDoor.Pt
open Go Go.RowKit Go.Proofs.YtmlifggklaeieaaDoor.Nm Go.Proofs.YtmlifggklaeieaaDoor.Hi Go.Proofs.YtmlifggklaeieaaDoorW.PrintWords Go.Proofs.YtmlifggklaeieaaDoorW.PrintLast Go.Proofs.YtmlifggklaeieaaDoorW.PrintMore
set_option linter.unusedVariables false
set_option linter.unusedSimpArgs false
set_option maxHeartbeats 2000000
set_option maxRecDepth 100000

theorem below_set2 {W0 W : World} {base g : Nat} (h : Below base W0 W) (hg : base ≤ g) (u0 u1 : Value) : Below base W0 ((W.setCell ⟨g, 0, none⟩ u0).setCell ⟨g, 1, none⟩ u1) := (h.setCell (p := ⟨g, 0, none⟩) hg u0).setCell (p := ⟨g, 1, none⟩) hg u1
theorem access_ClassOpen_nil.calls (a1 : Int) (a2 : Int) (r1 : Bool) (r2 : Int) (w : World) (h : access_ClassOpen_nil.f a1 a2 = some (r1, r2)) :
    Calls Tryd.prog 9 #[.pointer none, .int .i64 a1, .int .i64 a2] w fun e w' => e = .returned (.tuple #[.bool r1, .int .i64 r2]) ∧ Below w.heap.size w w' := by
  have h := Option.some.inj h
  simp only [Prod.mk.injEq] at h
  obtain ⟨rfl, rfl⟩ := h
  have HN := Lib.hid (home_nil a1)
  go_enter Tryd.func9, Tryd.ntmps9
  go_wp2_with fail
  refine (HN.out _).mono ?_
  rintro e w1 ⟨vc, rfl, ⟨v2, v5, rfl, R2, R5⟩, hb⟩
  obtain ⟨A2, c2, rfl⟩ := Kd.R_slice R2
  obtain ⟨A5, c5, rfl⟩ := Kd.R_slice R5
  have HB : Hid (Below w.heap.size w w1) := Lib.hid (hb)
  clear R2 R5 hb
  rw [show homeV 0 ⟨#[]⟩ = .agg #[.int .i64 0, .string ⟨#[]⟩] from rfl]
  go_wp2
  go_ret2
  exact ⟨rfl, by repeat (first | exact HB.out | refine below_alloc ?_ _)⟩
theorem access_TypeOpen_nil.calls (a1 : Int) (a2_0 : Int) (a2_1 : ByteArray) (r1 : Bool) (r2 : Int) (w : World) (h : access_TypeOpen_nil.f a1 a2_0 a2_1 = some (r1, r2)) :
    Calls Tryd.prog 10 #[.pointer none, .int .i64 a1, .agg #[.int .i64 a2_0, .string a2_1]] w fun e w' => e = .returned (.tuple #[.bool r1, .int .i64 r2]) ∧ Below w.heap.size w w' := by
  have h := Option.some.inj h
  simp only [Prod.mk.injEq] at h
  obtain ⟨rfl, rfl⟩ := h
  have HN := Lib.hid (home_nil a1)
  go_enter Tryd.func10, Tryd.ntmps10
  go_wp2_with fail
  refine (HN.out _).mono ?_
  rintro e w1 ⟨vc, rfl, ⟨v2, v5, rfl, R2, R5⟩, hb⟩
  obtain ⟨A2, c2, rfl⟩ := Kd.R_slice R2
  obtain ⟨A5, c5, rfl⟩ := Kd.R_slice R5
  have HB : Hid (Below w.heap.size w w1) := Lib.hid ((below_alloc (Below.refl w.heap.size w) _).trans (hb.mono (by simp)))
  clear R2 R5 hb
  rw [show homeV 0 ⟨#[]⟩ = .agg #[.int .i64 0, .string ⟨#[]⟩] from rfl]
  go_wp2
  go_ret2
  exact ⟨rfl, by repeat (first | exact HB.out | refine below_alloc ?_ _)⟩
theorem access_MethodOpen_nil.calls (a1 : Int) (a2_0 : Int) (a2_1 : Int) (a3 : Int) (r1 : Bool) (r2 : Int) (w : World) (h : access_MethodOpen_nil.f a1 a2_0 a2_1 a3 = some (r1, r2)) :
    Calls Tryd.prog 11 #[.pointer none, .int .i64 a1, .agg #[.int .i64 a2_0, .int .i64 a2_1], .int .i64 a3] w fun e w' => e = .returned (.tuple #[.bool r1, .int .i64 r2]) ∧ Below w.heap.size w w' := by
  have h := Option.some.inj h
  simp only [Prod.mk.injEq] at h
  obtain ⟨rfl, rfl⟩ := h
  have HN := Lib.hid (home_nil a1)
  go_enter Tryd.func11, Tryd.ntmps11
  go_wp2_with fail
  refine (HN.out _).mono ?_
  rintro e w1 ⟨vc, rfl, ⟨v2, v5, rfl, R2, R5⟩, hb⟩
  obtain ⟨A2, c2, rfl⟩ := Kd.R_slice R2
  obtain ⟨A5, c5, rfl⟩ := Kd.R_slice R5
  have HB : Hid (Below w.heap.size w w1) := Lib.hid ((below_alloc (Below.refl w.heap.size w) _).trans (hb.mono (by simp)))
  clear R2 R5 hb
  rw [show homeV 0 ⟨#[]⟩ = .agg #[.int .i64 0, .string ⟨#[]⟩] from rfl]
  go_wp2
  go_ret2
  exact ⟨rfl, by repeat (first | exact HB.out | refine below_alloc ?_ _)⟩
theorem access_Package_nil.calls (a1 : Int) (r1 : Int) (r2 : ByteArray) (r3 : Int) (w : World) (h : access_Package_nil.f a1 = some (r1, r2, r3)) :
    Calls Tryd.prog 12 #[.pointer none, .int .i64 a1] w fun e w' => e = .returned (.tuple #[.int .i64 r1, .string r2, .int .i64 r3]) ∧ Below w.heap.size w w' := by
  have h := Option.some.inj h
  simp only [Prod.mk.injEq] at h
  obtain ⟨rfl, rfl, rfl⟩ := h
  have HN := Lib.hid (home_nil a1)
  go_enter Tryd.func12, Tryd.ntmps12
  go_wp2_with fail
  refine (HN.out _).mono ?_
  rintro e w1 ⟨vc, rfl, ⟨v2, v5, rfl, R2, R5⟩, hb⟩
  obtain ⟨A2, c2, rfl⟩ := Kd.R_slice R2
  obtain ⟨A5, c5, rfl⟩ := Kd.R_slice R5
  have HB : Hid (Below w.heap.size w w1) := Lib.hid (hb)
  clear R2 R5 hb
  rw [show homeV 0 ⟨#[]⟩ = .agg #[.int .i64 0, .string ⟨#[]⟩] from rfl]
  go_wp2
  go_region
  all_goals go_wp2
  all_goals go_ret3
  all_goals exact ⟨rfl, by repeat (first | exact HB.out | apply below_drew1 | refine below_alloc ?_ _)⟩
end Go.Proofs.YtmlifggklaeieaaDoor.Pt

/- arbiterlaw08.awake: what the document fixes of a new world. -/
namespace Go.Proofs.YtmlifggklaeieaaDoor.Pt
open Go Go.RowKit Go.Proofs.YtmlifggklaeieaaDoor.Nm Go.Proofs.YtmlifggklaeieaaDoor.Hi Go.Proofs.YtmlifggklaeieaaDoorW.PrintWords Go.Proofs.YtmlifggklaeieaaDoorW.PrintLast Go.Proofs.YtmlifggklaeieaaDoorW.PrintMore
set_option linter.unusedVariables false
set_option linter.unusedSimpArgs false
set_option maxHeartbeats 2000000
set_option maxRecDepth 100000

theorem open_new : access_ClassOpen.f newE 1 0 = some (true, 0) := by
  unfold access_ClassOpen.f copenF
  rfl
def arbiterlaw08_awake.f : Option Bool := some true
theorem arbiterlaw08_awake.calls (r : Bool) (w : World) (h : arbiterlaw08_awake.f = some r) : Calls Tryd.prog 8 #[] w fun e w' => e = .returned (.bool r) ∧ Below w.heap.size w w' := by
  obtain rfl := Option.some.inj h
  go_enter Tryd.func8, Tryd.ntmps8
  go_wp2_with fail
  refine (new_any _).mono ?_
  rintro e w1 ⟨g, v, mb, ps, rfl, hI, hb⟩
  have HO := Lib.hid (access_ClassOpen.calls g newE 1 0 true 0 w1 (wok_new hI) open_new)
  have HB := Lib.hid hb
  clear hI hb
  go_wp2_with fail
  refine HO.out.mono ?_
  rintro e w2 ⟨rfl, hb2⟩
  have HB2 := Lib.hid (HB.out.trans (hb2.mono HB.out.size))
  clear hb2
  go_wp2
  go_ret
  exact ⟨rfl, HB2.out⟩
end Go.Proofs.YtmlifggklaeieaaDoor.Pt

/- The worlds of the laws: classes arrive, one at a time. -/
namespace Go.Proofs.YtmlifggklaeieaaDoor.Pt
open Go Go.RowKit Go.Proofs.YtmlifggklaeieaaDoor.Nm Go.Proofs.YtmlifggklaeieaaDoor.Hi Go.Proofs.YtmlifggklaeieaaDoorW.PrintWords Go.Proofs.YtmlifggklaeieaaDoorW.PrintLast Go.Proofs.YtmlifggklaeieaaDoorW.PrintMore
set_option linter.unusedVariables false
set_option linter.unusedSimpArgs false
set_option maxHeartbeats 2000000
set_option maxRecDepth 100000

theorem rd44 {l : List S44} {i : Nat} (h : i < l.length) : l[i]? = some (rd_T44 l (i : Int)) := by
  simp [rd_T44, List.getD_eq_getElem?_getD, List.getElem?_eq_getElem h]

def arbiterlaw07_built.f (l0 : List (S44)) : Option (List Hi.Ent) := some (builtF l0)
theorem arbiterlaw07_built.calls (A0 : Option Addr) (c0 : Nat) (l0 : List (S44)) (r : List Hi.Ent) (w : World) (hr0 : Kd.C k44 w A0 l0.length l0) (hc0 : l0.length ≤ c0) (h : arbiterlaw07_built.f l0 = some r) :
    Calls Tryd.prog 14 #[.slice A0 l0.length c0] w fun e w' => ∃ G_, e = .returned (.pointer (some ⟨G_, 0, none⟩)) ∧ WOK w' G_ r ∧ Below w.heap.size w w' := by
  obtain rfl := Option.some.inj h
  have HR := Lib.hid hr0
  have hmax := Kd.C_max hr0
  clear h hr0
  go_enter Tryd.func14, Tryd.ntmps14
  go_wp2_with fail
  refine (new_any _).mono ?_
  rintro e w1 ⟨g, v, mb, ps, rfl, hI, hb⟩
  have HI := Lib.hid hI
  have HB := Lib.hid hb
  clear hI hb
  go_wp2_with fail
  go_loopw [4] (fun v4 wr => ∃ j : Nat, j ≤ l0.length ∧ v4 = .int .i64 j ∧ Hid (∃ v ps, WIn wr w.heap.size g v mb ps (builtF (l0.take j))) ∧ Hid (Below w.heap.size w wr)) (fun v4 _ => l0.length - (intOf v4).toNat)
  case atStart => exact ⟨0, Nat.zero_le _, rfl, Lib.hid ⟨_, _, HI.out⟩, HB⟩
  case round =>
    clear HI HB
    obtain ⟨j, hj, rfl, HI, HB⟩ := hrel
    by_cases hlt : j < l0.length
    · have hjd : decide (j < l0.length) = true := decide_eq_true hlt
      obtain ⟨ad, A2, c2, A5, c5, rfl, q0, q1, q2, q3, q4, q5, hc2, K2, hc5, K5⟩ := at_T44 (Kd.C_below HR.out HB.out) (j : Int) (by omega) (by omega)
      have hx := rd44 hlt
      rw [Int.toNat_natCast] at q0 q1 q2 q3 q4 q5
      generalize rd_T44 l0 (j : Int) = x at *
      obtain ⟨v, ps, hI⟩ := HI.out
      have hst : Hid (builtF (l0.take (j + 1)) = stepF (builtF (l0.take j)) x) := Lib.hid (by
        unfold builtF
        rw [List.take_add_one, hx, List.foldl_append]
        rfl)
      have DF := Lib.hid (define_any wr w.heap.size g v mb ps _ hI HB.out.size (good_made (made_built _)) x.f0 x.f1 A2 c2 x.f2 x.f3 x.f4 A5 c5 x.f5 K2 hc2 K5 hc5 (chkC x) rfl (fun h => by
        obtain ⟨s0, s1, s2, s3, s5⟩ := sound_sizes h
        exact ⟨by omega, by omega, by omega, fun n hn => by have := s3 n hn; omega, s5⟩))
      clear K2 K5 hI HI hx
      obtain ⟨n0, n1, n2, n3, n4, n5⟩ := x
      go_wp2_with fail
      refine DF.out.mono ?_
      rintro e w2 ⟨rfl, v', ps', I2, hb2, hk2⟩
      replace I2 := Lib.hid I2
      have HB2 := Lib.hid (HB.out.trans hb2)
      clear hb2 hk2 DF HB q0 q1 q2 q3 q4 q5
      go_wp2
      exact ⟨⟨j + 1, by omega, by push_cast; rfl, Lib.hid ⟨_, _, by rw [hst.out]; exact I2.out⟩, HB2⟩, by simp [intOf]; omega⟩
    · have hjd : decide (j < l0.length) = false := decide_eq_false hlt
      have e1 : j = l0.length := by omega
      subst e1
      rw [List.take_length] at HI
      go_wp2
      go_ret
      obtain ⟨v, ps, hI⟩ := HI.out
      have hg := good_made (made_built l0)
      exact ⟨g, rfl, ⟨⟨_, _, _, _, hI⟩, hg.fine, hg.tree, by have := hg.len; omega⟩, HB.out⟩

def arbiterlaw08_built.f (l0 : List (S44)) : Option (List Hi.Ent) := some (builtF l0)
theorem arbiterlaw08_built.calls (A0 : Option Addr) (c0 : Nat) (l0 : List (S44)) (r : List Hi.Ent) (w : World) (hr0 : Kd.C k44 w A0 l0.length l0) (hc0 : l0.length ≤ c0) (h : arbiterlaw08_built.f l0 = some r) :
    Calls Tryd.prog 18 #[.slice A0 l0.length c0] w fun e w' => ∃ G_, e = .returned (.pointer (some ⟨G_, 0, none⟩)) ∧ WOK w' G_ r ∧ Below w.heap.size w w' := by
  obtain rfl := Option.some.inj h
  have HR := Lib.hid hr0
  have hmax := Kd.C_max hr0
  clear h hr0
  go_enter Tryd.func18, Tryd.ntmps18
  go_wp2_with fail
  refine (new_any _).mono ?_
  rintro e w1 ⟨g, v, mb, ps, rfl, hI, hb⟩
  have HI := Lib.hid hI
  have HB := Lib.hid hb
  clear hI hb
  go_wp2_with fail
  go_loopw [4] (fun v4 wr => ∃ j : Nat, j ≤ l0.length ∧ v4 = .int .i64 j ∧ Hid (∃ v ps, WIn wr w.heap.size g v mb ps (builtF (l0.take j))) ∧ Hid (Below w.heap.size w wr)) (fun v4 _ => l0.length - (intOf v4).toNat)
  case atStart => exact ⟨0, Nat.zero_le _, rfl, Lib.hid ⟨_, _, HI.out⟩, HB⟩
  case round =>
    clear HI HB
    obtain ⟨j, hj, rfl, HI, HB⟩ := hrel
    by_cases hlt : j < l0.length
    · have hjd : decide (j < l0.length) = true := decide_eq_true hlt
      obtain ⟨ad, A2, c2, A5, c5, rfl, q0, q1, q2, q3, q4, q5, hc2, K2, hc5, K5⟩ := at_T44 (Kd.C_below HR.out HB.out) (j : Int) (by omega) (by omega)
      have hx := rd44 hlt
      rw [Int.toNat_natCast] at q0 q1 q2 q3 q4 q5
      generalize rd_T44 l0 (j : Int) = x at *
      obtain ⟨v, ps, hI⟩ := HI.out
      have hst : Hid (builtF (l0.take (j + 1)) = stepF (builtF (l0.take j)) x) := Lib.hid (by
        unfold builtF
        rw [List.take_add_one, hx, List.foldl_append]
        rfl)
      have DF := Lib.hid (define_any wr w.heap.size g v mb ps _ hI HB.out.size (good_made (made_built _)) x.f0 x.f1 A2 c2 x.f2 x.f3 x.f4 A5 c5 x.f5 K2 hc2 K5 hc5 (chkC x) rfl (fun h => by
        obtain ⟨s0, s1, s2, s3, s5⟩ := sound_sizes h
        exact ⟨by omega, by omega, by omega, fun n hn => by have := s3 n hn; omega, s5⟩))
      clear K2 K5 hI HI hx
      obtain ⟨n0, n1, n2, n3, n4, n5⟩ := x
      go_wp2_with fail
      refine DF.out.mono ?_
      rintro e w2 ⟨rfl, v', ps', I2, hb2, hk2⟩
      replace I2 := Lib.hid I2
      have HB2 := Lib.hid (HB.out.trans hb2)
      clear hb2 hk2 DF HB q0 q1 q2 q3 q4 q5
      go_wp2
      exact ⟨⟨j + 1, by omega, by push_cast; rfl, Lib.hid ⟨_, _, by rw [hst.out]; exact I2.out⟩, HB2⟩, by simp [intOf]; omega⟩
    · have hjd : decide (j < l0.length) = false := decide_eq_false hlt
      have e1 : j = l0.length := by omega
      subst e1
      rw [List.take_length] at HI
      go_wp2
      go_ret
      obtain ⟨v, ps, hI⟩ := HI.out
      have hg := good_made (made_built l0)
      exact ⟨g, rfl, ⟨⟨_, _, _, _, hI⟩, hg.fine, hg.tree, by have := hg.len; omega⟩, HB.out⟩
end Go.Proofs.YtmlifggklaeieaaDoor.Pt

-- laid by a program of this session's own (a variant of the kit's print)
namespace Go.Proofs.YtmlifggklaeieaaDoor.Pt
open Go.RowKit Go.Proofs.YtmlifggklaeieaaDoorW.PrintWords Go.Proofs.YtmlifggklaeieaaDoorW.PrintLast Go.Proofs.YtmlifggklaeieaaDoorW.PrintMore
attribute [local go_sem] max2_int min2_int max_two min_two max_three min_three max_four min_four   -- for this text's walks alone
set_option linter.unusedVariables false
set_option linter.unusedSimpArgs false

/-! ### arbiterlaw08_AccessOpen: function 5 -/
mutual
def arbiterlaw08_AccessOpen.j0 : Nat → Int → Int → Int → List Hi.Ent → Bool → Int → Bool → ByteArray → ByteArray → List ByteArray → Int → Int → List (S51) → Option (Bool)
  | 0, _, _, _, _, _, _, _, _, _, _, _, _, _ => none
  | k + 1, x1, x2, x3, x9, x14, x15, x54, x253000, x253001, x253002, x253003, x253004, x253005 => if x54 = true then (if x15 = 3 then (some (!x14)) else (some false)) else ((access_ClassOpen.f x9 x2 x2).bind fun bt267 => (if bt267.1 = true then (if (Go.bits .and .i64 x253003 1) = 0 then ((hier_World_SamePackage.f x9 x2 x1).bind fun t269 => (arbiterlaw08_AccessOpen.j1 k x1 x2 x3 x9 x14 (x14 != t269) x253000 x253001 x253002 x253003 x253004 x253005)) else (arbiterlaw08_AccessOpen.j1 k x1 x2 x3 x9 x14 (x14 != true) x253000 x253001 x253002 x253003 x253004 x253005)) else (arbiterlaw08_AccessOpen.j1 k x1 x2 x3 x9 x14 true x253000 x253001 x253002 x253003 x253004 x253005)))
def arbiterlaw08_AccessOpen.j1 : Nat → Int → Int → Int → List Hi.Ent → Bool → Bool → ByteArray → ByteArray → List ByteArray → Int → Int → List (S51) → Option (Bool)
  | 0, _, _, _, _, _, _, _, _, _, _, _, _ => none
  | k + 1, x1, x2, x3, x9, x14, x83, x253000, x253001, x253002, x253003, x253004, x253005 => if x83 = true then (some false) else ((access_Package.f x9 x2).bind fun bt270 => ((access_Package.f x9 x1).bind fun bt273 => (if bt270.2.2 = 0 then (if bt273.2.2 = 0 then ((hier_World_SamePackage.f x9 x2 x1).bind fun t276 => (if bt270.1 = bt273.1 then (arbiterlaw08_AccessOpen.j2 k x1 x3 x9 x14 (t276 != (bt270.2.1.toList == bt273.2.1.toList)) x253000 x253001 x253002 x253003 x253004 x253005) else (arbiterlaw08_AccessOpen.j2 k x1 x3 x9 x14 (t276 != false) x253000 x253001 x253002 x253003 x253004 x253005))) else (arbiterlaw08_AccessOpen.j2 k x1 x3 x9 x14 true x253000 x253001 x253002 x253003 x253004 x253005)) else (arbiterlaw08_AccessOpen.j2 k x1 x3 x9 x14 true x253000 x253001 x253002 x253003 x253004 x253005))))
def arbiterlaw08_AccessOpen.j2 : Nat → Int → Int → List Hi.Ent → Bool → Bool → ByteArray → ByteArray → List ByteArray → Int → Int → List (S51) → Option (Bool)
  | 0, _, _, _, _, _, _, _, _, _, _, _ => none
  | k + 1, x1, x3, x9, x14, x118, x253000, x253001, x253002, x253003, x253004, x253005 => if x118 = true then (some false) else (if x3 < 0 then (some true) else (if x3 > 255 then (some true) else ((access_TypeOpen.f x9 x1 x3 x253000).bind fun bt277 => (if bt277.2 = 0 then (some (x14 == bt277.1)) else (some false)))))
end
def arbiterlaw08_AccessOpen.f (k : Nat) (l0 : List (S44)) (a1 : Int) (a2 : Int) (a3 : Int) : Option (Bool) := (arbiterlaw08_awake.f).bind fun t239 => (if t239 = true then ((arbiterlaw08_built.f l0).bind fun t240 => ((hier_World_Class.f t240 a2).bind fun bt241 => ((hier_World_Class.f t240 a1).bind fun bt253 => ((access_ClassOpen.f t240 a1 a2).bind fun bt265 => (if bt241.2.2.2.2.2.2 = 0 then (arbiterlaw08_AccessOpen.j0 k a1 a2 a3 t240 bt265.1 bt265.2 (bt253.2.2.2.2.2.2 != 0) bt241.1 bt241.2.1 bt241.2.2.1 bt241.2.2.2.1 bt241.2.2.2.2.1 bt241.2.2.2.2.2.1) else (arbiterlaw08_AccessOpen.j0 k a1 a2 a3 t240 bt265.1 bt265.2 true bt241.1 bt241.2.1 bt241.2.2.1 bt241.2.2.2.1 bt241.2.2.2.2.1 bt241.2.2.2.2.2.1)))))) else (some false))
theorem arbiterlaw08_AccessOpen.mono_l : ∀ k, (∀ y0 y1 y2 y3 y4 y5 y6 y7 y8 y9 y10 y11 y12, LeO (arbiterlaw08_AccessOpen.j0 k y0 y1 y2 y3 y4 y5 y6 y7 y8 y9 y10 y11 y12) (arbiterlaw08_AccessOpen.j0 (k + 1) y0 y1 y2 y3 y4 y5 y6 y7 y8 y9 y10 y11 y12)) ∧ (∀ y0 y1 y2 y3 y4 y5 y6 y7 y8 y9 y10 y11, LeO (arbiterlaw08_AccessOpen.j1 k y0 y1 y2 y3 y4 y5 y6 y7 y8 y9 y10 y11) (arbiterlaw08_AccessOpen.j1 (k + 1) y0 y1 y2 y3 y4 y5 y6 y7 y8 y9 y10 y11)) ∧ (∀ y0 y1 y2 y3 y4 y5 y6 y7 y8 y9 y10, LeO (arbiterlaw08_AccessOpen.j2 k y0 y1 y2 y3 y4 y5 y6 y7 y8 y9 y10) (arbiterlaw08_AccessOpen.j2 (k + 1) y0 y1 y2 y3 y4 y5 y6 y7 y8 y9 y10))
  | 0 => ⟨fun _ _ _ _ _ _ _ _ _ _ _ _ _ r h => by simp [arbiterlaw08_AccessOpen.j0] at h, fun _ _ _ _ _ _ _ _ _ _ _ _ r h => by simp [arbiterlaw08_AccessOpen.j1] at h, fun _ _ _ _ _ _ _ _ _ _ _ r h => by simp [arbiterlaw08_AccessOpen.j2] at h⟩
  | k + 1 => by
    obtain ⟨ih0, ih1, ih2⟩ := arbiterlaw08_AccessOpen.mono_l k
    refine ⟨?_, ?_, ?_⟩
    · intro y0 y1 y2 y3 y4 y5 y6 y7 y8 y9 y10 y11 y12
      unfold arbiterlaw08_AccessOpen.j0
      repeat' first
      | (with_reducible exact ih0 _ _ _ _ _ _ _ _ _ _ _ _ _)
      | (with_reducible exact ih1 _ _ _ _ _ _ _ _ _ _ _ _)
      | (with_reducible exact ih2 _ _ _ _ _ _ _ _ _ _ _)
      | (with_reducible exact LeO.refl _)
      | (with_reducible exact LeO.none _)
      | (with_reducible refine LeO.ite ?_ ?_)
      | (with_reducible refine LeO.bind ?_ (fun _ => ?_))
      | exact ih0 _ _ _ _ _ _ _ _ _ _ _ _ _
      | exact ih1 _ _ _ _ _ _ _ _ _ _ _ _
      | exact ih2 _ _ _ _ _ _ _ _ _ _ _
      | exact LeO.none _
      | refine LeO.ite ?_ ?_
      | refine LeO.bind ?_ (fun _ => ?_)
    · intro y0 y1 y2 y3 y4 y5 y6 y7 y8 y9 y10 y11
      unfold arbiterlaw08_AccessOpen.j1
      repeat' first
      | (with_reducible exact ih0 _ _ _ _ _ _ _ _ _ _ _ _ _)
      | (with_reducible exact ih1 _ _ _ _ _ _ _ _ _ _ _ _)
      | (with_reducible exact ih2 _ _ _ _ _ _ _ _ _ _ _)
      | (with_reducible exact LeO.refl _)
      | (with_reducible exact LeO.none _)
      | (with_reducible refine LeO.ite ?_ ?_)
      | (with_reducible refine LeO.bind ?_ (fun _ => ?_))
      | exact ih0 _ _ _ _ _ _ _ _ _ _ _ _ _
      | exact ih1 _ _ _ _ _ _ _ _ _ _ _ _
      | exact ih2 _ _ _ _ _ _ _ _ _ _ _
      | exact LeO.none _
      | refine LeO.ite ?_ ?_
      | refine LeO.bind ?_ (fun _ => ?_)
    · intro y0 y1 y2 y3 y4 y5 y6 y7 y8 y9 y10
      unfold arbiterlaw08_AccessOpen.j2
      repeat' first
      | (with_reducible exact ih0 _ _ _ _ _ _ _ _ _ _ _ _ _)
      | (with_reducible exact ih1 _ _ _ _ _ _ _ _ _ _ _ _)
      | (with_reducible exact ih2 _ _ _ _ _ _ _ _ _ _ _)
      | (with_reducible exact LeO.refl _)
      | (with_reducible exact LeO.none _)
      | (with_reducible refine LeO.ite ?_ ?_)
      | (with_reducible refine LeO.bind ?_ (fun _ => ?_))
      | exact ih0 _ _ _ _ _ _ _ _ _ _ _ _ _
      | exact ih1 _ _ _ _ _ _ _ _ _ _ _ _
      | exact ih2 _ _ _ _ _ _ _ _ _ _ _
      | exact LeO.none _
      | refine LeO.ite ?_ ?_
      | refine LeO.bind ?_ (fun _ => ?_)
theorem arbiterlaw08_AccessOpen.mono : ∀ a0 a1 a2 a3 k, LeO (arbiterlaw08_AccessOpen.f k a0 a1 a2 a3) (arbiterlaw08_AccessOpen.f (k + 1) a0 a1 a2 a3) := by
  intro a0 a1 a2 a3 k
  obtain ⟨ih0, ih1, ih2⟩ := arbiterlaw08_AccessOpen.mono_l k
  unfold arbiterlaw08_AccessOpen.f
  repeat' first
      | (with_reducible exact ih0 _ _ _ _ _ _ _ _ _ _ _ _ _)
      | (with_reducible exact ih1 _ _ _ _ _ _ _ _ _ _ _ _)
      | (with_reducible exact ih2 _ _ _ _ _ _ _ _ _ _ _)
      | (with_reducible exact LeO.refl _)
      | (with_reducible exact LeO.none _)
      | (with_reducible refine LeO.ite ?_ ?_)
      | (with_reducible refine LeO.bind ?_ (fun _ => ?_))
      | exact ih0 _ _ _ _ _ _ _ _ _ _ _ _ _
      | exact ih1 _ _ _ _ _ _ _ _ _ _ _ _
      | exact ih2 _ _ _ _ _ _ _ _ _ _ _
      | exact LeO.none _
      | refine LeO.ite ?_ ?_
      | refine LeO.bind ?_ (fun _ => ?_)
set_option maxHeartbeats 8000000 in
set_option maxRecDepth 100000 in
theorem arbiterlaw08_AccessOpen.calls (k : Nat) (A0 : Option Addr) (c0 : Nat) (l0 : List (S44)) (a1 : Int) (a2 : Int) (a3 : Int) (r : Bool) (w : World) (hr0 : Kd.C k44 w A0 l0.length l0) (hc0 : l0.length ≤ c0) (h : arbiterlaw08_AccessOpen.f k l0 a1 a2 a3 = some r) :
    Calls Tryd.prog 5 #[.slice A0 l0.length c0, .int .i64 a1, .int .i64 a2, .int .i64 a3] w fun e w' => e = .returned (.bool r) ∧ Below w.heap.size w w' := by
  have hu44 := Tryd.underlying44
  have hu28 := Tryd.underlying28
  have HR0 := Aside0.mk hr0
  have HC0 := Aside0.mk hc0
  clear hr0 hc0
  have HB := Aside0.mk (Below.refl w.heap.size w)
  have H : ((arbiterlaw08_awake.f).bind fun t239 => (if t239 = true then ((arbiterlaw08_built.f l0).bind fun t240 => ((hier_World_Class.f t240 a2).bind fun bt241 => ((hier_World_Class.f t240 a1).bind fun bt253 => ((access_ClassOpen.f t240 a1 a2).bind fun bt265 => (if bt241.2.2.2.2.2.2 = 0 then (arbiterlaw08_AccessOpen.j0 k a1 a2 a3 t240 bt265.1 bt265.2 (bt253.2.2.2.2.2.2 != 0) bt241.1 bt241.2.1 bt241.2.2.1 bt241.2.2.2.1 bt241.2.2.2.2.1 bt241.2.2.2.2.2.1) else (arbiterlaw08_AccessOpen.j0 k a1 a2 a3 t240 bt265.1 bt265.2 true bt241.1 bt241.2.1 bt241.2.2.1 bt241.2.2.2.1 bt241.2.2.2.2.1 bt241.2.2.2.2.2.1)))))) else (some false))) = some r := h
  clear h
  replace H := Option.bind_eq_some_iff.mp H
  obtain ⟨t239, A50, H⟩ := H
  replace H : (if t239 = true then ((arbiterlaw08_built.f l0).bind fun t240 => ((hier_World_Class.f t240 a2).bind fun bt241 => ((hier_World_Class.f t240 a1).bind fun bt253 => ((access_ClassOpen.f t240 a1 a2).bind fun bt265 => (if bt241.2.2.2.2.2.2 = 0 then (arbiterlaw08_AccessOpen.j0 k a1 a2 a3 t240 bt265.1 bt265.2 (bt253.2.2.2.2.2.2 != 0) bt241.1 bt241.2.1 bt241.2.2.1 bt241.2.2.2.1 bt241.2.2.2.2.1 bt241.2.2.2.2.2.1) else (arbiterlaw08_AccessOpen.j0 k a1 a2 a3 t240 bt265.1 bt265.2 true bt241.1 bt241.2.1 bt241.2.2.1 bt241.2.2.2.1 bt241.2.2.2.2.1 bt241.2.2.2.2.2.1)))))) else (some false)) = some r := H
  have A5 := Aside0.mk A50
  clear A50
  by_cases c6 : t239 = true
  · subst c6
    have H1 : ((arbiterlaw08_built.f l0).bind fun t240 => ((hier_World_Class.f t240 a2).bind fun bt241 => ((hier_World_Class.f t240 a1).bind fun bt253 => ((access_ClassOpen.f t240 a1 a2).bind fun bt265 => (if bt241.2.2.2.2.2.2 = 0 then (arbiterlaw08_AccessOpen.j0 k a1 a2 a3 t240 bt265.1 bt265.2 (bt253.2.2.2.2.2.2 != 0) bt241.1 bt241.2.1 bt241.2.2.1 bt241.2.2.2.1 bt241.2.2.2.2.1 bt241.2.2.2.2.2.1) else (arbiterlaw08_AccessOpen.j0 k a1 a2 a3 t240 bt265.1 bt265.2 true bt241.1 bt241.2.1 bt241.2.2.1 bt241.2.2.2.1 bt241.2.2.2.2.1 bt241.2.2.2.2.2.1)))))) = some r := by rw [if_pos rfl] at H; exact H
    clear H
    have H := H1
    clear H1
    replace H := Option.bind_eq_some_iff.mp H
    obtain ⟨t240, A70, H⟩ := H
    replace H : ((hier_World_Class.f t240 a2).bind fun bt241 => ((hier_World_Class.f t240 a1).bind fun bt253 => ((access_ClassOpen.f t240 a1 a2).bind fun bt265 => (if bt241.2.2.2.2.2.2 = 0 then (arbiterlaw08_AccessOpen.j0 k a1 a2 a3 t240 bt265.1 bt265.2 (bt253.2.2.2.2.2.2 != 0) bt241.1 bt241.2.1 bt241.2.2.1 bt241.2.2.2.1 bt241.2.2.2.2.1 bt241.2.2.2.2.2.1) else (arbiterlaw08_AccessOpen.j0 k a1 a2 a3 t240 bt265.1 bt265.2 true bt241.1 bt241.2.1 bt241.2.2.1 bt241.2.2.2.1 bt241.2.2.2.2.1 bt241.2.2.2.2.2.1))))) = some r := H
    have A7 := Aside0.mk A70
    clear A70
    replace H := Option.bind_eq_some_iff.mp H
    obtain ⟨⟨t241, t242, t243, t246, t247, t248, t251⟩, A80, H⟩ := H
    replace H : ((hier_World_Class.f t240 a1).bind fun bt253 => ((access_ClassOpen.f t240 a1 a2).bind fun bt265 => (if t251 = 0 then (arbiterlaw08_AccessOpen.j0 k a1 a2 a3 t240 bt265.1 bt265.2 (bt253.2.2.2.2.2.2 != 0) t241 t242 t243 t246 t247 t248) else (arbiterlaw08_AccessOpen.j0 k a1 a2 a3 t240 bt265.1 bt265.2 true t241 t242 t243 t246 t247 t248)))) = some r := H
    have A8 := Aside0.mk A80
    clear A80
    replace H := Option.bind_eq_some_iff.mp H
    obtain ⟨⟨t253, t254, t255, t258, t259, t260, t263⟩, A90, H⟩ := H
    replace H : ((access_ClassOpen.f t240 a1 a2).bind fun bt265 => (if t251 = 0 then (arbiterlaw08_AccessOpen.j0 k a1 a2 a3 t240 bt265.1 bt265.2 (t263 != 0) t241 t242 t243 t246 t247 t248) else (arbiterlaw08_AccessOpen.j0 k a1 a2 a3 t240 bt265.1 bt265.2 true t241 t242 t243 t246 t247 t248))) = some r := H
    have A9 := Aside0.mk A90
    clear A90
    replace H := Option.bind_eq_some_iff.mp H
    obtain ⟨⟨t265, t266⟩, A100, H⟩ := H
    replace H : (if t251 = 0 then (arbiterlaw08_AccessOpen.j0 k a1 a2 a3 t240 t265 t266 (t263 != 0) t241 t242 t243 t246 t247 t248) else (arbiterlaw08_AccessOpen.j0 k a1 a2 a3 t240 t265 t266 true t241 t242 t243 t246 t247 t248)) = some r := H
    have A10 := Aside0.mk A100
    clear A100
    have HC11 := Aside0.mk H
    clear H
    go_enter Tryd.func5, Tryd.ntmps5
    go_upto_region 7 with (first | ((with_reducible refine gate_callee (f := 8) rfl ?_); refine goesL_ (some 26) rfl rfl Tryd.func8 (by kernel_rfl) rfl #[] rfl (by (try simp only [List.map_toArray, List.map_cons, List.map_nil]); first | done | rfl | (simp only [List.length_drop, List.length_take]; rfl)) ?_; (with_reducible refine (arbiterlaw08_awake.calls  true _ A5.out).mono ?_); rintro e w12 ⟨rfl, hb⟩; refine ⟨_, rfl, ?_⟩; have n0_ := Aside0.mk (below_step (by repeat (first | (with_reducible first | exact HB.out | apply below_alloc | apply pw_below_drewN | apply below_drew1) | exact HB.out)) hb); clear HB; have HB := n0_; clear n0_; (try clear hb); (try clear hb2); (try clear hk); (try clear hi)) | ((with_reducible refine gate_callee (f := 18) rfl ?_); refine goesL_ (some 29) rfl rfl Tryd.func18 (by kernel_rfl) rfl #[.slice A0 l0.length c0] rfl (by (try simp only [List.map_toArray, List.map_cons, List.map_nil]); first | done | rfl | (simp only [List.length_drop, List.length_take]; rfl)) ?_; (with_reducible refine (arbiterlaw08_built.calls _ _ l0 t240 _ ?side1 ?side2 A7.out).mono ?_); (case side1 => repeat (first | exact (Kd.C_below HR0.out HB.out) | (with_reducible refine Kd.C_alloc ?_ _) | (with_reducible refine Kd.C_drewN ?_ _) | (with_reducible refine Kd.C_drew ?_))); (case side2 => exact HC0.out); rintro e w13 ⟨G_t240, rfl, hqt240, hb⟩; refine ⟨_, rfl, ?_⟩; have n0_ := Aside0.mk (hqt240); have n1_ := Aside0.mk (below_step (by repeat (first | (with_reducible first | exact HB.out | apply below_alloc | apply pw_below_drewN | apply below_drew1) | exact HB.out)) hb); clear HB; have HQt240 := n0_; have HB := n1_; clear n0_ n1_; (try clear hb); (try clear hb2); (try clear hk); (try clear hi)) | ((with_reducible refine gate_callee (f := 19) rfl ?_); refine goesL_ (some 33) rfl rfl Tryd.func19 (by kernel_rfl) rfl #[.pointer (some ⟨G_t240, 0, none⟩), .int .i64 a2] rfl (by (try simp only [List.map_toArray, List.map_cons, List.map_nil]); first | done | rfl | (simp only [List.length_drop, List.length_take]; rfl)) ?_; (with_reducible refine (hier_World_Class.calls G_t240 t240 a2 t241 t242 t243 t246 t247 t248 t251 _ ?side1 A8.out).mono ?_); (case side1 => repeat (first | (with_reducible exact HQt240.out) | (with_reducible refine WOK.alloc ?_ _) | (with_reducible refine WOK.drewN ?_ _) | (with_reducible refine WOK.drew ?_))); rintro e w14 ⟨v244, v249, rfl, ho0, ho1, hb⟩; refine ⟨_, rfl, ?_⟩; have n0_ := Aside0.mk (Kd.R_lower ho0 (below_size (by repeat (first | (with_reducible first | exact HB.out | apply below_alloc | apply pw_below_drewN | apply below_drew1) | exact HB.out)))); have n1_ := Aside0.mk (Kd.R_lower ho1 (below_size (by repeat (first | (with_reducible first | exact HB.out | apply below_alloc | apply pw_below_drewN | apply below_drew1) | exact HB.out)))); have n2_ := Aside0.mk (WOK.below (g := G_t240) (es := t240) (by repeat (first | (with_reducible exact HQt240.out) | (with_reducible refine WOK.alloc ?_ _) | (with_reducible refine WOK.drewN ?_ _) | (with_reducible refine WOK.drew ?_))) hb); have n3_ := Aside0.mk (below_step (by repeat (first | (with_reducible first | exact HB.out | apply below_alloc | apply pw_below_drewN | apply below_drew1) | exact HB.out)) hb); clear HQt240; clear HB; have HO245 := n0_; have HO250 := n1_; have HQt240 := n2_; have HB := n3_; clear n0_ n1_ n2_ n3_; (try clear hb); (try clear hb2); (try clear hk); (try clear hi); (try clear ho0); (try clear ho1)) | ((with_reducible refine gate_dst (N := 10) rfl ?_); refine box_event ?hg (N := 10) ?hd (cs := #[.string (⟨#[]⟩ : ByteArray), .string (⟨#[]⟩ : ByteArray), .slice none 0 0, .int .i64 0, .int .i64 0, .slice none 0 0]) (t := 44) ?hr ?_; (case hd => rfl); (case hg => rfl); (case hr => first | (go_simp; done) | (go_simp; rfl)); intro gb252 hg w15 hbox hb; have n0_ := Aside0.mk (Kd.R_below (by (with_reducible repeat (first | apply Kd.R_alloc | apply Kd.R_drewN | apply Kd.R_drew)); exact HO245.out) hb); have n1_ := Aside0.mk (Kd.R_below (by (with_reducible repeat (first | apply Kd.R_alloc | apply Kd.R_drewN | apply Kd.R_drew)); exact HO250.out) hb); have n2_ := Aside0.mk (WOK.below (g := G_t240) (es := t240) (by repeat (first | (with_reducible exact HQt240.out) | (with_reducible refine WOK.alloc ?_ _) | (with_reducible refine WOK.drewN ?_ _) | (with_reducible refine WOK.drew ?_))) hb); have n3_ := Aside0.mk (below_step (by repeat (first | (with_reducible first | exact HB.out | apply below_alloc | apply pw_below_drewN | apply below_drew1) | exact HB.out)) hb); have n4_ := Aside0.mk (hbox); have n5_ := Aside0.mk ((by rw [hg]; exact (below_size (by repeat (first | (with_reducible first | exact HB.out | apply below_alloc | apply pw_below_drewN | apply below_drew1) | exact HB.out))) : w.heap.size ≤ gb252)); have n6_ := Aside0.mk ((by rw [hg]; exact (below_size (by repeat (first | (with_reducible first | exact HB.out | apply below_alloc | apply pw_below_drewN | apply below_drew1) | exact HB.out))) : w.heap.size ≤ gb252)); clear HO245; clear HO250; clear HQt240; clear HB; have HO245 := n0_; have HO250 := n1_; have HQt240 := n2_; have HB := n3_; have BK252 := n4_; have GW252 := n5_; have GE252 := n6_; clear n0_ n1_ n2_ n3_ n4_ n5_ n6_; clear hb hbox hg; have hcz16_0 : w15.cell? ⟨gb252, 0, none⟩ = some (.string (⟨#[]⟩ : ByteArray)) := (blk_cell BK252.out 0).trans rfl; have hcz16_1 : w15.cell? ⟨gb252, 1, none⟩ = some (.string (⟨#[]⟩ : ByteArray)) := (blk_cell BK252.out 1).trans rfl; have hcz16_2 : w15.cell? ⟨gb252, 2, none⟩ = some (.slice none 0 0) := (blk_cell BK252.out 2).trans rfl; have hcz16_3 : w15.cell? ⟨gb252, 3, none⟩ = some (.int .i64 0) := (blk_cell BK252.out 3).trans rfl; have hcz16_4 : w15.cell? ⟨gb252, 4, none⟩ = some (.int .i64 0) := (blk_cell BK252.out 4).trans rfl; have hcz16_5 : w15.cell? ⟨gb252, 5, none⟩ = some (.slice none 0 0) := (blk_cell BK252.out 5).trans rfl; have hfz16_0 := blk_frozen BK252.out 0; have hfz16_1 := blk_frozen BK252.out 1; have hfz16_2 := blk_frozen BK252.out 2; have hfz16_3 := blk_frozen BK252.out 3; have hfz16_4 := blk_frozen BK252.out 4; have hfz16_5 := blk_frozen BK252.out 5; obtain ⟨Ao17, co17, eo17⟩ := Kd.R_slice HO245.out; subst eo17; obtain ⟨Ao18, co18, eo18⟩ := Kd.R_slice HO250.out; subst eo18) | ((with_reducible refine gate_callee (f := 19) rfl ?_); refine goesL_ (some 39) rfl rfl Tryd.func19 (by kernel_rfl) rfl #[.pointer (some ⟨G_t240, 0, none⟩), .int .i64 a1] rfl (by (try simp only [List.map_toArray, List.map_cons, List.map_nil]); first | done | rfl | (simp only [List.length_drop, List.length_take]; rfl)) ?_; (with_reducible refine (hier_World_Class.calls G_t240 t240 a1 t253 t254 t255 t258 t259 t260 t263 _ ?side1 A9.out).mono ?_); (case side1 => repeat (first | (with_reducible exact HQt240.out) | (with_reducible refine WOK.alloc ?_ _) | (with_reducible refine WOK.drewN ?_ _) | (with_reducible refine WOK.drew ?_) | ((with_reducible refine WOK.set (b := gb252) (t := 44) ?_ ?_ ?_ _ _); rotate_left 2; decide; rotate_left 1; (focus (repeat (first | (with_reducible refine TypeAt.setCell ?_ _ _) | (with_reducible refine TypeAt.alloc ?_ _) | (with_reducible refine TypeAt.drewN ?_ _) | (with_reducible refine TypeAt.drew ?_) | exact ⟨_, BK252.out⟩)))))); rintro e w19 ⟨v256, v261, rfl, ho0, ho1, hb⟩; refine ⟨_, rfl, ?_⟩; have n0_ := Aside0.mk (Kd.R_elder' (by (with_reducible repeat (first | apply Kd.R_alloc | apply Kd.R_drewN | apply Kd.R_drew)); exact (Kd.R_mono (Kd.R_far (p := ⟨gb252, 5, none⟩) (Kd.R_far (p := ⟨gb252, 4, none⟩) (Kd.R_far (p := ⟨gb252, 3, none⟩) (Kd.R_far (p := ⟨gb252, 2, none⟩) (Kd.R_far (p := ⟨gb252, 1, none⟩) (Kd.R_far (p := ⟨gb252, 0, none⟩) (Kd.R_types HO245.out BK252.out (by decide)) (fun _ hk => hk.2) (.string t241)) (fun _ hk => hk.2) (.string t242)) (fun _ hk => hk.2) (.slice Ao17 t243.length co17)) (fun _ hk => hk.2) (.int .i64 t246)) (fun _ hk => hk.2) (.int .i64 t247)) (fun _ hk => hk.2) (.slice Ao18 t248.length co18)) (fun _ h_ => h_.1))) (Kd.R_base ho0) hb); have n1_ := Aside0.mk (Kd.R_elder' (by (with_reducible repeat (first | apply Kd.R_alloc | apply Kd.R_drewN | apply Kd.R_drew)); exact (Kd.R_mono (Kd.R_far (p := ⟨gb252, 5, none⟩) (Kd.R_far (p := ⟨gb252, 4, none⟩) (Kd.R_far (p := ⟨gb252, 3, none⟩) (Kd.R_far (p := ⟨gb252, 2, none⟩) (Kd.R_far (p := ⟨gb252, 1, none⟩) (Kd.R_far (p := ⟨gb252, 0, none⟩) (Kd.R_types HO250.out BK252.out (by decide)) (fun _ hk => hk.2) (.string t241)) (fun _ hk => hk.2) (.string t242)) (fun _ hk => hk.2) (.slice Ao17 t243.length co17)) (fun _ hk => hk.2) (.int .i64 t246)) (fun _ hk => hk.2) (.int .i64 t247)) (fun _ hk => hk.2) (.slice Ao18 t248.length co18)) (fun _ h_ => h_.1))) (Kd.R_base ho1) hb); have n2_ := Aside0.mk (Kd.R_lower (Kd.R_new' ho0 (Kd.R_lt (by (with_reducible repeat (first | apply Kd.R_alloc | apply Kd.R_drewN | apply Kd.R_drew)); exact (Kd.R_mono (Kd.R_far (p := ⟨gb252, 5, none⟩) (Kd.R_far (p := ⟨gb252, 4, none⟩) (Kd.R_far (p := ⟨gb252, 3, none⟩) (Kd.R_far (p := ⟨gb252, 2, none⟩) (Kd.R_far (p := ⟨gb252, 1, none⟩) (Kd.R_far (p := ⟨gb252, 0, none⟩) (Kd.R_types HO245.out BK252.out (by decide)) (fun _ hk => hk.2) (.string t241)) (fun _ hk => hk.2) (.string t242)) (fun _ hk => hk.2) (.slice Ao17 t243.length co17)) (fun _ hk => hk.2) (.int .i64 t246)) (fun _ hk => hk.2) (.int .i64 t247)) (fun _ hk => hk.2) (.slice Ao18 t248.length co18)) (fun _ h_ => h_.1))))) (below_size (by repeat (first | (with_reducible first | exact HB.out | apply below_alloc | apply pw_below_drewN | apply below_drew1 | refine below_set ?_ GE252.out) | exact HB.out)))); have n3_ := Aside0.mk (Kd.R_lower (Kd.R_new' ho1 (Kd.R_lt (by (with_reducible repeat (first | apply Kd.R_alloc | apply Kd.R_drewN | apply Kd.R_drew)); exact (Kd.R_mono (Kd.R_far (p := ⟨gb252, 5, none⟩) (Kd.R_far (p := ⟨gb252, 4, none⟩) (Kd.R_far (p := ⟨gb252, 3, none⟩) (Kd.R_far (p := ⟨gb252, 2, none⟩) (Kd.R_far (p := ⟨gb252, 1, none⟩) (Kd.R_far (p := ⟨gb252, 0, none⟩) (Kd.R_types HO250.out BK252.out (by decide)) (fun _ hk => hk.2) (.string t241)) (fun _ hk => hk.2) (.string t242)) (fun _ hk => hk.2) (.slice Ao17 t243.length co17)) (fun _ hk => hk.2) (.int .i64 t246)) (fun _ hk => hk.2) (.int .i64 t247)) (fun _ hk => hk.2) (.slice Ao18 t248.length co18)) (fun _ h_ => h_.1))))) (below_size (by repeat (first | (with_reducible first | exact HB.out | apply below_alloc | apply pw_below_drewN | apply below_drew1 | refine below_set ?_ GE252.out) | exact HB.out)))); have n4_ := Aside0.mk (WOK.below (g := G_t240) (es := t240) (by repeat (first | (with_reducible exact HQt240.out) | (with_reducible refine WOK.alloc ?_ _) | (with_reducible refine WOK.drewN ?_ _) | (with_reducible refine WOK.drew ?_) | ((with_reducible refine WOK.set (b := gb252) (t := 44) ?_ ?_ ?_ _ _); rotate_left 2; decide; rotate_left 1; (focus (repeat (first | (with_reducible refine TypeAt.setCell ?_ _ _) | (with_reducible refine TypeAt.alloc ?_ _) | (with_reducible refine TypeAt.drewN ?_ _) | (with_reducible refine TypeAt.drew ?_) | exact ⟨_, BK252.out⟩)))))) hb); have n5_ := Aside0.mk (blk_below (g := gb252) (o := .cells #[.string t241, .string t242, .slice Ao17 t243.length co17, .int .i64 t246, .int .i64 t247, .slice Ao18 t248.length co18] 44 (0, 0)) (by (with_reducible repeat (first | refine blk_drewN ?_ _ | refine blk_drew ?_ | refine blk_alloc ?_ _)); refine blk_put (cs := #[.string t241, .string t242, .slice Ao17 t243.length co17, .int .i64 t246, .int .i64 t247, .slice none 0 0]) ?_ 5 _ rfl; (with_reducible repeat (first | refine blk_drewN ?_ _ | refine blk_drew ?_ | refine blk_alloc ?_ _)); refine blk_put (cs := #[.string t241, .string t242, .slice Ao17 t243.length co17, .int .i64 t246, .int .i64 0, .slice none 0 0]) ?_ 4 _ rfl; (with_reducible repeat (first | refine blk_drewN ?_ _ | refine blk_drew ?_ | refine blk_alloc ?_ _)); refine blk_put (cs := #[.string t241, .string t242, .slice Ao17 t243.length co17, .int .i64 0, .int .i64 0, .slice none 0 0]) ?_ 3 _ rfl; (with_reducible repeat (first | refine blk_drewN ?_ _ | refine blk_drew ?_ | refine blk_alloc ?_ _)); refine blk_put (cs := #[.string t241, .string t242, .slice none 0 0, .int .i64 0, .int .i64 0, .slice none 0 0]) ?_ 2 _ rfl; (with_reducible repeat (first | refine blk_drewN ?_ _ | refine blk_drew ?_ | refine blk_alloc ?_ _)); refine blk_put (cs := #[.string t241, .string (⟨#[]⟩ : ByteArray), .slice none 0 0, .int .i64 0, .int .i64 0, .slice none 0 0]) ?_ 1 _ rfl; (with_reducible repeat (first | refine blk_drewN ?_ _ | refine blk_drew ?_ | refine blk_alloc ?_ _)); refine blk_put (cs := #[.string (⟨#[]⟩ : ByteArray), .string (⟨#[]⟩ : ByteArray), .slice none 0 0, .int .i64 0, .int .i64 0, .slice none 0 0]) ?_ 0 _ rfl; (with_reducible repeat (first | refine blk_drewN ?_ _ | refine blk_drew ?_ | refine blk_alloc ?_ _)); exact BK252.out) hb); have n6_ := Aside0.mk (below_step (by repeat (first | (with_reducible first | exact HB.out | apply below_alloc | apply pw_below_drewN | apply below_drew1 | refine below_set ?_ GE252.out) | exact HB.out)) hb); clear HO245; clear HO250; clear HQt240; clear BK252; clear HB; have HO245 := n0_; have HO250 := n1_; have HO257 := n2_; have HO262 := n3_; have HQt240 := n4_; have BK252 := n5_; have HB := n6_; clear n0_ n1_ n2_ n3_ n4_ n5_ n6_; (try clear hb); (try clear hb2); (try clear hk); (try clear hi); (try clear ho0); (try clear ho1)) | ((with_reducible refine gate_dst (N := 12) rfl ?_); refine box_event ?hg (N := 12) ?hd (cs := #[.string (⟨#[]⟩ : ByteArray), .string (⟨#[]⟩ : ByteArray), .slice none 0 0, .int .i64 0, .int .i64 0, .slice none 0 0]) (t := 44) ?hr ?_; (case hd => rfl); (case hg => rfl); (case hr => first | (go_simp; done) | (go_simp; rfl)); intro gb264 hg w20 hbox hb; have n0_ := Aside0.mk (Kd.R_below (by (with_reducible repeat (first | apply Kd.R_alloc | apply Kd.R_drewN | apply Kd.R_drew)); exact HO245.out) hb); have n1_ := Aside0.mk (Kd.R_below (by (with_reducible repeat (first | apply Kd.R_alloc | apply Kd.R_drewN | apply Kd.R_drew)); exact HO250.out) hb); have n2_ := Aside0.mk (Kd.R_below (by (with_reducible repeat (first | apply Kd.R_alloc | apply Kd.R_drewN | apply Kd.R_drew)); exact HO257.out) hb); have n3_ := Aside0.mk (Kd.R_below (by (with_reducible repeat (first | apply Kd.R_alloc | apply Kd.R_drewN | apply Kd.R_drew)); exact HO262.out) hb); have n4_ := Aside0.mk (WOK.below (g := G_t240) (es := t240) (by repeat (first | (with_reducible exact HQt240.out) | (with_reducible refine WOK.alloc ?_ _) | (with_reducible refine WOK.drewN ?_ _) | (with_reducible refine WOK.drew ?_))) hb); have n5_ := Aside0.mk (blk_below (g := gb252) (o := .cells #[.string t241, .string t242, .slice Ao17 t243.length co17, .int .i64 t246, .int .i64 t247, .slice Ao18 t248.length co18] 44 (0, 0)) (by (with_reducible repeat (first | refine blk_drewN ?_ _ | refine blk_drew ?_ | refine blk_alloc ?_ _)); exact BK252.out) hb); have n6_ := Aside0.mk (below_step (by repeat (first | (with_reducible first | exact HB.out | apply below_alloc | apply pw_below_drewN | apply below_drew1 | refine below_set ?_ GE252.out) | exact HB.out)) hb); have n7_ := Aside0.mk (hbox); have n8_ := Aside0.mk ((by rw [hg]; exact (below_size (by repeat (first | (with_reducible first | exact HB.out | apply below_alloc | apply pw_below_drewN | apply below_drew1 | refine below_set ?_ GE252.out) | exact HB.out))) : w.heap.size ≤ gb264)); have n9_ := Aside0.mk ((by rw [hg]; exact (below_size (by repeat (first | (with_reducible first | exact HB.out | apply below_alloc | apply pw_below_drewN | apply below_drew1 | refine below_set ?_ GE252.out) | exact HB.out))) : w.heap.size ≤ gb264)); have n10_ := Aside0.mk ((by rw [hg]; exact Nat.ne_of_lt (blk_lt (g := gb252) (o := .cells #[.string t241, .string t242, .slice Ao17 t243.length co17, .int .i64 t246, .int .i64 t247, .slice Ao18 t248.length co18] 44 (0, 0)) (by (with_reducible repeat (first | refine blk_drewN ?_ _ | refine blk_drew ?_ | refine blk_alloc ?_ _)); exact BK252.out)) : gb252 ≠ gb264)); have n11_ := Aside0.mk ((by rw [hg]; exact Nat.ne_of_gt (blk_lt (g := gb252) (o := .cells #[.string t241, .string t242, .slice Ao17 t243.length co17, .int .i64 t246, .int .i64 t247, .slice Ao18 t248.length co18] 44 (0, 0)) (by (with_reducible repeat (first | refine blk_drewN ?_ _ | refine blk_drew ?_ | refine blk_alloc ?_ _)); exact BK252.out)) : gb264 ≠ gb252)); clear HO245; clear HO250; clear HO257; clear HO262; clear HQt240; clear BK252; clear HB; have HO245 := n0_; have HO250 := n1_; have HO257 := n2_; have HO262 := n3_; have HQt240 := n4_; have BK252 := n5_; have HB := n6_; have BK264 := n7_; have GW264 := n8_; have GE264 := n9_; have NB252_264 := n10_; have NB264_252 := n11_; clear n0_ n1_ n2_ n3_ n4_ n5_ n6_ n7_ n8_ n9_ n10_ n11_; clear hb hbox hg; have hnb21 := NB264_252.out; have hnc21 := NB252_264.out; have hcz22_0 : w20.cell? ⟨gb264, 0, none⟩ = some (.string (⟨#[]⟩ : ByteArray)) := (blk_cell BK264.out 0).trans rfl; have hcz22_1 : w20.cell? ⟨gb264, 1, none⟩ = some (.string (⟨#[]⟩ : ByteArray)) := (blk_cell BK264.out 1).trans rfl; have hcz22_2 : w20.cell? ⟨gb264, 2, none⟩ = some (.slice none 0 0) := (blk_cell BK264.out 2).trans rfl; have hcz22_3 : w20.cell? ⟨gb264, 3, none⟩ = some (.int .i64 0) := (blk_cell BK264.out 3).trans rfl; have hcz22_4 : w20.cell? ⟨gb264, 4, none⟩ = some (.int .i64 0) := (blk_cell BK264.out 4).trans rfl; have hcz22_5 : w20.cell? ⟨gb264, 5, none⟩ = some (.slice none 0 0) := (blk_cell BK264.out 5).trans rfl; have hfz22_0 := blk_frozen BK264.out 0; have hfz22_1 := blk_frozen BK264.out 1; have hfz22_2 := blk_frozen BK264.out 2; have hfz22_3 := blk_frozen BK264.out 3; have hfz22_4 := blk_frozen BK264.out 4; have hfz22_5 := blk_frozen BK264.out 5; obtain ⟨Ao23, co23, eo23⟩ := Kd.R_slice HO257.out; subst eo23; obtain ⟨Ao24, co24, eo24⟩ := Kd.R_slice HO262.out; subst eo24) | ((with_reducible refine gate_callee (f := 9) rfl ?_); refine goesL_ (some 46) rfl rfl Tryd.func9 (by kernel_rfl) rfl #[.pointer (some ⟨G_t240, 0, none⟩), .int .i64 a1, .int .i64 a2] rfl (by (try simp only [List.map_toArray, List.map_cons, List.map_nil]); first | done | rfl | (simp only [List.length_drop, List.length_take]; rfl)) ?_; (with_reducible refine (access_ClassOpen.calls G_t240 t240 a1 a2 t265 t266 _ ?side1 A10.out).mono ?_); (case side1 => repeat (first | (with_reducible exact HQt240.out) | (with_reducible refine WOK.alloc ?_ _) | (with_reducible refine WOK.drewN ?_ _) | (with_reducible refine WOK.drew ?_) | ((with_reducible refine WOK.set (b := gb252) (t := 44) ?_ ?_ ?_ _ _); rotate_left 2; decide; rotate_left 1; (focus (repeat (first | (with_reducible refine TypeAt.setCell ?_ _ _) | (with_reducible refine TypeAt.alloc ?_ _) | (with_reducible refine TypeAt.drewN ?_ _) | (with_reducible refine TypeAt.drew ?_) | exact ⟨_, BK252.out⟩)))) | ((with_reducible refine WOK.set (b := gb264) (t := 44) ?_ ?_ ?_ _ _); rotate_left 2; decide; rotate_left 1; (focus (repeat (first | (with_reducible refine TypeAt.setCell ?_ _ _) | (with_reducible refine TypeAt.alloc ?_ _) | (with_reducible refine TypeAt.drewN ?_ _) | (with_reducible refine TypeAt.drew ?_) | exact ⟨_, BK264.out⟩)))))); rintro e w25 ⟨rfl, hb⟩; refine ⟨_, rfl, ?_⟩; have n0_ := Aside0.mk (Kd.R_below (by (with_reducible repeat (first | apply Kd.R_alloc | apply Kd.R_drewN | apply Kd.R_drew)); exact (Kd.R_mono (Kd.R_far (p := ⟨gb264, 5, none⟩) (Kd.R_far (p := ⟨gb264, 4, none⟩) (Kd.R_far (p := ⟨gb264, 3, none⟩) (Kd.R_far (p := ⟨gb264, 2, none⟩) (Kd.R_far (p := ⟨gb264, 1, none⟩) (Kd.R_far (p := ⟨gb264, 0, none⟩) (Kd.R_types HO245.out BK264.out (by decide)) (fun _ hk => hk.2) (.string t253)) (fun _ hk => hk.2) (.string t254)) (fun _ hk => hk.2) (.slice Ao23 t255.length co23)) (fun _ hk => hk.2) (.int .i64 t258)) (fun _ hk => hk.2) (.int .i64 t259)) (fun _ hk => hk.2) (.slice Ao24 t260.length co24)) (fun _ h_ => h_.1))) hb); have n1_ := Aside0.mk (Kd.R_below (by (with_reducible repeat (first | apply Kd.R_alloc | apply Kd.R_drewN | apply Kd.R_drew)); exact (Kd.R_mono (Kd.R_far (p := ⟨gb264, 5, none⟩) (Kd.R_far (p := ⟨gb264, 4, none⟩) (Kd.R_far (p := ⟨gb264, 3, none⟩) (Kd.R_far (p := ⟨gb264, 2, none⟩) (Kd.R_far (p := ⟨gb264, 1, none⟩) (Kd.R_far (p := ⟨gb264, 0, none⟩) (Kd.R_types HO250.out BK264.out (by decide)) (fun _ hk => hk.2) (.string t253)) (fun _ hk => hk.2) (.string t254)) (fun _ hk => hk.2) (.slice Ao23 t255.length co23)) (fun _ hk => hk.2) (.int .i64 t258)) (fun _ hk => hk.2) (.int .i64 t259)) (fun _ hk => hk.2) (.slice Ao24 t260.length co24)) (fun _ h_ => h_.1))) hb); have n2_ := Aside0.mk (Kd.R_below (by (with_reducible repeat (first | apply Kd.R_alloc | apply Kd.R_drewN | apply Kd.R_drew)); exact (Kd.R_mono (Kd.R_far (p := ⟨gb264, 5, none⟩) (Kd.R_far (p := ⟨gb264, 4, none⟩) (Kd.R_far (p := ⟨gb264, 3, none⟩) (Kd.R_far (p := ⟨gb264, 2, none⟩) (Kd.R_far (p := ⟨gb264, 1, none⟩) (Kd.R_far (p := ⟨gb264, 0, none⟩) (Kd.R_types HO257.out BK264.out (by decide)) (fun _ hk => hk.2) (.string t253)) (fun _ hk => hk.2) (.string t254)) (fun _ hk => hk.2) (.slice Ao23 t255.length co23)) (fun _ hk => hk.2) (.int .i64 t258)) (fun _ hk => hk.2) (.int .i64 t259)) (fun _ hk => hk.2) (.slice Ao24 t260.length co24)) (fun _ h_ => h_.1))) hb); have n3_ := Aside0.mk (Kd.R_below (by (with_reducible repeat (first | apply Kd.R_alloc | apply Kd.R_drewN | apply Kd.R_drew)); exact (Kd.R_mono (Kd.R_far (p := ⟨gb264, 5, none⟩) (Kd.R_far (p := ⟨gb264, 4, none⟩) (Kd.R_far (p := ⟨gb264, 3, none⟩) (Kd.R_far (p := ⟨gb264, 2, none⟩) (Kd.R_far (p := ⟨gb264, 1, none⟩) (Kd.R_far (p := ⟨gb264, 0, none⟩) (Kd.R_types HO262.out BK264.out (by decide)) (fun _ hk => hk.2) (.string t253)) (fun _ hk => hk.2) (.string t254)) (fun _ hk => hk.2) (.slice Ao23 t255.length co23)) (fun _ hk => hk.2) (.int .i64 t258)) (fun _ hk => hk.2) (.int .i64 t259)) (fun _ hk => hk.2) (.slice Ao24 t260.length co24)) (fun _ h_ => h_.1))) hb); have n4_ := Aside0.mk (WOK.below (g := G_t240) (es := t240) (by repeat (first | (with_reducible exact HQt240.out) | (with_reducible refine WOK.alloc ?_ _) | (with_reducible refine WOK.drewN ?_ _) | (with_reducible refine WOK.drew ?_) | ((with_reducible refine WOK.set (b := gb252) (t := 44) ?_ ?_ ?_ _ _); rotate_left 2; decide; rotate_left 1; (focus (repeat (first | (with_reducible refine TypeAt.setCell ?_ _ _) | (with_reducible refine TypeAt.alloc ?_ _) | (with_reducible refine TypeAt.drewN ?_ _) | (with_reducible refine TypeAt.drew ?_) | exact ⟨_, BK252.out⟩)))) | ((with_reducible refine WOK.set (b := gb264) (t := 44) ?_ ?_ ?_ _ _); rotate_left 2; decide; rotate_left 1; (focus (repeat (first | (with_reducible refine TypeAt.setCell ?_ _ _) | (with_reducible refine TypeAt.alloc ?_ _) | (with_reducible refine TypeAt.drewN ?_ _) | (with_reducible refine TypeAt.drew ?_) | exact ⟨_, BK264.out⟩)))))) hb); have n5_ := Aside0.mk (blk_below (g := gb252) (o := .cells #[.string t241, .string t242, .slice Ao17 t243.length co17, .int .i64 t246, .int .i64 t247, .slice Ao18 t248.length co18] 44 (0, 0)) (by (with_reducible repeat (first | refine blk_drewN ?_ _ | refine blk_drew ?_ | refine blk_alloc ?_ _)); refine blk_far ?_ NB252_264.out _; (with_reducible repeat (first | refine blk_drewN ?_ _ | refine blk_drew ?_ | refine blk_alloc ?_ _)); refine blk_far ?_ NB252_264.out _; (with_reducible repeat (first | refine blk_drewN ?_ _ | refine blk_drew ?_ | refine blk_alloc ?_ _)); refine blk_far ?_ NB252_264.out _; (with_reducible repeat (first | refine blk_drewN ?_ _ | refine blk_drew ?_ | refine blk_alloc ?_ _)); refine blk_far ?_ NB252_264.out _; (with_reducible repeat (first | refine blk_drewN ?_ _ | refine blk_drew ?_ | refine blk_alloc ?_ _)); refine blk_far ?_ NB252_264.out _; (with_reducible repeat (first | refine blk_drewN ?_ _ | refine blk_drew ?_ | refine blk_alloc ?_ _)); refine blk_far ?_ NB252_264.out _; (with_reducible repeat (first | refine blk_drewN ?_ _ | refine blk_drew ?_ | refine blk_alloc ?_ _)); exact BK252.out) hb); have n6_ := Aside0.mk (blk_below (g := gb264) (o := .cells #[.string t253, .string t254, .slice Ao23 t255.length co23, .int .i64 t258, .int .i64 t259, .slice Ao24 t260.length co24] 44 (0, 0)) (by (with_reducible repeat (first | refine blk_drewN ?_ _ | refine blk_drew ?_ | refine blk_alloc ?_ _)); refine blk_put (cs := #[.string t253, .string t254, .slice Ao23 t255.length co23, .int .i64 t258, .int .i64 t259, .slice none 0 0]) ?_ 5 _ rfl; (with_reducible repeat (first | refine blk_drewN ?_ _ | refine blk_drew ?_ | refine blk_alloc ?_ _)); refine blk_put (cs := #[.string t253, .string t254, .slice Ao23 t255.length co23, .int .i64 t258, .int .i64 0, .slice none 0 0]) ?_ 4 _ rfl; (with_reducible repeat (first | refine blk_drewN ?_ _ | refine blk_drew ?_ | refine blk_alloc ?_ _)); refine blk_put (cs := #[.string t253, .string t254, .slice Ao23 t255.length co23, .int .i64 0, .int .i64 0, .slice none 0 0]) ?_ 3 _ rfl; (with_reducible repeat (first | refine blk_drewN ?_ _ | refine blk_drew ?_ | refine blk_alloc ?_ _)); refine blk_put (cs := #[.string t253, .string t254, .slice none 0 0, .int .i64 0, .int .i64 0, .slice none 0 0]) ?_ 2 _ rfl; (with_reducible repeat (first | refine blk_drewN ?_ _ | refine blk_drew ?_ | refine blk_alloc ?_ _)); refine blk_put (cs := #[.string t253, .string (⟨#[]⟩ : ByteArray), .slice none 0 0, .int .i64 0, .int .i64 0, .slice none 0 0]) ?_ 1 _ rfl; (with_reducible repeat (first | refine blk_drewN ?_ _ | refine blk_drew ?_ | refine blk_alloc ?_ _)); refine blk_put (cs := #[.string (⟨#[]⟩ : ByteArray), .string (⟨#[]⟩ : ByteArray), .slice none 0 0, .int .i64 0, .int .i64 0, .slice none 0 0]) ?_ 0 _ rfl; (with_reducible repeat (first | refine blk_drewN ?_ _ | refine blk_drew ?_ | refine blk_alloc ?_ _)); exact BK264.out) hb); have n7_ := Aside0.mk (below_step (by repeat (first | (with_reducible first | exact HB.out | apply below_alloc | apply pw_below_drewN | apply below_drew1 | refine below_set ?_ GE252.out | refine below_set ?_ GE264.out) | exact HB.out)) hb); clear HO245; clear HO250; clear HO257; clear HO262; clear HQt240; clear BK252; clear BK264; clear HB; have HO245 := n0_; have HO250 := n1_; have HO257 := n2_; have HO262 := n3_; have HQt240 := n4_; have BK252 := n5_; have BK264 := n6_; have HB := n7_; clear n0_ n1_ n2_ n3_ n4_ n5_ n6_ n7_; (try clear hb); (try clear hb2); (try clear hk); (try clear hi)))
    (try simp only [Act.put, List.setIfInBounds_toArray, List.set_cons_zero, List.set_cons_succ])
    go_cut [54] (fun v54 wc => ∃ (kq : Nat) (x54_10 : Bool), v54 = .bool x54_10 ∧ Aside0 (arbiterlaw08_AccessOpen.j0 kq a1 a2 a3 t240 t265 t266 x54_10 t241 t242 t243 t246 t247 t248 = some r) ∧ Aside0 (kq ≤ k) ∧ Aside0 (Kd.R Kd.string 9 wc w.heap.size (fun k_ => some k_ ≠ ((.slice Ao23 t255.length co23) : Value).ownBlock) (.slice Ao17 t243.length co17) t243) ∧ Aside0 (Kd.R k51 51 wc w.heap.size (fun k_ => some k_ ≠ ((.slice Ao24 t260.length co24) : Value).ownBlock) (.slice Ao18 t248.length co18) t248) ∧ Aside0 (Kd.R Kd.string 9 wc w.heap.size (fun k_ => some k_ ≠ ((.slice Ao17 t243.length co17) : Value).ownBlock) (.slice Ao23 t255.length co23) t255) ∧ Aside0 (Kd.R k51 51 wc w.heap.size (fun k_ => some k_ ≠ ((.slice Ao18 t248.length co18) : Value).ownBlock) (.slice Ao24 t260.length co24) t260) ∧ Aside0 (wc.heap[gb252]? = some (.cells #[.string t241, .string t242, (.slice Ao17 t243.length co17), .int .i64 t246, .int .i64 t247, (.slice Ao18 t248.length co18)] 44 (0, 0))) ∧ Aside0 (wc.heap[gb264]? = some (.cells #[.string t253, .string t254, (.slice Ao23 t255.length co23), .int .i64 t258, .int .i64 t259, (.slice Ao24 t260.length co24)] 44 (0, 0))) ∧ Aside0 (WOK wc G_t240 t240) ∧ Aside0 (Below w.heap.size w wc))
    case first =>
      have H := HC11.out
      clear HC11
      by_cases c26 : t251 = 0
      · rw [if_pos c26] at H
        have c26b0 : (t251 == 0) = true := beq_iff_eq.mpr c26
        have c26b1 : (t251 != 0) = false := bne_eq_false_iff_eq.mpr c26
        clear c26
        (first | rw [c26b0] | (simp only [i64_w, i32_w]; rw [c26b0]) | skip)
        have H' := Aside0.mk H
        clear H
        go_wp2
        go_meet
        case rel => exact ⟨_, ((t263 != 0)), (by first | rfl | (simp; done) | (simp [*]; done)), H', ⟨by first | omega | exact Nat.le_refl _⟩, ⟨by (with_reducible repeat (first | apply Kd.R_alloc | apply Kd.R_drewN | apply Kd.R_drew)); exact Kd.R_mono HO245.out (fun _ hk => hk.2)⟩, ⟨by (with_reducible repeat (first | apply Kd.R_alloc | apply Kd.R_drewN | apply Kd.R_drew)); exact Kd.R_mono HO250.out (fun _ hk => hk.2)⟩, ⟨by (with_reducible repeat (first | apply Kd.R_alloc | apply Kd.R_drewN | apply Kd.R_drew)); exact Kd.R_mono HO257.out (fun _ hk => hk.2)⟩, ⟨by (with_reducible repeat (first | apply Kd.R_alloc | apply Kd.R_drewN | apply Kd.R_drew)); exact Kd.R_mono HO262.out (fun _ hk => hk.2)⟩, ⟨by (with_reducible repeat (first | refine blk_drewN ?_ _ | refine blk_drew ?_ | refine blk_alloc ?_ _)); exact BK252.out⟩, ⟨by (with_reducible repeat (first | refine blk_drewN ?_ _ | refine blk_drew ?_ | refine blk_alloc ?_ _)); exact BK264.out⟩, ⟨by repeat (first | (with_reducible exact HQt240.out) | (with_reducible refine WOK.alloc ?_ _) | (with_reducible refine WOK.drewN ?_ _) | (with_reducible refine WOK.drew ?_))⟩, ⟨by repeat (first | (with_reducible first | exact HB.out | apply below_alloc | apply pw_below_drewN | apply below_drew1 | refine below_set ?_ GE252.out | refine below_set ?_ GE264.out) | exact HB.out)⟩⟩
      · rw [if_neg c26] at H
        have c26b0 : (t251 == 0) = false := beq_eq_false_iff_ne.mpr c26
        have c26b1 : (t251 != 0) = true := bne_iff_ne.mpr c26
        (first | rw [c26b0] | (simp only [i64_w, i32_w]; rw [c26b0]) | skip)
        have H' := Aside0.mk H
        clear H
        go_wp2
        go_meet
        case rel => exact ⟨_, (true), (by first | rfl | (simp; done) | (simp [*]; done)), H', ⟨by first | omega | exact Nat.le_refl _⟩, ⟨by (with_reducible repeat (first | apply Kd.R_alloc | apply Kd.R_drewN | apply Kd.R_drew)); exact Kd.R_mono HO245.out (fun _ hk => hk.2)⟩, ⟨by (with_reducible repeat (first | apply Kd.R_alloc | apply Kd.R_drewN | apply Kd.R_drew)); exact Kd.R_mono HO250.out (fun _ hk => hk.2)⟩, ⟨by (with_reducible repeat (first | apply Kd.R_alloc | apply Kd.R_drewN | apply Kd.R_drew)); exact Kd.R_mono HO257.out (fun _ hk => hk.2)⟩, ⟨by (with_reducible repeat (first | apply Kd.R_alloc | apply Kd.R_drewN | apply Kd.R_drew)); exact Kd.R_mono HO262.out (fun _ hk => hk.2)⟩, ⟨by (with_reducible repeat (first | refine blk_drewN ?_ _ | refine blk_drew ?_ | refine blk_alloc ?_ _)); exact BK252.out⟩, ⟨by (with_reducible repeat (first | refine blk_drewN ?_ _ | refine blk_drew ?_ | refine blk_alloc ?_ _)); exact BK264.out⟩, ⟨by repeat (first | (with_reducible exact HQt240.out) | (with_reducible refine WOK.alloc ?_ _) | (with_reducible refine WOK.drewN ?_ _) | (with_reducible refine WOK.drew ?_))⟩, ⟨by repeat (first | (with_reducible first | exact HB.out | apply below_alloc | apply pw_below_drewN | apply below_drew1 | refine below_set ?_ GE252.out | refine below_set ?_ GE264.out) | exact HB.out)⟩⟩
    case rest =>
      clear HC11
      try clear c1
      try clear c2
      try clear p2
      try clear c5
      try clear c6
      try clear c8
      try clear c9
      try clear c18
      try clear c19
      try clear c21
      try clear c26
      try clear c26b0
      try clear c26b1
      try clear hcz16_0
      try clear hcz16_1
      try clear hcz16_2
      try clear hcz16_3
      try clear hcz16_4
      try clear hcz16_5
      try clear hcz22_0
      try clear hcz22_1
      try clear hcz22_2
      try clear hcz22_3
      try clear hcz22_4
      try clear hcz22_5
      try clear hfz16_0
      try clear hfz16_1
      try clear hfz16_2
      try clear hfz16_3
      try clear hfz16_4
      try clear hfz16_5
      try clear hfz22_0
      try clear hfz22_1
      try clear hfz22_2
      try clear hfz22_3
      try clear hfz22_4
      try clear hfz22_5
      obtain ⟨kq, x54_10, rfl, HA, HJ10, HO_253002, HO_253005, HO_265002, HO_265005, BK252, BK264, HQt240, HB⟩ := hcut
      cases kq with
      | zero => exact absurd HA.out (by simp [arbiterlaw08_AccessOpen.j0])
      | succ kj10 =>
        have H := HA.out
        clear HA
        simp only [arbiterlaw08_AccessOpen.j0] at H
        by_cases c27 : x54_10 = true
        · subst c27
          have H1 : (if t266 = 3 then (some (!t265)) else (some false)) = some r := by rw [if_pos rfl] at H; exact H
          clear H
          have H := H1
          clear H1
          by_cases c28 : t266 = 3
          · rw [if_pos c28] at H
            have c28b0 : (t266 == 3) = true := beq_iff_eq.mpr c28
            have c28b1 : (t266 != 3) = false := bne_eq_false_iff_eq.mpr c28
            clear c28
            obtain rfl := Option.some.inj H
            go_wp2
            go_ret
            exact ⟨by first | rfl | (simp [errW_none, errW_some] <;> rfl) | (simp [*, errW_none, errW_some] <;> rfl), by repeat (first | (with_reducible first | exact HB.out | apply below_alloc | apply pw_below_drewN | apply below_drew1 | refine below_set ?_ GE252.out | refine below_set ?_ GE264.out) | exact HB.out)⟩
          · rw [if_neg c28] at H
            have c28b0 : (t266 == 3) = false := beq_eq_false_iff_ne.mpr c28
            have c28b1 : (t266 != 3) = true := bne_iff_ne.mpr c28
            obtain rfl := Option.some.inj H
            go_wp2
            go_ret
            exact ⟨by first | rfl | (simp [errW_none, errW_some] <;> rfl) | (simp [*, errW_none, errW_some] <;> rfl), by repeat (first | (with_reducible first | exact HB.out | apply below_alloc | apply pw_below_drewN | apply below_drew1 | refine below_set ?_ GE252.out | refine below_set ?_ GE264.out) | exact HB.out)⟩
        · replace c27 := Bool.eq_false_iff.mpr c27
          subst c27
          have H1 : ((access_ClassOpen.f t240 a2 a2).bind fun bt267 => (if bt267.1 = true then (if (Go.bits .and .i64 t246 1) = 0 then ((hier_World_SamePackage.f t240 a2 a1).bind fun t269 => (arbiterlaw08_AccessOpen.j1 kj10 a1 a2 a3 t240 t265 (t265 != t269) t241 t242 t243 t246 t247 t248)) else (arbiterlaw08_AccessOpen.j1 kj10 a1 a2 a3 t240 t265 (t265 != true) t241 t242 t243 t246 t247 t248)) else (arbiterlaw08_AccessOpen.j1 kj10 a1 a2 a3 t240 t265 true t241 t242 t243 t246 t247 t248))) = some r := by rw [if_neg (show ¬ (false = true) by decide)] at H; exact H
          clear H
          have H := H1
          clear H1
          replace H := Option.bind_eq_some_iff.mp H
          obtain ⟨⟨t267, t268⟩, A290, H⟩ := H
          replace H : (if t267 = true then (if (Go.bits .and .i64 t246 1) = 0 then ((hier_World_SamePackage.f t240 a2 a1).bind fun t269 => (arbiterlaw08_AccessOpen.j1 kj10 a1 a2 a3 t240 t265 (t265 != t269) t241 t242 t243 t246 t247 t248)) else (arbiterlaw08_AccessOpen.j1 kj10 a1 a2 a3 t240 t265 (t265 != true) t241 t242 t243 t246 t247 t248)) else (arbiterlaw08_AccessOpen.j1 kj10 a1 a2 a3 t240 t265 true t241 t242 t243 t246 t247 t248)) = some r := H
          have A29 := Aside0.mk A290
          clear A290
          have HC30 := Aside0.mk H
          clear H
          go_upto_region 10 with (first | ((with_reducible refine gate_callee (f := 9) rfl ?_); refine goesL_ (some 65) rfl rfl Tryd.func9 (by kernel_rfl) rfl #[.pointer (some ⟨G_t240, 0, none⟩), .int .i64 a2, .int .i64 a2] rfl (by (try simp only [List.map_toArray, List.map_cons, List.map_nil]); first | done | rfl | (simp only [List.length_drop, List.length_take]; rfl)) ?_; (with_reducible refine (access_ClassOpen.calls G_t240 t240 a2 a2 t267 t268 _ ?side1 A29.out).mono ?_); (case side1 => repeat (first | (with_reducible exact HQt240.out) | (with_reducible refine WOK.alloc ?_ _) | (with_reducible refine WOK.drewN ?_ _) | (with_reducible refine WOK.drew ?_))); rintro e w31 ⟨rfl, hb⟩; refine ⟨_, rfl, ?_⟩; have n0_ := Aside0.mk (Kd.R_below (by (with_reducible repeat (first | apply Kd.R_alloc | apply Kd.R_drewN | apply Kd.R_drew)); exact HO_253002.out) hb); have n1_ := Aside0.mk (Kd.R_below (by (with_reducible repeat (first | apply Kd.R_alloc | apply Kd.R_drewN | apply Kd.R_drew)); exact HO_253005.out) hb); have n2_ := Aside0.mk (Kd.R_below (by (with_reducible repeat (first | apply Kd.R_alloc | apply Kd.R_drewN | apply Kd.R_drew)); exact HO_265002.out) hb); have n3_ := Aside0.mk (Kd.R_below (by (with_reducible repeat (first | apply Kd.R_alloc | apply Kd.R_drewN | apply Kd.R_drew)); exact HO_265005.out) hb); have n4_ := Aside0.mk (blk_below (g := gb252) (o := .cells #[.string t241, .string t242, .slice Ao17 t243.length co17, .int .i64 t246, .int .i64 t247, .slice Ao18 t248.length co18] 44 (0, 0)) (by (with_reducible repeat (first | refine blk_drewN ?_ _ | refine blk_drew ?_ | refine blk_alloc ?_ _)); exact BK252.out) hb); have n5_ := Aside0.mk (blk_below (g := gb264) (o := .cells #[.string t253, .string t254, .slice Ao23 t255.length co23, .int .i64 t258, .int .i64 t259, .slice Ao24 t260.length co24] 44 (0, 0)) (by (with_reducible repeat (first | refine blk_drewN ?_ _ | refine blk_drew ?_ | refine blk_alloc ?_ _)); exact BK264.out) hb); have n6_ := Aside0.mk (WOK.below (g := G_t240) (es := t240) (by repeat (first | (with_reducible exact HQt240.out) | (with_reducible refine WOK.alloc ?_ _) | (with_reducible refine WOK.drewN ?_ _) | (with_reducible refine WOK.drew ?_))) hb); have n7_ := Aside0.mk (below_step (by repeat (first | (with_reducible first | exact HB.out | apply below_alloc | apply pw_below_drewN | apply below_drew1 | refine below_set ?_ GE252.out | refine below_set ?_ GE264.out) | exact HB.out)) hb); clear HO_253002; clear HO_253005; clear HO_265002; clear HO_265005; clear BK252; clear BK264; clear HQt240; clear HB; have HO_253002 := n0_; have HO_253005 := n1_; have HO_265002 := n2_; have HO_265005 := n3_; have BK252 := n4_; have BK264 := n5_; have HQt240 := n6_; have HB := n7_; clear n0_ n1_ n2_ n3_ n4_ n5_ n6_ n7_; (try clear hb); (try clear hb2); (try clear hk); (try clear hi)))
          (try simp only [Act.put, List.setIfInBounds_toArray, List.set_cons_zero, List.set_cons_succ])
          go_cut [83] (fun v83 wc => ∃ (kq : Nat) (x83_29 : Bool), v83 = .bool x83_29 ∧ Aside0 (arbiterlaw08_AccessOpen.j1 kq a1 a2 a3 t240 t265 x83_29 t241 t242 t243 t246 t247 t248 = some r) ∧ Aside0 (kq ≤ kj10) ∧ Aside0 (Kd.R Kd.string 9 wc w.heap.size (fun k_ => some k_ ≠ ((.slice Ao23 t255.length co23) : Value).ownBlock) (.slice Ao17 t243.length co17) t243) ∧ Aside0 (Kd.R k51 51 wc w.heap.size (fun k_ => some k_ ≠ ((.slice Ao24 t260.length co24) : Value).ownBlock) (.slice Ao18 t248.length co18) t248) ∧ Aside0 (Kd.R Kd.string 9 wc w.heap.size (fun k_ => some k_ ≠ ((.slice Ao17 t243.length co17) : Value).ownBlock) (.slice Ao23 t255.length co23) t255) ∧ Aside0 (Kd.R k51 51 wc w.heap.size (fun k_ => some k_ ≠ ((.slice Ao18 t248.length co18) : Value).ownBlock) (.slice Ao24 t260.length co24) t260) ∧ Aside0 (wc.heap[gb252]? = some (.cells #[.string t241, .string t242, (.slice Ao17 t243.length co17), .int .i64 t246, .int .i64 t247, (.slice Ao18 t248.length co18)] 44 (0, 0))) ∧ Aside0 (wc.heap[gb264]? = some (.cells #[.string t253, .string t254, (.slice Ao23 t255.length co23), .int .i64 t258, .int .i64 t259, (.slice Ao24 t260.length co24)] 44 (0, 0))) ∧ Aside0 (WOK wc G_t240 t240) ∧ Aside0 (Below w.heap.size w wc))
          case first =>
            have H := HC30.out
            clear HC30
            by_cases c32 : t267 = true
            · subst c32
              have H1 : (if (Go.bits .and .i64 t246 1) = 0 then ((hier_World_SamePackage.f t240 a2 a1).bind fun t269 => (arbiterlaw08_AccessOpen.j1 kj10 a1 a2 a3 t240 t265 (t265 != t269) t241 t242 t243 t246 t247 t248)) else (arbiterlaw08_AccessOpen.j1 kj10 a1 a2 a3 t240 t265 (t265 != true) t241 t242 t243 t246 t247 t248)) = some r := by rw [if_pos rfl] at H; exact H
              clear H
              have H := H1
              clear H1
              by_cases c33 : (Go.bits .and .i64 t246 1) = 0
              · rw [if_pos c33] at H
                have c33b0 : ((Go.bits .and .i64 t246 1) == 0) = true := beq_iff_eq.mpr c33
                have c33b1 : ((Go.bits .and .i64 t246 1) != 0) = false := bne_eq_false_iff_eq.mpr c33
                clear c33
                (first | rw [c33b0] | (simp only [i64_w, i32_w]; rw [c33b0]) | skip)
                replace H := Option.bind_eq_some_iff.mp H
                obtain ⟨t269, A340, H⟩ := H
                replace H : (arbiterlaw08_AccessOpen.j1 kj10 a1 a2 a3 t240 t265 (t265 != t269) t241 t242 t243 t246 t247 t248) = some r := H
                have A34 := Aside0.mk A340
                clear A340
                have H' := Aside0.mk H
                clear H
                have hnb35 := NB252_264.out
                have hnc35 := NB264_252.out
                have hcz36_0 : w31.cell? ⟨gb252, 0, none⟩ = some (.string t241) := (blk_cell BK252.out 0).trans rfl
                have hcz36_1 : w31.cell? ⟨gb252, 1, none⟩ = some (.string t242) := (blk_cell BK252.out 1).trans rfl
                have hcz36_2 : w31.cell? ⟨gb252, 2, none⟩ = some (.slice Ao17 t243.length co17) := (blk_cell BK252.out 2).trans rfl
                have hcz36_3 : w31.cell? ⟨gb252, 3, none⟩ = some (.int .i64 t246) := (blk_cell BK252.out 3).trans rfl
                have hcz36_4 : w31.cell? ⟨gb252, 4, none⟩ = some (.int .i64 t247) := (blk_cell BK252.out 4).trans rfl
                have hcz36_5 : w31.cell? ⟨gb252, 5, none⟩ = some (.slice Ao18 t248.length co18) := (blk_cell BK252.out 5).trans rfl
                have hfz36_0 := blk_frozen BK252.out 0
                have hfz36_1 := blk_frozen BK252.out 1
                have hfz36_2 := blk_frozen BK252.out 2
                have hfz36_3 := blk_frozen BK252.out 3
                have hfz36_4 := blk_frozen BK252.out 4
                have hfz36_5 := blk_frozen BK252.out 5
                go_wp2_with (first | (go_at_call 20; (with_reducible refine (hier_World_SamePackage.calls G_t240 t240 a2 a1 t269 _ ?side1 A34.out).mono ?_); (case side1 => repeat (first | (with_reducible exact HQt240.out) | (with_reducible refine WOK.alloc ?_ _) | (with_reducible refine WOK.drewN ?_ _) | (with_reducible refine WOK.drew ?_))); rintro e w37 ⟨rfl, hb⟩; have n0_ := Aside0.mk (Kd.R_below (by (with_reducible repeat (first | apply Kd.R_alloc | apply Kd.R_drewN | apply Kd.R_drew)); exact HO_253002.out) hb); have n1_ := Aside0.mk (Kd.R_below (by (with_reducible repeat (first | apply Kd.R_alloc | apply Kd.R_drewN | apply Kd.R_drew)); exact HO_253005.out) hb); have n2_ := Aside0.mk (Kd.R_below (by (with_reducible repeat (first | apply Kd.R_alloc | apply Kd.R_drewN | apply Kd.R_drew)); exact HO_265002.out) hb); have n3_ := Aside0.mk (Kd.R_below (by (with_reducible repeat (first | apply Kd.R_alloc | apply Kd.R_drewN | apply Kd.R_drew)); exact HO_265005.out) hb); have n4_ := Aside0.mk (blk_below (g := gb252) (o := .cells #[.string t241, .string t242, .slice Ao17 t243.length co17, .int .i64 t246, .int .i64 t247, .slice Ao18 t248.length co18] 44 (0, 0)) (by (with_reducible repeat (first | refine blk_drewN ?_ _ | refine blk_drew ?_ | refine blk_alloc ?_ _)); exact BK252.out) hb); have n5_ := Aside0.mk (blk_below (g := gb264) (o := .cells #[.string t253, .string t254, .slice Ao23 t255.length co23, .int .i64 t258, .int .i64 t259, .slice Ao24 t260.length co24] 44 (0, 0)) (by (with_reducible repeat (first | refine blk_drewN ?_ _ | refine blk_drew ?_ | refine blk_alloc ?_ _)); exact BK264.out) hb); have n6_ := Aside0.mk (WOK.below (g := G_t240) (es := t240) (by repeat (first | (with_reducible exact HQt240.out) | (with_reducible refine WOK.alloc ?_ _) | (with_reducible refine WOK.drewN ?_ _) | (with_reducible refine WOK.drew ?_))) hb); have n7_ := Aside0.mk (below_step (by repeat (first | (with_reducible first | exact HB.out | apply below_alloc | apply pw_below_drewN | apply below_drew1 | refine below_set ?_ GE252.out | refine below_set ?_ GE264.out) | exact HB.out)) hb); clear HO_253002; clear HO_253005; clear HO_265002; clear HO_265005; clear BK252; clear BK264; clear HQt240; clear HB; have HO_253002 := n0_; have HO_253005 := n1_; have HO_265002 := n2_; have HO_265005 := n3_; have BK252 := n4_; have BK264 := n5_; have HQt240 := n6_; have HB := n7_; clear n0_ n1_ n2_ n3_ n4_ n5_ n6_ n7_; (try clear hb); (try clear hb2); (try clear hk); (try clear hi)))
                go_meet
                case rel => exact ⟨_, ((t265 != t269)), (by first | rfl | (simp; done) | (simp [*]; done)), H', ⟨by have := HJ10.out; first | omega | exact Nat.le_refl _⟩, ⟨by (with_reducible repeat (first | apply Kd.R_alloc | apply Kd.R_drewN | apply Kd.R_drew)); exact HO_253002.out⟩, ⟨by (with_reducible repeat (first | apply Kd.R_alloc | apply Kd.R_drewN | apply Kd.R_drew)); exact HO_253005.out⟩, ⟨by (with_reducible repeat (first | apply Kd.R_alloc | apply Kd.R_drewN | apply Kd.R_drew)); exact HO_265002.out⟩, ⟨by (with_reducible repeat (first | apply Kd.R_alloc | apply Kd.R_drewN | apply Kd.R_drew)); exact HO_265005.out⟩, ⟨by (with_reducible repeat (first | refine blk_drewN ?_ _ | refine blk_drew ?_ | refine blk_alloc ?_ _)); exact BK252.out⟩, ⟨by (with_reducible repeat (first | refine blk_drewN ?_ _ | refine blk_drew ?_ | refine blk_alloc ?_ _)); exact BK264.out⟩, ⟨by repeat (first | (with_reducible exact HQt240.out) | (with_reducible refine WOK.alloc ?_ _) | (with_reducible refine WOK.drewN ?_ _) | (with_reducible refine WOK.drew ?_))⟩, ⟨by repeat (first | (with_reducible first | exact HB.out | apply below_alloc | apply pw_below_drewN | apply below_drew1 | refine below_set ?_ GE252.out | refine below_set ?_ GE264.out) | exact HB.out)⟩⟩
              · rw [if_neg c33] at H
                have c33b0 : ((Go.bits .and .i64 t246 1) == 0) = false := beq_eq_false_iff_ne.mpr c33
                have c33b1 : ((Go.bits .and .i64 t246 1) != 0) = true := bne_iff_ne.mpr c33
                (first | rw [c33b0] | (simp only [i64_w, i32_w]; rw [c33b0]) | skip)
                have H' := Aside0.mk H
                clear H
                have hnb38 := NB252_264.out
                have hnc38 := NB264_252.out
                have hcz39_0 : w31.cell? ⟨gb252, 0, none⟩ = some (.string t241) := (blk_cell BK252.out 0).trans rfl
                have hcz39_1 : w31.cell? ⟨gb252, 1, none⟩ = some (.string t242) := (blk_cell BK252.out 1).trans rfl
                have hcz39_2 : w31.cell? ⟨gb252, 2, none⟩ = some (.slice Ao17 t243.length co17) := (blk_cell BK252.out 2).trans rfl
                have hcz39_3 : w31.cell? ⟨gb252, 3, none⟩ = some (.int .i64 t246) := (blk_cell BK252.out 3).trans rfl
                have hcz39_4 : w31.cell? ⟨gb252, 4, none⟩ = some (.int .i64 t247) := (blk_cell BK252.out 4).trans rfl
                have hcz39_5 : w31.cell? ⟨gb252, 5, none⟩ = some (.slice Ao18 t248.length co18) := (blk_cell BK252.out 5).trans rfl
                have hfz39_0 := blk_frozen BK252.out 0
                have hfz39_1 := blk_frozen BK252.out 1
                have hfz39_2 := blk_frozen BK252.out 2
                have hfz39_3 := blk_frozen BK252.out 3
                have hfz39_4 := blk_frozen BK252.out 4
                have hfz39_5 := blk_frozen BK252.out 5
                go_wp2
                go_meet
                case rel => exact ⟨_, ((t265 != true)), (by first | rfl | (simp; done) | (simp [*]; done)), H', ⟨by have := HJ10.out; first | omega | exact Nat.le_refl _⟩, ⟨by (with_reducible repeat (first | apply Kd.R_alloc | apply Kd.R_drewN | apply Kd.R_drew)); exact HO_253002.out⟩, ⟨by (with_reducible repeat (first | apply Kd.R_alloc | apply Kd.R_drewN | apply Kd.R_drew)); exact HO_253005.out⟩, ⟨by (with_reducible repeat (first | apply Kd.R_alloc | apply Kd.R_drewN | apply Kd.R_drew)); exact HO_265002.out⟩, ⟨by (with_reducible repeat (first | apply Kd.R_alloc | apply Kd.R_drewN | apply Kd.R_drew)); exact HO_265005.out⟩, ⟨by (with_reducible repeat (first | refine blk_drewN ?_ _ | refine blk_drew ?_ | refine blk_alloc ?_ _)); exact BK252.out⟩, ⟨by (with_reducible repeat (first | refine blk_drewN ?_ _ | refine blk_drew ?_ | refine blk_alloc ?_ _)); exact BK264.out⟩, ⟨by repeat (first | (with_reducible exact HQt240.out) | (with_reducible refine WOK.alloc ?_ _) | (with_reducible refine WOK.drewN ?_ _) | (with_reducible refine WOK.drew ?_))⟩, ⟨by repeat (first | (with_reducible first | exact HB.out | apply below_alloc | apply pw_below_drewN | apply below_drew1 | refine below_set ?_ GE252.out | refine below_set ?_ GE264.out) | exact HB.out)⟩⟩
            · replace c32 := Bool.eq_false_iff.mpr c32
              subst c32
              have H1 : (arbiterlaw08_AccessOpen.j1 kj10 a1 a2 a3 t240 t265 true t241 t242 t243 t246 t247 t248) = some r := by rw [if_neg (show ¬ (false = true) by decide)] at H; exact H
              clear H
              have H := H1
              clear H1
              have H' := Aside0.mk H
              clear H
              go_wp2
              go_meet
              case rel => exact ⟨_, (true), (by first | rfl | (simp; done) | (simp [*]; done)), H', ⟨by have := HJ10.out; first | omega | exact Nat.le_refl _⟩, ⟨by (with_reducible repeat (first | apply Kd.R_alloc | apply Kd.R_drewN | apply Kd.R_drew)); exact HO_253002.out⟩, ⟨by (with_reducible repeat (first | apply Kd.R_alloc | apply Kd.R_drewN | apply Kd.R_drew)); exact HO_253005.out⟩, ⟨by (with_reducible repeat (first | apply Kd.R_alloc | apply Kd.R_drewN | apply Kd.R_drew)); exact HO_265002.out⟩, ⟨by (with_reducible repeat (first | apply Kd.R_alloc | apply Kd.R_drewN | apply Kd.R_drew)); exact HO_265005.out⟩, ⟨by (with_reducible repeat (first | refine blk_drewN ?_ _ | refine blk_drew ?_ | refine blk_alloc ?_ _)); exact BK252.out⟩, ⟨by (with_reducible repeat (first | refine blk_drewN ?_ _ | refine blk_drew ?_ | refine blk_alloc ?_ _)); exact BK264.out⟩, ⟨by repeat (first | (with_reducible exact HQt240.out) | (with_reducible refine WOK.alloc ?_ _) | (with_reducible refine WOK.drewN ?_ _) | (with_reducible refine WOK.drew ?_))⟩, ⟨by repeat (first | (with_reducible first | exact HB.out | apply below_alloc | apply pw_below_drewN | apply below_drew1 | refine below_set ?_ GE252.out | refine below_set ?_ GE264.out) | exact HB.out)⟩⟩
          case rest =>
            clear HC30
            try clear c1
            try clear c2
            try clear p2
            try clear c3
            try clear c5
            try clear c6
            try clear c8
            try clear c9
            try clear c18
            try clear c19
            try clear c21
            try clear c26
            try clear c26b0
            try clear c26b1
            try clear c27
            try clear c28
            try clear c28b0
            try clear c28b1
            try clear c32
            try clear c33
            try clear c33b0
            try clear c33b1
            try clear c35
            try clear c38
            try clear hcz16_0
            try clear hcz16_1
            try clear hcz16_2
            try clear hcz16_3
            try clear hcz16_4
            try clear hcz16_5
            try clear hcz22_0
            try clear hcz22_1
            try clear hcz22_2
            try clear hcz22_3
            try clear hcz22_4
            try clear hcz22_5
            try clear hcz36_0
            try clear hcz36_1
            try clear hcz36_2
            try clear hcz36_3
            try clear hcz36_4
            try clear hcz36_5
            try clear hcz39_0
            try clear hcz39_1
            try clear hcz39_2
            try clear hcz39_3
            try clear hcz39_4
            try clear hcz39_5
            try clear hfz16_0
            try clear hfz16_1
            try clear hfz16_2
            try clear hfz16_3
            try clear hfz16_4
            try clear hfz16_5
            try clear hfz22_0
            try clear hfz22_1
            try clear hfz22_2
            try clear hfz22_3
            try clear hfz22_4
            try clear hfz22_5
            try clear hfz36_0
            try clear hfz36_1
            try clear hfz36_2
            try clear hfz36_3
            try clear hfz36_4
            try clear hfz36_5
            try clear hfz39_0
            try clear hfz39_1
            try clear hfz39_2
            try clear hfz39_3
            try clear hfz39_4
            try clear hfz39_5
            try clear p2
            obtain ⟨kq, x83_29, rfl, HA, HJ29, HO_253002, HO_253005, HO_265002, HO_265005, BK252, BK264, HQt240, HB⟩ := hcut
            cases kq with
            | zero => exact absurd HA.out (by simp [arbiterlaw08_AccessOpen.j1])
            | succ kj29 =>
              have H := HA.out
              clear HA
              simp only [arbiterlaw08_AccessOpen.j1] at H
              by_cases c40 : x83_29 = true
              · subst c40
                have H1 : (some false) = some r := by rw [if_pos rfl] at H; exact H
                clear H
                have H := H1
                clear H1
                obtain rfl := Option.some.inj H
                go_wp2
                go_ret
                exact ⟨by first | rfl | (simp [errW_none, errW_some] <;> rfl) | (simp [*, errW_none, errW_some] <;> rfl), by repeat (first | (with_reducible first | exact HB.out | apply below_alloc | apply pw_below_drewN | apply below_drew1 | refine below_set ?_ GE252.out | refine below_set ?_ GE264.out) | exact HB.out)⟩
              · replace c40 := Bool.eq_false_iff.mpr c40
                subst c40
                have H1 : ((access_Package.f t240 a2).bind fun bt270 => ((access_Package.f t240 a1).bind fun bt273 => (if bt270.2.2 = 0 then (if bt273.2.2 = 0 then ((hier_World_SamePackage.f t240 a2 a1).bind fun t276 => (if bt270.1 = bt273.1 then (arbiterlaw08_AccessOpen.j2 kj29 a1 a3 t240 t265 (t276 != (bt270.2.1.toList == bt273.2.1.toList)) t241 t242 t243 t246 t247 t248) else (arbiterlaw08_AccessOpen.j2 kj29 a1 a3 t240 t265 (t276 != false) t241 t242 t243 t246 t247 t248))) else (arbiterlaw08_AccessOpen.j2 kj29 a1 a3 t240 t265 true t241 t242 t243 t246 t247 t248)) else (arbiterlaw08_AccessOpen.j2 kj29 a1 a3 t240 t265 true t241 t242 t243 t246 t247 t248)))) = some r := by rw [if_neg (show ¬ (false = true) by decide)] at H; exact H
                clear H
                have H := H1
                clear H1
                replace H := Option.bind_eq_some_iff.mp H
                obtain ⟨⟨t270, t271, t272⟩, A410, H⟩ := H
                replace H : ((access_Package.f t240 a1).bind fun bt273 => (if t272 = 0 then (if bt273.2.2 = 0 then ((hier_World_SamePackage.f t240 a2 a1).bind fun t276 => (if t270 = bt273.1 then (arbiterlaw08_AccessOpen.j2 kj29 a1 a3 t240 t265 (t276 != (t271.toList == bt273.2.1.toList)) t241 t242 t243 t246 t247 t248) else (arbiterlaw08_AccessOpen.j2 kj29 a1 a3 t240 t265 (t276 != false) t241 t242 t243 t246 t247 t248))) else (arbiterlaw08_AccessOpen.j2 kj29 a1 a3 t240 t265 true t241 t242 t243 t246 t247 t248)) else (arbiterlaw08_AccessOpen.j2 kj29 a1 a3 t240 t265 true t241 t242 t243 t246 t247 t248))) = some r := H
                have A41 := Aside0.mk A410
                clear A410
                replace H := Option.bind_eq_some_iff.mp H
                obtain ⟨⟨t273, t274, t275⟩, A420, H⟩ := H
                replace H : (if t272 = 0 then (if t275 = 0 then ((hier_World_SamePackage.f t240 a2 a1).bind fun t276 => (if t270 = t273 then (arbiterlaw08_AccessOpen.j2 kj29 a1 a3 t240 t265 (t276 != (t271.toList == t274.toList)) t241 t242 t243 t246 t247 t248) else (arbiterlaw08_AccessOpen.j2 kj29 a1 a3 t240 t265 (t276 != false) t241 t242 t243 t246 t247 t248))) else (arbiterlaw08_AccessOpen.j2 kj29 a1 a3 t240 t265 true t241 t242 t243 t246 t247 t248)) else (arbiterlaw08_AccessOpen.j2 kj29 a1 a3 t240 t265 true t241 t242 t243 t246 t247 t248)) = some r := H
                have A42 := Aside0.mk A420
                clear A420
                have HC43 := Aside0.mk H
                clear H
                go_upto_region 14 with (first | ((with_reducible refine gate_callee (f := 12) rfl ?_); refine goesL_ (some 87) rfl rfl Tryd.func12 (by kernel_rfl) rfl #[.pointer (some ⟨G_t240, 0, none⟩), .int .i64 a2] rfl (by (try simp only [List.map_toArray, List.map_cons, List.map_nil]); first | done | rfl | (simp only [List.length_drop, List.length_take]; rfl)) ?_; (with_reducible refine (access_Package.calls G_t240 t240 a2 t270 t271 t272 _ ?side1 A41.out).mono ?_); (case side1 => repeat (first | (with_reducible exact HQt240.out) | (with_reducible refine WOK.alloc ?_ _) | (with_reducible refine WOK.drewN ?_ _) | (with_reducible refine WOK.drew ?_))); rintro e w44 ⟨rfl, hb⟩; refine ⟨_, rfl, ?_⟩; have n0_ := Aside0.mk (Kd.R_below (by (with_reducible repeat (first | apply Kd.R_alloc | apply Kd.R_drewN | apply Kd.R_drew)); exact HO_253002.out) hb); have n1_ := Aside0.mk (Kd.R_below (by (with_reducible repeat (first | apply Kd.R_alloc | apply Kd.R_drewN | apply Kd.R_drew)); exact HO_253005.out) hb); have n2_ := Aside0.mk (Kd.R_below (by (with_reducible repeat (first | apply Kd.R_alloc | apply Kd.R_drewN | apply Kd.R_drew)); exact HO_265002.out) hb); have n3_ := Aside0.mk (Kd.R_below (by (with_reducible repeat (first | apply Kd.R_alloc | apply Kd.R_drewN | apply Kd.R_drew)); exact HO_265005.out) hb); have n4_ := Aside0.mk (blk_below (g := gb252) (o := .cells #[.string t241, .string t242, .slice Ao17 t243.length co17, .int .i64 t246, .int .i64 t247, .slice Ao18 t248.length co18] 44 (0, 0)) (by (with_reducible repeat (first | refine blk_drewN ?_ _ | refine blk_drew ?_ | refine blk_alloc ?_ _)); exact BK252.out) hb); have n5_ := Aside0.mk (blk_below (g := gb264) (o := .cells #[.string t253, .string t254, .slice Ao23 t255.length co23, .int .i64 t258, .int .i64 t259, .slice Ao24 t260.length co24] 44 (0, 0)) (by (with_reducible repeat (first | refine blk_drewN ?_ _ | refine blk_drew ?_ | refine blk_alloc ?_ _)); exact BK264.out) hb); have n6_ := Aside0.mk (WOK.below (g := G_t240) (es := t240) (by repeat (first | (with_reducible exact HQt240.out) | (with_reducible refine WOK.alloc ?_ _) | (with_reducible refine WOK.drewN ?_ _) | (with_reducible refine WOK.drew ?_))) hb); have n7_ := Aside0.mk (below_step (by repeat (first | (with_reducible first | exact HB.out | apply below_alloc | apply pw_below_drewN | apply below_drew1 | refine below_set ?_ GE252.out | refine below_set ?_ GE264.out) | exact HB.out)) hb); clear HO_253002; clear HO_253005; clear HO_265002; clear HO_265005; clear BK252; clear BK264; clear HQt240; clear HB; have HO_253002 := n0_; have HO_253005 := n1_; have HO_265002 := n2_; have HO_265005 := n3_; have BK252 := n4_; have BK264 := n5_; have HQt240 := n6_; have HB := n7_; clear n0_ n1_ n2_ n3_ n4_ n5_ n6_ n7_; (try clear hb); (try clear hb2); (try clear hk); (try clear hi)) | ((with_reducible refine gate_callee (f := 12) rfl ?_); refine goesL_ (some 94) rfl rfl Tryd.func12 (by kernel_rfl) rfl #[.pointer (some ⟨G_t240, 0, none⟩), .int .i64 a1] rfl (by (try simp only [List.map_toArray, List.map_cons, List.map_nil]); first | done | rfl | (simp only [List.length_drop, List.length_take]; rfl)) ?_; (with_reducible refine (access_Package.calls G_t240 t240 a1 t273 t274 t275 _ ?side1 A42.out).mono ?_); (case side1 => repeat (first | (with_reducible exact HQt240.out) | (with_reducible refine WOK.alloc ?_ _) | (with_reducible refine WOK.drewN ?_ _) | (with_reducible refine WOK.drew ?_))); rintro e w45 ⟨rfl, hb⟩; refine ⟨_, rfl, ?_⟩; have n0_ := Aside0.mk (Kd.R_below (by (with_reducible repeat (first | apply Kd.R_alloc | apply Kd.R_drewN | apply Kd.R_drew)); exact HO_253002.out) hb); have n1_ := Aside0.mk (Kd.R_below (by (with_reducible repeat (first | apply Kd.R_alloc | apply Kd.R_drewN | apply Kd.R_drew)); exact HO_253005.out) hb); have n2_ := Aside0.mk (Kd.R_below (by (with_reducible repeat (first | apply Kd.R_alloc | apply Kd.R_drewN | apply Kd.R_drew)); exact HO_265002.out) hb); have n3_ := Aside0.mk (Kd.R_below (by (with_reducible repeat (first | apply Kd.R_alloc | apply Kd.R_drewN | apply Kd.R_drew)); exact HO_265005.out) hb); have n4_ := Aside0.mk (blk_below (g := gb252) (o := .cells #[.string t241, .string t242, .slice Ao17 t243.length co17, .int .i64 t246, .int .i64 t247, .slice Ao18 t248.length co18] 44 (0, 0)) (by (with_reducible repeat (first | refine blk_drewN ?_ _ | refine blk_drew ?_ | refine blk_alloc ?_ _)); exact BK252.out) hb); have n5_ := Aside0.mk (blk_below (g := gb264) (o := .cells #[.string t253, .string t254, .slice Ao23 t255.length co23, .int .i64 t258, .int .i64 t259, .slice Ao24 t260.length co24] 44 (0, 0)) (by (with_reducible repeat (first | refine blk_drewN ?_ _ | refine blk_drew ?_ | refine blk_alloc ?_ _)); exact BK264.out) hb); have n6_ := Aside0.mk (WOK.below (g := G_t240) (es := t240) (by repeat (first | (with_reducible exact HQt240.out) | (with_reducible refine WOK.alloc ?_ _) | (with_reducible refine WOK.drewN ?_ _) | (with_reducible refine WOK.drew ?_))) hb); have n7_ := Aside0.mk (below_step (by repeat (first | (with_reducible first | exact HB.out | apply below_alloc | apply pw_below_drewN | apply below_drew1 | refine below_set ?_ GE252.out | refine below_set ?_ GE264.out) | exact HB.out)) hb); clear HO_253002; clear HO_253005; clear HO_265002; clear HO_265005; clear BK252; clear BK264; clear HQt240; clear HB; have HO_253002 := n0_; have HO_253005 := n1_; have HO_265002 := n2_; have HO_265005 := n3_; have BK252 := n4_; have BK264 := n5_; have HQt240 := n6_; have HB := n7_; clear n0_ n1_ n2_ n3_ n4_ n5_ n6_ n7_; (try clear hb); (try clear hb2); (try clear hk); (try clear hi)))
                (try simp only [Act.put, List.setIfInBounds_toArray, List.set_cons_zero, List.set_cons_succ])
                go_cut [118] (fun v118 wc => ∃ (kq : Nat) (x118_42 : Bool), v118 = .bool x118_42 ∧ Aside0 (arbiterlaw08_AccessOpen.j2 kq a1 a3 t240 t265 x118_42 t241 t242 t243 t246 t247 t248 = some r) ∧ Aside0 (kq ≤ kj29) ∧ Aside0 (Kd.R Kd.string 9 wc w.heap.size (fun k_ => some k_ ≠ ((.slice Ao23 t255.length co23) : Value).ownBlock) (.slice Ao17 t243.length co17) t243) ∧ Aside0 (Kd.R k51 51 wc w.heap.size (fun k_ => some k_ ≠ ((.slice Ao24 t260.length co24) : Value).ownBlock) (.slice Ao18 t248.length co18) t248) ∧ Aside0 (Kd.R Kd.string 9 wc w.heap.size (fun k_ => some k_ ≠ ((.slice Ao17 t243.length co17) : Value).ownBlock) (.slice Ao23 t255.length co23) t255) ∧ Aside0 (Kd.R k51 51 wc w.heap.size (fun k_ => some k_ ≠ ((.slice Ao18 t248.length co18) : Value).ownBlock) (.slice Ao24 t260.length co24) t260) ∧ Aside0 (wc.heap[gb252]? = some (.cells #[.string t241, .string t242, (.slice Ao17 t243.length co17), .int .i64 t246, .int .i64 t247, (.slice Ao18 t248.length co18)] 44 (0, 0))) ∧ Aside0 (wc.heap[gb264]? = some (.cells #[.string t253, .string t254, (.slice Ao23 t255.length co23), .int .i64 t258, .int .i64 t259, (.slice Ao24 t260.length co24)] 44 (0, 0))) ∧ Aside0 (WOK wc G_t240 t240) ∧ Aside0 (Below w.heap.size w wc))
                case first =>
                  have H := HC43.out
                  clear HC43
                  by_cases c46 : t272 = 0
                  · rw [if_pos c46] at H
                    have c46b0 : (t272 == 0) = true := beq_iff_eq.mpr c46
                    have c46b1 : (t272 != 0) = false := bne_eq_false_iff_eq.mpr c46
                    clear c46
                    (first | rw [c46b0] | (simp only [i64_w, i32_w]; rw [c46b0]) | skip)
                    by_cases c47 : t275 = 0
                    · rw [if_pos c47] at H
                      have c47b0 : (t275 == 0) = true := beq_iff_eq.mpr c47
                      have c47b1 : (t275 != 0) = false := bne_eq_false_iff_eq.mpr c47
                      clear c47
                      replace H := Option.bind_eq_some_iff.mp H
                      obtain ⟨t276, A480, H⟩ := H
                      replace H : (if t270 = t273 then (arbiterlaw08_AccessOpen.j2 kj29 a1 a3 t240 t265 (t276 != (t271.toList == t274.toList)) t241 t242 t243 t246 t247 t248) else (arbiterlaw08_AccessOpen.j2 kj29 a1 a3 t240 t265 (t276 != false) t241 t242 t243 t246 t247 t248)) = some r := H
                      have A48 := Aside0.mk A480
                      clear A480
                      by_cases c49 : t270 = t273
                      · rw [if_pos c49] at H
                        have c49b0 : (t270 == t273) = true := beq_iff_eq.mpr c49
                        have c49b1 : (t270 != t273) = false := bne_eq_false_iff_eq.mpr c49
                        clear c49
                        have H' := Aside0.mk H
                        clear H
                        go_wp2_with (first | (go_at_call 20; (with_reducible refine (hier_World_SamePackage.calls G_t240 t240 a2 a1 t276 _ ?side1 A48.out).mono ?_); (case side1 => repeat (first | (with_reducible exact HQt240.out) | (with_reducible refine WOK.alloc ?_ _) | (with_reducible refine WOK.drewN ?_ _) | (with_reducible refine WOK.drew ?_))); rintro e w50 ⟨rfl, hb⟩; have n0_ := Aside0.mk (Kd.R_below (by (with_reducible repeat (first | apply Kd.R_alloc | apply Kd.R_drewN | apply Kd.R_drew)); exact HO_253002.out) hb); have n1_ := Aside0.mk (Kd.R_below (by (with_reducible repeat (first | apply Kd.R_alloc | apply Kd.R_drewN | apply Kd.R_drew)); exact HO_253005.out) hb); have n2_ := Aside0.mk (Kd.R_below (by (with_reducible repeat (first | apply Kd.R_alloc | apply Kd.R_drewN | apply Kd.R_drew)); exact HO_265002.out) hb); have n3_ := Aside0.mk (Kd.R_below (by (with_reducible repeat (first | apply Kd.R_alloc | apply Kd.R_drewN | apply Kd.R_drew)); exact HO_265005.out) hb); have n4_ := Aside0.mk (blk_below (g := gb252) (o := .cells #[.string t241, .string t242, .slice Ao17 t243.length co17, .int .i64 t246, .int .i64 t247, .slice Ao18 t248.length co18] 44 (0, 0)) (by (with_reducible repeat (first | refine blk_drewN ?_ _ | refine blk_drew ?_ | refine blk_alloc ?_ _)); exact BK252.out) hb); have n5_ := Aside0.mk (blk_below (g := gb264) (o := .cells #[.string t253, .string t254, .slice Ao23 t255.length co23, .int .i64 t258, .int .i64 t259, .slice Ao24 t260.length co24] 44 (0, 0)) (by (with_reducible repeat (first | refine blk_drewN ?_ _ | refine blk_drew ?_ | refine blk_alloc ?_ _)); exact BK264.out) hb); have n6_ := Aside0.mk (WOK.below (g := G_t240) (es := t240) (by repeat (first | (with_reducible exact HQt240.out) | (with_reducible refine WOK.alloc ?_ _) | (with_reducible refine WOK.drewN ?_ _) | (with_reducible refine WOK.drew ?_))) hb); have n7_ := Aside0.mk (below_step (by repeat (first | (with_reducible first | exact HB.out | apply below_alloc | apply pw_below_drewN | apply below_drew1 | refine below_set ?_ GE252.out | refine below_set ?_ GE264.out) | exact HB.out)) hb); clear HO_253002; clear HO_253005; clear HO_265002; clear HO_265005; clear BK252; clear BK264; clear HQt240; clear HB; have HO_253002 := n0_; have HO_253005 := n1_; have HO_265002 := n2_; have HO_265005 := n3_; have BK252 := n4_; have BK264 := n5_; have HQt240 := n6_; have HB := n7_; clear n0_ n1_ n2_ n3_ n4_ n5_ n6_ n7_; (try clear hb); (try clear hb2); (try clear hk); (try clear hi)))
                        go_meet
                        case rel => exact ⟨_, ((t276 != (t271.toList == t274.toList))), (by first | rfl | (simp; done) | (simp [*]; done)), H', ⟨by have := HJ10.out; have := HJ29.out; first | omega | exact Nat.le_refl _⟩, ⟨by (with_reducible repeat (first | apply Kd.R_alloc | apply Kd.R_drewN | apply Kd.R_drew)); exact HO_253002.out⟩, ⟨by (with_reducible repeat (first | apply Kd.R_alloc | apply Kd.R_drewN | apply Kd.R_drew)); exact HO_253005.out⟩, ⟨by (with_reducible repeat (first | apply Kd.R_alloc | apply Kd.R_drewN | apply Kd.R_drew)); exact HO_265002.out⟩, ⟨by (with_reducible repeat (first | apply Kd.R_alloc | apply Kd.R_drewN | apply Kd.R_drew)); exact HO_265005.out⟩, ⟨by (with_reducible repeat (first | refine blk_drewN ?_ _ | refine blk_drew ?_ | refine blk_alloc ?_ _)); exact BK252.out⟩, ⟨by (with_reducible repeat (first | refine blk_drewN ?_ _ | refine blk_drew ?_ | refine blk_alloc ?_ _)); exact BK264.out⟩, ⟨by repeat (first | (with_reducible exact HQt240.out) | (with_reducible refine WOK.alloc ?_ _) | (with_reducible refine WOK.drewN ?_ _) | (with_reducible refine WOK.drew ?_))⟩, ⟨by repeat (first | (with_reducible first | exact HB.out | apply below_alloc | apply pw_below_drewN | apply below_drew1 | refine below_set ?_ GE252.out | refine below_set ?_ GE264.out) | exact HB.out)⟩⟩
                      · rw [if_neg c49] at H
                        have c49b0 : (t270 == t273) = false := beq_eq_false_iff_ne.mpr c49
                        have c49b1 : (t270 != t273) = true := bne_iff_ne.mpr c49
                        have H' := Aside0.mk H
                        clear H
                        go_wp2_with (first | (go_at_call 20; (with_reducible refine (hier_World_SamePackage.calls G_t240 t240 a2 a1 t276 _ ?side1 A48.out).mono ?_); (case side1 => repeat (first | (with_reducible exact HQt240.out) | (with_reducible refine WOK.alloc ?_ _) | (with_reducible refine WOK.drewN ?_ _) | (with_reducible refine WOK.drew ?_))); rintro e w51 ⟨rfl, hb⟩; have n0_ := Aside0.mk (Kd.R_below (by (with_reducible repeat (first | apply Kd.R_alloc | apply Kd.R_drewN | apply Kd.R_drew)); exact HO_253002.out) hb); have n1_ := Aside0.mk (Kd.R_below (by (with_reducible repeat (first | apply Kd.R_alloc | apply Kd.R_drewN | apply Kd.R_drew)); exact HO_253005.out) hb); have n2_ := Aside0.mk (Kd.R_below (by (with_reducible repeat (first | apply Kd.R_alloc | apply Kd.R_drewN | apply Kd.R_drew)); exact HO_265002.out) hb); have n3_ := Aside0.mk (Kd.R_below (by (with_reducible repeat (first | apply Kd.R_alloc | apply Kd.R_drewN | apply Kd.R_drew)); exact HO_265005.out) hb); have n4_ := Aside0.mk (blk_below (g := gb252) (o := .cells #[.string t241, .string t242, .slice Ao17 t243.length co17, .int .i64 t246, .int .i64 t247, .slice Ao18 t248.length co18] 44 (0, 0)) (by (with_reducible repeat (first | refine blk_drewN ?_ _ | refine blk_drew ?_ | refine blk_alloc ?_ _)); exact BK252.out) hb); have n5_ := Aside0.mk (blk_below (g := gb264) (o := .cells #[.string t253, .string t254, .slice Ao23 t255.length co23, .int .i64 t258, .int .i64 t259, .slice Ao24 t260.length co24] 44 (0, 0)) (by (with_reducible repeat (first | refine blk_drewN ?_ _ | refine blk_drew ?_ | refine blk_alloc ?_ _)); exact BK264.out) hb); have n6_ := Aside0.mk (WOK.below (g := G_t240) (es := t240) (by repeat (first | (with_reducible exact HQt240.out) | (with_reducible refine WOK.alloc ?_ _) | (with_reducible refine WOK.drewN ?_ _) | (with_reducible refine WOK.drew ?_))) hb); have n7_ := Aside0.mk (below_step (by repeat (first | (with_reducible first | exact HB.out | apply below_alloc | apply pw_below_drewN | apply below_drew1 | refine below_set ?_ GE252.out | refine below_set ?_ GE264.out) | exact HB.out)) hb); clear HO_253002; clear HO_253005; clear HO_265002; clear HO_265005; clear BK252; clear BK264; clear HQt240; clear HB; have HO_253002 := n0_; have HO_253005 := n1_; have HO_265002 := n2_; have HO_265005 := n3_; have BK252 := n4_; have BK264 := n5_; have HQt240 := n6_; have HB := n7_; clear n0_ n1_ n2_ n3_ n4_ n5_ n6_ n7_; (try clear hb); (try clear hb2); (try clear hk); (try clear hi)))
                        go_meet
                        case rel => exact ⟨_, ((t276 != false)), (by first | rfl | (simp; done) | (simp [*]; done)), H', ⟨by have := HJ10.out; have := HJ29.out; first | omega | exact Nat.le_refl _⟩, ⟨by (with_reducible repeat (first | apply Kd.R_alloc | apply Kd.R_drewN | apply Kd.R_drew)); exact HO_253002.out⟩, ⟨by (with_reducible repeat (first | apply Kd.R_alloc | apply Kd.R_drewN | apply Kd.R_drew)); exact HO_253005.out⟩, ⟨by (with_reducible repeat (first | apply Kd.R_alloc | apply Kd.R_drewN | apply Kd.R_drew)); exact HO_265002.out⟩, ⟨by (with_reducible repeat (first | apply Kd.R_alloc | apply Kd.R_drewN | apply Kd.R_drew)); exact HO_265005.out⟩, ⟨by (with_reducible repeat (first | refine blk_drewN ?_ _ | refine blk_drew ?_ | refine blk_alloc ?_ _)); exact BK252.out⟩, ⟨by (with_reducible repeat (first | refine blk_drewN ?_ _ | refine blk_drew ?_ | refine blk_alloc ?_ _)); exact BK264.out⟩, ⟨by repeat (first | (with_reducible exact HQt240.out) | (with_reducible refine WOK.alloc ?_ _) | (with_reducible refine WOK.drewN ?_ _) | (with_reducible refine WOK.drew ?_))⟩, ⟨by repeat (first | (with_reducible first | exact HB.out | apply below_alloc | apply pw_below_drewN | apply below_drew1 | refine below_set ?_ GE252.out | refine below_set ?_ GE264.out) | exact HB.out)⟩⟩
                    · rw [if_neg c47] at H
                      have c47b0 : (t275 == 0) = false := beq_eq_false_iff_ne.mpr c47
                      have c47b1 : (t275 != 0) = true := bne_iff_ne.mpr c47
                      have H' := Aside0.mk H
                      clear H
                      go_wp2
                      go_meet
                      case rel => exact ⟨_, (true), (by first | rfl | (simp; done) | (simp [*]; done)), H', ⟨by have := HJ10.out; have := HJ29.out; first | omega | exact Nat.le_refl _⟩, ⟨by (with_reducible repeat (first | apply Kd.R_alloc | apply Kd.R_drewN | apply Kd.R_drew)); exact HO_253002.out⟩, ⟨by (with_reducible repeat (first | apply Kd.R_alloc | apply Kd.R_drewN | apply Kd.R_drew)); exact HO_253005.out⟩, ⟨by (with_reducible repeat (first | apply Kd.R_alloc | apply Kd.R_drewN | apply Kd.R_drew)); exact HO_265002.out⟩, ⟨by (with_reducible repeat (first | apply Kd.R_alloc | apply Kd.R_drewN | apply Kd.R_drew)); exact HO_265005.out⟩, ⟨by (with_reducible repeat (first | refine blk_drewN ?_ _ | refine blk_drew ?_ | refine blk_alloc ?_ _)); exact BK252.out⟩, ⟨by (with_reducible repeat (first | refine blk_drewN ?_ _ | refine blk_drew ?_ | refine blk_alloc ?_ _)); exact BK264.out⟩, ⟨by repeat (first | (with_reducible exact HQt240.out) | (with_reducible refine WOK.alloc ?_ _) | (with_reducible refine WOK.drewN ?_ _) | (with_reducible refine WOK.drew ?_))⟩, ⟨by repeat (first | (with_reducible first | exact HB.out | apply below_alloc | apply pw_below_drewN | apply below_drew1 | refine below_set ?_ GE252.out | refine below_set ?_ GE264.out) | exact HB.out)⟩⟩
                  · rw [if_neg c46] at H
                    have c46b0 : (t272 == 0) = false := beq_eq_false_iff_ne.mpr c46
                    have c46b1 : (t272 != 0) = true := bne_iff_ne.mpr c46
                    (first | rw [c46b0] | (simp only [i64_w, i32_w]; rw [c46b0]) | skip)
                    have H' := Aside0.mk H
                    clear H
                    go_wp2
                    go_meet
                    case rel => exact ⟨_, (true), (by first | rfl | (simp; done) | (simp [*]; done)), H', ⟨by have := HJ10.out; have := HJ29.out; first | omega | exact Nat.le_refl _⟩, ⟨by (with_reducible repeat (first | apply Kd.R_alloc | apply Kd.R_drewN | apply Kd.R_drew)); exact HO_253002.out⟩, ⟨by (with_reducible repeat (first | apply Kd.R_alloc | apply Kd.R_drewN | apply Kd.R_drew)); exact HO_253005.out⟩, ⟨by (with_reducible repeat (first | apply Kd.R_alloc | apply Kd.R_drewN | apply Kd.R_drew)); exact HO_265002.out⟩, ⟨by (with_reducible repeat (first | apply Kd.R_alloc | apply Kd.R_drewN | apply Kd.R_drew)); exact HO_265005.out⟩, ⟨by (with_reducible repeat (first | refine blk_drewN ?_ _ | refine blk_drew ?_ | refine blk_alloc ?_ _)); exact BK252.out⟩, ⟨by (with_reducible repeat (first | refine blk_drewN ?_ _ | refine blk_drew ?_ | refine blk_alloc ?_ _)); exact BK264.out⟩, ⟨by repeat (first | (with_reducible exact HQt240.out) | (with_reducible refine WOK.alloc ?_ _) | (with_reducible refine WOK.drewN ?_ _) | (with_reducible refine WOK.drew ?_))⟩, ⟨by repeat (first | (with_reducible first | exact HB.out | apply below_alloc | apply pw_below_drewN | apply below_drew1 | refine below_set ?_ GE252.out | refine below_set ?_ GE264.out) | exact HB.out)⟩⟩
                case rest =>
                  clear HC43
                  try clear c1
                  try clear c2
                  try clear p2
                  try clear c3
                  try clear c4
                  try clear c5
                  try clear c6
                  try clear c8
                  try clear c9
                  try clear c12
                  try clear c18
                  try clear c19
                  try clear c21
                  try clear c26
                  try clear c26b0
                  try clear c26b1
                  try clear c27
                  try clear c28
                  try clear c28b0
                  try clear c28b1
                  try clear c32
                  try clear c33
                  try clear c33b0
                  try clear c33b1
                  try clear c35
                  try clear c38
                  try clear c40
                  try clear c46
                  try clear c46b0
                  try clear c46b1
                  try clear c47
                  try clear c47b0
                  try clear c47b1
                  try clear c49
                  try clear c49b0
                  try clear c49b1
                  try clear hcz16_0
                  try clear hcz16_1
                  try clear hcz16_2
                  try clear hcz16_3
                  try clear hcz16_4
                  try clear hcz16_5
                  try clear hcz22_0
                  try clear hcz22_1
                  try clear hcz22_2
                  try clear hcz22_3
                  try clear hcz22_4
                  try clear hcz22_5
                  try clear hcz36_0
                  try clear hcz36_1
                  try clear hcz36_2
                  try clear hcz36_3
                  try clear hcz36_4
                  try clear hcz36_5
                  try clear hcz39_0
                  try clear hcz39_1
                  try clear hcz39_2
                  try clear hcz39_3
                  try clear hcz39_4
                  try clear hcz39_5
                  try clear hfz16_0
                  try clear hfz16_1
                  try clear hfz16_2
                  try clear hfz16_3
                  try clear hfz16_4
                  try clear hfz16_5
                  try clear hfz22_0
                  try clear hfz22_1
                  try clear hfz22_2
                  try clear hfz22_3
                  try clear hfz22_4
                  try clear hfz22_5
                  try clear hfz36_0
                  try clear hfz36_1
                  try clear hfz36_2
                  try clear hfz36_3
                  try clear hfz36_4
                  try clear hfz36_5
                  try clear hfz39_0
                  try clear hfz39_1
                  try clear hfz39_2
                  try clear hfz39_3
                  try clear hfz39_4
                  try clear hfz39_5
                  try clear p2
                  obtain ⟨kq, x118_42, rfl, HA, HJ42, HO_253002, HO_253005, HO_265002, HO_265005, BK252, BK264, HQt240, HB⟩ := hcut
                  cases kq with
                  | zero => exact absurd HA.out (by simp [arbiterlaw08_AccessOpen.j2])
                  | succ kj42 =>
                    have H := HA.out
                    clear HA
                    simp only [arbiterlaw08_AccessOpen.j2] at H
                    by_cases c52 : x118_42 = true
                    · subst c52
                      have H1 : (some false) = some r := by rw [if_pos rfl] at H; exact H
                      clear H
                      have H := H1
                      clear H1
                      obtain rfl := Option.some.inj H
                      go_wp2
                      go_ret
                      exact ⟨by first | rfl | (simp [errW_none, errW_some] <;> rfl) | (simp [*, errW_none, errW_some] <;> rfl), by repeat (first | (with_reducible first | exact HB.out | apply below_alloc | apply pw_below_drewN | apply below_drew1 | refine below_set ?_ GE252.out | refine below_set ?_ GE264.out) | exact HB.out)⟩
                    · replace c52 := Bool.eq_false_iff.mpr c52
                      subst c52
                      have H1 : (if a3 < 0 then (some true) else (if a3 > 255 then (some true) else ((access_TypeOpen.f t240 a1 a3 t241).bind fun bt277 => (if bt277.2 = 0 then (some (t265 == bt277.1)) else (some false))))) = some r := by rw [if_neg (show ¬ (false = true) by decide)] at H; exact H
                      clear H
                      have H := H1
                      clear H1
                      by_cases c53 : a3 < 0
                      · rw [if_pos c53] at H
                        have c53b0 : decide (a3 < 0) = true := decide_eq_true c53
                        clear c53
                        obtain rfl := Option.some.inj H
                        go_wp2
                        go_ret
                        exact ⟨by first | rfl | (simp [errW_none, errW_some] <;> rfl) | (simp [*, errW_none, errW_some] <;> rfl), by repeat (first | (with_reducible first | exact HB.out | apply below_alloc | apply pw_below_drewN | apply below_drew1 | refine below_set ?_ GE252.out | refine below_set ?_ GE264.out) | exact HB.out)⟩
                      · rw [if_neg c53] at H
                        have c53b0 : decide (a3 < 0) = false := decide_eq_false c53
                        clear c53
                        by_cases c54 : a3 > 255
                        · rw [if_pos c54] at H
                          have c54b0 : decide (255 < a3) = true := decide_eq_true c54
                          clear c54
                          obtain rfl := Option.some.inj H
                          go_wp2
                          go_ret
                          exact ⟨by first | rfl | (simp [errW_none, errW_some] <;> rfl) | (simp [*, errW_none, errW_some] <;> rfl), by repeat (first | (with_reducible first | exact HB.out | apply below_alloc | apply pw_below_drewN | apply below_drew1 | refine below_set ?_ GE252.out | refine below_set ?_ GE264.out) | exact HB.out)⟩
                        · rw [if_neg c54] at H
                          have c54b0 : decide (255 < a3) = false := decide_eq_false c54
                          clear c54
                          replace H := Option.bind_eq_some_iff.mp H
                          obtain ⟨⟨t277, t278⟩, A550, H⟩ := H
                          replace H : (if t278 = 0 then (some (t265 == t277)) else (some false)) = some r := H
                          have A55 := Aside0.mk A550
                          clear A550
                          by_cases c56 : t278 = 0
                          · rw [if_pos c56] at H
                            have c56b0 : (t278 == 0) = true := beq_iff_eq.mpr c56
                            have c56b1 : (t278 != 0) = false := bne_eq_false_iff_eq.mpr c56
                            clear c56
                            obtain rfl := Option.some.inj H
                            have hnb57 := NB252_264.out
                            have hnc57 := NB264_252.out
                            have hcz58_0 : wc.cell? ⟨gb252, 0, none⟩ = some (.string t241) := (blk_cell BK252.out 0).trans rfl
                            have hcz58_1 : wc.cell? ⟨gb252, 1, none⟩ = some (.string t242) := (blk_cell BK252.out 1).trans rfl
                            have hcz58_2 : wc.cell? ⟨gb252, 2, none⟩ = some (.slice Ao17 t243.length co17) := (blk_cell BK252.out 2).trans rfl
                            have hcz58_3 : wc.cell? ⟨gb252, 3, none⟩ = some (.int .i64 t246) := (blk_cell BK252.out 3).trans rfl
                            have hcz58_4 : wc.cell? ⟨gb252, 4, none⟩ = some (.int .i64 t247) := (blk_cell BK252.out 4).trans rfl
                            have hcz58_5 : wc.cell? ⟨gb252, 5, none⟩ = some (.slice Ao18 t248.length co18) := (blk_cell BK252.out 5).trans rfl
                            have hfz58_0 := blk_frozen BK252.out 0
                            have hfz58_1 := blk_frozen BK252.out 1
                            have hfz58_2 := blk_frozen BK252.out 2
                            have hfz58_3 := blk_frozen BK252.out 3
                            have hfz58_4 := blk_frozen BK252.out 4
                            have hfz58_5 := blk_frozen BK252.out 5
                            go_wp2_with (first | ((with_reducible refine gate_callee (f := 10) rfl ?_); refine goesL_ (some 132) rfl rfl Tryd.func10 (by kernel_rfl) rfl #[.pointer (some ⟨G_t240, 0, none⟩), .int .i64 a1, .agg #[.int .i64 a3, .string t241]] rfl (by (try simp only [List.map_toArray, List.map_cons, List.map_nil]); first | done | rfl | (simp only [List.length_drop, List.length_take]; rfl)) ?_; (with_reducible refine (access_TypeOpen.calls G_t240 t240 a1 a3 t241 t277 t278 _ ?side1 A55.out).mono ?_); (case side1 => repeat (first | (with_reducible exact HQt240.out) | (with_reducible refine WOK.alloc ?_ _) | (with_reducible refine WOK.drewN ?_ _) | (with_reducible refine WOK.drew ?_))); rintro e w59 ⟨rfl, hb⟩; refine ⟨_, rfl, ?_⟩; have n0_ := Aside0.mk (Kd.R_below (by (with_reducible repeat (first | apply Kd.R_alloc | apply Kd.R_drewN | apply Kd.R_drew)); exact HO_253002.out) hb); have n1_ := Aside0.mk (Kd.R_below (by (with_reducible repeat (first | apply Kd.R_alloc | apply Kd.R_drewN | apply Kd.R_drew)); exact HO_253005.out) hb); have n2_ := Aside0.mk (Kd.R_below (by (with_reducible repeat (first | apply Kd.R_alloc | apply Kd.R_drewN | apply Kd.R_drew)); exact HO_265002.out) hb); have n3_ := Aside0.mk (Kd.R_below (by (with_reducible repeat (first | apply Kd.R_alloc | apply Kd.R_drewN | apply Kd.R_drew)); exact HO_265005.out) hb); have n4_ := Aside0.mk (blk_below (g := gb252) (o := .cells #[.string t241, .string t242, .slice Ao17 t243.length co17, .int .i64 t246, .int .i64 t247, .slice Ao18 t248.length co18] 44 (0, 0)) (by (with_reducible repeat (first | refine blk_drewN ?_ _ | refine blk_drew ?_ | refine blk_alloc ?_ _)); exact BK252.out) hb); have n5_ := Aside0.mk (blk_below (g := gb264) (o := .cells #[.string t253, .string t254, .slice Ao23 t255.length co23, .int .i64 t258, .int .i64 t259, .slice Ao24 t260.length co24] 44 (0, 0)) (by (with_reducible repeat (first | refine blk_drewN ?_ _ | refine blk_drew ?_ | refine blk_alloc ?_ _)); exact BK264.out) hb); have n6_ := Aside0.mk (WOK.below (g := G_t240) (es := t240) (by repeat (first | (with_reducible exact HQt240.out) | (with_reducible refine WOK.alloc ?_ _) | (with_reducible refine WOK.drewN ?_ _) | (with_reducible refine WOK.drew ?_))) hb); have n7_ := Aside0.mk (below_step (by repeat (first | (with_reducible first | exact HB.out | apply below_alloc | apply pw_below_drewN | apply below_drew1 | refine below_set ?_ GE252.out | refine below_set ?_ GE264.out) | exact HB.out)) hb); clear HO_253002; clear HO_253005; clear HO_265002; clear HO_265005; clear BK252; clear BK264; clear HQt240; clear HB; have HO_253002 := n0_; have HO_253005 := n1_; have HO_265002 := n2_; have HO_265005 := n3_; have BK252 := n4_; have BK264 := n5_; have HQt240 := n6_; have HB := n7_; clear n0_ n1_ n2_ n3_ n4_ n5_ n6_ n7_; (try clear hb); (try clear hb2); (try clear hk); (try clear hi)))
                            go_ret
                            exact ⟨by first | rfl | (simp [errW_none, errW_some] <;> rfl) | (simp [*, errW_none, errW_some] <;> rfl), by repeat (first | (with_reducible first | exact HB.out | apply below_alloc | apply pw_below_drewN | apply below_drew1 | refine below_set ?_ GE252.out | refine below_set ?_ GE264.out) | exact HB.out)⟩
                          · rw [if_neg c56] at H
                            have c56b0 : (t278 == 0) = false := beq_eq_false_iff_ne.mpr c56
                            have c56b1 : (t278 != 0) = true := bne_iff_ne.mpr c56
                            obtain rfl := Option.some.inj H
                            have hnb60 := NB252_264.out
                            have hnc60 := NB264_252.out
                            have hcz61_0 : wc.cell? ⟨gb252, 0, none⟩ = some (.string t241) := (blk_cell BK252.out 0).trans rfl
                            have hcz61_1 : wc.cell? ⟨gb252, 1, none⟩ = some (.string t242) := (blk_cell BK252.out 1).trans rfl
                            have hcz61_2 : wc.cell? ⟨gb252, 2, none⟩ = some (.slice Ao17 t243.length co17) := (blk_cell BK252.out 2).trans rfl
                            have hcz61_3 : wc.cell? ⟨gb252, 3, none⟩ = some (.int .i64 t246) := (blk_cell BK252.out 3).trans rfl
                            have hcz61_4 : wc.cell? ⟨gb252, 4, none⟩ = some (.int .i64 t247) := (blk_cell BK252.out 4).trans rfl
                            have hcz61_5 : wc.cell? ⟨gb252, 5, none⟩ = some (.slice Ao18 t248.length co18) := (blk_cell BK252.out 5).trans rfl
                            have hfz61_0 := blk_frozen BK252.out 0
                            have hfz61_1 := blk_frozen BK252.out 1
                            have hfz61_2 := blk_frozen BK252.out 2
                            have hfz61_3 := blk_frozen BK252.out 3
                            have hfz61_4 := blk_frozen BK252.out 4
                            have hfz61_5 := blk_frozen BK252.out 5
                            go_wp2_with (first | ((with_reducible refine gate_callee (f := 10) rfl ?_); refine goesL_ (some 132) rfl rfl Tryd.func10 (by kernel_rfl) rfl #[.pointer (some ⟨G_t240, 0, none⟩), .int .i64 a1, .agg #[.int .i64 a3, .string t241]] rfl (by (try simp only [List.map_toArray, List.map_cons, List.map_nil]); first | done | rfl | (simp only [List.length_drop, List.length_take]; rfl)) ?_; (with_reducible refine (access_TypeOpen.calls G_t240 t240 a1 a3 t241 t277 t278 _ ?side1 A55.out).mono ?_); (case side1 => repeat (first | (with_reducible exact HQt240.out) | (with_reducible refine WOK.alloc ?_ _) | (with_reducible refine WOK.drewN ?_ _) | (with_reducible refine WOK.drew ?_))); rintro e w62 ⟨rfl, hb⟩; refine ⟨_, rfl, ?_⟩; have n0_ := Aside0.mk (Kd.R_below (by (with_reducible repeat (first | apply Kd.R_alloc | apply Kd.R_drewN | apply Kd.R_drew)); exact HO_253002.out) hb); have n1_ := Aside0.mk (Kd.R_below (by (with_reducible repeat (first | apply Kd.R_alloc | apply Kd.R_drewN | apply Kd.R_drew)); exact HO_253005.out) hb); have n2_ := Aside0.mk (Kd.R_below (by (with_reducible repeat (first | apply Kd.R_alloc | apply Kd.R_drewN | apply Kd.R_drew)); exact HO_265002.out) hb); have n3_ := Aside0.mk (Kd.R_below (by (with_reducible repeat (first | apply Kd.R_alloc | apply Kd.R_drewN | apply Kd.R_drew)); exact HO_265005.out) hb); have n4_ := Aside0.mk (blk_below (g := gb252) (o := .cells #[.string t241, .string t242, .slice Ao17 t243.length co17, .int .i64 t246, .int .i64 t247, .slice Ao18 t248.length co18] 44 (0, 0)) (by (with_reducible repeat (first | refine blk_drewN ?_ _ | refine blk_drew ?_ | refine blk_alloc ?_ _)); exact BK252.out) hb); have n5_ := Aside0.mk (blk_below (g := gb264) (o := .cells #[.string t253, .string t254, .slice Ao23 t255.length co23, .int .i64 t258, .int .i64 t259, .slice Ao24 t260.length co24] 44 (0, 0)) (by (with_reducible repeat (first | refine blk_drewN ?_ _ | refine blk_drew ?_ | refine blk_alloc ?_ _)); exact BK264.out) hb); have n6_ := Aside0.mk (WOK.below (g := G_t240) (es := t240) (by repeat (first | (with_reducible exact HQt240.out) | (with_reducible refine WOK.alloc ?_ _) | (with_reducible refine WOK.drewN ?_ _) | (with_reducible refine WOK.drew ?_))) hb); have n7_ := Aside0.mk (below_step (by repeat (first | (with_reducible first | exact HB.out | apply below_alloc | apply pw_below_drewN | apply below_drew1 | refine below_set ?_ GE252.out | refine below_set ?_ GE264.out) | exact HB.out)) hb); clear HO_253002; clear HO_253005; clear HO_265002; clear HO_265005; clear BK252; clear BK264; clear HQt240; clear HB; have HO_253002 := n0_; have HO_253005 := n1_; have HO_265002 := n2_; have HO_265005 := n3_; have BK252 := n4_; have BK264 := n5_; have HQt240 := n6_; have HB := n7_; clear n0_ n1_ n2_ n3_ n4_ n5_ n6_ n7_; (try clear hb); (try clear hb2); (try clear hk); (try clear hi)))
                            go_ret
                            exact ⟨by first | rfl | (simp [errW_none, errW_some] <;> rfl) | (simp [*, errW_none, errW_some] <;> rfl), by repeat (first | (with_reducible first | exact HB.out | apply below_alloc | apply pw_below_drewN | apply below_drew1 | refine below_set ?_ GE252.out | refine below_set ?_ GE264.out) | exact HB.out)⟩
  · replace c6 := Bool.eq_false_iff.mpr c6
    subst c6
    have H1 : (some false) = some r := by rw [if_neg (show ¬ (false = true) by decide)] at H; exact H
    clear H
    have H := H1
    clear H1
    obtain rfl := Option.some.inj H
    go_enter Tryd.func5, Tryd.ntmps5
    go_wp2_with (first | ((with_reducible refine gate_callee (f := 8) rfl ?_); refine goesL_ (some 26) rfl rfl Tryd.func8 (by kernel_rfl) rfl #[] rfl (by (try simp only [List.map_toArray, List.map_cons, List.map_nil]); first | done | rfl | (simp only [List.length_drop, List.length_take]; rfl)) ?_; (with_reducible refine (arbiterlaw08_awake.calls  false _ A5.out).mono ?_); rintro e w63 ⟨rfl, hb⟩; refine ⟨_, rfl, ?_⟩; have n0_ := Aside0.mk (below_step (by repeat (first | (with_reducible first | exact HB.out | apply below_alloc | apply pw_below_drewN | apply below_drew1) | exact HB.out)) hb); clear HB; have HB := n0_; clear n0_; (try clear hb); (try clear hb2); (try clear hk); (try clear hi)))
    go_ret
    exact ⟨by first | rfl | (simp [errW_none, errW_some] <;> rfl) | (simp [*, errW_none, errW_some] <;> rfl), by repeat (first | (with_reducible first | exact HB.out | apply below_alloc | apply pw_below_drewN | apply below_drew1) | exact HB.out)⟩

end Go.Proofs.YtmlifggklaeieaaDoor.Pt

/- AccessOpen: open classes and arrays over them. -/
namespace Go.Proofs.YtmlifggklaeieaaDoor.Pt
open Go Go.RowKit Go.Proofs.YtmlifggklaeieaaDoor.Nm Go.Proofs.YtmlifggklaeieaaDoor.Ty Go.Proofs.YtmlifggklaeieaaDoor.Hi Go.Proofs.YtmlifggklaeieaaDoorW.PrintWords Go.Proofs.YtmlifggklaeieaaDoorW.PrintLast Go.Proofs.YtmlifggklaeieaaDoorW.PrintMore
set_option linter.unusedVariables false
set_option linter.unusedSimpArgs false
set_option maxRecDepth 100000

theorem aopen_pure (l : List S44) (d c dims : Int) : arbiterlaw08_AccessOpen.f 5 l d c dims = some true := by
  have hT := thy_made (made_built l)
  unfold arbiterlaw08_AccessOpen.f
  rw [show arbiterlaw08_awake.f = some true from rfl, Option.bind_some, if_pos rfl, show arbiterlaw08_built.f l = some (builtF l) from rfl, Option.bind_some]
  generalize builtF l = es at *
  simp only [hier_World_Class.f, access_ClassOpen.f, Option.bind_some]
  by_cases hc : 0 ≤ c ∧ c < es.length
  · rw [classF_in hc]
    by_cases hd : 0 ≤ d ∧ d < es.length
    · rw [classF_in hd, copen_in hd hc]
      simp only [if_true, bne_self_eq_false]
      have hn := nameF_of hT hc.1 hc.2
      rw [arbiterlaw08_AccessOpen.j0, if_neg (by simp)]
      simp only [access_ClassOpen.f, Option.bind_some, hier_World_SamePackage.f, copen_in hc hc, tog_refl, Bool.or_true, if_true, inB_in hc, inB_in hd, Bool.true_and]
      have hj1 : arbiterlaw08_AccessOpen.j1 4 d c dims es ((Go.bits .and .i64 (ent es c).c.f3 1 != 0) || tog (ent es c).c (ent es d).c) false (ent es c).c.f0 (ent es c).c.f1 (ent es c).c.f2 (ent es c).c.f3 (ent es c).c.f4 (ent es c).c.f5 = some true := by
        rw [arbiterlaw08_AccessOpen.j1, if_neg (by simp)]
        simp only [access_Package.f, access_homeOf.f, homeF_in hc, homeF_in hd, Option.bind_some, if_true, hier_World_SamePackage.f, inB_in hc, inB_in hd, Bool.true_and]
        have hj2 : arbiterlaw08_AccessOpen.j2 3 d dims es ((Go.bits .and .i64 (ent es c).c.f3 1 != 0) || tog (ent es c).c (ent es d).c) false (ent es c).c.f0 (ent es c).c.f1 (ent es c).c.f2 (ent es c).c.f3 (ent es c).c.f4 (ent es c).c.f5 = some true := by
          rw [arbiterlaw08_AccessOpen.j2, if_neg (by simp)]
          by_cases h0 : dims < 0
          · rw [if_pos h0]
          · rw [if_neg h0]
            by_cases h1 : dims > 255
            · rw [if_pos h1]
            · rw [if_neg h1]
              have ht : topenF es d dims (ent es c).c.f0 = copenF es d c := by
                unfold topenF
                rw [homeF_in hd, load_at hT hc (by omega) (by omega), if_neg (by simp), if_neg (by simp), if_neg (valid_ne (hT.valid hc)), hn]
              rw [show access_TypeOpen.f es d dims (ent es c).c.f0 = some (topenF es d dims (ent es c).c.f0) from rfl, ht, copen_in hd hc, Option.bind_some]
              simp
        by_cases h4 : (ent es c).c.f4 = (ent es d).c.f4
        · rw [if_pos h4]
          have ht : tog (ent es c).c (ent es d).c = ((pkgB (ent es c).c.f0).toList == (pkgB (ent es d).c.f0).toList) := by
            unfold tog
            rw [show ((ent es c).c.f4 == (ent es d).c.f4) = true from beq_iff_eq.2 h4, Bool.true_and]
          rw [← ht, bne_self_eq_false]
          exact hj2
        · rw [if_neg h4]
          have ht : tog (ent es c).c (ent es d).c = false := by
            unfold tog
            rw [show ((ent es c).c.f4 == (ent es d).c.f4) = false from beq_eq_false_iff_ne.2 h4, Bool.false_and]
          rw [ht] at hj2 ⊢
          exact hj2
      by_cases hp : Go.bits .and .i64 (ent es c).c.f3 1 = 0
      · rw [if_pos hp]
        rw [show (Go.bits .and .i64 (ent es c).c.f3 1 != 0) = false from bne_eq_false_iff_eq.2 hp, Bool.false_or] at hj1 ⊢
        rw [bne_self_eq_false]
        exact hj1
      · rw [if_neg hp]
        rw [show (Go.bits .and .i64 (ent es c).c.f3 1 != 0) = true from bne_iff_ne.2 hp, Bool.true_or] at hj1 ⊢
        exact hj1
    · rw [classF_out hd, copen_outd hd]
      rfl
  · rw [classF_out hc, copen_outc hc]
    rfl
theorem aopen_any {W : World} {A : Option Addr} {n : Nat} {l : List S44} (hk : Kd.C k44 W A l.length l) (hc : l.length ≤ n) (d c dims : Int) :
    Calls Tryd.prog 5 #[.slice A l.length n, .int .i64 d, .int .i64 c, .int .i64 dims] W fun e W' => e = .returned (.bool true) ∧ Below W.heap.size W W' :=
  arbiterlaw08_AccessOpen.calls 5 _ _ l d c dims true W hk hc (aopen_pure l d c dims)
end Go.Proofs.YtmlifggklaeieaaDoor.Pt

/- What a row's reading of a list of classes comes to: kinds. -/
namespace Go.Proofs.YtmlifggklaeieaaDoor.RowC
open Go Go.RowKit Go.WideShapes Go.Deep Go.Proofs.YtmlifggklaeieaaDoorW.PrintWords Go.Proofs.YtmlifggklaeieaaDoorW.PrintLast Go.Proofs.YtmlifggklaeieaaDoorW.PrintMore Go.Proofs.YtmlifggklaeieaaDoor.Pt
set_option linter.unusedVariables false
set_option linter.unusedSimpArgs false
set_option maxRecDepth 100000

variable {H : Type} {enc : TypeId × Value → H} {w : World}
/-- Whatever is read at this type is of this kind. -/
def Opens {H : Type} (enc : TypeId × Value → H) (w : World) (t : TypeId) {α : Type} (d : Kd α) : Prop :=
  ∀ (fuel : Nat) (cs : List Value) (x : DataW H × List MemPlace), DataW.trod enc Tryd.prog w 0 (fun _ => true) true fuel t cs = some x → ∃ a : α, d.K w a cs
theorem opens_int : Opens enc w 3 (Kd.int .i64) := fun fuel cs x h => by
  obtain ⟨n, rfl, _⟩ := DataW.trod_int Tryd.underlying3 h
  exact ⟨n, rfl⟩
theorem opens_bool : Opens enc w 4 Kd.bool := fun fuel cs x h => by
  obtain ⟨n, rfl, _⟩ := DataW.trod_bool Tryd.underlying4 h
  exact ⟨n, rfl⟩
theorem opens_string : Opens enc w 9 Kd.string := fun fuel cs x h => by
  obtain ⟨n, rfl, _⟩ := DataW.trod_string Tryd.underlying9 h
  exact ⟨n, rfl⟩
theorem opens_slice {α : Type} {d : Kd α} {t e : TypeId} (tag : Nat) (ht : Tryd.prog.underlying t = some (.slice e)) (he : Tryd.prog.cellsOf e = d.sz) (ho : Opens enc w e d) : Opens enc w t (Kd.slice tag d) := fun fuel cs x h => by
  rcases open_slice ht h with ⟨rfl, _⟩ | ⟨a, len, cap, m, n, D, Pl, rfl, _, hl, hm, hmm, _, hx⟩
  · exact ⟨[], none, 0, rfl, Nat.le_refl _, Kd.C_nil _ _⟩
  · have hmm : m = cap := by simpa using hmm
    have hel : ∀ i : Fin len, ∃ p : α, ∃ c : List Value, c.length = d.sz ∧ d.K w p c ∧ ∀ j u, c[j]? = some u → w.cell? (a.add (i.val * d.sz + j)) = some u := by
      intro i
      obtain ⟨cs', h1, h2⟩ := hx i.val (by omega)
      obtain ⟨p, hp⟩ := ho _ _ _ h2
      obtain ⟨_, h3, h4⟩ := World.cells?_some h1
      rw [he] at h3 h4
      refine ⟨p, cs', h3, hp, fun j u hj => ?_⟩
      have hjl : j < d.sz := by
        rcases Nat.lt_or_ge j d.sz with h | h
        · exact h
        · rw [List.getElem?_eq_none (by omega)] at hj; cases hj
      have h5 := h4 j hjl
      rw [hj] at h5
      rw [← h5]
      rw [Addr.add_add]
    let f : Fin len → α := fun i => Classical.choose (hel i)
    have hf : ∀ i : Fin len, ∃ c : List Value, c.length = d.sz ∧ d.K w (f i) c ∧ ∀ j u, c[j]? = some u → w.cell? (a.add (i.val * d.sz + j)) = some u := fun i => Classical.choose_spec (hel i)
    have hlen : (List.ofFn f).length = len := List.length_ofFn
    refine ⟨List.ofFn f, some a, cap, by rw [hlen], by omega, ?_⟩
    rw [hlen]
    refine ⟨hlen, by unfold maxLen at hm; omega, fun h0 => ⟨a, rfl, fun j p hj => ?_⟩⟩
    have hjl : j < len := by
      rcases Nat.lt_or_ge j len with h | h
      · exact h
      · rw [List.getElem?_eq_none (by omega)] at hj; cases hj
    rw [List.getElem?_eq_getElem (by omega), List.getElem_ofFn] at hj
    obtain rfl := Option.some.inj hj
    exact hf ⟨j, hjl⟩
theorem cut (cs : List Value) (o n : Nat) : cs.drop o = (cs.drop o).take n ++ cs.drop (o + n) := by
  rw [← List.drop_drop, List.take_append_drop]
/-- A field's own reading. -/
theorem field {n : Nat} {fs : Array Field} {cs : List Value} {xs : List (DataW H × List MemPlace)} (hlen : xs.length = fs.size)
    (hf : ∀ (i : Nat) (f : Field), fs[i]? = some f → DataW.trod enc Tryd.prog w 0 (fun _ => true) true n f.type ((cs.drop f.offset).take (Tryd.prog.cellsOf f.type)) = xs[i]?) {α : Type} {d : Kd α} (i : Nat) (f : Field) (hi : fs[i]? = some f) (ho : Opens enc w f.type d) (k : Nat) (hk : Tryd.prog.cellsOf f.type = k) :
    ∃ a : α, d.K w a ((cs.drop f.offset).take k) := by
  have hl : i < fs.size := by
    rcases Nat.lt_or_ge i fs.size with h | h
    · exact h
    · rw [Array.getElem?_eq_none h] at hi; cases hi
  have h := hf i f hi
  rw [hk, List.getElem?_eq_getElem (by omega)] at h
  exact ho _ _ _ h
theorem opens_Type : Opens enc w 28 k28 := fun fuel cs x h => by
  obtain ⟨xs, n, _, _, hl, hlen, hf⟩ := DataW.trod_struct Tryd.underlying28 h
  rw [show Tryd.prog.cellsOf 28 = 2 by kernel_rfl] at hl
  obtain ⟨a0, e0⟩ := field hlen hf 0 _ rfl opens_int 1 (by kernel_rfl)
  obtain ⟨a1, e1⟩ := field hlen hf 1 _ rfl opens_string 1 (by kernel_rfl)
  refine ⟨⟨a0, a1⟩, _, _, cut cs 0 1, e0, ?_⟩
  rw [List.take_of_length_le (by simp; omega)] at e1
  exact e1
theorem opens_Ref : Opens enc w 81 k81 := fun fuel cs x h => by
  obtain ⟨xs, n, _, _, hl, hlen, hf⟩ := DataW.trod_struct Tryd.underlying81 h
  rw [show Tryd.prog.cellsOf 81 = 4 by kernel_rfl] at hl
  obtain ⟨a0, e0⟩ := field hlen hf 0 _ rfl opens_bool 1 (by kernel_rfl)
  obtain ⟨a1, e1⟩ := field hlen hf 1 _ rfl opens_string 1 (by kernel_rfl)
  obtain ⟨a2, e2⟩ := field hlen hf 2 _ rfl opens_string 1 (by kernel_rfl)
  obtain ⟨a3, e3⟩ := field hlen hf 3 _ rfl opens_string 1 (by kernel_rfl)
  refine ⟨⟨a0, a1, a2, a3⟩, _, _, cut cs 0 1, e0, _, _, cut cs 1 1, e1, _, _, cut cs 2 1, e2, ?_⟩
  rw [List.take_of_length_le (by simp; omega)] at e3
  exact e3
theorem opens_Inst : Opens enc w 83 k83 := fun fuel cs x h => by
  obtain ⟨xs, n, _, _, hl, hlen, hf⟩ := DataW.trod_struct Tryd.underlying83 h
  rw [show Tryd.prog.cellsOf 83 = 7 by kernel_rfl] at hl
  obtain ⟨a0, e0⟩ := field hlen hf 0 _ rfl opens_int 1 (by kernel_rfl)
  obtain ⟨a1, e1⟩ := field hlen hf 1 _ rfl opens_int 1 (by kernel_rfl)
  obtain ⟨a2, e2⟩ := field hlen hf 2 _ rfl opens_string 1 (by kernel_rfl)
  obtain ⟨a3, e3⟩ := field hlen hf 3 _ rfl opens_Ref 4 (by kernel_rfl)
  refine ⟨⟨a0, a1, a2, a3⟩, _, _, cut cs 0 1, e0, _, _, cut cs 1 1, e1, _, _, cut cs 2 1, e2, ?_⟩
  rw [List.take_of_length_le (by simp; omega)] at e3
  exact e3
theorem opens_Method : Opens enc w 51 k51 := fun fuel cs x h => by
  obtain ⟨xs, n, _, _, hl, hlen, hf⟩ := DataW.trod_struct Tryd.underlying51 h
  rw [show Tryd.prog.cellsOf 51 = 6 by kernel_rfl] at hl
  obtain ⟨a0, e0⟩ := field hlen hf 0 _ rfl opens_string 1 (by kernel_rfl)
  obtain ⟨a1, e1⟩ := field hlen hf 1 _ rfl opens_string 1 (by kernel_rfl)
  obtain ⟨a2, e2⟩ := field hlen hf 2 _ rfl opens_int 1 (by kernel_rfl)
  obtain ⟨a3, e3⟩ := field hlen hf 3 _ rfl opens_int 1 (by kernel_rfl)
  obtain ⟨a4, e4⟩ := field hlen hf 4 _ rfl opens_int 1 (by kernel_rfl)
  obtain ⟨a5, e5⟩ := field hlen hf 5 _ rfl (opens_slice 83 Tryd.underlying49 (by kernel_rfl) opens_Inst) 1 (by kernel_rfl)
  refine ⟨⟨a0, a1, a2, a3, a4, a5⟩, _, _, cut cs 0 1, e0, _, _, cut cs 1 1, e1, _, _, cut cs 2 1, e2, _, _, cut cs 3 1, e3, _, _, cut cs 4 1, e4, ?_⟩
  rw [List.take_of_length_le (by simp; omega)] at e5
  exact e5
theorem opens_Class : Opens enc w 44 k44 := fun fuel cs x h => by
  obtain ⟨xs, n, _, _, hl, hlen, hf⟩ := DataW.trod_struct Tryd.underlying44 h
  rw [show Tryd.prog.cellsOf 44 = 6 by kernel_rfl] at hl
  obtain ⟨a0, e0⟩ := field hlen hf 0 _ rfl opens_string 1 (by kernel_rfl)
  obtain ⟨a1, e1⟩ := field hlen hf 1 _ rfl opens_string 1 (by kernel_rfl)
  obtain ⟨a2, e2⟩ := field hlen hf 2 _ rfl (opens_slice 9 Tryd.underlying41 (by kernel_rfl) opens_string) 1 (by kernel_rfl)
  obtain ⟨a3, e3⟩ := field hlen hf 3 _ rfl opens_int 1 (by kernel_rfl)
  obtain ⟨a4, e4⟩ := field hlen hf 4 _ rfl opens_int 1 (by kernel_rfl)
  obtain ⟨a5, e5⟩ := field hlen hf 5 _ rfl (opens_slice 51 Tryd.underlying42 (by kernel_rfl) opens_Method) 1 (by kernel_rfl)
  refine ⟨⟨a0, a1, a2, a3, a4, a5⟩, _, _, cut cs 0 1, e0, _, _, cut cs 1 1, e1, _, _, cut cs 2 1, e2, _, _, cut cs 3 1, e3, _, _, cut cs 4 1, e4, ?_⟩
  rw [List.take_of_length_le (by simp; omega)] at e5
  exact e5
/-- A list of classes that is handed in. -/
theorem open_list {base : Nat} {R : Reach} {v : Value} {d : DataW H} {p : List MemPlace} (hv : Value.okWide Tryd.prog w R base 34 v) (h : DataW.Trod enc Tryd.prog w 0 (fun _ => true) true 34 v d p) :
    ∃ (A : Option Addr) (c : Nat) (l : List S44), v = .slice A l.length c ∧ l.length ≤ c ∧ Kd.C k44 w A l.length l := by
  obtain ⟨a, len, cap, rfl⟩ := okWide_slice Tryd.underlying34 hv
  obtain ⟨fuel, hf⟩ := h
  obtain ⟨l, A, c, e, hc, hk⟩ := opens_slice 44 Tryd.underlying34 (by kernel_rfl) opens_Class _ _ _ hf
  have e : [Value.slice a len cap] = [.slice A l.length c] := e
  obtain ⟨rfl, rfl, rfl⟩ : a = A ∧ len = l.length ∧ cap = c := by simpa using e
  exact ⟨_, _, l, rfl, hc, hk⟩
end Go.Proofs.YtmlifggklaeieaaDoor.RowC
