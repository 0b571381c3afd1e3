/- Lemmas and contracts for the statement of PwAccessOwn: joined by program out of this session's texts. -/
import Derived.Test.YtmlifggklaeieaaDoorBdPwAccessOwn3
import Derived.Outline
import Derived.Laws.BitsLemmas
import Derived.Deep.Slices
import Derived.WideShapes
namespace Go.Proofs.YtmlifggklaeieaaDoor.Pt
open Go Go.RowKit Go.Proofs.YtmlifggklaeieaaDoor.Nm Go.Proofs.YtmlifggklaeieaaDoor.Hi Go.Proofs.YtmlifggklaeieaaDoorW.PrintWords Go.Proofs.YtmlifggklaeieaaDoorW.PrintLast Go.Proofs.YtmlifggklaeieaaDoorW.PrintMore
set_option linter.unusedVariables false
set_option linter.unusedSimpArgs false
set_option maxHeartbeats 2000000
set_option maxRecDepth 100000
def opnF (f : Int) : Int := if Go.bits .and .i64 f 1 ≠ 0 then 1 else if Go.bits .and .i64 f 4 ≠ 0 then 4 else if Go.bits .and .i64 f 2 ≠ 0 then 2 else 0
theorem fopen_any (f : Int) (w : World) : Calls Tryd.prog 26 #[.int .i64 f] w fun e w' => e = .returned (.int .i64 (opnF f)) ∧ w' = w := by
  have i0 : ∀ w, (Instr.index 93 (.agg #[.int .i64 1, .int .i64 4, .int .i64 2]) (.int .i64 0)).run Tryd.prog w = .ok (.int .i64 1) w := fun _ => by kernel_rfl
  have i1 : ∀ w, (Instr.index 93 (.agg #[.int .i64 1, .int .i64 4, .int .i64 2]) (.int .i64 1)).run Tryd.prog w = .ok (.int .i64 4) w := fun _ => by kernel_rfl
  have i2 : ∀ w, (Instr.index 93 (.agg #[.int .i64 1, .int .i64 4, .int .i64 2]) (.int .i64 2)).run Tryd.prog w = .ok (.int .i64 2) w := fun _ => by kernel_rfl
  go_enter Tryd.func26, Tryd.ntmps26
  go_wp2
  go_rounds 4
  all_goals
    go_ret
    refine ⟨ret_eq ?_, rfl⟩
    simp_all [opnF]
def mopF (es : List Ent) (d m0 m1 nm : Int) : Bool × Int :=
  if (homeF es d).2.2.2 ≠ 0 then (false, (homeF es d).2.2.2) else if (classF es nm).2 ≠ 0 then (false, (classF es nm).2) else if (methF es m0 m1).2 ≠ 0 then (false, (methF es m0 m1).2) else
  (if opnF (methF es m0 m1).1.f2 = 1 then true else if opnF (methF es m0 m1).1.f2 = 2 then decide (m0 = d) else if nearF (homeF es d) (homeF es m0) = true then true else
   if opnF (methF es m0 m1).1.f2 = 4 then (if (inB es m0 && isI (ent es m0).c) = true then false else if extF es d m0 = true then (if Go.bits .and .i64 (methF es m0 m1).1.f2 8 ≠ 0 then true else if extF es nm d = true then true else extF es d nm) else false) else false, 0)
def access_MethodOpen.f (a0 : List Hi.Ent) (a1 : Int) (a2_0 : Int) (a2_1 : Int) (a3 : Int) : Option (Bool × Int) := some (mopF a0 a1 a2_0 a2_1 a3)
theorem access_MethodOpen.calls (G_ : Nat) (a0 : List Hi.Ent) (a1 : Int) (a2_0 : Int) (a2_1 : Int) (a3 : Int) (r1 : Bool) (r2 : Int) (w : World) (hq0 : WOK w G_ a0) (h : access_MethodOpen.f a0 a1 a2_0 a2_1 a3 = some (r1, r2)) :
    Calls Tryd.prog 11 #[.pointer (some ⟨G_, 0, none⟩), .int .i64 a1, .agg #[.int .i64 a2_0, .int .i64 a2_1], .int .i64 a3] w fun e w' => e = .returned (.tuple #[.bool r1, .int .i64 r2]) ∧ Below w.heap.size w w' := by
  have hF := Lib.hid (Option.some.inj h)
  have HO := Lib.hid (fun (W : World) (hb : Below w.heap.size w W) (i : Int) => access_homeOf.calls G_ a0 i _ _ _ _ _ _ _ _ _ W (hq0.below hb) rfl)
  have HC := Lib.hid (fun (W : World) (hb : Below w.heap.size w W) => hier_World_Class.calls G_ a0 a3 _ _ _ _ _ _ _ W (hq0.below hb) rfl)
  have HM := Lib.hid (fun (W : World) (hb : Below w.heap.size w W) => hier_World_Method.calls G_ a0 a2_0 a2_1 _ _ _ _ _ _ _ W (hq0.below hb) rfl)
  have HI := Lib.hid (fun (W : World) (hb : Below w.heap.size w W) => hier_World_IsIface.calls G_ a0 a2_0 _ W (hq0.below hb) rfl)
  have HX := Lib.hid (fun (W : World) (hb : Below w.heap.size w W) (i j : Int) => hier_World_Extends.calls G_ a0 i j _ W (hq0.below hb) rfl)
  clear h hq0
  have B0 := Lib.hid (blk_new w (.cells #[.int .i64 a2_0, .int .i64 a2_1] 31))
  have AB := Lib.hid ((Below.refl w.heap.size w).alloc (Nat.le_refl _) (.cells #[.int .i64 a2_0, .int .i64 a2_1] 31))
  have C1 := Lib.hid (HO.out _ AB.out a1)
  unfold mopF at hF
  generalize homeF a0 a1 = h1 at *
  obtain ⟨l1, n1, x1, e1⟩ := h1
  go_enter Tryd.func11, Tryd.ntmps11
  go_upto_region 1 with (fail)
  go_cut [0, 1, 3, 6, 10, 12] (fun v0 v1 v3 v6 v10 v12 wr => v0 = .pointer (some ⟨G_, 0, none⟩) ∧ v1 = .int .i64 a1 ∧ v3 = .int .i64 a3 ∧ v6 = .pointer (some ⟨w.heap.size, 0, none⟩) ∧ v12 = .int .i64 e1 ∧ ∃ g1, v10 = .pointer (some ⟨g1, 0, none⟩) ∧ Hid (wr.heap[w.heap.size]? = some (.cells #[.int .i64 a2_0, .int .i64 a2_1] 31 (0, 0))) ∧ Hid (wr.heap[g1]? = some (.cells #[.int .i64 l1, .string n1] 61 (0, 0))) ∧ Hid (Below w.heap.size w wr))
  case first =>
    go_wp2_with fail
    refine C1.out.mono ?_
    rintro e w1 ⟨v2, v5, rfl, R2, R5, hb1⟩
    obtain ⟨A2, c2, rfl⟩ := Kd.R_slice R2
    obtain ⟨A5, c5, rfl⟩ := Kd.R_slice R5
    clear C1
    go_wp2
    go_meet
    case rel => exact ⟨rfl, rfl, rfl, rfl, rfl, _, rfl, Lib.hid (blk_below (blk_below B0.out hb1) (two_new _ _ _).2.2), Lib.hid (two_new _ _ _).1, Lib.hid ((AB.out.trans (hb1.mono AB.out.size)).trans ((two_new _ _ _).2.2.mono (AB.out.trans (hb1.mono AB.out.size)).size))⟩
  case rest =>
    clear C1 B0 AB
    obtain ⟨rfl, rfl, rfl, rfl, rfl, g1, rfl, B0, E1, HB⟩ := hcut
    by_cases he1 : e1 = 0
    · subst he1
      rw [if_neg (by simp)] at hF
      have C2 := Lib.hid (HC.out wc HB.out)
      clear HC
      generalize classF a0 a3 = cf at *
      obtain ⟨x3, e3⟩ := cf
      go_upto_region 4 with (fail)
      go_cut [0, 1, 3, 6, 10, 14] (fun v0 v1 v3 v6 v10 v14 wr => v0 = .pointer (some ⟨G_, 0, none⟩) ∧ v1 = .int .i64 a1 ∧ v3 = .int .i64 a3 ∧ v6 = .pointer (some ⟨w.heap.size, 0, none⟩) ∧ v14 = .int .i64 e3 ∧ v10 = .pointer (some ⟨g1, 0, none⟩) ∧ Hid (wr.heap[w.heap.size]? = some (.cells #[.int .i64 a2_0, .int .i64 a2_1] 31 (0, 0))) ∧ Hid (wr.heap[g1]? = some (.cells #[.int .i64 l1, .string n1] 61 (0, 0))) ∧ Hid (Below w.heap.size w wr))
      case first =>
        go_wp2_with fail
        refine C2.out.mono ?_
        rintro e w1 ⟨v2, v5, rfl, R2, R5, hb1⟩
        obtain ⟨A2, c2, rfl⟩ := Kd.R_slice R2
        obtain ⟨A5, c5, rfl⟩ := Kd.R_slice R5
        clear C2
        go_wp2
        go_meet
        case rel =>
          have hb2 := hb1.alloc hb1.size (.cells #[.string x3.f0, .string x3.f1, .slice A2 x3.f2.length c2, .int .i64 x3.f3, .int .i64 x3.f4, .slice A5 x3.f5.length c5] 44)
          exact ⟨rfl, rfl, rfl, rfl, rfl, rfl, Lib.hid (blk_below B0.out hb2), Lib.hid (blk_below E1.out hb2), Lib.hid (HB.out.trans (hb2.mono HB.out.size))⟩
      case rest =>
        clear C2 B0 E1 HB
        obtain ⟨rfl, rfl, rfl, rfl, rfl, rfl, B0, E1, HB⟩ := hcut
        by_cases he3 : e3 = 0
        · subst he3
          rw [if_neg (by simp)] at hF
          have C3 := Lib.hid (HM.out wc HB.out)
          clear HM
          generalize methF a0 a2_0 a2_1 = mf at *
          obtain ⟨y, e4⟩ := mf
          go_upto_region 7 with (fail)
          go_cut [0, 1, 3, 6, 10, 12, 15] (fun v0 v1 v3 v6 v10 v12 v15 wr => v0 = .pointer (some ⟨G_, 0, none⟩) ∧ v1 = .int .i64 a1 ∧ v3 = .int .i64 a3 ∧ v6 = .pointer (some ⟨w.heap.size, 0, none⟩) ∧ v12 = .int .i64 e4 ∧ v10 = .pointer (some ⟨g1, 0, none⟩) ∧ ∃ g3 y0 y1 y3 y4 y5, v15 = .pointer (some ⟨g3, 0, none⟩) ∧ Hid (wr.heap[g3]? = some (.cells #[y0, y1, .int .i64 y.f2, y3, y4, y5] 51 (0, 0))) ∧ Hid (wr.heap[w.heap.size]? = some (.cells #[.int .i64 a2_0, .int .i64 a2_1] 31 (0, 0))) ∧ Hid (wr.heap[g1]? = some (.cells #[.int .i64 l1, .string n1] 61 (0, 0))) ∧ Hid (Below w.heap.size w wr))
          case first =>
            have q0 : wc.cell? ⟨w.heap.size, 0, none⟩ = some (.int .i64 a2_0) := (blk_cell B0.out 0).trans rfl
            have q1 : wc.cell? ⟨w.heap.size, 1, none⟩ = some (.int .i64 a2_1) := (blk_cell B0.out 1).trans rfl
            go_wp2_with fail
            refine C3.out.mono ?_
            rintro e w1 ⟨v5, rfl, R5, hb1⟩
            obtain ⟨A5, c5, rfl⟩ := Kd.R_slice R5
            clear C3 q0 q1
            go_wp2
            go_meet
            case rel =>
              have hb2 := hb1.alloc hb1.size (.cells #[.string y.f0, .string y.f1, .int .i64 y.f2, .int .i64 y.f3, .int .i64 y.f4, .slice A5 y.f5.length c5] 51)
              exact ⟨rfl, rfl, rfl, rfl, rfl, rfl, _, _, _, _, _, _, rfl, Lib.hid (blk_new _ _), Lib.hid (blk_below B0.out hb2), Lib.hid (blk_below E1.out hb2), Lib.hid (HB.out.trans (hb2.mono HB.out.size))⟩
          case rest =>
            clear C3 B0 E1 HB
            obtain ⟨rfl, rfl, rfl, rfl, rfl, rfl, g3, y0, y1, y3, y4, y5, rfl, E3, B0, E1, HB⟩ := hcut
            by_cases he4 : e4 = 0
            · subst he4
              rw [if_neg (by simp)] at hF
              have C4 := Lib.hid (HO.out wc HB.out a2_0)
              clear HO
              generalize homeF a0 a2_0 = h2 at *
              obtain ⟨l2, n2, x2, e2⟩ := h2
              go_upto_region 10 with (fail)
              go_cut [0, 1, 3, 6, 10, 15, 16] (fun v0 v1 v3 v6 v10 v15 v16 wr => v0 = .pointer (some ⟨G_, 0, none⟩) ∧ v1 = .int .i64 a1 ∧ v3 = .int .i64 a3 ∧ v6 = .pointer (some ⟨w.heap.size, 0, none⟩) ∧ v10 = .pointer (some ⟨g1, 0, none⟩) ∧ v15 = .pointer (some ⟨g3, 0, none⟩) ∧ ∃ g2, v16 = .pointer (some ⟨g2, 0, none⟩) ∧ Hid (wr.heap[g2]? = some (.cells #[.int .i64 l2, .string n2] 61 (0, 0))) ∧ Hid (wr.heap[g3]? = some (.cells #[y0, y1, .int .i64 y.f2, y3, y4, y5] 51 (0, 0))) ∧ Hid (wr.heap[w.heap.size]? = some (.cells #[.int .i64 a2_0, .int .i64 a2_1] 31 (0, 0))) ∧ Hid (wr.heap[g1]? = some (.cells #[.int .i64 l1, .string n1] 61 (0, 0))) ∧ Hid (Below w.heap.size w wr))
              case first =>
                have q0 : wc.cell? ⟨w.heap.size, 0, none⟩ = some (.int .i64 a2_0) := (blk_cell B0.out 0).trans rfl
                go_wp2_with fail
                refine C4.out.mono ?_
                rintro e w1 ⟨v2, v5, rfl, R2, R5, hb1⟩
                obtain ⟨A2, c2, rfl⟩ := Kd.R_slice R2
                obtain ⟨A5, c5, rfl⟩ := Kd.R_slice R5
                clear C4 q0
                go_wp2
                go_meet
                case rel =>
                  have hb2 := (two_new w1 (.cells #[.int .i64 l2, .string n2] 61) (.cells #[.string x2.f0, .string x2.f1, .slice A2 x2.f2.length c2, .int .i64 x2.f3, .int .i64 x2.f4, .slice A5 x2.f5.length c5] 44)).2.2
                  have hb3 := hb1.trans (hb2.mono hb1.size)
                  exact ⟨rfl, rfl, rfl, rfl, rfl, rfl, _, rfl, Lib.hid (two_new _ _ _).1, Lib.hid (blk_below E3.out hb3), Lib.hid (blk_below B0.out hb3), Lib.hid (blk_below E1.out hb3), Lib.hid (HB.out.trans (hb3.mono HB.out.size))⟩
              case rest =>
                clear C4 B0 E1 E3 HB
                obtain ⟨rfl, rfl, rfl, rfl, rfl, rfl, g2, rfl, E2, E3, B0, E1, HB⟩ := hcut
                have q0 : wc.cell? ⟨g1, 0, none⟩ = some (.int .i64 l1) := (blk_cell E1.out 0).trans rfl
                have q1 : wc.cell? ⟨g1, 1, none⟩ = some (.string n1) := (blk_cell E1.out 1).trans rfl
                have r0 : wc.cell? ⟨g2, 0, none⟩ = some (.int .i64 l2) := (blk_cell E2.out 0).trans rfl
                have r1 : wc.cell? ⟨g2, 1, none⟩ = some (.string n2) := (blk_cell E2.out 1).trans rfl
                go_upto_region 11 with (fail)
                go_cut [0, 1, 3, 6, 15, 19] (fun v0 v1 v3 v6 v15 v19 wr => v0 = .pointer (some ⟨G_, 0, none⟩) ∧ v1 = .int .i64 a1 ∧ v3 = .int .i64 a3 ∧ v6 = .pointer (some ⟨w.heap.size, 0, none⟩) ∧ v15 = .pointer (some ⟨g3, 0, none⟩) ∧ v19 = .bool (nearF (l1, n1, x1, 0) (l2, n2, x2, e2)) ∧ Hid (wr.heap[g3]? = some (.cells #[y0, y1, .int .i64 y.f2, y3, y4, y5] 51 (0, 0))) ∧ Hid (wr.heap[w.heap.size]? = some (.cells #[.int .i64 a2_0, .int .i64 a2_1] 31 (0, 0))) ∧ Hid (Below w.heap.size w wr))
                case first =>
                  go_wp2
                  · go_meet
                    case rel =>
                      refine ⟨rfl, rfl, rfl, rfl, rfl, ?_, E3, B0, HB⟩
                      simp [nearF, *]
                      exact tl_eq (by assumption)
                  · go_meet
                    case rel =>
                      refine ⟨rfl, rfl, rfl, rfl, rfl, ?_, E3, B0, HB⟩
                      simp [nearF, *]
                      intro e
                      subst e
                      simp_all
                  · go_meet
                    case rel =>
                      refine ⟨rfl, rfl, rfl, rfl, rfl, ?_, E3, B0, HB⟩
                      simp [nearF, *]
                case rest =>
                  clear q0 q1 r0 r1 E1 E2 E3 B0 HB
                  obtain ⟨rfl, rfl, rfl, rfl, rfl, rfl, E3, B0, HB⟩ := hcut
                  have q0 : wc.cell? ⟨w.heap.size, 0, none⟩ = some (.int .i64 a2_0) := (blk_cell B0.out 0).trans rfl
                  have r2 : wc.cell? ⟨g3, 2, none⟩ = some (.int .i64 y.f2) := (blk_cell E3.out 2).trans rfl
                  generalize nearF (l1, n1, x1, 0) (l2, n2, x2, e2) = near at *
                  have FO := Lib.hid (fopen_any y.f2)
                  generalize opnF y.f2 = o at *
                  clear E3 B0
                  go_wp2_with fail
                  refine (FO.out _).mono ?_
                  rintro e w2 ⟨rfl, rfl⟩
                  clear FO
                  by_cases o1 : o = 1
                  · subst o1
                    rw [if_pos rfl] at hF
                    go_wp2
                    go_ret2
                    have := hF.out
                    cases this
                    exact ⟨rfl, HB.out⟩
                  · have p1 : (o == 1) = false := beq_eq_false_iff_ne.2 o1
                    rw [if_neg o1] at hF
                    by_cases o2 : o = 2
                    · subst o2
                      rw [if_pos rfl] at hF
                      by_cases hd : a2_0 = a1
                      · have hd2 : (a2_0 == a1) = true := beq_iff_eq.2 hd
                        rw [decide_eq_true hd] at hF
                        clear hd o1
                        go_wp2
                        go_ret2
                        have := hF.out
                        cases this
                        exact ⟨rfl, HB.out⟩
                      · have hd2 : (a2_0 == a1) = false := beq_eq_false_iff_ne.2 hd
                        rw [decide_eq_false hd] at hF
                        clear hd o1
                        go_wp2
                        go_ret2
                        have := hF.out
                        cases this
                        exact ⟨rfl, HB.out⟩
                    · have p2 : (o == 2) = false := beq_eq_false_iff_ne.2 o2
                      rw [if_neg o2] at hF
                      cases near with
                      | true =>
                        rw [if_pos rfl] at hF
                        clear o1 o2
                        go_wp2
                        go_ret2
                        have := hF.out
                        cases this
                        exact ⟨rfl, HB.out⟩
                      | false =>
                        rw [if_neg (by simp)] at hF
                        by_cases o4 : o = 4
                        · subst o4
                          rw [if_pos rfl] at hF
                          have C5 := Lib.hid (HI.out w2 HB.out)
                          clear HI o1 o2
                          generalize (inB a0 a2_0 && isI (ent a0 a2_0).c) = ii at *
                          have CX1 := Lib.hid (fun (W : World) (hb : Below w.heap.size w W) => HX.out W hb a1 a2_0)
                          have CX2 := Lib.hid (fun (W : World) (hb : Below w.heap.size w W) => HX.out W hb a3 a1)
                          have CX3 := Lib.hid (fun (W : World) (hb : Below w.heap.size w W) => HX.out W hb a1 a3)
                          clear HX
                          generalize extF a0 a1 a2_0 = x1_ at *
                          generalize extF a0 a3 a1 = x2_ at *
                          generalize extF a0 a1 a3 = x3_ at *
                          go_wp2_with fail
                          refine C5.out.mono ?_
                          rintro e w3 ⟨rfl, hb3⟩
                          have HB3 := Lib.hid (HB.out.trans (hb3.mono HB.out.size))
                          have r3 := pw_cell_below hb3 r2
                          have q3 := pw_cell_below hb3 q0
                          clear C5 r2 q0 hb3
                          cases ii with
                          | true =>
                            rw [if_pos rfl] at hF
                            go_wp2
                            go_ret2
                            have := hF.out
                            cases this
                            exact ⟨rfl, HB3.out⟩
                          | false =>
                            rw [if_neg (by simp)] at hF
                            have D1 := Lib.hid (CX1.out w3 HB3.out)
                            clear CX1
                            go_wp2_with fail
                            refine D1.out.mono ?_
                            rintro e w4 ⟨rfl, hb4⟩
                            have HB4 := Lib.hid (HB3.out.trans (hb4.mono HB3.out.size))
                            have r4 := pw_cell_below hb4 r3
                            clear D1 r3 q3 hb4 HB3
                            cases x1_ with
                            | false =>
                              rw [if_neg (by simp)] at hF
                              go_wp2
                              go_ret2
                              have := hF.out
                              cases this
                              exact ⟨rfl, HB4.out⟩
                            | true =>
                              rw [if_pos rfl] at hF
                              by_cases hs : Go.bits .and .i64 y.f2 8 = 0
                              · have hs2 : (Go.bits .and .i64 y.f2 8 != 0) = false := bne_eq_false_iff_eq.2 hs
                                rw [if_neg (fun h => h hs)] at hF
                                have D2 := Lib.hid (CX2.out w4 HB4.out)
                                clear hs CX2
                                go_wp2_with fail
                                refine D2.out.mono ?_
                                rintro e w5 ⟨rfl, hb5⟩
                                have HB5 := Lib.hid (HB4.out.trans (hb5.mono HB4.out.size))
                                clear D2 r4 hb5 HB4
                                cases x2_ with
                                | true =>
                                  rw [if_pos rfl] at hF
                                  go_wp2
                                  go_ret2
                                  have := hF.out
                                  cases this
                                  exact ⟨rfl, HB5.out⟩
                                | false =>
                                  rw [if_neg (by simp)] at hF
                                  have D3 := Lib.hid (CX3.out w5 HB5.out)
                                  clear CX3
                                  go_wp2_with fail
                                  refine D3.out.mono ?_
                                  rintro e w6 ⟨rfl, hb6⟩
                                  have HB6 := Lib.hid (HB5.out.trans (hb6.mono HB5.out.size))
                                  clear D3 hb6 HB5
                                  go_wp2
                                  go_ret2
                                  have := hF.out
                                  cases this
                                  exact ⟨rfl, HB6.out⟩
                              · have hs2 : (Go.bits .and .i64 y.f2 8 != 0) = true := bne_iff_ne.2 hs
                                rw [if_pos hs] at hF
                                clear hs
                                go_wp2
                                go_ret2
                                have := hF.out
                                cases this
                                exact ⟨rfl, HB4.out⟩
                        · have p4 : (o == 4) = false := beq_eq_false_iff_ne.2 o4
                          rw [if_neg o4] at hF
                          clear o1 o2 o4
                          go_wp2
                          go_ret2
                          have := hF.out
                          cases this
                          exact ⟨rfl, HB.out⟩
            · have hne : (e4 != 0) = true := bne_iff_ne.2 he4
              rw [if_pos he4] at hF
              clear he4 HO
              go_wp2
              go_ret2
              have := hF.out
              cases this
              exact ⟨rfl, HB.out⟩
        · have hne : (e3 != 0) = true := bne_iff_ne.2 he3
          rw [if_pos he3] at hF
          clear he3 HO
          go_wp2
          go_ret2
          have := hF.out
          cases this
          exact ⟨rfl, HB.out⟩
    · have hne : (e1 != 0) = true := bne_iff_ne.2 he1
      rw [if_pos he1] at hF
      clear he1 HO
      go_wp2
      go_ret2
      have := hF.out
      cases this
      exact ⟨rfl, HB.out⟩
end Go.Proofs.YtmlifggklaeieaaDoor.Pt

namespace Go.Proofs.YtmlifggklaeieaaDoor.Pt
open Go Go.RowKit Go.Proofs.YtmlifggklaeieaaDoor.Nm Go.Proofs.YtmlifggklaeieaaDoor.Hi Go.Proofs.YtmlifggklaeieaaDoorW.PrintWords Go.Proofs.YtmlifggklaeieaaDoorW.PrintLast Go.Proofs.YtmlifggklaeieaaDoorW.PrintMore
set_option linter.unusedVariables false
set_option linter.unusedSimpArgs false
set_option maxHeartbeats 2000000
set_option maxRecDepth 100000
theorem rd44 {l : List S44} {i : Nat} (h : i < l.length) : l[i]? = some (rd_T44 l (i : Int)) := by
  simp [rd_T44, List.getD_eq_getElem?_getD, List.getElem?_eq_getElem h]
def arbiterlaw07_built.f (l0 : List (S44)) : Option (List Hi.Ent) := some (builtF l0)
theorem arbiterlaw07_built.calls (A0 : Option Addr) (c0 : Nat) (l0 : List (S44)) (r : List Hi.Ent) (w : World) (hr0 : Kd.C k44 w A0 l0.length l0) (hc0 : l0.length ≤ c0) (h : arbiterlaw07_built.f l0 = some r) :
    Calls Tryd.prog 14 #[.slice A0 l0.length c0] w fun e w' => ∃ G_, e = .returned (.pointer (some ⟨G_, 0, none⟩)) ∧ WOK w' G_ r ∧ Below w.heap.size w w' := by
  obtain rfl := Option.some.inj h
  have HR := Lib.hid hr0
  have hmax := Kd.C_max hr0
  clear h hr0
  go_enter Tryd.func14, Tryd.ntmps14
  go_wp2_with fail
  refine (new_any _).mono ?_
  rintro e w1 ⟨g, v, mb, ps, rfl, hI, hb⟩
  have HI := Lib.hid hI
  have HB := Lib.hid hb
  clear hI hb
  go_wp2_with fail
  go_loopw [4] (fun v4 wr => ∃ j : Nat, j ≤ l0.length ∧ v4 = .int .i64 j ∧ Hid (∃ v ps, WIn wr w.heap.size g v mb ps (builtF (l0.take j))) ∧ Hid (Below w.heap.size w wr)) (fun v4 _ => l0.length - (intOf v4).toNat)
  case atStart => exact ⟨0, Nat.zero_le _, rfl, Lib.hid ⟨_, _, HI.out⟩, HB⟩
  case round =>
    clear HI HB
    obtain ⟨j, hj, rfl, HI, HB⟩ := hrel
    by_cases hlt : j < l0.length
    · have hjd : decide (j < l0.length) = true := decide_eq_true hlt
      obtain ⟨ad, A2, c2, A5, c5, rfl, q0, q1, q2, q3, q4, q5, hc2, K2, hc5, K5⟩ := at_T44 (Kd.C_below HR.out HB.out) (j : Int) (by omega) (by omega)
      have hx := rd44 hlt
      rw [Int.toNat_natCast] at q0 q1 q2 q3 q4 q5
      generalize rd_T44 l0 (j : Int) = x at *
      obtain ⟨v, ps, hI⟩ := HI.out
      have hst : Hid (builtF (l0.take (j + 1)) = stepF (builtF (l0.take j)) x) := Lib.hid (by
        unfold builtF
        rw [List.take_add_one, hx, List.foldl_append]
        rfl)
      have DF := Lib.hid (define_any wr w.heap.size g v mb ps _ hI HB.out.size (good_made (made_built _)) x.f0 x.f1 A2 c2 x.f2 x.f3 x.f4 A5 c5 x.f5 K2 hc2 K5 hc5 (chkC x) rfl (fun h => by
        obtain ⟨s0, s1, s2, s3, s5⟩ := sound_sizes h
        exact ⟨by omega, by omega, by omega, fun n hn => by have := s3 n hn; omega, s5⟩))
      clear K2 K5 hI HI hx
      obtain ⟨n0, n1, n2, n3, n4, n5⟩ := x
      go_wp2_with fail
      refine DF.out.mono ?_
      rintro e w2 ⟨rfl, v', ps', I2, hb2, hk2⟩
      replace I2 := Lib.hid I2
      have HB2 := Lib.hid (HB.out.trans hb2)
      clear hb2 hk2 DF HB q0 q1 q2 q3 q4 q5
      go_wp2
      exact ⟨⟨j + 1, by omega, by push_cast; rfl, Lib.hid ⟨_, _, by rw [hst.out]; exact I2.out⟩, HB2⟩, by simp [intOf]; omega⟩
    · have hjd : decide (j < l0.length) = false := decide_eq_false hlt
      have e1 : j = l0.length := by omega
      subst e1
      rw [List.take_length] at HI
      go_wp2
      go_ret
      obtain ⟨v, ps, hI⟩ := HI.out
      have hg := good_made (made_built l0)
      exact ⟨g, rfl, ⟨⟨_, _, _, _, hI⟩, hg.fine, hg.tree, by have := hg.len; omega⟩, HB.out⟩
def arbiterlaw08_built.f (l0 : List (S44)) : Option (List Hi.Ent) := some (builtF l0)
theorem arbiterlaw08_built.calls (A0 : Option Addr) (c0 : Nat) (l0 : List (S44)) (r : List Hi.Ent) (w : World) (hr0 : Kd.C k44 w A0 l0.length l0) (hc0 : l0.length ≤ c0) (h : arbiterlaw08_built.f l0 = some r) :
    Calls Tryd.prog 18 #[.slice A0 l0.length c0] w fun e w' => ∃ G_, e = .returned (.pointer (some ⟨G_, 0, none⟩)) ∧ WOK w' G_ r ∧ Below w.heap.size w w' := by
  obtain rfl := Option.some.inj h
  have HR := Lib.hid hr0
  have hmax := Kd.C_max hr0
  clear h hr0
  go_enter Tryd.func18, Tryd.ntmps18
  go_wp2_with fail
  refine (new_any _).mono ?_
  rintro e w1 ⟨g, v, mb, ps, rfl, hI, hb⟩
  have HI := Lib.hid hI
  have HB := Lib.hid hb
  clear hI hb
  go_wp2_with fail
  go_loopw [4] (fun v4 wr => ∃ j : Nat, j ≤ l0.length ∧ v4 = .int .i64 j ∧ Hid (∃ v ps, WIn wr w.heap.size g v mb ps (builtF (l0.take j))) ∧ Hid (Below w.heap.size w wr)) (fun v4 _ => l0.length - (intOf v4).toNat)
  case atStart => exact ⟨0, Nat.zero_le _, rfl, Lib.hid ⟨_, _, HI.out⟩, HB⟩
  case round =>
    clear HI HB
    obtain ⟨j, hj, rfl, HI, HB⟩ := hrel
    by_cases hlt : j < l0.length
    · have hjd : decide (j < l0.length) = true := decide_eq_true hlt
      obtain ⟨ad, A2, c2, A5, c5, rfl, q0, q1, q2, q3, q4, q5, hc2, K2, hc5, K5⟩ := at_T44 (Kd.C_below HR.out HB.out) (j : Int) (by omega) (by omega)
      have hx := rd44 hlt
      rw [Int.toNat_natCast] at q0 q1 q2 q3 q4 q5
      generalize rd_T44 l0 (j : Int) = x at *
      obtain ⟨v, ps, hI⟩ := HI.out
      have hst : Hid (builtF (l0.take (j + 1)) = stepF (builtF (l0.take j)) x) := Lib.hid (by
        unfold builtF
        rw [List.take_add_one, hx, List.foldl_append]
        rfl)
      have DF := Lib.hid (define_any wr w.heap.size g v mb ps _ hI HB.out.size (good_made (made_built _)) x.f0 x.f1 A2 c2 x.f2 x.f3 x.f4 A5 c5 x.f5 K2 hc2 K5 hc5 (chkC x) rfl (fun h => by
        obtain ⟨s0, s1, s2, s3, s5⟩ := sound_sizes h
        exact ⟨by omega, by omega, by omega, fun n hn => by have := s3 n hn; omega, s5⟩))
      clear K2 K5 hI HI hx
      obtain ⟨n0, n1, n2, n3, n4, n5⟩ := x
      go_wp2_with fail
      refine DF.out.mono ?_
      rintro e w2 ⟨rfl, v', ps', I2, hb2, hk2⟩
      replace I2 := Lib.hid I2
      have HB2 := Lib.hid (HB.out.trans hb2)
      clear hb2 hk2 DF HB q0 q1 q2 q3 q4 q5
      go_wp2
      exact ⟨⟨j + 1, by omega, by push_cast; rfl, Lib.hid ⟨_, _, by rw [hst.out]; exact I2.out⟩, HB2⟩, by simp [intOf]; omega⟩
    · have hjd : decide (j < l0.length) = false := decide_eq_false hlt
      have e1 : j = l0.length := by omega
      subst e1
      rw [List.take_length] at HI
      go_wp2
      go_ret
      obtain ⟨v, ps, hI⟩ := HI.out
      have hg := good_made (made_built l0)
      exact ⟨g, rfl, ⟨⟨_, _, _, _, hI⟩, hg.fine, hg.tree, by have := hg.len; omega⟩, HB.out⟩
end Go.Proofs.YtmlifggklaeieaaDoor.Pt

namespace Go.Proofs.YtmlifggklaeieaaDoor.Pt
open Go Go.RowKit Go.Proofs.YtmlifggklaeieaaDoor.Nm Go.Proofs.YtmlifggklaeieaaDoor.Hi Go.Proofs.YtmlifggklaeieaaDoorW.PrintWords Go.Proofs.YtmlifggklaeieaaDoorW.PrintLast Go.Proofs.YtmlifggklaeieaaDoorW.PrintMore
set_option linter.unusedVariables false
set_option linter.unusedSimpArgs false
set_option maxHeartbeats 2000000
set_option maxRecDepth 100000
theorem access_ClassOpen_nil.calls (a1 : Int) (a2 : Int) (r1 : Bool) (r2 : Int) (w : World) (h : access_ClassOpen_nil.f a1 a2 = some (r1, r2)) :
    Calls Tryd.prog 9 #[.pointer none, .int .i64 a1, .int .i64 a2] w fun e w' => e = .returned (.tuple #[.bool r1, .int .i64 r2]) ∧ Below w.heap.size w w' := by
  have h := Option.some.inj h
  simp only [Prod.mk.injEq] at h
  obtain ⟨rfl, rfl⟩ := h
  have HN := Lib.hid (home_nil a1)
  go_enter Tryd.func9, Tryd.ntmps9
  go_wp2_with fail
  refine (HN.out _).mono ?_
  rintro e w1 ⟨vc, rfl, ⟨v2, v5, rfl, R2, R5⟩, hb⟩
  obtain ⟨A2, c2, rfl⟩ := Kd.R_slice R2
  obtain ⟨A5, c5, rfl⟩ := Kd.R_slice R5
  have HB : Hid (Below w.heap.size w w1) := Lib.hid (hb)
  clear R2 R5 hb
  rw [show homeV 0 ⟨#[]⟩ = .agg #[.int .i64 0, .string ⟨#[]⟩] from rfl]
  go_wp2
  go_ret2
  exact ⟨rfl, by repeat (first | exact HB.out | refine below_alloc ?_ _)⟩
theorem access_TypeOpen_nil.calls (a1 : Int) (a2_0 : Int) (a2_1 : ByteArray) (r1 : Bool) (r2 : Int) (w : World) (h : access_TypeOpen_nil.f a1 a2_0 a2_1 = some (r1, r2)) :
    Calls Tryd.prog 10 #[.pointer none, .int .i64 a1, .agg #[.int .i64 a2_0, .string a2_1]] w fun e w' => e = .returned (.tuple #[.bool r1, .int .i64 r2]) ∧ Below w.heap.size w w' := by
  have h := Option.some.inj h
  simp only [Prod.mk.injEq] at h
  obtain ⟨rfl, rfl⟩ := h
  have HN := Lib.hid (home_nil a1)
  go_enter Tryd.func10, Tryd.ntmps10
  go_wp2_with fail
  refine (HN.out _).mono ?_
  rintro e w1 ⟨vc, rfl, ⟨v2, v5, rfl, R2, R5⟩, hb⟩
  obtain ⟨A2, c2, rfl⟩ := Kd.R_slice R2
  obtain ⟨A5, c5, rfl⟩ := Kd.R_slice R5
  have HB : Hid (Below w.heap.size w w1) := Lib.hid ((below_alloc (Below.refl w.heap.size w) _).trans (hb.mono (by simp)))
  clear R2 R5 hb
  rw [show homeV 0 ⟨#[]⟩ = .agg #[.int .i64 0, .string ⟨#[]⟩] from rfl]
  go_wp2
  go_ret2
  exact ⟨rfl, by repeat (first | exact HB.out | refine below_alloc ?_ _)⟩
theorem access_MethodOpen_nil.calls (a1 : Int) (a2_0 : Int) (a2_1 : Int) (a3 : Int) (r1 : Bool) (r2 : Int) (w : World) (h : access_MethodOpen_nil.f a1 a2_0 a2_1 a3 = some (r1, r2)) :
    Calls Tryd.prog 11 #[.pointer none, .int .i64 a1, .agg #[.int .i64 a2_0, .int .i64 a2_1], .int .i64 a3] w fun e w' => e = .returned (.tuple #[.bool r1, .int .i64 r2]) ∧ Below w.heap.size w w' := by
  have h := Option.some.inj h
  simp only [Prod.mk.injEq] at h
  obtain ⟨rfl, rfl⟩ := h
  have HN := Lib.hid (home_nil a1)
  go_enter Tryd.func11, Tryd.ntmps11
  go_wp2_with fail
  refine (HN.out _).mono ?_
  rintro e w1 ⟨vc, rfl, ⟨v2, v5, rfl, R2, R5⟩, hb⟩
  obtain ⟨A2, c2, rfl⟩ := Kd.R_slice R2
  obtain ⟨A5, c5, rfl⟩ := Kd.R_slice R5
  have HB : Hid (Below w.heap.size w w1) := Lib.hid ((below_alloc (Below.refl w.heap.size w) _).trans (hb.mono (by simp)))
  clear R2 R5 hb
  rw [show homeV 0 ⟨#[]⟩ = .agg #[.int .i64 0, .string ⟨#[]⟩] from rfl]
  go_wp2
  go_ret2
  exact ⟨rfl, by repeat (first | exact HB.out | refine below_alloc ?_ _)⟩
theorem access_Package_nil.calls (a1 : Int) (r1 : Int) (r2 : ByteArray) (r3 : Int) (w : World) (h : access_Package_nil.f a1 = some (r1, r2, r3)) :
    Calls Tryd.prog 12 #[.pointer none, .int .i64 a1] w fun e w' => e = .returned (.tuple #[.int .i64 r1, .string r2, .int .i64 r3]) ∧ Below w.heap.size w w' := by
  have h := Option.some.inj h
  simp only [Prod.mk.injEq] at h
  obtain ⟨rfl, rfl, rfl⟩ := h
  have HN := Lib.hid (home_nil a1)
  go_enter Tryd.func12, Tryd.ntmps12
  go_wp2_with fail
  refine (HN.out _).mono ?_
  rintro e w1 ⟨vc, rfl, ⟨v2, v5, rfl, R2, R5⟩, hb⟩
  obtain ⟨A2, c2, rfl⟩ := Kd.R_slice R2
  obtain ⟨A5, c5, rfl⟩ := Kd.R_slice R5
  have HB : Hid (Below w.heap.size w w1) := Lib.hid (hb)
  clear R2 R5 hb
  rw [show homeV 0 ⟨#[]⟩ = .agg #[.int .i64 0, .string ⟨#[]⟩] from rfl]
  go_wp2
  go_region
  all_goals go_wp2
  all_goals go_ret3
  all_goals exact ⟨rfl, by repeat (first | exact HB.out | apply below_drew1 | refine below_alloc ?_ _)⟩
end Go.Proofs.YtmlifggklaeieaaDoor.Pt

namespace Go.Proofs.YtmlifggklaeieaaDoor.Pt
open Go Go.RowKit Go.Proofs.YtmlifggklaeieaaDoor.Nm Go.Proofs.YtmlifggklaeieaaDoor.Hi Go.Proofs.YtmlifggklaeieaaDoorW.PrintWords Go.Proofs.YtmlifggklaeieaaDoorW.PrintLast Go.Proofs.YtmlifggklaeieaaDoorW.PrintMore
set_option linter.unusedVariables false
set_option linter.unusedSimpArgs false
set_option maxHeartbeats 2000000
set_option maxRecDepth 100000
theorem open_new : access_ClassOpen.f newE 1 0 = some (true, 0) := by
  unfold access_ClassOpen.f copenF
  rfl
def arbiterlaw08_awake.f : Option Bool := some true
theorem arbiterlaw08_awake.calls (r : Bool) (w : World) (h : arbiterlaw08_awake.f = some r) : Calls Tryd.prog 8 #[] w fun e w' => e = .returned (.bool r) ∧ Below w.heap.size w w' := by
  obtain rfl := Option.some.inj h
  go_enter Tryd.func8, Tryd.ntmps8
  go_wp2_with fail
  refine (new_any _).mono ?_
  rintro e w1 ⟨g, v, mb, ps, rfl, hI, hb⟩
  have HO := Lib.hid (access_ClassOpen.calls g newE 1 0 true 0 w1 (wok_new hI) open_new)
  have HB := Lib.hid hb
  clear hI hb
  go_wp2_with fail
  refine HO.out.mono ?_
  rintro e w2 ⟨rfl, hb2⟩
  have HB2 := Lib.hid (HB.out.trans (hb2.mono HB.out.size))
  clear hb2
  go_wp2
  go_ret
  exact ⟨rfl, HB2.out⟩
end Go.Proofs.YtmlifggklaeieaaDoor.Pt

namespace Go.Proofs.YtmlifggklaeieaaDoor.Pt
open Go Go.RowKit Go.Proofs.YtmlifggklaeieaaDoor.Nm Go.Proofs.YtmlifggklaeieaaDoor.Ty Go.Proofs.YtmlifggklaeieaaDoor.Hi Go.Proofs.YtmlifggklaeieaaDoorW.PrintWords Go.Proofs.YtmlifggklaeieaaDoorW.PrintLast Go.Proofs.YtmlifggklaeieaaDoorW.PrintMore
set_option linter.unusedVariables false
set_option linter.unusedSimpArgs false
set_option maxRecDepth 100000
set_option maxHeartbeats 4000000
theorem ofInt_wrap (x : BitVec 64) : BitVec.ofInt 64 (IntKind.i64.wrap (x.toNat : Int)) = x := by
  apply BitVec.eq_of_toNat_eq
  rw [BitVec.toNat_ofInt, IntKind.wrap_i64]
  have := x.isLt
  omega
theorem and_and (f a b c : Int) (h : BitVec.ofInt 64 a &&& BitVec.ofInt 64 b = BitVec.ofInt 64 c) : Go.bits .and .i64 (Go.bits .and .i64 f a) b = Go.bits .and .i64 f c := by
  have e1 : Go.bits .and .i64 (Go.bits .and .i64 f a) b = IntKind.i64.wrap ((BitVec.ofInt 64 (IntKind.i64.wrap ((BitVec.ofInt 64 f &&& BitVec.ofInt 64 a).toNat : Int)) &&& BitVec.ofInt 64 b).toNat : Int) := rfl
  have e2 : Go.bits .and .i64 f c = IntKind.i64.wrap ((BitVec.ofInt 64 f &&& BitVec.ofInt 64 c).toNat : Int) := rfl
  rw [e1, e2, ofInt_wrap, BitVec.and_assoc, h]
theorem and7 (f : Int) : 0 ≤ Go.bits .and .i64 f 7 ∧ Go.bits .and .i64 f 7 ≤ 7 := by
  have e : Go.bits .and .i64 f 7 = IntKind.i64.wrap ((BitVec.ofInt 64 f &&& BitVec.ofInt 64 7).toNat : Int) := rfl
  have h : (BitVec.ofInt 64 f &&& BitVec.ofInt 64 7).toNat ≤ 7 := by
    rw [BitVec.toNat_and]
    exact Nat.and_le_right
  rw [e, IntKind.wrap_i64]
  omega
/-- A method has one word of public, private and protected at most. -/
def OneWord (f : Int) : Prop := (Go.bits .and .i64 f 2 ≠ 0 → Go.bits .and .i64 f 1 = 0 ∧ Go.bits .and .i64 f 4 = 0) ∧ (Go.bits .and .i64 f 5 = 0 → Go.bits .and .i64 f 1 = 0 ∧ Go.bits .and .i64 f 4 = 0)
theorem one_word {f : Int} (h : Go.bits .and .i64 (Go.bits .and .i64 f 7) (wrap64 (Go.bits .and .i64 f 7 - 1)) = 0) : OneWord f := by
  unfold OneWord
  rw [← and_and f 7 2 2 (by decide), ← and_and f 7 1 1 (by decide), ← and_and f 7 4 4 (by decide), ← and_and f 7 5 5 (by decide)]
  have h7 := and7 f
  generalize Go.bits .and .i64 f 7 = g at *
  have : g = 0 ∨ g = 1 ∨ g = 2 ∨ g = 3 ∨ g = 4 ∨ g = 5 ∨ g = 6 ∨ g = 7 := by omega
  rcases this with rfl | rfl | rfl | rfl | rfl | rfl | rfl | rfl
  all_goals (revert h; decide +kernel)
theorem _root_.Go.Proofs.YtmlifggklaeieaaDoor.Hi.Thy.word {es : List Ent} (h : Thy es) {c i : Int} (hm : inM es c i = true) : OneWord (rd_T51 (ent es c).c.f5 i).f2 := by
  unfold inM at hm
  rw [Bool.and_eq_true, decide_eq_true_eq] at hm
  have hc : 0 ≤ c ∧ c < es.length := of_decide_eq_true hm.1
  have hi := hm.2
  have hx := rd51 (l := (ent es c).c.f5) (i := i.toNat) (by omega)
  rw [Int.toNat_of_nonneg hi.1] at hx
  have hmem := List.mem_of_getElem? hx
  by_cases h3 : 3 ≤ c
  · have ht := h.src _ _ (get_ent hc.1 hc.2) (by omega)
    have hs : soundB (ent es c).c = true := by
      cases hb : soundB (ent es c).c with
      | true => rfl
      | false =>
        have := ht.sound
        unfold chkC at this
        rw [hb] at this
        cases this
    unfold soundB at hs
    simp only [Bool.and_eq_true] at hs
    have hb := msB_mem _ _ hs.2.2.2 _ hmem
    unfold methB at hb
    simp only [Bool.and_eq_true, beq_iff_eq] at hb
    have hf := hb.2.1
    unfold mflV mflI at hf
    apply one_word
    apply Classical.byContradiction
    intro hn
    rw [if_pos (.inr hn)] at hf
    cases hf
  · obtain ⟨o0, o1, o2⟩ := h.obj
    have : c = 0 ∨ c = 1 ∨ c = 2 := by omega
    rcases this with rfl | rfl | rfl
    · rw [o0] at hmem hi ⊢
      simp only [objC, objM, List.mem_cons, List.not_mem_nil, or_false] at hmem
      rcases hmem with e | e | e
      all_goals
        show OneWord (rd_T51 _ i).f2
        rw [show (rd_T51 objC.f5 i) = _ from e]
        exact one_word (by decide +kernel)
    · rw [o1] at hi
      simp [ifaceC] at hi
      omega
    · rw [o2] at hi
      simp [ifaceC] at hi
      omega
/-- What is open, of a method that is there. -/
def opnB (es : List Ent) (f d mc nm : Int) : Bool :=
  if opnF f = 1 then true else if opnF f = 2 then decide (mc = d) else if tog (ent es mc).c (ent es d).c = true then true else
   if opnF f = 4 then (if (inB es mc && isI (ent es mc).c) = true then false else if extF es d mc = true then (if Go.bits .and .i64 f 8 ≠ 0 then true else if extF es nm d = true then true else extF es d nm) else false) else false
theorem methF_in {es : List Ent} {c i : Int} (h : inM es c i = true) : methF es c i = (rd_T51 (ent es c).c.f5 i, 0) := if_pos h
theorem methF_out {es : List Ent} {c i : Int} (h : ¬ inM es c i = true) : methF es c i = (z51, 3) := if_neg h
theorem inM_c {es : List Ent} {c i : Int} (h : inM es c i = true) : 0 ≤ c ∧ c < es.length := by
  unfold inM at h
  rw [Bool.and_eq_true] at h
  exact of_decide_eq_true h.1
theorem mop_in {es : List Ent} {d mc mi nm : Int} (hd : 0 ≤ d ∧ d < es.length) (hn : 0 ≤ nm ∧ nm < es.length) (hm : inM es mc mi = true) : mopF es d mc mi nm = (opnB es (rd_T51 (ent es mc).c.f5 mi).f2 d mc nm, 0) := by
  unfold mopF
  rw [near_tog hd (inM_c hm), homeF_in hd, classF_in hn, methF_in hm]
  rfl
theorem mop_outd {es : List Ent} {d mc mi nm : Int} (hd : ¬ (0 ≤ d ∧ d < es.length)) : mopF es d mc mi nm = (false, 3) := by
  unfold mopF
  rw [homeF_out hd]
  rfl
theorem mop_outn {es : List Ent} {d mc mi nm : Int} (hn : ¬ (0 ≤ nm ∧ nm < es.length)) : mopF es d mc mi nm = (false, 3) := by
  by_cases hd : 0 ≤ d ∧ d < es.length
  · unfold mopF
    rw [homeF_in hd, classF_out hn]
    rfl
  · exact mop_outd hd
theorem mop_outm {es : List Ent} {d mc mi nm : Int} (hm : ¬ inM es mc mi = true) : mopF es d mc mi nm = (false, 3) := by
  by_cases hd : 0 ≤ d ∧ d < es.length
  · by_cases hn : 0 ≤ nm ∧ nm < es.length
    · unfold mopF
      rw [homeF_in hd, classF_in hn, methF_out hm]
      rfl
    · exact mop_outn hn
  · exact mop_outd hd
/-- What the sentence asks of a method that is there. -/
structure OwnP (es : List Ent) (f d e mc nm : Int) (A B S : Bool) : Prop where
  p1 : Go.bits .and .i64 f 1 ≠ 0 → A = true
  pp : Go.bits .and .i64 f 2 ≠ 0 → A = (d == mc)
  pn : Go.bits .and .i64 f 2 = 0 → S = true → A = true
  p0 : Go.bits .and .i64 f 5 = 0 → Go.bits .and .i64 f 2 = 0 → A = S
  pe : Go.bits .and .i64 f 2 = 0 → S = true → (0 ≤ e ∧ e < (es.length : Int)) → tog (ent es d).c (ent es e).c = true → B = true
theorem own_p {es : List Ent} {f d e mc nm : Int} (hw : OneWord f) : OwnP es f d e mc nm (opnB es f d mc nm) (opnB es f e mc nm) (tog (ent es d).c (ent es mc).c) := by
  have Pn : ∀ d', Go.bits .and .i64 f 2 = 0 → tog (ent es mc).c (ent es d').c = true → opnB es f d' mc nm = true := fun d' h ht => by
    have ho : opnF f ≠ 2 := by
      unfold opnF
      split
      · decide
      · split
        · decide
        · rw [if_neg (fun hh => hh h)]
          decide
    unfold opnB
    rw [if_neg ho, if_pos ht]
    simp
  refine ⟨fun h => ?_, fun h => ?_, fun h ht => Pn d h (by rw [tog_symm]; exact ht), fun h5 h2 => ?_, fun h ht _ h6 => Pn e h (tog_trans (by rw [tog_symm]; exact ht) h6)⟩
  · unfold opnB opnF
    rw [if_pos h]
    rfl
  · have hz := hw.1 h
    unfold opnB
    have ho : opnF f = 2 := by
      unfold opnF
      rw [if_neg (fun hh => hh hz.1), if_neg (fun hh => hh hz.2), if_pos h]
    rw [ho, if_neg (by decide), if_pos rfl]
    by_cases hq : mc = d
    · subst hq
      simp
    · rw [decide_eq_false hq]
      exact (beq_eq_false_iff_ne.2 (fun h => hq h.symm)).symm
  · have hz := hw.2 h5
    have ho : opnF f = 0 := by
      unfold opnF
      rw [if_neg (fun hh => hh hz.1), if_neg (fun hh => hh hz.2), if_neg (fun hh => hh h2)]
    unfold opnB
    rw [ho, tog_symm]
    cases tog (ent es d).c (ent es mc).c <;> rfl
theorem aown_any {W : World} {A0 : Option Addr} {n : Nat} {l : List S44} (hk : Kd.C k44 W A0 l.length l) (hc : l.length ≤ n) (d e mc mi nm : Int) :
    Calls Tryd.prog 6 #[.slice A0 l.length n, .int .i64 d, .int .i64 e, .agg #[.int .i64 mc, .int .i64 mi], .int .i64 nm] W fun e W' => e = .returned (.bool true) ∧ Below W.heap.size W W' := by
  have hT := Lib.hid (thy_made (made_built l))
  have B0 := Lib.hid (blk_new W (.cells #[.int .i64 mc, .int .i64 mi] 31))
  have AB := Lib.hid ((Below.refl W.heap.size W).alloc (Nat.le_refl _) (.cells #[.int .i64 mc, .int .i64 mi] 31))
  have CA := Lib.hid (fun V => arbiterlaw08_awake.calls true V rfl)
  have CB := Lib.hid (fun (V : World) (hb : Below W.heap.size W V) => arbiterlaw08_built.calls A0 n l (builtF l) V (Kd.C_below hk hb) hc rfl)
  clear hk
  generalize builtF l = es at *
  go_enter Tryd.func6, Tryd.ntmps6
  go_wp2_with fail
  refine (CA.out _).mono ?_
  rintro e_ w1 ⟨rfl, hb1⟩
  have B1 := Lib.hid (blk_below B0.out hb1)
  have H1 := Lib.hid (AB.out.trans (hb1.mono AB.out.size))
  clear B0 AB CA hb1
  go_wp2_with fail
  refine (CB.out w1 H1.out).mono ?_
  rintro e_ w2 ⟨G, rfl, hq, hb2⟩
  have B2 := Lib.hid (blk_below B1.out hb2)
  have H2 := Lib.hid (H1.out.trans (hb2.mono H1.out.size))
  have HM := Lib.hid (hier_World_Method.calls G es mc mi _ _ _ _ _ _ _ w2 hq rfl)
  have HO := Lib.hid (fun (V : World) (hb : Below w2.heap.size w2 V) (i j : Int) => access_MethodOpen.calls G es i mc mi j (mopF es i mc mi j).1 (mopF es i mc mi j).2 V (hq.below hb) rfl)
  have HP := Lib.hid (fun (V : World) (hb : Below w2.heap.size w2 V) (i j : Int) => hier_World_SamePackage.calls G es i j _ V (hq.below hb) rfl)
  clear hb2 B1 H1 CB hq
  have hmf : Hid ((methF es mc mi).2 = 0 → (methF es mc mi).1 = rd_T51 (ent es mc).c.f5 mi ∧ inM es mc mi = true) := Lib.hid (fun h => by
    by_cases hm : inM es mc mi = true
    · rw [methF_in hm]
      exact ⟨rfl, hm⟩
    · rw [methF_out hm] at h
      cases h)
  have hmo : Hid ((methF es mc mi).2 ≠ 0 → mopF es 0 mc mi 0 = (false, 3)) := Lib.hid (fun h => mop_outm (fun hm => by
    rw [methF_in hm] at h
    exact h rfl))
  generalize methF es mc mi = mf at *
  obtain ⟨y, e4⟩ := mf
  obtain ⟨y0, y1, y2, y3, y4, y5⟩ := y
  simp only at HM hmf hmo
  go_upto_region 4 with (fail)
  go_cut [1, 2, 4, 8, 11, 12, 13] (fun v1 v2 v4 v8 v11 v12 v13 wr => v1 = .int .i64 d ∧ v2 = .int .i64 e ∧ v4 = .int .i64 nm ∧ v8 = .pointer (some ⟨W.heap.size, 0, none⟩) ∧ v11 = .pointer (some ⟨G, 0, none⟩) ∧ v13 = .int .i64 e4 ∧ ∃ g3 z0 z1 z3 z4 z5, v12 = .pointer (some ⟨g3, 0, none⟩) ∧ Hid (wr.heap[g3]? = some (.cells #[z0, z1, .int .i64 y2, z3, z4, z5] 51 (0, 0))) ∧ Hid (wr.heap[W.heap.size]? = some (.cells #[.int .i64 mc, .int .i64 mi] 31 (0, 0))) ∧ Hid (Below w2.heap.size w2 wr))
  case first =>
    have q0 : w2.cell? ⟨W.heap.size, 0, none⟩ = some (.int .i64 mc) := (blk_cell B2.out 0).trans rfl
    have q1 : w2.cell? ⟨W.heap.size, 1, none⟩ = some (.int .i64 mi) := (blk_cell B2.out 1).trans rfl
    go_wp2_with fail
    refine HM.out.mono ?_
    rintro e_ w3 ⟨v5, rfl, R5, hb3⟩
    obtain ⟨A5, c5, rfl⟩ := Kd.R_slice R5
    clear HM q0 q1
    go_wp2
    go_meet
    case rel =>
      have hb4 := hb3.alloc hb3.size (.cells #[.string y0, .string y1, .int .i64 y2, .int .i64 y3, .int .i64 y4, .slice A5 y5.length c5] 51)
      exact ⟨rfl, rfl, rfl, rfl, rfl, rfl, _, _, _, _, _, _, rfl, Lib.hid (blk_new _ _), Lib.hid (blk_below B2.out hb4), Lib.hid hb4⟩
  case rest =>
    clear HM B2
    obtain ⟨rfl, rfl, rfl, rfl, rfl, rfl, g3, z0, z1, z3, z4, z5, rfl, E3, B0, HB⟩ := hcut
    have HF := Lib.hid (fun (V : World) (hv : Below wc.heap.size wc V) => (H2.out.trans (HB.out.mono H2.out.size)).trans (hv.mono (H2.out.trans (HB.out.mono H2.out.size)).size))
    have OP := Lib.hid (fun (V : World) (hv : Below wc.heap.size wc V) (i j : Int) => HO.out V (HB.out.trans (hv.mono HB.out.size)) i j)
    have SP := Lib.hid (fun (V : World) (hv : Below wc.heap.size wc V) (i j : Int) => HP.out V (HB.out.trans (hv.mono HB.out.size)) i j)
    have Q := Lib.hid (fun (V : World) (hv : Below wc.heap.size wc V) => (⟨(blk_cell (blk_below B0.out hv) 0).trans rfl, (blk_cell (blk_below B0.out hv) 1).trans rfl, (blk_cell (blk_below E3.out hv) 2).trans rfl⟩ : V.cell? ⟨W.heap.size, 0, none⟩ = some (.int .i64 mc) ∧ V.cell? ⟨W.heap.size, 1, none⟩ = some (.int .i64 mi) ∧ V.cell? ⟨g3, 2, none⟩ = some (.int .i64 y2)))
    clear HO HP E3 B0 HB H2
    obtain ⟨q0, q1, r2⟩ := Q.out wc (Below.refl _ _)
    by_cases he4 : e4 = 0
    · subst he4
      obtain ⟨hy, hm⟩ := hmf.out rfl
      have hcc := inM_c hm
      have hw := hT.out.word hm
      have MI : Hid (∀ d nm : Int, (0 ≤ d ∧ d < es.length) → (0 ≤ nm ∧ nm < es.length) → mopF es d mc mi nm = (opnB es y2 d mc nm, 0)) := Lib.hid (fun d nm hd hn => by
        rw [mop_in hd hn hm, ← hy])
      rw [← hy] at hw
      replace hw := Lib.hid (own_p (es := es) (d := d) (e := e) (mc := mc) (nm := nm) hw)
      have C1 := OP.out wc (Below.refl _ _) mc mc
      have hown : opnB es y2 mc mc mc = true := by
        unfold opnB
        rw [tog_refl]
        simp
      rw [MI.out mc mc hcc hcc, hown] at C1
      replace C1 := Lib.hid C1
      clear hmf hmo hy hm hown
      go_wp2_with fail
      refine C1.out.mono ?_
      rintro e_ w4 ⟨rfl, hb4⟩
      have HV := Lib.hid hb4
      clear C1 hb4 q0 q1 r2
      obtain ⟨q0, q1, r2⟩ := Q.out w4 HV.out
      have C2 := OP.out w4 HV.out d nm
      by_cases hdn : (0 ≤ d ∧ d < (es.length : Int)) ∧ (0 ≤ nm ∧ nm < (es.length : Int))
      · rw [MI.out d nm hdn.1 hdn.2] at C2
        replace C2 := Lib.hid C2
        have SM : Hid (hier_World_SamePackage.f es d mc = some (tog (ent es d).c (ent es mc).c)) := Lib.hid (by
          unfold hier_World_SamePackage.f
          rw [inB_in hdn.1, inB_in hcc]
          rfl)
        have C3 := Lib.hid (fun (V : World) (hv : Below wc.heap.size wc V) => SP.out V hv d mc)
        have C4 := Lib.hid (fun (V : World) (hv : Below wc.heap.size wc V) => SP.out V hv d e)
        have hC3 : Hid ((inB es d && inB es mc && tog (ent es d).c (ent es mc).c) = tog (ent es d).c (ent es mc).c) := Lib.hid (by rw [inB_in hdn.1, inB_in hcc]; rfl)
        rw [hC3.out] at C3
        have C5 := Lib.hid (fun (V : World) (hv : Below wc.heap.size wc V) => OP.out V hv e nm)
        have hB : Hid (((0 ≤ e ∧ e < (es.length : Int)) ∧ mopF es e mc mi nm = (opnB es y2 e mc nm, 0)) ∨ mopF es e mc mi nm = (false, 3)) := Lib.hid (by
          by_cases he : 0 ≤ e ∧ e < (es.length : Int)
          · exact .inl ⟨he, MI.out e nm he hdn.2⟩
          · exact .inr (mop_outd he))
        have hS2 : Hid ((0 ≤ e ∧ e < (es.length : Int)) → (inB es d && inB es e && tog (ent es d).c (ent es e).c) = tog (ent es d).c (ent es e).c) := Lib.hid (fun he => by rw [inB_in hdn.1, inB_in he]; rfl)
        clear hC3 SM SP OP MI hT hdn hcc
        generalize tog (ent es d).c (ent es mc).c = S at *
        generalize opnB es y2 d mc nm = A at *
        generalize opnB es y2 e mc nm = B at *
        generalize mopF es e mc mi nm = me at *
        generalize (inB es d && inB es e && tog (ent es d).c (ent es e).c) = SE at *
        obtain ⟨me1, me2⟩ := me
        go_wp2_with fail
        refine C2.out.mono ?_
        rintro e_ w5 ⟨rfl, hb5⟩
        have HV5 := Lib.hid (HV.out.trans (hb5.mono HV.out.size))
        clear C2 hb5 q0 q1 r2 HV
        obtain ⟨q0, q1, r2⟩ := Q.out w5 HV5.out
        have D3 := Lib.hid (C3.out w5 HV5.out)
        by_cases h2 : Go.bits .and .i64 y2 2 = 0
        · have h2b : (Go.bits .and .i64 y2 2 != 0) = false := bne_eq_false_iff_eq.2 h2
          have hcase : (Go.bits .and .i64 y2 1 != 0) = false ∨ A = true := by
            by_cases h1 : Go.bits .and .i64 y2 1 = 0
            · exact .inl (bne_eq_false_iff_eq.2 h1)
            · exact .inr (hw.out.p1 h1)
          have hpn : S = true → A = true := hw.out.pn h2
          have hp0 : (Go.bits .and .i64 y2 5 == 0) = true → A = S := fun h => hw.out.p0 (beq_iff_eq.1 h) h2
          have hpe := Lib.hid (hw.out.pe h2)
          clear hw h2
          have hfive : (Go.bits .and .i64 y2 5 == 0) = false ∨ A = S := by
            cases h5 : (Go.bits .and .i64 y2 5 == 0) with
            | false => exact .inl rfl
            | true => exact .inr (hp0 h5)
          clear hp0
          rcases hcase with h1 | h1
          all_goals (try subst h1)
          all_goals go_upto_region 18 with (fail)
          all_goals
            go_wp2_with fail
            refine D3.out.mono ?_
            rintro e_ w6 ⟨rfl, hb6⟩
            have HV6 := Lib.hid (HV5.out.trans (hb6.mono HV5.out.size))
            clear q0 q1 r2
            obtain ⟨q0, q1, r2⟩ := Q.out w6 HV6.out
            have D5 := Lib.hid (C5.out w6 HV6.out)
            clear hb6
            cases S with
            | true =>
              have hA := hpn rfl
              clear hpn hfive
              try subst hA
              cases h5 : (Go.bits .and .i64 y2 5 == 0)
              all_goals
                go_wp2_with fail
                refine D5.out.mono ?_
                rintro e_ w7 ⟨rfl, hb7⟩
                have HV7 := Lib.hid (HV6.out.trans (hb7.mono HV6.out.size))
                have D4 := Lib.hid (C4.out w7 HV7.out)
                clear q0 q1 r2 hb7
                rcases hB.out with ⟨he, hme⟩ | hme
                · have hBB := hpe.out (by simp) he
                  have hS3 := hS2.out he
                  cases hme
                  rw [← hS3] at hBB
                  clear hS3 he
                  go_wp2_with fail
                  refine D4.out.mono ?_
                  rintro e_ w8 ⟨rfl, hb8⟩
                  have HV8 := Lib.hid (HV7.out.trans (hb8.mono HV7.out.size))
                  cases SE with
                  | false =>
                    go_wp2
                    go_ret
                    exact ⟨rfl, HF.out w8 HV8.out⟩
                  | true =>
                    have hBt := hBB rfl
                    subst hBt
                    go_wp2
                    go_ret
                    exact ⟨rfl, HF.out w8 HV8.out⟩
                · cases hme
                  go_wp2
                  go_ret
                  exact ⟨rfl, HF.out w7 HV7.out⟩
            | false =>
              rcases hfive with h5 | h5
              all_goals (try cases h5)
              all_goals cases h5x : (Go.bits .and .i64 y2 5 == 0)
              all_goals (first | (rw [h5x] at h5; cases h5; done) | skip)
              all_goals
                go_wp2_with fail
                refine D5.out.mono ?_
                rintro e_ w7 ⟨rfl, hb7⟩
                have HV7 := Lib.hid (HV6.out.trans (hb7.mono HV6.out.size))
                have D4 := Lib.hid (C4.out w7 HV7.out)
                clear q0 q1 r2 hb7
                rcases hB.out with ⟨he, hme⟩ | hme
                · cases hme
                  clear he
                  go_wp2_with fail
                  refine D4.out.mono ?_
                  rintro e_ w8 ⟨rfl, hb8⟩
                  have HV8 := Lib.hid (HV7.out.trans (hb8.mono HV7.out.size))
                  cases SE
                  all_goals
                    go_wp2
                    go_ret
                    exact ⟨rfl, HF.out w8 HV8.out⟩
                · cases hme
                  go_wp2
                  go_ret
                  exact ⟨rfl, HF.out w7 HV7.out⟩
        · have h2b : (Go.bits .and .i64 y2 2 != 0) = true := bne_iff_ne.2 h2
          have hA := hw.out.pp h2
          have hcase : (Go.bits .and .i64 y2 1 != 0) = false ∨ A = true := by
            by_cases h1 : Go.bits .and .i64 y2 1 = 0
            · exact .inl (bne_eq_false_iff_eq.2 h1)
            · exact .inr (hw.out.p1 h1)
          clear hw h2 D3 C3 C4 C5 hB hS2
          rcases hcase with h1 | h1
          · subst hA
            go_wp2
            go_ret
            exact ⟨by simp, HF.out w5 HV5.out⟩
          · have hdm : (d == mc) = true := by rw [← hA]; exact h1
            subst h1
            clear hA
            go_wp2
            all_goals go_ret
            all_goals exact ⟨rfl, HF.out w5 HV5.out⟩
      · have hbad : mopF es d mc mi nm = (false, 3) := by
          by_cases hd : 0 ≤ d ∧ d < (es.length : Int)
          · exact mop_outn (fun hn => hdn ⟨hd, hn⟩)
          · exact mop_outd hd
        rw [hbad] at C2
        replace C2 := Lib.hid C2
        clear hdn hbad
        go_wp2_with fail
        refine C2.out.mono ?_
        rintro e_ w5 ⟨rfl, hb5⟩
        have HV5 := Lib.hid (HV.out.trans (hb5.mono HV.out.size))
        clear C2 hb5 q0 q1 r2
        go_wp2
        go_ret
        exact ⟨rfl, HF.out w5 HV5.out⟩
    · have hne : (e4 != 0) = true := bne_iff_ne.2 he4
      have C1 := OP.out wc (Below.refl _ _) 0 0
      rw [hmo.out he4] at C1
      replace C1 := Lib.hid C1
      clear he4 hmf hmo
      go_wp2_with fail
      refine C1.out.mono ?_
      rintro e_ w4 ⟨rfl, hb4⟩
      have HV := Lib.hid hb4
      clear C1 hb4 q0 q1 r2
      go_wp2
      go_ret
      exact ⟨rfl, HF.out w4 HV.out⟩
end Go.Proofs.YtmlifggklaeieaaDoor.Pt

namespace Go.Proofs.YtmlifggklaeieaaDoor.RowC
open Go Go.RowKit Go.WideShapes Go.Deep Go.Proofs.YtmlifggklaeieaaDoorW.PrintWords Go.Proofs.YtmlifggklaeieaaDoorW.PrintLast Go.Proofs.YtmlifggklaeieaaDoorW.PrintMore Go.Proofs.YtmlifggklaeieaaDoor.Pt
set_option linter.unusedVariables false
set_option linter.unusedSimpArgs false
set_option maxRecDepth 100000
variable {H : Type} {enc : TypeId × Value → H} {w : World}
/-- Whatever is read at this type is of this kind. -/
def Opens {H : Type} (enc : TypeId × Value → H) (w : World) (t : TypeId) {α : Type} (d : Kd α) : Prop :=
  ∀ (fuel : Nat) (cs : List Value) (x : DataW H × List MemPlace), DataW.trod enc Tryd.prog w 0 (fun _ => true) true fuel t cs = some x → ∃ a : α, d.K w a cs
theorem opens_int : Opens enc w 3 (Kd.int .i64) := fun fuel cs x h => by
  obtain ⟨n, rfl, _⟩ := DataW.trod_int Tryd.underlying3 h
  exact ⟨n, rfl⟩
theorem opens_bool : Opens enc w 4 Kd.bool := fun fuel cs x h => by
  obtain ⟨n, rfl, _⟩ := DataW.trod_bool Tryd.underlying4 h
  exact ⟨n, rfl⟩
theorem opens_string : Opens enc w 9 Kd.string := fun fuel cs x h => by
  obtain ⟨n, rfl, _⟩ := DataW.trod_string Tryd.underlying9 h
  exact ⟨n, rfl⟩
theorem opens_slice {α : Type} {d : Kd α} {t e : TypeId} (tag : Nat) (ht : Tryd.prog.underlying t = some (.slice e)) (he : Tryd.prog.cellsOf e = d.sz) (ho : Opens enc w e d) : Opens enc w t (Kd.slice tag d) := fun fuel cs x h => by
  rcases open_slice ht h with ⟨rfl, _⟩ | ⟨a, len, cap, m, n, D, Pl, rfl, _, hl, hm, hmm, _, hx⟩
  · exact ⟨[], none, 0, rfl, Nat.le_refl _, Kd.C_nil _ _⟩
  · have hmm : m = cap := by simpa using hmm
    have hel : ∀ i : Fin len, ∃ p : α, ∃ c : List Value, c.length = d.sz ∧ d.K w p c ∧ ∀ j u, c[j]? = some u → w.cell? (a.add (i.val * d.sz + j)) = some u := by
      intro i
      obtain ⟨cs', h1, h2⟩ := hx i.val (by omega)
      obtain ⟨p, hp⟩ := ho _ _ _ h2
      obtain ⟨_, h3, h4⟩ := World.cells?_some h1
      rw [he] at h3 h4
      refine ⟨p, cs', h3, hp, fun j u hj => ?_⟩
      have hjl : j < d.sz := by
        rcases Nat.lt_or_ge j d.sz with h | h
        · exact h
        · rw [List.getElem?_eq_none (by omega)] at hj; cases hj
      have h5 := h4 j hjl
      rw [hj] at h5
      rw [← h5]
      rw [Addr.add_add]
    let f : Fin len → α := fun i => Classical.choose (hel i)
    have hf : ∀ i : Fin len, ∃ c : List Value, c.length = d.sz ∧ d.K w (f i) c ∧ ∀ j u, c[j]? = some u → w.cell? (a.add (i.val * d.sz + j)) = some u := fun i => Classical.choose_spec (hel i)
    have hlen : (List.ofFn f).length = len := List.length_ofFn
    refine ⟨List.ofFn f, some a, cap, by rw [hlen], by omega, ?_⟩
    rw [hlen]
    refine ⟨hlen, by unfold maxLen at hm; omega, fun h0 => ⟨a, rfl, fun j p hj => ?_⟩⟩
    have hjl : j < len := by
      rcases Nat.lt_or_ge j len with h | h
      · exact h
      · rw [List.getElem?_eq_none (by omega)] at hj; cases hj
    rw [List.getElem?_eq_getElem (by omega), List.getElem_ofFn] at hj
    obtain rfl := Option.some.inj hj
    exact hf ⟨j, hjl⟩
theorem cut (cs : List Value) (o n : Nat) : cs.drop o = (cs.drop o).take n ++ cs.drop (o + n) := by
  rw [← List.drop_drop, List.take_append_drop]
/-- A field's own reading. -/
theorem field {n : Nat} {fs : Array Field} {cs : List Value} {xs : List (DataW H × List MemPlace)} (hlen : xs.length = fs.size)
    (hf : ∀ (i : Nat) (f : Field), fs[i]? = some f → DataW.trod enc Tryd.prog w 0 (fun _ => true) true n f.type ((cs.drop f.offset).take (Tryd.prog.cellsOf f.type)) = xs[i]?) {α : Type} {d : Kd α} (i : Nat) (f : Field) (hi : fs[i]? = some f) (ho : Opens enc w f.type d) (k : Nat) (hk : Tryd.prog.cellsOf f.type = k) :
    ∃ a : α, d.K w a ((cs.drop f.offset).take k) := by
  have hl : i < fs.size := by
    rcases Nat.lt_or_ge i fs.size with h | h
    · exact h
    · rw [Array.getElem?_eq_none h] at hi; cases hi
  have h := hf i f hi
  rw [hk, List.getElem?_eq_getElem (by omega)] at h
  exact ho _ _ _ h
theorem opens_Ref : Opens enc w 81 k81 := fun fuel cs x h => by
  obtain ⟨xs, n, _, _, hl, hlen, hf⟩ := DataW.trod_struct Tryd.underlying81 h
  rw [show Tryd.prog.cellsOf 81 = 4 by kernel_rfl] at hl
  obtain ⟨a0, e0⟩ := field hlen hf 0 _ rfl opens_bool 1 (by kernel_rfl)
  obtain ⟨a1, e1⟩ := field hlen hf 1 _ rfl opens_string 1 (by kernel_rfl)
  obtain ⟨a2, e2⟩ := field hlen hf 2 _ rfl opens_string 1 (by kernel_rfl)
  obtain ⟨a3, e3⟩ := field hlen hf 3 _ rfl opens_string 1 (by kernel_rfl)
  refine ⟨⟨a0, a1, a2, a3⟩, _, _, cut cs 0 1, e0, _, _, cut cs 1 1, e1, _, _, cut cs 2 1, e2, ?_⟩
  rw [List.take_of_length_le (by simp; omega)] at e3
  exact e3
theorem opens_Inst : Opens enc w 83 k83 := fun fuel cs x h => by
  obtain ⟨xs, n, _, _, hl, hlen, hf⟩ := DataW.trod_struct Tryd.underlying83 h
  rw [show Tryd.prog.cellsOf 83 = 7 by kernel_rfl] at hl
  obtain ⟨a0, e0⟩ := field hlen hf 0 _ rfl opens_int 1 (by kernel_rfl)
  obtain ⟨a1, e1⟩ := field hlen hf 1 _ rfl opens_int 1 (by kernel_rfl)
  obtain ⟨a2, e2⟩ := field hlen hf 2 _ rfl opens_string 1 (by kernel_rfl)
  obtain ⟨a3, e3⟩ := field hlen hf 3 _ rfl opens_Ref 4 (by kernel_rfl)
  refine ⟨⟨a0, a1, a2, a3⟩, _, _, cut cs 0 1, e0, _, _, cut cs 1 1, e1, _, _, cut cs 2 1, e2, ?_⟩
  rw [List.take_of_length_le (by simp; omega)] at e3
  exact e3
theorem opens_Method : Opens enc w 51 k51 := fun fuel cs x h => by
  obtain ⟨xs, n, _, _, hl, hlen, hf⟩ := DataW.trod_struct Tryd.underlying51 h
  rw [show Tryd.prog.cellsOf 51 = 6 by kernel_rfl] at hl
  obtain ⟨a0, e0⟩ := field hlen hf 0 _ rfl opens_string 1 (by kernel_rfl)
  obtain ⟨a1, e1⟩ := field hlen hf 1 _ rfl opens_string 1 (by kernel_rfl)
  obtain ⟨a2, e2⟩ := field hlen hf 2 _ rfl opens_int 1 (by kernel_rfl)
  obtain ⟨a3, e3⟩ := field hlen hf 3 _ rfl opens_int 1 (by kernel_rfl)
  obtain ⟨a4, e4⟩ := field hlen hf 4 _ rfl opens_int 1 (by kernel_rfl)
  obtain ⟨a5, e5⟩ := field hlen hf 5 _ rfl (opens_slice 83 Tryd.underlying49 (by kernel_rfl) opens_Inst) 1 (by kernel_rfl)
  refine ⟨⟨a0, a1, a2, a3, a4, a5⟩, _, _, cut cs 0 1, e0, _, _, cut cs 1 1, e1, _, _, cut cs 2 1, e2, _, _, cut cs 3 1, e3, _, _, cut cs 4 1, e4, ?_⟩
  rw [List.take_of_length_le (by simp; omega)] at e5
  exact e5
theorem opens_Class : Opens enc w 44 k44 := fun fuel cs x h => by
  obtain ⟨xs, n, _, _, hl, hlen, hf⟩ := DataW.trod_struct Tryd.underlying44 h
  rw [show Tryd.prog.cellsOf 44 = 6 by kernel_rfl] at hl
  obtain ⟨a0, e0⟩ := field hlen hf 0 _ rfl opens_string 1 (by kernel_rfl)
  obtain ⟨a1, e1⟩ := field hlen hf 1 _ rfl opens_string 1 (by kernel_rfl)
  obtain ⟨a2, e2⟩ := field hlen hf 2 _ rfl (opens_slice 9 Tryd.underlying41 (by kernel_rfl) opens_string) 1 (by kernel_rfl)
  obtain ⟨a3, e3⟩ := field hlen hf 3 _ rfl opens_int 1 (by kernel_rfl)
  obtain ⟨a4, e4⟩ := field hlen hf 4 _ rfl opens_int 1 (by kernel_rfl)
  obtain ⟨a5, e5⟩ := field hlen hf 5 _ rfl (opens_slice 51 Tryd.underlying42 (by kernel_rfl) opens_Method) 1 (by kernel_rfl)
  refine ⟨⟨a0, a1, a2, a3, a4, a5⟩, _, _, cut cs 0 1, e0, _, _, cut cs 1 1, e1, _, _, cut cs 2 1, e2, _, _, cut cs 3 1, e3, _, _, cut cs 4 1, e4, ?_⟩
  rw [List.take_of_length_le (by simp; omega)] at e5
  exact e5
/-- A list of classes that is handed in. -/
theorem open_list {base : Nat} {R : Reach} {v : Value} {d : DataW H} {p : List MemPlace} (hv : Value.okWide Tryd.prog w R base 34 v) (h : DataW.Trod enc Tryd.prog w 0 (fun _ => true) true 34 v d p) :
    ∃ (A : Option Addr) (c : Nat) (l : List S44), v = .slice A l.length c ∧ l.length ≤ c ∧ Kd.C k44 w A l.length l := by
  obtain ⟨a, len, cap, rfl⟩ := okWide_slice Tryd.underlying34 hv
  obtain ⟨fuel, hf⟩ := h
  obtain ⟨l, A, c, e, hc, hk⟩ := opens_slice 44 Tryd.underlying34 (by kernel_rfl) opens_Class _ _ _ hf
  have e : [Value.slice a len cap] = [.slice A l.length c] := e
  obtain ⟨rfl, rfl, rfl⟩ : a = A ∧ len = l.length ∧ cap = c := by simpa using e
  exact ⟨_, _, l, rfl, hc, hk⟩
end Go.Proofs.YtmlifggklaeieaaDoor.RowC
