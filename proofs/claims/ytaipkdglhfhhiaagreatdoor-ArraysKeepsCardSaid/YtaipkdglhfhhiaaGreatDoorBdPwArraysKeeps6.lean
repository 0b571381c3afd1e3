/- Lemmas and contracts for the statement of PwArraysKeeps: joined by program out of this session's texts. -/
import Derived.Test.YtaipkdglhfhhiaaGreatDoorBdPwArraysKeeps5
import Derived.Outline
import Derived.Deep.Slices
import Derived.WideShapes
namespace Go.Proofs.YtaipkdglhfhhiaaGreatDoor.Pt
open Go.RowKit Go.Proofs.YtaipkdglhfhhiaaGreatDoorW.PrintWords Go.Proofs.YtaipkdglhfhhiaaGreatDoorW.PrintLast Go.Proofs.YtaipkdglhfhhiaaGreatDoorW.PrintMore
attribute [local go_sem] max2_int min2_int max_two min_two max_three min_three max_four min_four   -- for this text's walks alone
set_option linter.unusedVariables false
set_option linter.unusedSimpArgs false
mutual
def arbiterref07_steps.j0 : Nat → List (S24) → ByteArray → ByteArray → List ByteArray → Int → Int → List (S105) → Option ((List (S24)))
 | 0, _, _, _, _, _, _, _ => none
 | k + 1, x5, x325000, x325001, x325002, x325003, x325004, x325005 => arbiterref07_steps.l0 k x5 0 x325000 x325001 x325002 x325003 x325004 x325005
def arbiterref07_steps.l0 : Nat → List (S24) → Int → ByteArray → ByteArray → List ByteArray → Int → Int → List (S105) → Option ((List (S24)))
 | 0, _, _, _, _, _, _, _, _ => none
 | k + 1, x5, x9, x325000, x325001, x325002, x325003, x325004, x325005 => if x9 < (x325002.length : Int) then (if 0 ≤ x9 then (if x5.length < 5864062014805 then (arbiterref07_steps.l0 k (x5 ++ [(⟨0, rdOf ByteArray.empty x325002 x9⟩ : S24)]) (wrap64 (x9 + 1)) x325000 x325001 x325002 x325003 x325004 x325005) else (none)) else (none)) else (some x5)
def arbiterref07_steps.j2 : Nat → List S85 → List (S24) → Bool → Int → ByteArray → Option ((List (S24)))
 | 0, _, _, _, _, _ => none
 | k + 1, x0, x5, x71, x335000, x335001 => if x71 = true then (some (([(⟨0, (⟨#[79, 98, 106, 101, 99, 116]⟩ : ByteArray)⟩ : S24), (⟨0, (⟨#[67, 108, 111, 110, 101, 97, 98, 108, 101]⟩ : ByteArray)⟩ : S24), (⟨0, (⟨#[83, 101, 114, 105, 97, 108, 105, 122, 97, 98, 108, 101]⟩ : ByteArray)⟩ : S24)] : List (S24)))) else ((arbiterref07_steps.f k x0 x335000 x335001).bind fun t339 => (arbiterref07_steps.l1 k x5 t339 0))
def arbiterref07_steps.l1 : Nat → List (S24) → List (S24) → Int → Option ((List (S24)))
 | 0, _, _, _ => none
 | k + 1, x5, x11, x12 => if x12 < (x11.length : Int) then (if 0 ≤ x12 then (if x5.length < 5864062014805 then (arbiterref07_steps.l1 k (x5 ++ [(⟨wrap64 (((rd_T24 x11 x12).f0) + 1), (rd_T24 x11 x12).f1⟩ : S24)]) x11 (wrap64 (x12 + 1))) else (none)) else (none)) else (some x5)
def arbiterref07_steps.f : Nat → List S85 → Int → ByteArray → Option ((List (S24)))
 | 0, _, _, _ => none
 | k + 1, a0, a1_0, a1_1 => (arbiterref07_IsInt.f a1_0 a1_1).bind fun t320 => (if t320 = true then (some ([] : List (S24))) else (if a1_0 = 0 then ((arbiterref06_ByName.f k a0 a1_1).bind fun bt321 => (if 0 ≤ bt321.1 then (if bt321.1 < (a0.length : Int) then (if bt321.1 = 0 then (arbiterref07_steps.j0 k ([] : List (S24)) ((rd_T85 a0 bt321.1).f0) ((rd_T85 a0 bt321.1).f1) ((rd_T85 a0 bt321.1).f2) ((rd_T85 a0 bt321.1).f3) ((rd_T85 a0 bt321.1).f4) ((rd_T85 a0 bt321.1).f5)) else (if ([] : List (S24)).length < 5864062014805 then (arbiterref07_steps.j0 k (([] : List (S24)) ++ [(⟨0, (rd_T85 a0 bt321.1).f1⟩ : S24)]) ((rd_T85 a0 bt321.1).f0) ((rd_T85 a0 bt321.1).f1) ((rd_T85 a0 bt321.1).f2) ((rd_T85 a0 bt321.1).f3) ((rd_T85 a0 bt321.1).f4) ((rd_T85 a0 bt321.1).f5)) else (none))) else (none)) else (none))) else ((arbiterref07_lower.f a1_0 a1_1).bind fun bt332 => ((arbiterref07_IsInt.f bt332.1 bt332.2).bind fun t335 => (if t335 = true then (arbiterref07_steps.j2 k a0 ([] : List (S24)) true bt332.1 bt332.2) else (if bt332.1 = 0 then (arbiterref07_steps.j2 k a0 ([] : List (S24)) (bt332.2.toList == ([79, 98, 106, 101, 99, 116] : List UInt8)) bt332.1 bt332.2) else (arbiterref07_steps.j2 k a0 ([] : List (S24)) false bt332.1 bt332.2)))))))
end
def arbiterref07_steps.T21 : Bool × List (List Nat × List Nat) := (true, [([], []), ([], []), ([], []), ([1, 2], [1, 2]), ([3], [3]), ([4], [4]), ([5], [5]), ([], []), ([], []), ([7, 8], [7, 8]), ([9], [9]), ([10], [10]), ([6, 11], [6, 11]), ([12], [12]), ([0, 13], [0, 13]), ([14, 14, 0, 1, 2, 3, 4, 5, 6, 7, 8, 9, 10, 11, 12, 13, 14], [0, 14])])
def arbiterref07_steps.B21 : List Nat := [0, 0, 0, 6, 14, 30, 62, 0, 0, 384, 896, 1920, 4094, 8190, 16383, 32767]
theorem arbiterref07_steps.tab21 : rtab .any (opsOf Tryz.f81 21) = arbiterref07_steps.T21 := by kernel_rfl
theorem arbiterref07_steps.bits21 : waitsOk arbiterref07_steps.T21.2 arbiterref07_steps.B21 = true := by kernel_rfl
set_option maxHeartbeats 8000000 in
set_option maxRecDepth 100000 in
theorem arbiterref07_steps.calls (k : Nat) : ∀ (G_ : Nat) (a0 : List S85) (a1_0 : Int) (a1_1 : ByteArray) (r : List (S24)) (w : World) (hq0 : ROK w G_ a0) (h : arbiterref07_steps.f k a0 a1_0 a1_1 = some r),
  Calls Tryz.prog 81 #[.pointer (some ⟨G_, 0, none⟩), .agg #[.int .i64 a1_0, .string a1_1]] w fun e w' => ∃ v0_ : Value, e = .returned (v0_) ∧ Kd.R k24 24 w' w.heap.size (fun _ => True) v0_ r ∧ Below w.heap.size w w' := by
 induction k using Nat.strongRecOn with
 | _ k ih =>
 intro G_ a0 a1_0 a1_1 r w hq0 h
 cases k with
 | zero => exact absurd h (by simp [arbiterref07_steps.f])
 | succ k =>
 simp only [arbiterref07_steps.f] at h; have hu24 := Tryz.underlying24; have hu85 := Tryz.underlying85; obtain ⟨AQa0, cQa0, hp0, hrq0, hcq0⟩ := ROK.open hq0; have HPa0 := Aside0.mk hp0; have HRqa0 := Aside0.mk hrq0; have HCqa0 := Aside0.mk hcq0; clear hp0 hrq0 hcq0; have HQa0 := Aside0.mk hq0; clear hq0; have HB := Aside0.mk (Below.refl w.heap.size w); have H : ((arbiterref07_IsInt.f a1_0 a1_1).bind fun t320 => (if t320 = true then (some ([] : List (S24))) else (if a1_0 = 0 then ((arbiterref06_ByName.f k a0 a1_1).bind fun bt321 => (if 0 ≤ bt321.1 then (if bt321.1 < (a0.length : Int) then (if bt321.1 = 0 then (arbiterref07_steps.j0 k ([] : List (S24)) ((rd_T85 a0 bt321.1).f0) ((rd_T85 a0 bt321.1).f1) ((rd_T85 a0 bt321.1).f2) ((rd_T85 a0 bt321.1).f3) ((rd_T85 a0 bt321.1).f4) ((rd_T85 a0 bt321.1).f5)) else (if ([] : List (S24)).length < 5864062014805 then (arbiterref07_steps.j0 k (([] : List (S24)) ++ [(⟨0, (rd_T85 a0 bt321.1).f1⟩ : S24)]) ((rd_T85 a0 bt321.1).f0) ((rd_T85 a0 bt321.1).f1) ((rd_T85 a0 bt321.1).f2) ((rd_T85 a0 bt321.1).f3) ((rd_T85 a0 bt321.1).f4) ((rd_T85 a0 bt321.1).f5)) else (none))) else (none)) else (none))) else ((arbiterref07_lower.f a1_0 a1_1).bind fun bt332 => ((arbiterref07_IsInt.f bt332.1 bt332.2).bind fun t335 => (if t335 = true then (arbiterref07_steps.j2 k a0 ([] : List (S24)) true bt332.1 bt332.2) else (if bt332.1 = 0 then (arbiterref07_steps.j2 k a0 ([] : List (S24)) (bt332.2.toList == ([79, 98, 106, 101, 99, 116] : List UInt8)) bt332.1 bt332.2) else (arbiterref07_steps.j2 k a0 ([] : List (S24)) false bt332.1 bt332.2)))))))) = some r := h; clear h; replace H := Option.bind_eq_some_iff.mp H; obtain ⟨t320, A30, H⟩ := H; replace H : (if t320 = true then (some ([] : List (S24))) else (if a1_0 = 0 then ((arbiterref06_ByName.f k a0 a1_1).bind fun bt321 => (if 0 ≤ bt321.1 then (if bt321.1 < (a0.length : Int) then (if bt321.1 = 0 then (arbiterref07_steps.j0 k ([] : List (S24)) ((rd_T85 a0 bt321.1).f0) ((rd_T85 a0 bt321.1).f1) ((rd_T85 a0 bt321.1).f2) ((rd_T85 a0 bt321.1).f3) ((rd_T85 a0 bt321.1).f4) ((rd_T85 a0 bt321.1).f5)) else (if ([] : List (S24)).length < 5864062014805 then (arbiterref07_steps.j0 k (([] : List (S24)) ++ [(⟨0, (rd_T85 a0 bt321.1).f1⟩ : S24)]) ((rd_T85 a0 bt321.1).f0) ((rd_T85 a0 bt321.1).f1) ((rd_T85 a0 bt321.1).f2) ((rd_T85 a0 bt321.1).f3) ((rd_T85 a0 bt321.1).f4) ((rd_T85 a0 bt321.1).f5)) else (none))) else (none)) else (none))) else ((arbiterref07_lower.f a1_0 a1_1).bind fun bt332 => ((arbiterref07_IsInt.f bt332.1 bt332.2).bind fun t335 => (if t335 = true then (arbiterref07_steps.j2 k a0 ([] : List (S24)) true bt332.1 bt332.2) else (if bt332.1 = 0 then (arbiterref07_steps.j2 k a0 ([] : List (S24)) (bt332.2.toList == ([79, 98, 106, 101, 99, 116] : List UInt8)) bt332.1 bt332.2) else (arbiterref07_steps.j2 k a0 ([] : List (S24)) false bt332.1 bt332.2))))))) = some r := H; have A3 := Aside0.mk A30; clear A30
 by_cases c4 : t320 = true
 ·subst c4
  have H1 : (some ([] : List (S24))) = some r := by rw [if_pos rfl] at H; exact H
  clear H; have H := H1; clear H1; obtain rfl := Option.some.inj H; go_enter Tryz.func81, Tryz.ntmps81; go_wp2_with (first | ((with_reducible refine gate_dst (N := 3) rfl ?_); refine eX 3 #[.int .i64 a1_0, .string a1_1] 24 ?_; intro gb319 hg w5 hbox hb; have n0_ := Aside0.mk (below_step (bX HB) hb); have n1_ := Aside0.mk (hbox); have n2_ := Aside0.mk ((by rw [hg]; exact (below_size (bX HB)) : w.heap.size ≤ gb319)); have n3_ := Aside0.mk ((by rw [hg]; exact (below_size (bX HB)) : w.heap.size ≤ gb319)); clear HB; have HB := n0_; have BK319 := n1_; have GW319 := n2_; have GE319 := n3_; clear n0_ n1_ n2_ n3_; clear hb hbox hg; obtain ⟨hcz6_0, hcz6_1, hfz6_0, hfz6_1⟩ := c2X BK319) | ((with_reducible refine gate_callee (f := 79) rfl ?_); refine gX (some 14) Tryz.func79 #[.agg #[.int .i64 a1_0, .string a1_1]] ?_; (with_reducible refine (arbiterref07_IsInt.calls a1_0 a1_1 true _ A3.out).mono ?_); rintro e w7 ⟨rfl, hb⟩; refine ⟨_, rfl, ?_⟩; have n0_ := Aside0.mk (blk_below (kX BK319) hb); have n1_ := Aside0.mk (below_step (bX1 HB GE319) hb); clear BK319; clear HB; have BK319 := n0_; have HB := n1_; clear n0_ n1_; (try clear hb); (try clear hb2); (try clear hk); (try clear hi))); go_ret
  exact ⟨_, by first | rfl | (simp [errW_none, errW_some] <;> rfl) | (simp [*, errW_none, errW_some] <;> rfl), by first | exact Kd.R_nil _ _ _ _ _ | exact Kd.N_nil _ _ _ _ _ | exact Kd.V_nil _ _ _ _ _ | exact Kd.Q_nil _ _ _ _ _ | exact Kd.S_nil _ _ _ _ _, bX1 HB GE319⟩
 ·replace c4 := Bool.eq_false_iff.mpr c4
  subst c4
  have H1 : (if a1_0 = 0 then ((arbiterref06_ByName.f k a0 a1_1).bind fun bt321 => (if 0 ≤ bt321.1 then (if bt321.1 < (a0.length : Int) then (if bt321.1 = 0 then (arbiterref07_steps.j0 k ([] : List (S24)) ((rd_T85 a0 bt321.1).f0) ((rd_T85 a0 bt321.1).f1) ((rd_T85 a0 bt321.1).f2) ((rd_T85 a0 bt321.1).f3) ((rd_T85 a0 bt321.1).f4) ((rd_T85 a0 bt321.1).f5)) else (if ([] : List (S24)).length < 5864062014805 then (arbiterref07_steps.j0 k (([] : List (S24)) ++ [(⟨0, (rd_T85 a0 bt321.1).f1⟩ : S24)]) ((rd_T85 a0 bt321.1).f0) ((rd_T85 a0 bt321.1).f1) ((rd_T85 a0 bt321.1).f2) ((rd_T85 a0 bt321.1).f3) ((rd_T85 a0 bt321.1).f4) ((rd_T85 a0 bt321.1).f5)) else (none))) else (none)) else (none))) else ((arbiterref07_lower.f a1_0 a1_1).bind fun bt332 => ((arbiterref07_IsInt.f bt332.1 bt332.2).bind fun t335 => (if t335 = true then (arbiterref07_steps.j2 k a0 ([] : List (S24)) true bt332.1 bt332.2) else (if bt332.1 = 0 then (arbiterref07_steps.j2 k a0 ([] : List (S24)) (bt332.2.toList == ([79, 98, 106, 101, 99, 116] : List UInt8)) bt332.1 bt332.2) else (arbiterref07_steps.j2 k a0 ([] : List (S24)) false bt332.1 bt332.2)))))) = some r := by rw [if_neg (show ¬ (false = true) by decide)] at H; exact H
  clear H; have H := H1; clear H1
  by_cases c8 : a1_0 = 0
  ·rw [if_pos c8] at H
   have c8b0 : (a1_0 == 0) = true := beq_iff_eq.mpr c8; have c8b1 : (a1_0 != 0) = false := bne_eq_false_iff_eq.mpr c8; clear c8; replace H := Option.bind_eq_some_iff.mp H; obtain ⟨⟨t321, t322⟩, A90, H⟩ := H; replace H : (if 0 ≤ t321 then (if t321 < (a0.length : Int) then (if t321 = 0 then (arbiterref07_steps.j0 k ([] : List (S24)) ((rd_T85 a0 t321).f0) ((rd_T85 a0 t321).f1) ((rd_T85 a0 t321).f2) ((rd_T85 a0 t321).f3) ((rd_T85 a0 t321).f4) ((rd_T85 a0 t321).f5)) else (if ([] : List (S24)).length < 5864062014805 then (arbiterref07_steps.j0 k (([] : List (S24)) ++ [(⟨0, (rd_T85 a0 t321).f1⟩ : S24)]) ((rd_T85 a0 t321).f0) ((rd_T85 a0 t321).f1) ((rd_T85 a0 t321).f2) ((rd_T85 a0 t321).f3) ((rd_T85 a0 t321).f4) ((rd_T85 a0 t321).f5)) else (none))) else (none)) else (none)) = some r := H; have A9 := Aside0.mk A90; clear A90
   by_cases c10 : 0 ≤ t321
   ·rw [if_pos c10] at H
    have c10b0 : decide (0 ≤ t321) = true := decide_eq_true c10; clear c10
    by_cases c11 : t321 < (a0.length : Int)
    ·rw [if_pos c11] at H
     have c11b0 : decide (t321 < (a0.length : Int)) = true := decide_eq_true c11; clear c11; have HC12 := Aside0.mk H; clear H; go_enter Tryz.func81, Tryz.ntmps81
     go_upto_if 34 with (first | ((with_reducible refine gate_dst (N := 3) rfl ?_); refine eX 3 #[.int .i64 a1_0, .string a1_1] 24 ?_; intro gb319 hg w13 hbox hb; have n0_ := Aside0.mk (below_step (bX HB) hb); have n1_ := Aside0.mk (hbox); have n2_ := Aside0.mk ((by rw [hg]; exact (below_size (bX HB)) : w.heap.size ≤ gb319)); have n3_ := Aside0.mk ((by rw [hg]; exact (below_size (bX HB)) : w.heap.size ≤ gb319)); clear HB; have HB := n0_; have BK319 := n1_; have GW319 := n2_; have GE319 := n3_; clear n0_ n1_ n2_ n3_; clear hb hbox hg; obtain ⟨hcz14_0, hcz14_1, hfz14_0, hfz14_1⟩ := c2X BK319) | ((with_reducible refine gate_callee (f := 79) rfl ?_); refine gX (some 14) Tryz.func79 #[.agg #[.int .i64 a1_0, .string a1_1]] ?_; (with_reducible refine (arbiterref07_IsInt.calls a1_0 a1_1 false _ A3.out).mono ?_); rintro e w15 ⟨rfl, hb⟩; refine ⟨_, rfl, ?_⟩; have n0_ := Aside0.mk (blk_below (kX BK319) hb); have n1_ := Aside0.mk (below_step (bX1 HB GE319) hb); clear BK319; clear HB; have BK319 := n0_; have HB := n1_; clear n0_ n1_; (try clear hb); (try clear hb2); (try clear hk); (try clear hi); obtain ⟨hcz16_0, hcz16_1, hfz16_0, hfz16_1⟩ := c2X BK319) | ((with_reducible refine gate_callee (f := 57) rfl ?_); refine gX (some 23) Tryz.func57 #[.pointer (some ⟨G_, 0, none⟩), .string a1_1] ?_; (with_reducible refine (arbiterref06_ByName.calls k G_ a0 a1_1 t321 t322 _ ?side1 A9.out).mono ?_); (case side1 => repeat (first | (with_reducible exact HQa0.out) | (with_reducible refine ROK.alloc ?_ _) | (with_reducible refine ROK.drewN ?_ _) | (with_reducible refine ROK.drew ?_) | exact ROK.below HQa0.out HB.out | exact ROK.below HQa0.out (bX1 HB GE319))); rintro e w' ⟨rfl, ⟨nd, rfl⟩⟩; refine ⟨_, rfl, ?_⟩; (try (rw [drewN_self w15]; generalize hq_ : World.drewN w15 _ = w15; have n0_ : Aside0 (w15.heap[gb319]? = some (.cells #[.int .i64 a1_0, .string a1_1] 24 (0, 0))) := ⟨by rw [← hq_]; exact (kX BK319)⟩; have n1_ : Aside0 (Below w.heap.size w w15) := ⟨by rw [← hq_]; exact (bX1 HB GE319)⟩; clear BK319 HB hq_; have BK319 := n0_; have HB := n1_; clear n0_ n1_)); have hcpq17 := pw_cell_below HB.out HPa0.out; have p323 : 0 ≤ (t321 : Int) := qX; have q323 : t321 < (a0.length : Int) := qX; obtain ⟨ad323, A323_2, c323_2, A323_5, c323_5, e323, hx323_0, hx323_1, hx323_2, hx323_3, hx323_4, hx323_5, hl323_2, hi323_2, hl323_5, hi323_5⟩ := at_T85 HRqa0.out t321 p323 q323; cases e323; replace hx323_0 := (HB.out.cell (World.block_lt_of_cell? w _ hx323_0)).trans hx323_0; replace hx323_1 := (HB.out.cell (World.block_lt_of_cell? w _ hx323_1)).trans hx323_1; replace hx323_2 := (HB.out.cell (World.block_lt_of_cell? w _ hx323_2)).trans hx323_2; replace hx323_3 := (HB.out.cell (World.block_lt_of_cell? w _ hx323_3)).trans hx323_3; replace hx323_4 := (HB.out.cell (World.block_lt_of_cell? w _ hx323_4)).trans hx323_4; replace hx323_5 := (HB.out.cell (World.block_lt_of_cell? w _ hx323_5)).trans hx323_5; have HR323_2 := Aside0.mk hi323_2; have HC323_2 := Aside0.mk hl323_2; clear hi323_2 hl323_2; have HR323_5 := Aside0.mk hi323_5; have HC323_5 := Aside0.mk hl323_5; clear hi323_5 hl323_5; replace p323 := eq_true p323; replace q323 := eq_true q323) | ((with_reducible refine gate_dst (N := 8) rfl ?_); refine eX 8 #[.string (⟨#[]⟩ : ByteArray), .string (⟨#[]⟩ : ByteArray), .slice none 0 0, .int .i64 0, .int .i64 0, .slice none 0 0] 85 ?_; intro gb324 hg w18 hbox hb; have n0_ := Aside0.mk (blk_below (kX BK319) hb); have n1_ := Aside0.mk (below_step (bX1 HB GE319) hb); have n2_ := Aside0.mk (hbox); have n3_ := Aside0.mk ((by rw [hg]; exact (below_size (bX1 HB GE319)) : w.heap.size ≤ gb324)); have n4_ := Aside0.mk ((by rw [hg]; exact (below_size (bX1 HB GE319)) : w.heap.size ≤ gb324)); have n5_ := Aside0.mk ((by rw [hg]; exact Nat.ne_of_lt (blk_lt (kX BK319)) : gb319 ≠ gb324)); have n6_ := Aside0.mk ((by rw [hg]; exact Nat.ne_of_gt (blk_lt (kX BK319)) : gb324 ≠ gb319)); clear BK319; clear HB; have BK319 := n0_; have HB := n1_; have BK324 := n2_; have GW324 := n3_; have GE324 := n4_; have NB319_324 := n5_; have NB324_319 := n6_; clear n0_ n1_ n2_ n3_ n4_ n5_ n6_; clear hb hbox hg; have hnb19 := NB324_319.out; have hnc19 := NB319_324.out; obtain ⟨hcz20_0, hcz20_1, hcz20_2, hcz20_3, hcz20_4, hcz20_5, hfz20_0, hfz20_1, hfz20_2, hfz20_3, hfz20_4, hfz20_5⟩ := c6X BK324))
     (try simp only [Act.put, List.setIfInBounds_toArray, List.set_cons_zero, List.set_cons_succ])
     go_cut [5] (fun v5 wc => ∃ (kq : Nat) (x5_11 : List (S24)), Aside0 (arbiterref07_steps.j0 kq x5_11 ((rd_T85 a0 t321).f0) ((rd_T85 a0 t321).f1) ((rd_T85 a0 t321).f2) ((rd_T85 a0 t321).f3) ((rd_T85 a0 t321).f4) ((rd_T85 a0 t321).f5) = some r) ∧ Aside0 (kq ≤ k) ∧ Aside0 (Kd.R k24 24 wc w.heap.size (fun k_ => k_ ≠ gb319) v5 x5_11) ∧ Aside0 (wc.heap[gb319]? = some (.cells #[.int .i64 a1_0, .string a1_1] 24 (0, 0))) ∧ Aside0 (wc.heap[gb324]? = some (.cells #[.string ((rd_T85 a0 t321).f0), .string ((rd_T85 a0 t321).f1), (.slice A323_2 ((rd_T85 a0 t321).f2).length c323_2), .int .i64 ((rd_T85 a0 t321).f3), .int .i64 ((rd_T85 a0 t321).f4), (.slice A323_5 ((rd_T85 a0 t321).f5).length c323_5)] 85 (0, 0))) ∧ Aside0 (Below w.heap.size w wc))
     case first =>
      have H := HC12.out; clear HC12
      by_cases c21 : t321 = 0
      ·rw [if_pos c21] at H
       have c21b0 : (t321 == 0) = true := beq_iff_eq.mpr c21; have c21b1 : (t321 != 0) = false := bne_eq_false_iff_eq.mpr c21; clear c21
       (first | rw [c21b0] | (simp only [i64_w, i32_w]; rw [c21b0]) | skip)
       have H' := Aside0.mk H; clear H; go_wp2; go_meet
       case rel => exact ⟨_, (([] : List (S24))), H', ⟨by first | omega | exact Nat.le_refl _⟩, ⟨by first | exact Kd.R_nil _ _ _ _ _ | exact Kd.N_nil _ _ _ _ _ | exact Kd.V_nil _ _ _ _ _ | exact Kd.Q_nil _ _ _ _ _ | exact Kd.S_nil _ _ _ _ _⟩, ⟨fX BK319 NB319_324⟩, ⟨by (with_reducible repeat (first | refine blk_drewN ?_ _ | refine blk_drew ?_ | refine blk_alloc ?_ _)); refine blk_put (cs := #[.string ((rd_T85 a0 t321).f0), .string ((rd_T85 a0 t321).f1), .slice A323_2 ((rd_T85 a0 t321).f2).length c323_2, .int .i64 ((rd_T85 a0 t321).f3), .int .i64 ((rd_T85 a0 t321).f4), .slice none 0 0]) ?_ 5 _ rfl; (with_reducible repeat (first | refine blk_drewN ?_ _ | refine blk_drew ?_ | refine blk_alloc ?_ _)); refine blk_put (cs := #[.string ((rd_T85 a0 t321).f0), .string ((rd_T85 a0 t321).f1), .slice A323_2 ((rd_T85 a0 t321).f2).length c323_2, .int .i64 ((rd_T85 a0 t321).f3), .int .i64 0, .slice none 0 0]) ?_ 4 _ rfl; (with_reducible repeat (first | refine blk_drewN ?_ _ | refine blk_drew ?_ | refine blk_alloc ?_ _)); refine blk_put (cs := #[.string ((rd_T85 a0 t321).f0), .string ((rd_T85 a0 t321).f1), .slice A323_2 ((rd_T85 a0 t321).f2).length c323_2, .int .i64 0, .int .i64 0, .slice none 0 0]) ?_ 3 _ rfl; (with_reducible repeat (first | refine blk_drewN ?_ _ | refine blk_drew ?_ | refine blk_alloc ?_ _)); refine blk_put (cs := #[.string ((rd_T85 a0 t321).f0), .string ((rd_T85 a0 t321).f1), .slice none 0 0, .int .i64 0, .int .i64 0, .slice none 0 0]) ?_ 2 _ rfl; (with_reducible repeat (first | refine blk_drewN ?_ _ | refine blk_drew ?_ | refine blk_alloc ?_ _)); refine blk_put (cs := #[.string ((rd_T85 a0 t321).f0), .string (⟨#[]⟩ : ByteArray), .slice none 0 0, .int .i64 0, .int .i64 0, .slice none 0 0]) ?_ 1 _ rfl; (with_reducible repeat (first | refine blk_drewN ?_ _ | refine blk_drew ?_ | refine blk_alloc ?_ _)); refine blk_put (cs := #[.string (⟨#[]⟩ : ByteArray), .string (⟨#[]⟩ : ByteArray), .slice none 0 0, .int .i64 0, .int .i64 0, .slice none 0 0]) ?_ 0 _ rfl; (with_reducible repeat (first | refine blk_drewN ?_ _ | refine blk_drew ?_ | refine blk_alloc ?_ _)); exact BK324.out⟩, ⟨bX2 HB GE319 GE324⟩⟩
      ·rw [if_neg c21] at H
       have c21b0 : (t321 == 0) = false := beq_eq_false_iff_ne.mpr c21; have c21b1 : (t321 != 0) = true := bne_iff_ne.mpr c21
       (first | rw [c21b0] | (simp only [i64_w, i32_w]; rw [c21b0]) | skip)
       by_cases c22 : ([] : List (S24)).length < 5864062014805
       ·rw [if_pos c22] at H
        have LMc22 := Aside0.mk c22; clear c22
        obtain ⟨y325, hy325⟩ : ∃ y_ : List (S24), y_ = (([] : List (S24)) ++ [(⟨0, (rd_T85 a0 t321).f1⟩ : S24)]) := ⟨_, rfl⟩
        replace H : (arbiterref07_steps.j0 k y325 ((rd_T85 a0 t321).f0) ((rd_T85 a0 t321).f1) ((rd_T85 a0 t321).f2) ((rd_T85 a0 t321).f3) ((rd_T85 a0 t321).f4) ((rd_T85 a0 t321).f5)) = some r := by first | (rw [hy325]; with_reducible exact H) | (have H2_ := (Option.bind_some _ _).symm.trans H; rw [hy325]; with_reducible exact H2_) | (have H2_ := (Option.bind_some _ _).symm.trans H; with_reducible exact H2_) | with_reducible exact H | (rw [hy325]; exact H) | exact H
        have Ny325 := Aside0.mk hy325; clear hy325; have H' := Aside0.mk H; clear H; have hnb23 := NB324_319.out; have hnc23 := NB319_324.out; obtain ⟨hcz24_0, hcz24_1, hcz24_2, hcz24_3, hcz24_4, hcz24_5, hfz24_0, hfz24_1, hfz24_2, hfz24_3, hfz24_4, hfz24_5⟩ := c6X BK324; go_wp2_with (first | ((with_reducible refine gate_builtin (b := .append) (xs := #[.tmp 35, .tmp 39]) rfl ?_); at_builtin; refine Kd.R_append k24 (w0 := w) w.heap.size rfl (.tmp 35) (.tmp 39) 66 24 (.agg #[(.int .i64 0), (.string ⟨#[]⟩)]) 24 rfl Tryz.underlying66 info24 rfl (by decide) (by omega) (.slice none 0 0) ([] : List (S24)) (⟨0, (rd_T85 a0 t321).f1⟩ : S24) [.int .i64 0, .string ((rd_T85 a0 t321).f1)] (fun k_ => k_ ≠ gb319) (fun _ => False) rfl (by first | (go_simp; done) | (go_simp; rfl)) ?aP (fun _ hk => hk.elim) ?aF ?aO ?aB ?aS ?aL ?_; (case aP => exact k24_mkM _ _ _ (⟨0, (rd_T85 a0 t321).f1⟩ : S24)); (case aB => exact (bX2 HB GE319 GE324)); (case aF => exact (fun k_ hk => Kd.freshB (g := gb319) (o := .cells #[.int .i64 a1_0, .string a1_1] 24 (0, 0)) (fX BK319 NB319_324) k_ hk)); (case aO => exact ((Kd.R_nil _ _ _ _ (fun k_ => k_ ≠ gb319)))); (case aS => exact (below_size (bX2 HB GE319 GE324))); (case aL => have := LMc22.out; omega); intro v326 w25 ho hb hg hat; rw [← Ny325.out] at ho; have n0_ := Aside0.mk (blk_grown (g := gb319) (o := .cells #[.int .i64 a1_0, .string a1_1] 24 (0, 0)) (fX BK319 NB319_324) hg (by simp [Value.ownBlock])); have n1_ := Aside0.mk (blk_grown (g := gb324) (o := .cells #[.string ((rd_T85 a0 t321).f0), .string ((rd_T85 a0 t321).f1), .slice A323_2 ((rd_T85 a0 t321).f2).length c323_2, .int .i64 ((rd_T85 a0 t321).f3), .int .i64 ((rd_T85 a0 t321).f4), .slice A323_5 ((rd_T85 a0 t321).f5).length c323_5] 85 (0, 0)) (by (with_reducible repeat (first | refine blk_drewN ?_ _ | refine blk_drew ?_ | refine blk_alloc ?_ _)); refine blk_put (cs := #[.string ((rd_T85 a0 t321).f0), .string ((rd_T85 a0 t321).f1), .slice A323_2 ((rd_T85 a0 t321).f2).length c323_2, .int .i64 ((rd_T85 a0 t321).f3), .int .i64 ((rd_T85 a0 t321).f4), .slice none 0 0]) ?_ 5 _ rfl; (with_reducible repeat (first | refine blk_drewN ?_ _ | refine blk_drew ?_ | refine blk_alloc ?_ _)); refine blk_put (cs := #[.string ((rd_T85 a0 t321).f0), .string ((rd_T85 a0 t321).f1), .slice A323_2 ((rd_T85 a0 t321).f2).length c323_2, .int .i64 ((rd_T85 a0 t321).f3), .int .i64 0, .slice none 0 0]) ?_ 4 _ rfl; (with_reducible repeat (first | refine blk_drewN ?_ _ | refine blk_drew ?_ | refine blk_alloc ?_ _)); refine blk_put (cs := #[.string ((rd_T85 a0 t321).f0), .string ((rd_T85 a0 t321).f1), .slice A323_2 ((rd_T85 a0 t321).f2).length c323_2, .int .i64 0, .int .i64 0, .slice none 0 0]) ?_ 3 _ rfl; (with_reducible repeat (first | refine blk_drewN ?_ _ | refine blk_drew ?_ | refine blk_alloc ?_ _)); refine blk_put (cs := #[.string ((rd_T85 a0 t321).f0), .string ((rd_T85 a0 t321).f1), .slice none 0 0, .int .i64 0, .int .i64 0, .slice none 0 0]) ?_ 2 _ rfl; (with_reducible repeat (first | refine blk_drewN ?_ _ | refine blk_drew ?_ | refine blk_alloc ?_ _)); refine blk_put (cs := #[.string ((rd_T85 a0 t321).f0), .string (⟨#[]⟩ : ByteArray), .slice none 0 0, .int .i64 0, .int .i64 0, .slice none 0 0]) ?_ 1 _ rfl; (with_reducible repeat (first | refine blk_drewN ?_ _ | refine blk_drew ?_ | refine blk_alloc ?_ _)); refine blk_put (cs := #[.string (⟨#[]⟩ : ByteArray), .string (⟨#[]⟩ : ByteArray), .slice none 0 0, .int .i64 0, .int .i64 0, .slice none 0 0]) ?_ 0 _ rfl; (with_reducible repeat (first | refine blk_drewN ?_ _ | refine blk_drew ?_ | refine blk_alloc ?_ _)); exact BK324.out) hg (by simp [Value.ownBlock])); have n2_ := Aside0.mk (hb); have n3_ := Aside0.mk (ho); clear BK319; clear BK324; clear HB; have BK319 := n0_; have BK324 := n1_; have HB := n2_; have HO327 := n3_; clear n0_ n1_ n2_ n3_; clear ho hb hg hat)); go_meet
        case rel => exact ⟨_, (y325), H', ⟨by first | omega | exact Nat.le_refl _⟩, ⟨rX HO327⟩, ⟨by (with_reducible repeat (first | refine blk_drewN ?_ _ | refine blk_drew ?_ | refine blk_alloc ?_ _)); exact BK319.out⟩, ⟨by (with_reducible repeat (first | refine blk_drewN ?_ _ | refine blk_drew ?_ | refine blk_alloc ?_ _)); exact BK324.out⟩, ⟨bX2 HB GE319 GE324⟩⟩
       ·rw [if_neg c22] at H
        exact absurd H (by simp)
     case rest =>
      clear HC12
      try clear c1
      try clear q1
      try clear c2
      try clear p2
      try clear c3
      try clear p3
      try clear q3
      try clear hx3
      try clear c4
      try clear c5
      try clear c7
      try clear c8
      try clear c8b0
      try clear c8b1
      try clear c10
      try clear c10b0
      try clear c11
      try clear c11b0
      try clear q17
      try clear c19
      try clear c21
      try clear c21b0
      try clear c21b1
      try clear c22
      try clear c23
      try clear hcz14_0 hcz14_1
      try clear hcz16_0 hcz16_1
      try clear hcz20_0 hcz20_1 hcz20_2 hcz20_3 hcz20_4 hcz20_5
      try clear hcz24_0 hcz24_1 hcz24_2 hcz24_3 hcz24_4 hcz24_5
      try clear hcz6_0 hcz6_1
      try clear hfz14_0 hfz14_1
      try clear hfz16_0 hfz16_1
      try clear hfz20_0 hfz20_1 hfz20_2 hfz20_3 hfz20_4 hfz20_5
      try clear hfz24_0 hfz24_1 hfz24_2 hfz24_3 hfz24_4 hfz24_5
      try clear hfz6_0 hfz6_1
      try clear hx323_0
      try clear hx323_1
      try clear hx323_2
      try clear hx323_3
      try clear hx323_4
      try clear hx323_5
      try clear p323
      try clear q323
      obtain ⟨kq, x5_11, HA, HJ11, HO_5, BK319, BK324, HB⟩ := hcut
      cases kq with
      | zero => exact absurd HA.out (by simp [arbiterref07_steps.j0])
      | succ kj11 =>
       have H := HA.out; clear HA; simp only [arbiterref07_steps.j0] at H; have H' := Aside0.mk H; clear H; go_wp2
       go_loopg [5, 9] kj11 (fun kq v5 v9 w' => ∃ (x5_2 : List (S24)) (x9_2 : Int), v9 = .int .i64 x9_2 ∧ Aside0 (arbiterref07_steps.l0 kq x5_2 x9_2 ((rd_T85 a0 t321).f0) ((rd_T85 a0 t321).f1) ((rd_T85 a0 t321).f2) ((rd_T85 a0 t321).f3) ((rd_T85 a0 t321).f4) ((rd_T85 a0 t321).f5) = some r) ∧ Aside0 (kq ≤ kj11) ∧ Aside0 (Kd.R k24 24 w' w.heap.size (fun k_ => k_ ≠ gb319) v5 x5_2) ∧ Aside0 (w'.heap[gb319]? = some (.cells #[.int .i64 a1_0, .string a1_1] 24 (0, 0))) ∧ Aside0 (w'.heap[gb324]? = some (.cells #[.string ((rd_T85 a0 t321).f0), .string ((rd_T85 a0 t321).f1), (.slice A323_2 ((rd_T85 a0 t321).f2).length c323_2), .int .i64 ((rd_T85 a0 t321).f3), .int .i64 ((rd_T85 a0 t321).f4), (.slice A323_5 ((rd_T85 a0 t321).f5).length c323_5)] 85 (0, 0))) ∧ Aside0 (Below w.heap.size w w'))
       case atStart => exact ⟨(x5_11), (0), vX, H', ⟨Nat.le_refl _⟩, ⟨rX HO_5⟩, ⟨by (with_reducible repeat (first | refine blk_drewN ?_ _ | refine blk_drew ?_ | refine blk_alloc ?_ _)); exact BK319.out⟩, ⟨by (with_reducible repeat (first | refine blk_drewN ?_ _ | refine blk_drew ?_ | refine blk_alloc ?_ _)); exact BK324.out⟩, ⟨bX2 HB GE319 GE324⟩⟩
       case round =>
        clear H'
        try clear c1
        try clear q1
        try clear c2
        try clear p2
        try clear c3
        try clear p3
        try clear q3
        try clear hx3
        try clear c4
        try clear c5
        try clear c7
        try clear c8
        try clear c8b0
        try clear c8b1
        try clear c10
        try clear c10b0
        try clear c11
        try clear c11b0
        try clear q17
        try clear c19
        try clear c21
        try clear c21b0
        try clear c21b1
        try clear c22
        try clear c23
        try clear hcz14_0 hcz14_1
        try clear hcz16_0 hcz16_1
        try clear hcz20_0 hcz20_1 hcz20_2 hcz20_3 hcz20_4 hcz20_5
        try clear hcz24_0 hcz24_1 hcz24_2 hcz24_3 hcz24_4 hcz24_5
        try clear hcz6_0 hcz6_1
        try clear hfz14_0 hfz14_1
        try clear hfz16_0 hfz16_1
        try clear hfz20_0 hfz20_1 hfz20_2 hfz20_3 hfz20_4 hfz20_5
        try clear hfz24_0 hfz24_1 hfz24_2 hfz24_3 hfz24_4 hfz24_5
        try clear hfz6_0 hfz6_1
        try clear hx323_0
        try clear hx323_1
        try clear hx323_2
        try clear hx323_3
        try clear hx323_4
        try clear hx323_5
        try clear p2
        try clear p3
        try clear p323
        try clear q1
        try clear q17
        try clear q3
        try clear q323
        obtain ⟨x5_2, x9_2, rfl, HA, HK2, HO_5, BK319, BK324, HB⟩ := hrel
        cases gk with
        | zero => exact absurd HA.out (by simp [arbiterref07_steps.l0])
        | succ k2 =>
         have H := HA.out; clear HA; simp only [arbiterref07_steps.l0] at H
         by_cases c26 : x9_2 < (((rd_T85 a0 t321).f2).length : Int)
         ·rw [if_pos c26] at H
          have c26b0 : decide (x9_2 < (((rd_T85 a0 t321).f2).length : Int)) = true := decide_eq_true c26; clear c26
          by_cases c27 : 0 ≤ x9_2
          ·rw [if_pos c27] at H
           have c27b0 : decide (0 ≤ x9_2) = true := decide_eq_true c27; clear c27
           by_cases c28 : x5_2.length < 5864062014805
           ·rw [if_pos c28] at H
            have LMc28 := Aside0.mk c28; clear c28
            obtain ⟨y329, hy329⟩ : ∃ y_ : List (S24), y_ = (x5_2 ++ [(⟨0, rdOf ByteArray.empty ((rd_T85 a0 t321).f2) x9_2⟩ : S24)]) := ⟨_, rfl⟩
            replace H : (arbiterref07_steps.l0 k2 y329 (wrap64 (x9_2 + 1)) ((rd_T85 a0 t321).f0) ((rd_T85 a0 t321).f1) ((rd_T85 a0 t321).f2) ((rd_T85 a0 t321).f3) ((rd_T85 a0 t321).f4) ((rd_T85 a0 t321).f5)) = some r := by first | (rw [hy329]; with_reducible exact H) | (have H2_ := (Option.bind_some _ _).symm.trans H; rw [hy329]; with_reducible exact H2_) | (have H2_ := (Option.bind_some _ _).symm.trans H; with_reducible exact H2_) | with_reducible exact H | (rw [hy329]; exact H) | exact H
            have Ny329 := Aside0.mk hy329; clear hy329; have H' := Aside0.mk H; clear H; have hnb29 := NB324_319.out; have hnc29 := NB319_324.out; obtain ⟨hcz30_0, hcz30_1, hcz30_2, hcz30_3, hcz30_4, hcz30_5, hfz30_0, hfz30_1, hfz30_2, hfz30_3, hfz30_4, hfz30_5⟩ := c6X BK324; have p328 : 0 ≤ (x9_2 : Int) := qX; have q328 : x9_2 < (((rd_T85 a0 t321).f2).length : Int) := qX; obtain ⟨ad328, e328, hx328_0⟩ := Kd.at_string HR323_2.out x9_2 p328 q328
            cases e328
            replace hx328_0 := (HB.out.cell (World.block_lt_of_cell? w _ hx328_0)).trans hx328_0; replace p328 := eq_true p328; replace q328 := eq_true q328; go_wp2_with (first | ((with_reducible refine gate_builtin (b := .append) (xs := #[.tmp 48, .tmp 55]) rfl ?_); at_builtin; refine Kd.R_append k24 (w0 := w) w.heap.size rfl (.tmp 48) (.tmp 55) 66 24 (.agg #[(.int .i64 0), (.string ⟨#[]⟩)]) 24 rfl Tryz.underlying66 info24 rfl (by decide) (by omega) u5 x5_2 (⟨0, rdOf ByteArray.empty ((rd_T85 a0 t321).f2) x9_2⟩ : S24) [.int .i64 0, .string (rdOf ByteArray.empty ((rd_T85 a0 t321).f2) x9_2)] (fun k_ => k_ ≠ gb319) (fun _ => False) rfl rfl ?aP (fun _ hk => hk.elim) ?aF ?aO ?aB ?aS ?aL ?_; (case aP => exact k24_mkM _ _ _ (⟨0, rdOf ByteArray.empty ((rd_T85 a0 t321).f2) x9_2⟩ : S24)); (case aB => exact (bX2 HB GE319 GE324)); (case aF => exact (fun k_ hk => Kd.freshB (g := gb319) (o := .cells #[.int .i64 a1_0, .string a1_1] 24 (0, 0)) (kX BK319) k_ hk)); (case aO => exact (rX HO_5)); (case aS => exact (below_size (bX2 HB GE319 GE324))); (case aL => have := LMc28.out; omega); intro v330 w31 ho hb hg hat; rw [← Ny329.out] at ho; have n0_ := Aside0.mk (blk_grown (g := gb319) (o := .cells #[.int .i64 a1_0, .string a1_1] 24 (0, 0)) (kX BK319) hg (Kd.R_away HO_5.out (fun _ hk => hk))); have n1_ := Aside0.mk (blk_grown (g := gb324) (o := .cells #[.string ((rd_T85 a0 t321).f0), .string ((rd_T85 a0 t321).f1), .slice (some ad328) ((rd_T85 a0 t321).f2).length c323_2, .int .i64 ((rd_T85 a0 t321).f3), .int .i64 ((rd_T85 a0 t321).f4), .slice A323_5 ((rd_T85 a0 t321).f5).length c323_5] 85 (0, 0)) (kX BK324) hg (Kd.R_ne HO_5.out BK324.out (by decide))); have n2_ := Aside0.mk (hb); have n3_ := Aside0.mk (ho); clear BK319; clear BK324; clear HB; clear HO_5; have BK319 := n0_; have BK324 := n1_; have HB := n2_; have HO331 := n3_; clear n0_ n1_ n2_ n3_; clear ho hb hg hat))
            go_roundg k2
            case measure => have := HJ11.out; have := HK2.out; omega
            case rel => exact ⟨(y329), (wrap64 (x9_2 + 1)), vX, H', ⟨by have := HJ11.out; have := HK2.out; omega⟩, ⟨rX HO331⟩, ⟨by (with_reducible repeat (first | refine blk_drewN ?_ _ | refine blk_drew ?_ | refine blk_alloc ?_ _)); exact BK319.out⟩, ⟨by (with_reducible repeat (first | refine blk_drewN ?_ _ | refine blk_drew ?_ | refine blk_alloc ?_ _)); exact BK324.out⟩, ⟨bX2 HB GE319 GE324⟩⟩
           ·rw [if_neg c28] at H
            exact absurd H (by simp)
          ·rw [if_neg c27] at H
           exact absurd H (by simp)
         ·rw [if_neg c26] at H
          have c26b0 : decide (x9_2 < (((rd_T85 a0 t321).f2).length : Int)) = false := decide_eq_false c26; clear c26; obtain rfl := Option.some.inj H; have hnb32 := NB324_319.out; have hnc32 := NB319_324.out; obtain ⟨hcz33_0, hcz33_1, hcz33_2, hcz33_3, hcz33_4, hcz33_5, hfz33_0, hfz33_1, hfz33_2, hfz33_3, hfz33_4, hfz33_5⟩ := c6X BK324; go_wp2; go_ret
          exact ⟨_, by first | rfl | (simp [errW_none, errW_some] <;> rfl) | (simp [*, errW_none, errW_some] <;> rfl), by (with_reducible repeat (first | apply Kd.R_alloc | apply Kd.R_drewN | apply Kd.R_drew)); exact Kd.R_mono HO_5.out (fun _ hk => trivial), bX2 HB GE319 GE324⟩
    ·rw [if_neg c11] at H
     exact absurd H (by simp)
   ·rw [if_neg c10] at H
    exact absurd H (by simp)
  ·rw [if_neg c8] at H
   have c8b0 : (a1_0 == 0) = false := beq_eq_false_iff_ne.mpr c8; have c8b1 : (a1_0 != 0) = true := bne_iff_ne.mpr c8; replace H := Option.bind_eq_some_iff.mp H; obtain ⟨⟨t332, t333⟩, A340, H⟩ := H; replace H : ((arbiterref07_IsInt.f t332 t333).bind fun t335 => (if t335 = true then (arbiterref07_steps.j2 k a0 ([] : List (S24)) true t332 t333) else (if t332 = 0 then (arbiterref07_steps.j2 k a0 ([] : List (S24)) (t333.toList == ([79, 98, 106, 101, 99, 116] : List UInt8)) t332 t333) else (arbiterref07_steps.j2 k a0 ([] : List (S24)) false t332 t333)))) = some r := H; have A34 := Aside0.mk A340; clear A340; have HC35 := Aside0.mk H; clear H; go_enter Tryz.func81, Tryz.ntmps81
   go_upto_region 15 with (first | ((with_reducible refine gate_dst (N := 3) rfl ?_); refine eX 3 #[.int .i64 a1_0, .string a1_1] 24 ?_; intro gb319 hg w36 hbox hb; have n0_ := Aside0.mk (below_step (bX HB) hb); have n1_ := Aside0.mk (hbox); have n2_ := Aside0.mk ((by rw [hg]; exact (below_size (bX HB)) : w.heap.size ≤ gb319)); have n3_ := Aside0.mk ((by rw [hg]; exact (below_size (bX HB)) : w.heap.size ≤ gb319)); clear HB; have HB := n0_; have BK319 := n1_; have GW319 := n2_; have GE319 := n3_; clear n0_ n1_ n2_ n3_; clear hb hbox hg; obtain ⟨hcz37_0, hcz37_1, hfz37_0, hfz37_1⟩ := c2X BK319) | ((with_reducible refine gate_callee (f := 79) rfl ?_); refine gX (some 14) Tryz.func79 #[.agg #[.int .i64 a1_0, .string a1_1]] ?_; (with_reducible refine (arbiterref07_IsInt.calls a1_0 a1_1 false _ A3.out).mono ?_); rintro e w38 ⟨rfl, hb⟩; refine ⟨_, rfl, ?_⟩; have n0_ := Aside0.mk (blk_below (kX BK319) hb); have n1_ := Aside0.mk (below_step (bX1 HB GE319) hb); clear BK319; clear HB; have BK319 := n0_; have HB := n1_; clear n0_ n1_; (try clear hb); (try clear hb2); (try clear hk); (try clear hi); obtain ⟨hcz39_0, hcz39_1, hfz39_0, hfz39_1⟩ := c2X BK319) | ((with_reducible refine gate_callee (f := 105) rfl ?_); refine gX (some 59) Tryz.func105 #[.agg #[.int .i64 a1_0, .string a1_1]] ?_; (with_reducible refine (arbiterref07_lower.calls a1_0 a1_1 t332 t333 _ A34.out).mono ?_); rintro e w40 ⟨rfl, hb⟩; refine ⟨_, rfl, ?_⟩; have n0_ := Aside0.mk (blk_below (kX BK319) hb); have n1_ := Aside0.mk (below_step (bX1 HB GE319) hb); clear BK319; clear HB; have BK319 := n0_; have HB := n1_; clear n0_ n1_; (try clear hb); (try clear hb2); (try clear hk); (try clear hi)) | ((with_reducible refine gate_dst (N := 10) rfl ?_); refine eX 10 #[.int .i64 0, .string (⟨#[]⟩ : ByteArray)] 24 ?_; intro gb334 hg w41 hbox hb; have n0_ := Aside0.mk (blk_below (kX BK319) hb); have n1_ := Aside0.mk (below_step (bX1 HB GE319) hb); have n2_ := Aside0.mk (hbox); have n3_ := Aside0.mk ((by rw [hg]; exact (below_size (bX1 HB GE319)) : w.heap.size ≤ gb334)); have n4_ := Aside0.mk ((by rw [hg]; exact (below_size (bX1 HB GE319)) : w.heap.size ≤ gb334)); have n5_ := Aside0.mk ((by rw [hg]; exact Nat.ne_of_lt (blk_lt (kX BK319)) : gb319 ≠ gb334)); have n6_ := Aside0.mk ((by rw [hg]; exact Nat.ne_of_gt (blk_lt (kX BK319)) : gb334 ≠ gb319)); clear BK319; clear HB; have BK319 := n0_; have HB := n1_; have BK334 := n2_; have GW334 := n3_; have GE334 := n4_; have NB319_334 := n5_; have NB334_319 := n6_; clear n0_ n1_ n2_ n3_ n4_ n5_ n6_; clear hb hbox hg; have hnb42 := NB334_319.out; have hnc42 := NB319_334.out; obtain ⟨hcz43_0, hcz43_1, hfz43_0, hfz43_1⟩ := c2X BK334))
   (try simp only [Act.put, List.setIfInBounds_toArray, List.set_cons_zero, List.set_cons_succ])
   go_cut [71] (fun v71 wc => ∃ (kq : Nat) (x71_34 : Bool), v71 = .bool x71_34 ∧ Aside0 (arbiterref07_steps.j2 kq a0 ([] : List (S24)) x71_34 t332 t333 = some r) ∧ Aside0 (kq ≤ k) ∧ Aside0 (Kd.R k24 24 wc w.heap.size (fun k_ => k_ ≠ gb319 ∧ k_ ≠ gb334) (.slice none 0 0) ([] : List (S24))) ∧ Aside0 (wc.heap[gb319]? = some (.cells #[.int .i64 a1_0, .string a1_1] 24 (0, 0))) ∧ Aside0 (wc.heap[gb334]? = some (.cells #[.int .i64 t332, .string t333] 24 (0, 0))) ∧ Aside0 (Below w.heap.size w wc))
   case first =>
    have H := HC35.out; clear HC35; replace H := Option.bind_eq_some_iff.mp H; obtain ⟨t335, A440, H⟩ := H; replace H : (if t335 = true then (arbiterref07_steps.j2 k a0 ([] : List (S24)) true t332 t333) else (if t332 = 0 then (arbiterref07_steps.j2 k a0 ([] : List (S24)) (t333.toList == ([79, 98, 106, 101, 99, 116] : List UInt8)) t332 t333) else (arbiterref07_steps.j2 k a0 ([] : List (S24)) false t332 t333))) = some r := H; have A44 := Aside0.mk A440; clear A440
    by_cases c45 : t335 = true
    ·subst c45
     have H1 : (arbiterref07_steps.j2 k a0 ([] : List (S24)) true t332 t333) = some r := by rw [if_pos rfl] at H; exact H
     clear H; have H := H1; clear H1; have H' := Aside0.mk H; clear H; have hnb46 := NB334_319.out; have hnc46 := NB319_334.out; obtain ⟨hcz47_0, hcz47_1, hfz47_0, hfz47_1⟩ := c2X BK334; go_wp2_with (first | ((with_reducible refine gate_callee (f := 79) rfl ?_); refine gX (some 61) Tryz.func79 #[.agg #[.int .i64 t332, .string t333]] ?_; (with_reducible refine (arbiterref07_IsInt.calls t332 t333 true _ A44.out).mono ?_); rintro e w48 ⟨rfl, hb⟩; refine ⟨_, rfl, ?_⟩; have n0_ := Aside0.mk (blk_below (g := gb319) (o := .cells #[.int .i64 a1_0, .string a1_1] 24 (0, 0)) (fX BK319 NB319_334) hb); have n1_ := Aside0.mk (blk_below (g := gb334) (o := .cells #[.int .i64 t332, .string t333] 24 (0, 0)) (by (with_reducible repeat (first | refine blk_drewN ?_ _ | refine blk_drew ?_ | refine blk_alloc ?_ _)); refine blk_put (cs := #[.int .i64 t332, .string (⟨#[]⟩ : ByteArray)]) ?_ 1 _ rfl; (with_reducible repeat (first | refine blk_drewN ?_ _ | refine blk_drew ?_ | refine blk_alloc ?_ _)); refine blk_put (cs := #[.int .i64 0, .string (⟨#[]⟩ : ByteArray)]) ?_ 0 _ rfl; (with_reducible repeat (first | refine blk_drewN ?_ _ | refine blk_drew ?_ | refine blk_alloc ?_ _)); exact BK334.out) hb); have n2_ := Aside0.mk (below_step (bX2 HB GE319 GE334) hb); clear BK319; clear BK334; clear HB; have BK319 := n0_; have BK334 := n1_; have HB := n2_; clear n0_ n1_ n2_; (try clear hb); (try clear hb2); (try clear hk); (try clear hi))); go_meet
     case rel => exact ⟨_, (true), vX, H', ⟨by first | omega | exact Nat.le_refl _⟩, ⟨by first | exact Kd.R_nil _ _ _ _ _ | exact Kd.N_nil _ _ _ _ _ | exact Kd.V_nil _ _ _ _ _ | exact Kd.Q_nil _ _ _ _ _ | exact Kd.S_nil _ _ _ _ _⟩, ⟨by (with_reducible repeat (first | refine blk_drewN ?_ _ | refine blk_drew ?_ | refine blk_alloc ?_ _)); exact BK319.out⟩, ⟨by (with_reducible repeat (first | refine blk_drewN ?_ _ | refine blk_drew ?_ | refine blk_alloc ?_ _)); exact BK334.out⟩, ⟨bX2 HB GE319 GE334⟩⟩
    ·replace c45 := Bool.eq_false_iff.mpr c45
     subst c45
     have H1 : (if t332 = 0 then (arbiterref07_steps.j2 k a0 ([] : List (S24)) (t333.toList == ([79, 98, 106, 101, 99, 116] : List UInt8)) t332 t333) else (arbiterref07_steps.j2 k a0 ([] : List (S24)) false t332 t333)) = some r := by rw [if_neg (show ¬ (false = true) by decide)] at H; exact H
     clear H; have H := H1; clear H1
     by_cases c49 : t332 = 0
     ·rw [if_pos c49] at H
      have c49b0 : (t332 == 0) = true := beq_iff_eq.mpr c49; have c49b1 : (t332 != 0) = false := bne_eq_false_iff_eq.mpr c49; clear c49
      (first | rw [c49b0] | (simp only [i64_w, i32_w]; rw [c49b0]) | skip)
      have H' := Aside0.mk H; clear H; have hnb50 := NB334_319.out; have hnc50 := NB319_334.out; obtain ⟨hcz51_0, hcz51_1, hfz51_0, hfz51_1⟩ := c2X BK334; go_wp2_with (first | ((with_reducible refine gate_callee (f := 79) rfl ?_); refine gX (some 61) Tryz.func79 #[.agg #[.int .i64 t332, .string t333]] ?_; (with_reducible refine (arbiterref07_IsInt.calls t332 t333 false _ A44.out).mono ?_); rintro e w52 ⟨rfl, hb⟩; refine ⟨_, rfl, ?_⟩; have n0_ := Aside0.mk (blk_below (g := gb319) (o := .cells #[.int .i64 a1_0, .string a1_1] 24 (0, 0)) (fX BK319 NB319_334) hb); have n1_ := Aside0.mk (blk_below (g := gb334) (o := .cells #[.int .i64 t332, .string t333] 24 (0, 0)) (by (with_reducible repeat (first | refine blk_drewN ?_ _ | refine blk_drew ?_ | refine blk_alloc ?_ _)); refine blk_put (cs := #[.int .i64 t332, .string (⟨#[]⟩ : ByteArray)]) ?_ 1 _ rfl; (with_reducible repeat (first | refine blk_drewN ?_ _ | refine blk_drew ?_ | refine blk_alloc ?_ _)); refine blk_put (cs := #[.int .i64 0, .string (⟨#[]⟩ : ByteArray)]) ?_ 0 _ rfl; (with_reducible repeat (first | refine blk_drewN ?_ _ | refine blk_drew ?_ | refine blk_alloc ?_ _)); exact BK334.out) hb); have n2_ := Aside0.mk (below_step (bX2 HB GE319 GE334) hb); clear BK319; clear BK334; clear HB; have BK319 := n0_; have BK334 := n1_; have HB := n2_; clear n0_ n1_ n2_; (try clear hb); (try clear hb2); (try clear hk); (try clear hi); obtain ⟨hcz53_0, hcz53_1, hfz53_0, hfz53_1⟩ := c2X BK334)); go_meet
      case rel => exact ⟨_, ((t333.toList == ([79, 98, 106, 101, 99, 116] : List UInt8))), vX, H', ⟨by first | omega | exact Nat.le_refl _⟩, ⟨by first | exact Kd.R_nil _ _ _ _ _ | exact Kd.N_nil _ _ _ _ _ | exact Kd.V_nil _ _ _ _ _ | exact Kd.Q_nil _ _ _ _ _ | exact Kd.S_nil _ _ _ _ _⟩, ⟨by (with_reducible repeat (first | refine blk_drewN ?_ _ | refine blk_drew ?_ | refine blk_alloc ?_ _)); exact BK319.out⟩, ⟨by (with_reducible repeat (first | refine blk_drewN ?_ _ | refine blk_drew ?_ | refine blk_alloc ?_ _)); exact BK334.out⟩, ⟨bX2 HB GE319 GE334⟩⟩
     ·rw [if_neg c49] at H
      have c49b0 : (t332 == 0) = false := beq_eq_false_iff_ne.mpr c49; have c49b1 : (t332 != 0) = true := bne_iff_ne.mpr c49
      (first | rw [c49b0] | (simp only [i64_w, i32_w]; rw [c49b0]) | skip)
      have H' := Aside0.mk H; clear H; have hnb54 := NB334_319.out; have hnc54 := NB319_334.out; obtain ⟨hcz55_0, hcz55_1, hfz55_0, hfz55_1⟩ := c2X BK334; go_wp2_with (first | ((with_reducible refine gate_callee (f := 79) rfl ?_); refine gX (some 61) Tryz.func79 #[.agg #[.int .i64 t332, .string t333]] ?_; (with_reducible refine (arbiterref07_IsInt.calls t332 t333 false _ A44.out).mono ?_); rintro e w56 ⟨rfl, hb⟩; refine ⟨_, rfl, ?_⟩; have n0_ := Aside0.mk (blk_below (g := gb319) (o := .cells #[.int .i64 a1_0, .string a1_1] 24 (0, 0)) (fX BK319 NB319_334) hb); have n1_ := Aside0.mk (blk_below (g := gb334) (o := .cells #[.int .i64 t332, .string t333] 24 (0, 0)) (by (with_reducible repeat (first | refine blk_drewN ?_ _ | refine blk_drew ?_ | refine blk_alloc ?_ _)); refine blk_put (cs := #[.int .i64 t332, .string (⟨#[]⟩ : ByteArray)]) ?_ 1 _ rfl; (with_reducible repeat (first | refine blk_drewN ?_ _ | refine blk_drew ?_ | refine blk_alloc ?_ _)); refine blk_put (cs := #[.int .i64 0, .string (⟨#[]⟩ : ByteArray)]) ?_ 0 _ rfl; (with_reducible repeat (first | refine blk_drewN ?_ _ | refine blk_drew ?_ | refine blk_alloc ?_ _)); exact BK334.out) hb); have n2_ := Aside0.mk (below_step (bX2 HB GE319 GE334) hb); clear BK319; clear BK334; clear HB; have BK319 := n0_; have BK334 := n1_; have HB := n2_; clear n0_ n1_ n2_; (try clear hb); (try clear hb2); (try clear hk); (try clear hi); obtain ⟨hcz57_0, hcz57_1, hfz57_0, hfz57_1⟩ := c2X BK334)); go_meet
      case rel => exact ⟨_, (false), vX, H', ⟨by first | omega | exact Nat.le_refl _⟩, ⟨by first | exact Kd.R_nil _ _ _ _ _ | exact Kd.N_nil _ _ _ _ _ | exact Kd.V_nil _ _ _ _ _ | exact Kd.Q_nil _ _ _ _ _ | exact Kd.S_nil _ _ _ _ _⟩, ⟨by (with_reducible repeat (first | refine blk_drewN ?_ _ | refine blk_drew ?_ | refine blk_alloc ?_ _)); exact BK319.out⟩, ⟨by (with_reducible repeat (first | refine blk_drewN ?_ _ | refine blk_drew ?_ | refine blk_alloc ?_ _)); exact BK334.out⟩, ⟨bX2 HB GE319 GE334⟩⟩
   case rest =>
    clear HC35
    try clear c1
    try clear q1
    try clear c2
    try clear p2
    try clear c3
    try clear p3
    try clear q3
    try clear hx3
    try clear c4
    try clear c5
    try clear p6
    try clear c7
    try clear c8
    try clear c8b0
    try clear c8b1
    try clear c10
    try clear c10b0
    try clear c11
    try clear c11b0
    try clear q17
    try clear c19
    try clear c21
    try clear c21b0
    try clear c21b1
    try clear c22
    try clear c23
    try clear c26
    try clear c26b0
    try clear c27
    try clear c27b0
    try clear c28
    try clear c29
    try clear c32
    try clear p32
    try clear q32
    try clear hx32
    try clear c42
    try clear c45
    try clear c46
    try clear c49
    try clear c49b0
    try clear c49b1
    try clear c50
    try clear c54
    try clear c57
    try clear hcz14_0 hcz14_1
    try clear hcz16_0 hcz16_1
    try clear hcz20_0 hcz20_1 hcz20_2 hcz20_3 hcz20_4 hcz20_5
    try clear hcz24_0 hcz24_1 hcz24_2 hcz24_3 hcz24_4 hcz24_5
    try clear hcz30_0 hcz30_1 hcz30_2 hcz30_3 hcz30_4 hcz30_5
    try clear hcz33_0 hcz33_1 hcz33_2 hcz33_3 hcz33_4 hcz33_5
    try clear hcz37_0 hcz37_1
    try clear hcz39_0 hcz39_1
    try clear hcz43_0 hcz43_1
    try clear hcz47_0 hcz47_1
    try clear hcz51_0 hcz51_1
    try clear hcz53_0 hcz53_1
    try clear hcz55_0 hcz55_1
    try clear hcz57_0 hcz57_1
    try clear hcz6_0 hcz6_1
    try clear hfz14_0 hfz14_1
    try clear hfz16_0 hfz16_1
    try clear hfz20_0 hfz20_1 hfz20_2 hfz20_3 hfz20_4 hfz20_5
    try clear hfz24_0 hfz24_1 hfz24_2 hfz24_3 hfz24_4 hfz24_5
    try clear hfz30_0 hfz30_1 hfz30_2 hfz30_3 hfz30_4 hfz30_5
    try clear hfz33_0 hfz33_1 hfz33_2 hfz33_3 hfz33_4 hfz33_5
    try clear hfz37_0 hfz37_1
    try clear hfz39_0 hfz39_1
    try clear hfz43_0 hfz43_1
    try clear hfz47_0 hfz47_1
    try clear hfz51_0 hfz51_1
    try clear hfz53_0 hfz53_1
    try clear hfz55_0 hfz55_1
    try clear hfz57_0 hfz57_1
    try clear hfz6_0 hfz6_1
    try clear hx323_0
    try clear hx323_1
    try clear hx323_2
    try clear hx323_3
    try clear hx323_4
    try clear hx323_5
    try clear hx328_0
    try clear p2
    try clear p3
    try clear p323
    try clear p328
    try clear q1
    try clear q17
    try clear q3
    try clear q323
    try clear q328
    obtain ⟨kq, x71_34, rfl, HA, HJ34, HO_5, BK319, BK334, HB⟩ := hcut
    cases kq with
    | zero => exact absurd HA.out (by simp [arbiterref07_steps.j2])
    | succ kj34 =>
     have H := HA.out; clear HA; simp only [arbiterref07_steps.j2] at H
     by_cases c58 : x71_34 = true
     ·subst c58
      have H1 : (some (([(⟨0, (⟨#[79, 98, 106, 101, 99, 116]⟩ : ByteArray)⟩ : S24), (⟨0, (⟨#[67, 108, 111, 110, 101, 97, 98, 108, 101]⟩ : ByteArray)⟩ : S24), (⟨0, (⟨#[83, 101, 114, 105, 97, 108, 105, 122, 97, 98, 108, 101]⟩ : ByteArray)⟩ : S24)] : List (S24)))) = some r := by rw [if_pos rfl] at H; exact H
      clear H; have H := H1; clear H1
      obtain ⟨y336, hy336⟩ : ∃ y_ : List (S24), y_ = (([(⟨0, (⟨#[79, 98, 106, 101, 99, 116]⟩ : ByteArray)⟩ : S24), (⟨0, (⟨#[67, 108, 111, 110, 101, 97, 98, 108, 101]⟩ : ByteArray)⟩ : S24), (⟨0, (⟨#[83, 101, 114, 105, 97, 108, 105, 122, 97, 98, 108, 101]⟩ : ByteArray)⟩ : S24)] : List (S24))) := ⟨_, rfl⟩
      replace H : (some y336) = some r := by first | (rw [hy336]; with_reducible exact H) | (have H2_ := (Option.bind_some _ _).symm.trans H; rw [hy336]; with_reducible exact H2_) | (have H2_ := (Option.bind_some _ _).symm.trans H; with_reducible exact H2_) | with_reducible exact H | (rw [hy336]; exact H) | exact H
      have Ny336 := Aside0.mk hy336; clear hy336; obtain rfl := Option.some.inj H; go_wp2_with (first | ((with_reducible refine gate_dst (N := 75) rfl ?_); refine Kd.R_lit k24 _ 24 ?hg (N := 75) ?hd (xs := ([(⟨0, (⟨#[79, 98, 106, 101, 99, 116]⟩ : ByteArray)⟩ : S24), (⟨0, (⟨#[67, 108, 111, 110, 101, 97, 98, 108, 101]⟩ : ByteArray)⟩ : S24), (⟨0, (⟨#[83, 101, 114, 105, 97, 108, 105, 122, 97, 98, 108, 101]⟩ : ByteArray)⟩ : S24)] : List (S24))) (inner := [.int .i64 0, .string (⟨#[79, 98, 106, 101, 99, 116]⟩ : ByteArray), .int .i64 0, .string (⟨#[67, 108, 111, 110, 101, 97, 98, 108, 101]⟩ : ByteArray), .int .i64 0, .string (⟨#[83, 101, 114, 105, 97, 108, 105, 122, 97, 98, 108, 101]⟩ : ByteArray)]) (ok := fun _ => True) (okp := fun _ => True) ?hr ?hp (fun _ hk => hk) trivial (Below.refl _ _) (Nat.le_refl _) (by simp) ?_; (case hd => rfl); (case hg => rfl); (case hr => first | (go_simp; done) | (go_simp; rfl)); (case hp => exact (Reps.c2 (show Kd.M k24 _ _ _ (⟨0, (⟨#[79, 98, 106, 101, 99, 116]⟩ : ByteArray)⟩ : S24) [.int .i64 0, .string (⟨#[79, 98, 106, 101, 99, 116]⟩ : ByteArray)] from (k24_mkM _ _ _ (⟨0, (⟨#[79, 98, 106, 101, 99, 116]⟩ : ByteArray)⟩ : S24) )) (Reps.c2 (show Kd.M k24 _ _ _ (⟨0, (⟨#[67, 108, 111, 110, 101, 97, 98, 108, 101]⟩ : ByteArray)⟩ : S24) [.int .i64 0, .string (⟨#[67, 108, 111, 110, 101, 97, 98, 108, 101]⟩ : ByteArray)] from (k24_mkM _ _ _ (⟨0, (⟨#[67, 108, 111, 110, 101, 97, 98, 108, 101]⟩ : ByteArray)⟩ : S24) )) (Reps.c2 (show Kd.M k24 _ _ _ (⟨0, (⟨#[83, 101, 114, 105, 97, 108, 105, 122, 97, 98, 108, 101]⟩ : ByteArray)⟩ : S24) [.int .i64 0, .string (⟨#[83, 101, 114, 105, 97, 108, 105, 122, 97, 98, 108, 101]⟩ : ByteArray)] from (k24_mkM _ _ _ (⟨0, (⟨#[83, 101, 114, 105, 97, 108, 105, 122, 97, 98, 108, 101]⟩ : ByteArray)⟩ : S24) )) (Reps.none _ _))))); intro v337 w59 ho60 hb hg_ hnew_; clear hg_ hnew_; (first | rw [← Ny336.out] at ho60 | (simp only [Int.reduceToNat] at ho60; rw [← Ny336.out] at ho60)); have n0_ := Aside0.mk (Kd.R_elder' (rX HO_5) (Kd.R_base ho60) hb); have n1_ := Aside0.mk (Kd.R_lower (Kd.R_newB (Kd.R_newB (Kd.R_new' ho60 (Kd.R_lt (rX HO_5))) (g := gb319) (o := .cells #[.int .i64 a1_0, .string a1_1] 24 (0, 0)) (kX BK319)) (g := gb334) (o := .cells #[.int .i64 t332, .string t333] 24 (0, 0)) (kX BK334)) (below_size (bX2 HB GE319 GE334))); have n2_ := Aside0.mk (blk_below (kX BK319) hb); have n3_ := Aside0.mk (blk_below (kX BK334) hb); have n4_ := Aside0.mk (below_step (bX2 HB GE319 GE334) hb); clear HO_5; clear BK319; clear BK334; clear HB; have HO_5 := n0_; have HO338 := n1_; have BK319 := n2_; have BK334 := n3_; have HB := n4_; clear n0_ n1_ n2_ n3_ n4_; clear hb ho60)); go_ret
      exact ⟨_, by first | rfl | (simp [errW_none, errW_some] <;> rfl) | (simp [*, errW_none, errW_some] <;> rfl), by (with_reducible repeat (first | apply Kd.R_alloc | apply Kd.R_drewN | apply Kd.R_drew)); exact Kd.R_mono HO338.out (fun _ hk => trivial), bX2 HB GE319 GE334⟩
     ·replace c58 := Bool.eq_false_iff.mpr c58
      subst c58
      have H1 : ((arbiterref07_steps.f kj34 a0 t332 t333).bind fun t339 => (arbiterref07_steps.l1 kj34 ([] : List (S24)) t339 0)) = some r := by rw [if_neg (show ¬ (false = true) by decide)] at H; exact H
      clear H; have H := H1; clear H1; replace H := Option.bind_eq_some_iff.mp H; obtain ⟨t339, A610, H⟩ := H; replace H : (arbiterref07_steps.l1 kj34 ([] : List (S24)) t339 0) = some r := H; have A61 := Aside0.mk A610; clear A610; have H' := Aside0.mk H; clear H; have hnb62 := NB334_319.out; have hnc62 := NB319_334.out; obtain ⟨hcz63_0, hcz63_1, hfz63_0, hfz63_1⟩ := c2X BK334; go_wp2_with (first | ((with_reducible refine gate_callee (f := 81) rfl ?_); refine gX (some 78) Tryz.func81 #[.pointer (some ⟨G_, 0, none⟩), .agg #[.int .i64 t332, .string t333]] ?_; (with_reducible refine (ih kj34 (by have := HJ34.out; omega) G_ a0 t332 t333 t339 _ ?side1 A61.out).mono ?_); (case side1 => repeat (first | (with_reducible exact HQa0.out) | (with_reducible refine ROK.alloc ?_ _) | (with_reducible refine ROK.drewN ?_ _) | (with_reducible refine ROK.drew ?_) | exact ROK.below HQa0.out HB.out | exact ROK.below HQa0.out (bX2 HB GE319 GE334))); rintro e w64 ⟨v340, rfl, ho0, hb⟩; refine ⟨_, rfl, ?_⟩; have n0_ := Aside0.mk (Kd.R_elder' (rX HO_5) (Kd.R_base ho0) hb); have n1_ := Aside0.mk (Kd.R_lower (Kd.R_newB (Kd.R_newB (Kd.R_new' ho0 (Kd.R_lt (rX HO_5))) (g := gb319) (o := .cells #[.int .i64 a1_0, .string a1_1] 24 (0, 0)) (kX BK319)) (g := gb334) (o := .cells #[.int .i64 t332, .string t333] 24 (0, 0)) (kX BK334)) (below_size (bX2 HB GE319 GE334))); have n2_ := Aside0.mk (blk_below (kX BK319) hb); have n3_ := Aside0.mk (blk_below (kX BK334) hb); have n4_ := Aside0.mk (below_step (bX2 HB GE319 GE334) hb); clear HO_5; clear BK319; clear BK334; clear HB; have HO_5 := n0_; have HO341 := n1_; have BK319 := n2_; have BK334 := n3_; have HB := n4_; clear n0_ n1_ n2_ n3_ n4_; (try clear hb); (try clear hb2); (try clear hk); (try clear hi); (try clear ho0)))
      go_loopg [5, 12] kj34 (fun kq v5 v12 w' => ∃ (x5_2 : List (S24)) (x12_2 : Int), v12 = .int .i64 x12_2 ∧ Aside0 (arbiterref07_steps.l1 kq x5_2 t339 x12_2 = some r) ∧ Aside0 (kq ≤ kj34) ∧ Aside0 (Kd.R k24 24 w' w.heap.size (fun k_ => some k_ ≠ (v340 : Value).ownBlock ∧ k_ ≠ gb319 ∧ k_ ≠ gb334) v5 x5_2) ∧ Aside0 (Kd.R k24 24 w' w.heap.size (fun k_ => some k_ ≠ (v5 : Value).ownBlock ∧ k_ ≠ gb319 ∧ k_ ≠ gb334) v340 t339) ∧ Aside0 (w'.heap[gb319]? = some (.cells #[.int .i64 a1_0, .string a1_1] 24 (0, 0))) ∧ Aside0 (w'.heap[gb334]? = some (.cells #[.int .i64 t332, .string t333] 24 (0, 0))) ∧ Aside0 (Below w.heap.size w w'))
      case atStart => exact ⟨(([] : List (S24))), (0), vX, H', ⟨Nat.le_refl _⟩, ⟨by (with_reducible repeat (first | apply Kd.R_alloc | apply Kd.R_drewN | apply Kd.R_drew)); exact Kd.R_mono HO_5.out (fun _ hk => ⟨hk.2, ⟨hk.1.1, hk.1.2⟩⟩)⟩, ⟨by (with_reducible repeat (first | apply Kd.R_alloc | apply Kd.R_drewN | apply Kd.R_drew)); exact Kd.R_mono HO341.out (fun _ hk => ⟨hk.1.1.2, ⟨hk.1.2, hk.2⟩⟩)⟩, ⟨by (with_reducible repeat (first | refine blk_drewN ?_ _ | refine blk_drew ?_ | refine blk_alloc ?_ _)); exact BK319.out⟩, ⟨by (with_reducible repeat (first | refine blk_drewN ?_ _ | refine blk_drew ?_ | refine blk_alloc ?_ _)); exact BK334.out⟩, ⟨bX2 HB GE319 GE334⟩⟩
      case round =>
       clear H'
       try clear c1
       try clear q1
       try clear c2
       try clear p2
       try clear c3
       try clear p3
       try clear q3
       try clear hx3
       try clear c4
       try clear c5
       try clear c6
       try clear p6
       try clear c7
       try clear c8
       try clear c8b0
       try clear c8b1
       try clear c10
       try clear c10b0
       try clear c11
       try clear c11b0
       try clear q17
       try clear c19
       try clear c21
       try clear c21b0
       try clear c21b1
       try clear c22
       try clear c23
       try clear c26
       try clear c26b0
       try clear c27
       try clear c27b0
       try clear c28
       try clear c29
       try clear c32
       try clear p32
       try clear q32
       try clear hx32
       try clear c42
       try clear c45
       try clear c46
       try clear c49
       try clear c49b0
       try clear c49b1
       try clear c50
       try clear c54
       try clear c57
       try clear c58
       try clear c62
       try clear p64
       try clear hcz14_0 hcz14_1
       try clear hcz16_0 hcz16_1
       try clear hcz20_0 hcz20_1 hcz20_2 hcz20_3 hcz20_4 hcz20_5
       try clear hcz24_0 hcz24_1 hcz24_2 hcz24_3 hcz24_4 hcz24_5
       try clear hcz30_0 hcz30_1 hcz30_2 hcz30_3 hcz30_4 hcz30_5
       try clear hcz33_0 hcz33_1 hcz33_2 hcz33_3 hcz33_4 hcz33_5
       try clear hcz37_0 hcz37_1
       try clear hcz39_0 hcz39_1
       try clear hcz43_0 hcz43_1
       try clear hcz47_0 hcz47_1
       try clear hcz51_0 hcz51_1
       try clear hcz53_0 hcz53_1
       try clear hcz55_0 hcz55_1
       try clear hcz57_0 hcz57_1
       try clear hcz63_0 hcz63_1
       try clear hcz6_0 hcz6_1
       try clear hfz14_0 hfz14_1
       try clear hfz16_0 hfz16_1
       try clear hfz20_0 hfz20_1 hfz20_2 hfz20_3 hfz20_4 hfz20_5
       try clear hfz24_0 hfz24_1 hfz24_2 hfz24_3 hfz24_4 hfz24_5
       try clear hfz30_0 hfz30_1 hfz30_2 hfz30_3 hfz30_4 hfz30_5
       try clear hfz33_0 hfz33_1 hfz33_2 hfz33_3 hfz33_4 hfz33_5
       try clear hfz37_0 hfz37_1
       try clear hfz39_0 hfz39_1
       try clear hfz43_0 hfz43_1
       try clear hfz47_0 hfz47_1
       try clear hfz51_0 hfz51_1
       try clear hfz53_0 hfz53_1
       try clear hfz55_0 hfz55_1
       try clear hfz57_0 hfz57_1
       try clear hfz63_0 hfz63_1
       try clear hfz6_0 hfz6_1
       try clear hx323_0
       try clear hx323_1
       try clear hx323_2
       try clear hx323_3
       try clear hx323_4
       try clear hx323_5
       try clear hx328_0
       try clear p2
       try clear p3
       try clear p32
       try clear p323
       try clear p328
       try clear p6
       try clear q1
       try clear q17
       try clear q3
       try clear q32
       try clear q323
       try clear q328
       obtain ⟨x5_2, x12_2, rfl, HA, HK2, HO_5, HO_11, BK319, BK334, HB⟩ := hrel
       cases gk with
       | zero => exact absurd HA.out (by simp [arbiterref07_steps.l1])
       | succ k2 =>
        have H := HA.out; clear HA; simp only [arbiterref07_steps.l1] at H
        by_cases c65 : x12_2 < (t339.length : Int)
        ·rw [if_pos c65] at H
         have c65b0 : decide (x12_2 < (t339.length : Int)) = true := decide_eq_true c65; clear c65
         by_cases c66 : 0 ≤ x12_2
         ·rw [if_pos c66] at H
          have c66b0 : decide (0 ≤ x12_2) = true := decide_eq_true c66; clear c66
          by_cases c67 : x5_2.length < 5864062014805
          ·rw [if_pos c67] at H
           have LMc67 := Aside0.mk c67; clear c67
           obtain ⟨y344, hy344⟩ : ∃ y_ : List (S24), y_ = (x5_2 ++ [(⟨wrap64 (((rd_T24 t339 x12_2).f0) + 1), (rd_T24 t339 x12_2).f1⟩ : S24)]) := ⟨_, rfl⟩
           replace H : (arbiterref07_steps.l1 k2 y344 t339 (wrap64 (x12_2 + 1))) = some r := by first | (rw [hy344]; with_reducible exact H) | (have H2_ := (Option.bind_some _ _).symm.trans H; rw [hy344]; with_reducible exact H2_) | (have H2_ := (Option.bind_some _ _).symm.trans H; with_reducible exact H2_) | with_reducible exact H | (rw [hy344]; exact H) | exact H
           have Ny344 := Aside0.mk hy344; clear hy344; have H' := Aside0.mk H; clear H; obtain ⟨Ao68, co68, eo68⟩ := Kd.R_slice HO_11.out; subst eo68
           try go_wp2
           have n0_ := Aside0.mk (Kd.R_drew HO_5.out); have n1_ := Aside0.mk (Kd.R_drew HO_11.out); have n2_ := Aside0.mk (blk_drew BK319.out); have n3_ := Aside0.mk (blk_drew BK334.out); have n4_ := Aside0.mk (below_drew1 HB.out); clear HO_5; clear HO_11; clear BK319; clear BK334; clear HB; have HO_5 := n0_; have HO_11 := n1_; have BK319 := n2_; have BK334 := n3_; have HB := n4_; clear n0_ n1_ n2_ n3_ n4_; have p342 : 0 ≤ (x12_2 : Int) := qX; have q342 : x12_2 < (t339.length : Int) := qX; obtain ⟨ad342, e342, hx342_0, hx342_1⟩ := at_T24 (Kd.R_reads' HO_11.out).2.2 x12_2 p342 q342
           cases e342
           replace p342 := eq_true p342; replace q342 := eq_true q342; have p343 : 0 ≤ (x12_2 : Int) := qX; have q343 : x12_2 < (t339.length : Int) := qX; obtain ⟨ad343, e343, hx343_0, hx343_1⟩ := at_T24 (Kd.R_reads' HO_11.out).2.2 x12_2 p343 q343
           obtain rfl : ad342 = ad343 := (by injection e343)
           replace p343 := eq_true p343; replace q343 := eq_true q343; refine start_ (n := 16) (S := fun w' => w'.cell? (ad342.add ((x12_2).toNat * 2)) = some (.int .i64 ((rd_T24 t339 x12_2).f0)) ∧ w'.cell? ⟨(ad342.add ((x12_2).toNat * 2)).block, (ad342.add ((x12_2).toNat * 2)).off + 1, none⟩ = some (.string ((rd_T24 t339 x12_2).f1)) ∧ w'.cell? (ad342.add ((x12_2).toNat * 2)) = some (.int .i64 ((rd_T24 t339 x12_2).f0)) ∧ w'.cell? ⟨(ad342.add ((x12_2).toNat * 2)).block, (ad342.add ((x12_2).toNat * 2)).off + 1, none⟩ = some (.string ((rd_T24 t339 x12_2).f1))) (ds := [13, 14]) #[false, false, false, false, false, false, false, false, false, false, false, false, false, false, false, false] (by kernel_rfl) rfl rfl ⟨hx342_0, hx342_1, hx343_0, hx343_1⟩ (fun hHeld => ?_); refine with_tabW arbiterref07_steps.tab21 arbiterref07_steps.bits21 (fun HT_ HW_ => ?_); generalize wr.drew = w69 at HO_5 HO_11 BK319 BK334 HB hx342_0 hx342_1 hx343_0 hx343_1 hHeld ⊢; refine pX HT_ 0 (some 85) ?_; refine pX HT_ 1 (some 86) ?_; refine pX HT_ 2 (some 87) ?_; refine pX HT_ 3 (some 88) ?_; refine pX HT_ 4 (some 89) ?_; refine pX HT_ 7 (some 92) ?_; refine pX HT_ 8 (some 93) ?_; refine pX HT_ 9 (some 94) ?_; refine pX HT_ 10 (some 95) ?_; refine tX HT_ HW_ hHeld 5 (some 90) ?_; refine pX HT_ 6 (some 91) ?_; refine tX HT_ HW_ hHeld 11 (some 96) ?_; refine pX HT_ 12 (some 97) ?_; refine last_ (i := 13) (N := some 98) #[true, true, true, true, true, true, true, true, true, true, true, true, true, true, false, false] rfl rfl (one_of HT_.out (by kernel_rfl)) (by decide) (fun K hK => ?_); refine value_ (w1 := ?_) (v := ?_) (by rfl) rfl ?_ ?_; rotate_left 2
           ·go_simp
            constructor
            ·rfl
            ·rfl
           refine hK.out _ _ ?_; clear hK K; refine nX (some 98) ?_; refine last_ (i := 14) (N := some 99) #[true, true, true, true, true, true, true, true, true, true, true, true, true, true, true, false] rfl rfl (one_of HT_.out (by kernel_rfl)) (by decide) (fun K hK => ?_); refine Kd.R_append_step k24 (w0 := w) w.heap.size (by rfl) (.tmp 85) (.tmp 98) 66 24 (.agg #[(.int .i64 0), (.string ⟨#[]⟩)]) 24 rfl Tryz.underlying66 info24 rfl (by decide) (by omega) u5 x5_2 (⟨wrap64 (((rd_T24 t339 x12_2).f0) + 1), (rd_T24 t339 x12_2).f1⟩ : S24) [.int .i64 (wrap64 (((rd_T24 t339 x12_2).f0) + 1)), .string ((rd_T24 t339 x12_2).f1)] (fun k_ => some k_ ≠ (.slice (some ad342) t339.length co68 : Value).ownBlock ∧ k_ ≠ gb319 ∧ k_ ≠ gb334) (fun _ => False) rfl rfl ?aP (fun _ hk => hk.elim) ?aF ?aO ?aB ?aS ?aL ?_
           (case aP => exact k24_mkM _ _ _ (⟨wrap64 (((rd_T24 t339 x12_2).f0) + 1), (rd_T24 t339 x12_2).f1⟩ : S24))
           (case aB => exact (bX2 HB GE319 GE334))
           (case aF => exact (fun k_ hk => ⟨Kd.fresh' (Kd.R_lt (rX HO_11)) k_ hk, Kd.freshB (g := gb319) (o := .cells #[.int .i64 a1_0, .string a1_1] 24 (0, 0)) (kX BK319) k_ hk, Kd.freshB (g := gb334) (o := .cells #[.int .i64 t332, .string t333] 24 (0, 0)) (kX BK334) k_ hk⟩))
           (case aO => exact (rX HO_5))
           (case aS => exact (below_size (bX2 HB GE319 GE334)))
           (case aL => have := LMc67.out; omega)
           intro v345 w70 ho hb hg hat; rw [← Ny344.out] at ho; have n0_ := Aside0.mk (Kd.R_after (ok := (fun k_ => k_ ≠ gb319 ∧ k_ ≠ gb334)) (by (with_reducible repeat (first | apply Kd.R_alloc | apply Kd.R_drewN | apply Kd.R_drew)); exact Kd.R_mono HO_11.out (fun _ hk => ⟨⟨hk.2.1, hk.2.2⟩, hk.1⟩)) hg hat); have n1_ := Aside0.mk (blk_grown (g := gb319) (o := .cells #[.int .i64 a1_0, .string a1_1] 24 (0, 0)) (kX BK319) hg (Kd.R_away HO_5.out (fun _ hk => hk.2.1))); have n2_ := Aside0.mk (blk_grown (g := gb334) (o := .cells #[.int .i64 t332, .string t333] 24 (0, 0)) (kX BK334) hg (Kd.R_away HO_5.out (fun _ hk => hk.2.2))); have n3_ := Aside0.mk (hb); have n4_ := Aside0.mk (ho); clear HO_11; clear BK319; clear BK334; clear HB; clear HO_5; have HO_11 := n0_; have BK319 := n1_; have BK334 := n2_; have HB := n3_; have HO346 := n4_; clear n0_ n1_ n2_ n3_ n4_; clear ho hb hg hat; refine hK.out _ _ ?_; clear hK K; refine nX (some 99) ?_; refine pX HT_ 15 (some 5) ?_; refine done_ (done_of HT_.out (by kernel_rfl)) ?_
           try go_wp2
           go_roundg k2
           case measure => have := HJ34.out; have := HK2.out; omega
           case rel => exact ⟨(y344), (wrap64 (x12_2 + 1)), vX, H', ⟨by have := HJ34.out; have := HK2.out; omega⟩, ⟨rX HO346⟩, ⟨by (with_reducible repeat (first | apply Kd.R_alloc | apply Kd.R_drewN | apply Kd.R_drew)); exact Kd.R_mono HO_11.out (fun _ hk => ⟨hk.2, ⟨hk.1.1, hk.1.2⟩⟩)⟩, ⟨by (with_reducible repeat (first | refine blk_drewN ?_ _ | refine blk_drew ?_ | refine blk_alloc ?_ _)); exact BK319.out⟩, ⟨by (with_reducible repeat (first | refine blk_drewN ?_ _ | refine blk_drew ?_ | refine blk_alloc ?_ _)); exact BK334.out⟩, ⟨bX2 HB GE319 GE334⟩⟩
          ·rw [if_neg c67] at H
           exact absurd H (by simp)
         ·rw [if_neg c66] at H
          exact absurd H (by simp)
        ·rw [if_neg c65] at H
         have c65b0 : decide (x12_2 < (t339.length : Int)) = false := decide_eq_false c65; clear c65; obtain rfl := Option.some.inj H; obtain ⟨Ao71, co71, eo71⟩ := Kd.R_slice HO_11.out; subst eo71; go_wp2; go_ret
         exact ⟨_, by first | rfl | (simp [errW_none, errW_some] <;> rfl) | (simp [*, errW_none, errW_some] <;> rfl), by (with_reducible repeat (first | apply Kd.R_alloc | apply Kd.R_drewN | apply Kd.R_drew)); exact Kd.R_mono HO_5.out (fun _ hk => trivial), bX2 HB GE319 GE334⟩
end Go.Proofs.YtaipkdglhfhhiaaGreatDoor.Pt

namespace Go.Proofs.YtaipkdglhfhhiaaGreatDoor.Pt
open Go.RowKit Go.Proofs.YtaipkdglhfhhiaaGreatDoorW.PrintWords Go.Proofs.YtaipkdglhfhhiaaGreatDoorW.PrintLast Go.Proofs.YtaipkdglhfhhiaaGreatDoorW.PrintMore
attribute [local go_sem] max2_int min2_int max_two min_two max_three min_three max_four min_four   -- for this text's walks alone
set_option linter.unusedVariables false
set_option linter.unusedSimpArgs false
def arbiterref07_Above.f (k : Nat) (a0 : List S85) (a1_0 : Int) (a1_1 : ByteArray) : Option ((List (S24)) × Int) := (arbiterref07_Loaded.f k a0 a1_0 a1_1).bind fun t348 => (if t348 = 0 then ((arbiterref07_steps.f k a0 a1_0 a1_1).bind fun t349 => (some (t349, 0))) else (some (([] : List (S24)), t348)))
set_option maxHeartbeats 8000000 in
set_option maxRecDepth 100000 in
theorem arbiterref07_Above.calls (k : Nat) (G_ : Nat) (a0 : List S85) (a1_0 : Int) (a1_1 : ByteArray) (r1 : List (S24)) (r2 : Int) (w : World) (hq0 : ROK w G_ a0) (h : arbiterref07_Above.f k a0 a1_0 a1_1 = some (r1, r2)) :
  Calls Tryz.prog 39 #[.pointer (some ⟨G_, 0, none⟩), .agg #[.int .i64 a1_0, .string a1_1]] w fun e w' => ∃ v0_ : Value, e = .returned (.tuple #[v0_, .int .i64 r2]) ∧ Kd.R k24 24 w' w.heap.size (fun _ => True) v0_ r1 ∧ Below w.heap.size w w' := by
 have hu24 := Tryz.underlying24; obtain ⟨AQa0, cQa0, hp0, hrq0, hcq0⟩ := ROK.open hq0; have HPa0 := Aside0.mk hp0; have HRqa0 := Aside0.mk hrq0; have HCqa0 := Aside0.mk hcq0; clear hp0 hrq0 hcq0; have HQa0 := Aside0.mk hq0; clear hq0; have HB := Aside0.mk (Below.refl w.heap.size w); have H : ((arbiterref07_Loaded.f k a0 a1_0 a1_1).bind fun t348 => (if t348 = 0 then ((arbiterref07_steps.f k a0 a1_0 a1_1).bind fun t349 => (some (t349, 0))) else (some (([] : List (S24)), t348)))) = some (r1, r2) := h; clear h; replace H := Option.bind_eq_some_iff.mp H; obtain ⟨t348, A30, H⟩ := H; replace H : (if t348 = 0 then ((arbiterref07_steps.f k a0 a1_0 a1_1).bind fun t349 => (some (t349, 0))) else (some (([] : List (S24)), t348))) = some (r1, r2) := H; have A3 := Aside0.mk A30; clear A30
 by_cases c4 : t348 = 0
 ·rw [if_pos c4] at H
  have c4b0 : (t348 == 0) = true := beq_iff_eq.mpr c4; have c4b1 : (t348 != 0) = false := bne_eq_false_iff_eq.mpr c4; clear c4; replace H := Option.bind_eq_some_iff.mp H; obtain ⟨t349, A50, H⟩ := H; replace H : (some (t349, 0)) = some (r1, r2) := H; have A5 := Aside0.mk A50; clear A50; simp only [Option.some.injEq, Prod.mk.injEq] at H; obtain ⟨rfl, rfl⟩ := H; go_enter Tryz.func39, Tryz.ntmps39; go_wp2_with (first | ((with_reducible refine gate_dst (N := 3) rfl ?_); refine eX 3 #[.int .i64 a1_0, .string a1_1] 24 ?_; intro gb347 hg w6 hbox hb; have n0_ := Aside0.mk (below_step (bX HB) hb); have n1_ := Aside0.mk (hbox); have n2_ := Aside0.mk ((by rw [hg]; exact (below_size (bX HB)) : w.heap.size ≤ gb347)); have n3_ := Aside0.mk ((by rw [hg]; exact (below_size (bX HB)) : w.heap.size ≤ gb347)); clear HB; have HB := n0_; have BK347 := n1_; have GW347 := n2_; have GE347 := n3_; clear n0_ n1_ n2_ n3_; clear hb hbox hg; obtain ⟨hcz7_0, hcz7_1, hfz7_0, hfz7_1⟩ := c2X BK347) | ((with_reducible refine gate_callee (f := 56) rfl ?_); refine gX (some 9) Tryz.func56 #[.pointer (some ⟨G_, 0, none⟩), .agg #[.int .i64 a1_0, .string a1_1]] ?_; (with_reducible refine (arbiterref07_Loaded.calls k G_ a0 a1_0 a1_1 t348 _ ?side1 A3.out).mono ?_); (case side1 => repeat (first | (with_reducible exact HQa0.out) | (with_reducible refine ROK.alloc ?_ _) | (with_reducible refine ROK.drewN ?_ _) | (with_reducible refine ROK.drew ?_) | exact ROK.below HQa0.out HB.out | exact ROK.below HQa0.out (bX1 HB GE347))); rintro e w8 ⟨rfl, hb⟩; refine ⟨_, rfl, ?_⟩; have n0_ := Aside0.mk (blk_below (kX BK347) hb); have n1_ := Aside0.mk (below_step (bX1 HB GE347) hb); clear BK347; clear HB; have BK347 := n0_; have HB := n1_; clear n0_ n1_; (try clear hb); (try clear hb2); (try clear hk); (try clear hi); obtain ⟨hcz9_0, hcz9_1, hfz9_0, hfz9_1⟩ := c2X BK347) | ((with_reducible refine gate_callee (f := 81) rfl ?_); refine gX (some 15) Tryz.func81 #[.pointer (some ⟨G_, 0, none⟩), .agg #[.int .i64 a1_0, .string a1_1]] ?_; (with_reducible refine (arbiterref07_steps.calls k G_ a0 a1_0 a1_1 t349 _ ?side1 A5.out).mono ?_); (case side1 => repeat (first | (with_reducible exact HQa0.out) | (with_reducible refine ROK.alloc ?_ _) | (with_reducible refine ROK.drewN ?_ _) | (with_reducible refine ROK.drew ?_) | exact ROK.below HQa0.out HB.out | exact ROK.below HQa0.out (bX1 HB GE347))); rintro e w10 ⟨v350, rfl, ho0, hb⟩; refine ⟨_, rfl, ?_⟩; have n0_ := Aside0.mk (Kd.R_lower (Kd.R_newB ho0 (g := gb347) (o := .cells #[.int .i64 a1_0, .string a1_1] 24 (0, 0)) (kX BK347)) (below_size (bX1 HB GE347))); have n1_ := Aside0.mk (blk_below (kX BK347) hb); have n2_ := Aside0.mk (below_step (bX1 HB GE347) hb); clear BK347; clear HB; have HO351 := n0_; have BK347 := n1_; have HB := n2_; clear n0_ n1_ n2_; (try clear hb); (try clear hb2); (try clear hk); (try clear hi); (try clear ho0))); go_ret2
  exact ⟨_, by first | rfl | (simp [errW_none, errW_some] <;> rfl) | (simp [*, errW_none, errW_some] <;> rfl), by (with_reducible repeat (first | apply Kd.R_alloc | apply Kd.R_drewN | apply Kd.R_drew)); exact Kd.R_mono HO351.out (fun _ hk => trivial), bX1 HB GE347⟩
 ·rw [if_neg c4] at H
  have c4b0 : (t348 == 0) = false := beq_eq_false_iff_ne.mpr c4; have c4b1 : (t348 != 0) = true := bne_iff_ne.mpr c4; simp only [Option.some.injEq, Prod.mk.injEq] at H; obtain ⟨rfl, rfl⟩ := H; go_enter Tryz.func39, Tryz.ntmps39; go_wp2_with (first | ((with_reducible refine gate_dst (N := 3) rfl ?_); refine eX 3 #[.int .i64 a1_0, .string a1_1] 24 ?_; intro gb347 hg w11 hbox hb; have n0_ := Aside0.mk (below_step (bX HB) hb); have n1_ := Aside0.mk (hbox); have n2_ := Aside0.mk ((by rw [hg]; exact (below_size (bX HB)) : w.heap.size ≤ gb347)); have n3_ := Aside0.mk ((by rw [hg]; exact (below_size (bX HB)) : w.heap.size ≤ gb347)); clear HB; have HB := n0_; have BK347 := n1_; have GW347 := n2_; have GE347 := n3_; clear n0_ n1_ n2_ n3_; clear hb hbox hg; obtain ⟨hcz12_0, hcz12_1, hfz12_0, hfz12_1⟩ := c2X BK347) | ((with_reducible refine gate_callee (f := 56) rfl ?_); refine gX (some 9) Tryz.func56 #[.pointer (some ⟨G_, 0, none⟩), .agg #[.int .i64 a1_0, .string a1_1]] ?_; (with_reducible refine (arbiterref07_Loaded.calls k G_ a0 a1_0 a1_1 t348 _ ?side1 A3.out).mono ?_); (case side1 => repeat (first | (with_reducible exact HQa0.out) | (with_reducible refine ROK.alloc ?_ _) | (with_reducible refine ROK.drewN ?_ _) | (with_reducible refine ROK.drew ?_) | exact ROK.below HQa0.out HB.out | exact ROK.below HQa0.out (bX1 HB GE347))); rintro e w13 ⟨rfl, hb⟩; refine ⟨_, rfl, ?_⟩; have n0_ := Aside0.mk (blk_below (kX BK347) hb); have n1_ := Aside0.mk (below_step (bX1 HB GE347) hb); clear BK347; clear HB; have BK347 := n0_; have HB := n1_; clear n0_ n1_; (try clear hb); (try clear hb2); (try clear hk); (try clear hi))); go_ret2
  exact ⟨_, by first | rfl | (simp [errW_none, errW_some] <;> rfl) | (simp [*, errW_none, errW_some] <;> rfl), by first | exact Kd.R_nil _ _ _ _ _ | exact Kd.N_nil _ _ _ _ _ | exact Kd.V_nil _ _ _ _ _ | exact Kd.Q_nil _ _ _ _ _ | exact Kd.S_nil _ _ _ _ _, bX1 HB GE347⟩
def arbiterref02_SameTypes.l0 : Nat → List (S24) → List (S24) → Int → Option (Bool)
 | 0, _, _, _ => none
 | k + 1, x0, x1, x5 => if x5 < (x0.length : Int) then (if 0 ≤ x5 then (if x5 < (x1.length : Int) then ((arbiterref02_Same.f ((rd_T24 x0 x5).f0) ((rd_T24 x0 x5).f1) ((rd_T24 x1 x5).f0) ((rd_T24 x1 x5).f1)).bind fun t354 => (if t354 = true then (arbiterref02_SameTypes.l0 k x0 x1 (wrap64 (x5 + 1))) else (some false))) else (none)) else (none)) else (some true)
def arbiterref02_SameTypes.f (k : Nat) (l0 : List (S24)) (l1 : List (S24)) : Option (Bool) := if (l0.length : Int) = (l1.length : Int) then (arbiterref02_SameTypes.l0 k l0 l1 0) else (some false)
def arbiterref02_SameTypes.T6 : Bool × List (List Nat × List Nat) := (true, [([], []), ([], []), ([0, 1], [0, 1]), ([2], [2]), ([], []), ([], []), ([4, 5], [4, 5]), ([6], [6]), ([3, 7], [3, 7]), ([8], [8])])
def arbiterref02_SameTypes.B6 : List Nat := [0, 0, 3, 7, 0, 0, 48, 112, 255, 511]
theorem arbiterref02_SameTypes.tab6 : rtab .any (opsOf Tryz.f40 6) = arbiterref02_SameTypes.T6 := by kernel_rfl
theorem arbiterref02_SameTypes.bits6 : waitsOk arbiterref02_SameTypes.T6.2 arbiterref02_SameTypes.B6 = true := by kernel_rfl
set_option maxHeartbeats 8000000 in
set_option maxRecDepth 100000 in
theorem arbiterref02_SameTypes.calls (k : Nat) (A0 : Option Addr) (c0 : Nat) (l0 : List (S24)) (A1 : Option Addr) (c1 : Nat) (l1 : List (S24)) (r : Bool) (w : World) (hr0 : Kd.C k24 w A0 l0.length l0) (hc0 : l0.length ≤ c0) (hr1 : Kd.C k24 w A1 l1.length l1) (hc1 : l1.length ≤ c1) (h : arbiterref02_SameTypes.f k l0 l1 = some r) :
  Calls Tryz.prog 40 #[.slice A0 l0.length c0, .slice A1 l1.length c1] w fun e w' => e = .returned (.bool r) ∧ Below w.heap.size w w' := by
 have hu24 := Tryz.underlying24; have HR0 := Aside0.mk hr0; have HC0 := Aside0.mk hc0; clear hr0 hc0; have HR1 := Aside0.mk hr1; have HC1 := Aside0.mk hc1; clear hr1 hc1; have HB := Aside0.mk (Below.refl w.heap.size w); have H : (if (l0.length : Int) = (l1.length : Int) then (arbiterref02_SameTypes.l0 k l0 l1 0) else (some false)) = some r := h; clear h
 by_cases c3 : (l0.length : Int) = (l1.length : Int)
 ·rw [if_pos c3] at H
  have c3b0 : ((l0.length : Int) == (l1.length : Int)) = true := beq_iff_eq.mpr c3; have c3b1 : ((l0.length : Int) != (l1.length : Int)) = false := bne_eq_false_iff_eq.mpr c3
  have c3b2 : (l0.length == l1.length) = true := by first | simpa using c3 | (simp at c3 ⊢; omega)
  clear c3; have H' := Aside0.mk H; clear H; go_enter Tryz.func40, Tryz.ntmps40; go_wp2
  go_loopg [5] k (fun kq v5 w' => ∃ (x5_1 : Int), v5 = .int .i64 x5_1 ∧ Aside0 (arbiterref02_SameTypes.l0 kq l0 l1 x5_1 = some r) ∧ Aside0 (kq ≤ k) ∧ Aside0 (Below w.heap.size w w'))
  case atStart => exact ⟨(0), vX, H', ⟨Nat.le_refl _⟩, ⟨bX HB⟩⟩
  case round =>
   clear H'
   try clear c1
   try clear p2
   try clear c3
   try clear c3b0
   try clear c3b1
   try clear c3b2
   obtain ⟨x5_1, rfl, HA, HK1, HB⟩ := hrel
   cases gk with
   | zero => exact absurd HA.out (by simp [arbiterref02_SameTypes.l0])
   | succ k1 =>
    have H := HA.out; clear HA; simp only [arbiterref02_SameTypes.l0] at H
    by_cases c4 : x5_1 < (l0.length : Int)
    ·rw [if_pos c4] at H
     have c4b0 : decide (x5_1 < (l0.length : Int)) = true := decide_eq_true c4; clear c4
     by_cases c5 : 0 ≤ x5_1
     ·rw [if_pos c5] at H
      have c5b0 : decide (0 ≤ x5_1) = true := decide_eq_true c5; clear c5
      by_cases c6 : x5_1 < (l1.length : Int)
      ·rw [if_pos c6] at H
       have c6b0 : decide (x5_1 < (l1.length : Int)) = true := decide_eq_true c6; clear c6; replace H := Option.bind_eq_some_iff.mp H; obtain ⟨t354, A70, H⟩ := H; replace H : (if t354 = true then (arbiterref02_SameTypes.l0 k1 l0 l1 (wrap64 (x5_1 + 1))) else (some false)) = some r := H; have A7 := Aside0.mk A70; clear A70
       by_cases c8 : t354 = true
       ·subst c8
        have H1 : (arbiterref02_SameTypes.l0 k1 l0 l1 (wrap64 (x5_1 + 1))) = some r := by rw [if_pos rfl] at H; exact H
        clear H; have H := H1; clear H1; have H' := Aside0.mk H; clear H
        try go_wp2
        have n0_ := Aside0.mk (below_drew1 HB.out); clear HB; have HB := n0_; clear n0_; have p352 : 0 ≤ (x5_1 : Int) := qX; have q352 : x5_1 < (l0.length : Int) := qX; obtain ⟨ad352, e352, hx352_0, hx352_1⟩ := at_T24 HR0.out x5_1 p352 q352; have hw352_1 := hx352_1; have hw352_0 := hx352_0
        cases e352
        replace hx352_0 := (HB.out.cell (World.block_lt_of_cell? w _ hx352_0)).trans hx352_0; replace hx352_1 := (HB.out.cell (World.block_lt_of_cell? w _ hx352_1)).trans hx352_1; replace p352 := eq_true p352; replace q352 := eq_true q352; have p353 : 0 ≤ (x5_1 : Int) := qX; have q353 : x5_1 < (l1.length : Int) := qX; obtain ⟨ad353, e353, hx353_0, hx353_1⟩ := at_T24 HR1.out x5_1 p353 q353; have hw353_1 := hx353_1; have hw353_0 := hx353_0
        cases e353
        replace hx353_0 := (HB.out.cell (World.block_lt_of_cell? w _ hx353_0)).trans hx353_0; replace hx353_1 := (HB.out.cell (World.block_lt_of_cell? w _ hx353_1)).trans hx353_1; replace p353 := eq_true p353; replace q353 := eq_true q353; refine start_ (n := 10) (S := fun w' => w'.cell? (ad352.add ((x5_1).toNat * 2)) = some (.int .i64 ((rd_T24 l0 x5_1).f0)) ∧ w'.cell? ⟨(ad352.add ((x5_1).toNat * 2)).block, (ad352.add ((x5_1).toNat * 2)).off + 1, none⟩ = some (.string ((rd_T24 l0 x5_1).f1)) ∧ w'.cell? (ad353.add ((x5_1).toNat * 2)) = some (.int .i64 ((rd_T24 l1 x5_1).f0)) ∧ w'.cell? ⟨(ad353.add ((x5_1).toNat * 2)).block, (ad353.add ((x5_1).toNat * 2)).off + 1, none⟩ = some (.string ((rd_T24 l1 x5_1).f1))) (ds := []) #[false, false, false, false, false, false, false, false, false, false] (by kernel_rfl) rfl rfl ⟨((HB.out.cell (World.block_lt_of_cell? w _ hw352_0)).trans hw352_0), ((HB.out.cell (World.block_lt_of_cell? w _ hw352_1)).trans hw352_1), ((HB.out.cell (World.block_lt_of_cell? w _ hw353_0)).trans hw353_0), ((HB.out.cell (World.block_lt_of_cell? w _ hw353_1)).trans hw353_1)⟩ (fun hHeld => ?_); refine with_tabW arbiterref02_SameTypes.tab6 arbiterref02_SameTypes.bits6 (fun HT_ HW_ => ?_); generalize wr.drew = w9 at HB hx352_0 hx352_1 hx353_0 hx353_1 hHeld ⊢; refine pX HT_ 0 (some 17) ?_; refine pX HT_ 1 (some 18) ?_; refine pX HT_ 2 (some 19) ?_; refine pX HT_ 4 (some 21) ?_; refine pX HT_ 5 (some 22) ?_; refine pX HT_ 6 (some 23) ?_; refine tX HT_ HW_ hHeld 3 (some 20) ?_; refine tX HT_ HW_ hHeld 7 (some 24) ?_; refine oX HT_ 8 (some 25) (fun K hK => ?_); refine hX Tryz.func35 #[.agg #[.int .i64 ((rd_T24 l0 x5_1).f0), .string ((rd_T24 l0 x5_1).f1)], .agg #[.int .i64 ((rd_T24 l1 x5_1).f0), .string ((rd_T24 l1 x5_1).f1)]] ?_
        with_reducible refine (arbiterref02_Same.calls ((rd_T24 l0 x5_1).f0) ((rd_T24 l0 x5_1).f1) ((rd_T24 l1 x5_1).f0) ((rd_T24 l1 x5_1).f1) true _ A7.out).mono ?_
        rintro e w10 ⟨rfl, hb⟩; refine ⟨_, rfl, ?_⟩; have n0_ := Aside0.mk (below_step (bX HB) hb); clear HB; have HB := n0_; clear n0_
        (try clear hb)
        (try clear hb2)
        (try clear hk)
        (try clear hi)
        refine hK.out _ _ ⟨((HB.out.cell (World.block_lt_of_cell? w _ hw352_0)).trans hw352_0), ((HB.out.cell (World.block_lt_of_cell? w _ hw352_1)).trans hw352_1), ((HB.out.cell (World.block_lt_of_cell? w _ hw353_0)).trans hw353_0), ((HB.out.cell (World.block_lt_of_cell? w _ hw353_1)).trans hw353_1)⟩ (fun hHeld => ?_); clear hK K; refine nX (some 25) ?_; refine pX HT_ 9 (some 26) ?_; refine done_ (done_of HT_.out (by kernel_rfl)) ?_
        try go_wp2
        go_roundg k1
        case measure => have := HK1.out; omega
        case rel => exact ⟨(wrap64 (x5_1 + 1)), vX, H', ⟨by have := HK1.out; omega⟩, ⟨bX HB⟩⟩
       ·replace c8 := Bool.eq_false_iff.mpr c8
        subst c8
        have H1 : (some false) = some r := by rw [if_neg (show ¬ (false = true) by decide)] at H; exact H
        clear H; have H := H1; clear H1; obtain rfl := Option.some.inj H
        try go_wp2
        have n0_ := Aside0.mk (below_drew1 HB.out); clear HB; have HB := n0_; clear n0_; have p352 : 0 ≤ (x5_1 : Int) := qX; have q352 : x5_1 < (l0.length : Int) := qX; obtain ⟨ad352, e352, hx352_0, hx352_1⟩ := at_T24 HR0.out x5_1 p352 q352; have hw352_1 := hx352_1; have hw352_0 := hx352_0
        cases e352
        replace hx352_0 := (HB.out.cell (World.block_lt_of_cell? w _ hx352_0)).trans hx352_0; replace hx352_1 := (HB.out.cell (World.block_lt_of_cell? w _ hx352_1)).trans hx352_1; replace p352 := eq_true p352; replace q352 := eq_true q352; have p353 : 0 ≤ (x5_1 : Int) := qX; have q353 : x5_1 < (l1.length : Int) := qX; obtain ⟨ad353, e353, hx353_0, hx353_1⟩ := at_T24 HR1.out x5_1 p353 q353; have hw353_1 := hx353_1; have hw353_0 := hx353_0
        cases e353
        replace hx353_0 := (HB.out.cell (World.block_lt_of_cell? w _ hx353_0)).trans hx353_0; replace hx353_1 := (HB.out.cell (World.block_lt_of_cell? w _ hx353_1)).trans hx353_1; replace p353 := eq_true p353; replace q353 := eq_true q353; refine start_ (n := 10) (S := fun w' => w'.cell? (ad352.add ((x5_1).toNat * 2)) = some (.int .i64 ((rd_T24 l0 x5_1).f0)) ∧ w'.cell? ⟨(ad352.add ((x5_1).toNat * 2)).block, (ad352.add ((x5_1).toNat * 2)).off + 1, none⟩ = some (.string ((rd_T24 l0 x5_1).f1)) ∧ w'.cell? (ad353.add ((x5_1).toNat * 2)) = some (.int .i64 ((rd_T24 l1 x5_1).f0)) ∧ w'.cell? ⟨(ad353.add ((x5_1).toNat * 2)).block, (ad353.add ((x5_1).toNat * 2)).off + 1, none⟩ = some (.string ((rd_T24 l1 x5_1).f1))) (ds := []) #[false, false, false, false, false, false, false, false, false, false] (by kernel_rfl) rfl rfl ⟨((HB.out.cell (World.block_lt_of_cell? w _ hw352_0)).trans hw352_0), ((HB.out.cell (World.block_lt_of_cell? w _ hw352_1)).trans hw352_1), ((HB.out.cell (World.block_lt_of_cell? w _ hw353_0)).trans hw353_0), ((HB.out.cell (World.block_lt_of_cell? w _ hw353_1)).trans hw353_1)⟩ (fun hHeld => ?_); refine with_tabW arbiterref02_SameTypes.tab6 arbiterref02_SameTypes.bits6 (fun HT_ HW_ => ?_); generalize wr.drew = w11 at HB hx352_0 hx352_1 hx353_0 hx353_1 hHeld ⊢; refine pX HT_ 0 (some 17) ?_; refine pX HT_ 1 (some 18) ?_; refine pX HT_ 2 (some 19) ?_; refine pX HT_ 4 (some 21) ?_; refine pX HT_ 5 (some 22) ?_; refine pX HT_ 6 (some 23) ?_; refine tX HT_ HW_ hHeld 3 (some 20) ?_; refine tX HT_ HW_ hHeld 7 (some 24) ?_; refine oX HT_ 8 (some 25) (fun K hK => ?_); refine hX Tryz.func35 #[.agg #[.int .i64 ((rd_T24 l0 x5_1).f0), .string ((rd_T24 l0 x5_1).f1)], .agg #[.int .i64 ((rd_T24 l1 x5_1).f0), .string ((rd_T24 l1 x5_1).f1)]] ?_
        with_reducible refine (arbiterref02_Same.calls ((rd_T24 l0 x5_1).f0) ((rd_T24 l0 x5_1).f1) ((rd_T24 l1 x5_1).f0) ((rd_T24 l1 x5_1).f1) false _ A7.out).mono ?_
        rintro e w12 ⟨rfl, hb⟩; refine ⟨_, rfl, ?_⟩; have n0_ := Aside0.mk (below_step (bX HB) hb); clear HB; have HB := n0_; clear n0_
        (try clear hb)
        (try clear hb2)
        (try clear hk)
        (try clear hi)
        refine hK.out _ _ ⟨((HB.out.cell (World.block_lt_of_cell? w _ hw352_0)).trans hw352_0), ((HB.out.cell (World.block_lt_of_cell? w _ hw352_1)).trans hw352_1), ((HB.out.cell (World.block_lt_of_cell? w _ hw353_0)).trans hw353_0), ((HB.out.cell (World.block_lt_of_cell? w _ hw353_1)).trans hw353_1)⟩ (fun hHeld => ?_); clear hK K; refine nX (some 25) ?_; refine pX HT_ 9 (some 26) ?_; refine done_ (done_of HT_.out (by kernel_rfl)) ?_
        try go_wp2
        go_ret
        exact ⟨by first | rfl | (simp [errW_none, errW_some] <;> rfl) | (simp [*, errW_none, errW_some] <;> rfl), bX HB⟩
      ·rw [if_neg c6] at H
       exact absurd H (by simp)
     ·rw [if_neg c5] at H
      exact absurd H (by simp)
    ·rw [if_neg c4] at H
     have c4b0 : decide (x5_1 < (l0.length : Int)) = false := decide_eq_false c4; clear c4; obtain rfl := Option.some.inj H; go_wp2; go_ret
     exact ⟨by first | rfl | (simp [errW_none, errW_some] <;> rfl) | (simp [*, errW_none, errW_some] <;> rfl), bX HB⟩
 ·rw [if_neg c3] at H
  have c3b0 : ((l0.length : Int) == (l1.length : Int)) = false := beq_eq_false_iff_ne.mpr c3; have c3b1 : ((l0.length : Int) != (l1.length : Int)) = true := bne_iff_ne.mpr c3
  have c3b2 : (l0.length == l1.length) = false := by first | simpa using c3 | (simp at c3 ⊢; omega)
  obtain rfl := Option.some.inj H; go_enter Tryz.func40, Tryz.ntmps40; go_wp2; go_ret
  exact ⟨by first | rfl | (simp [errW_none, errW_some] <;> rfl) | (simp [*, errW_none, errW_some] <;> rfl), bX HB⟩
end Go.Proofs.YtaipkdglhfhhiaaGreatDoor.Pt

namespace Go.Proofs.YtaipkdglhfhhiaaGreatDoor.Pt
open Go Go.RowKit Go.Proofs.YtaipkdglhfhhiaaGreatDoor.Nm Go.Proofs.YtaipkdglhfhhiaaGreatDoor.Ty Go.Proofs.YtaipkdglhfhhiaaGreatDoor.Hi Go.Proofs.YtaipkdglhfhhiaaGreatDoorW.PrintWords Go.Proofs.YtaipkdglhfhhiaaGreatDoorW.PrintLast Go.Proofs.YtaipkdglhfhhiaaGreatDoorW.PrintMore
set_option linter.unusedVariables false
set_option linter.unusedSimpArgs false
set_option maxRecDepth 100000
def stepL (es : List Ent) (d : Int) (s : ByteArray) : List S24 :=
 if aCond d s = true then [⟨d - 1, sObject⟩, ⟨d - 1, sCloneable⟩, ⟨d - 1, sSerializable⟩] else if s.toList = [] then [] else
 (if (classF es (nameF es s).1).1.f1.toList = [] then [] else [⟨d, (classF es (nameF es s).1).1.f1⟩]) ++ (classF es (nameF es s).1).1.f2.map (fun n => ⟨d, n⟩)
theorem above_step {es : List Ent} {d : Int} {s : ByteArray} (h : loadF es d s = 0) : aboveTF es d s = (stepL es d s, 0) := by
 unfold aboveTF stepL; rw [if_neg (fun h2 => h2 h)]
 split
 ·rfl
 ·split <;> rfl
theorem steps_l0 (L : List ByteArray) (x0 x1 : ByteArray) (x3 x4 : Int) (x5 : List S105) (hL : L.length ≤ 1000) : ∀ (d j k : Nat) (acc : List S24), j + d = L.length → d < k → acc.length ≤ 1000 + j →
  arbiterref07_steps.l0 k acc j x0 x1 L x3 x4 x5 = some (acc ++ (L.drop j).map (fun n => ⟨0, n⟩)) := by
 intro d
 induction d with
 | zero =>
  intro j k acc hj hk ha
  obtain ⟨k, rfl⟩ : ∃ m, k = m + 1 := ⟨k - 1, by omega⟩
  rw [arbiterref07_steps.l0, if_neg (by omega), List.drop_eq_nil_of_le (by omega), List.map_nil, List.append_nil]
 | succ d ih =>
  intro j k acc hj hk ha
  obtain ⟨k, rfl⟩ : ∃ m, k = m + 1 := ⟨k - 1, by omega⟩
  have hlt : j < L.length := by omega
  have he : rdOf ByteArray.empty L (j : Int) = L[j] := by simp [rdOf, List.getD_eq_getElem?_getD, List.getElem?_eq_getElem hlt]
  rw [arbiterref07_steps.l0, if_pos (by omega), if_pos (by omega), if_pos (by omega), he, num_wrap (by omega), ih (j + 1) k _ (by omega) (by omega) (by rw [List.length_append]; simp; omega), List.drop_eq_getElem_cons hlt, List.map_cons, List.append_assoc]
  rfl
theorem steps_l1 (T : List S24) (hT : T.length ≤ 2000) (hr : ∀ t ∈ T, -1000 ≤ t.f0 ∧ t.f0 ≤ 1000) : ∀ (d j k : Nat) (acc : List S24), j + d = T.length → d < k → acc.length ≤ 1000 + j →
  arbiterref07_steps.l1 k acc T j = some (acc ++ (T.drop j).map (fun t => ⟨t.f0 + 1, t.f1⟩)) := by
 intro d
 induction d with
 | zero =>
  intro j k acc hj hk ha
  obtain ⟨k, rfl⟩ : ∃ m, k = m + 1 := ⟨k - 1, by omega⟩
  rw [arbiterref07_steps.l1, if_neg (by omega), List.drop_eq_nil_of_le (by omega), List.map_nil, List.append_nil]
 | succ d ih =>
  intro j k acc hj hk ha
  obtain ⟨k, rfl⟩ : ∃ m, k = m + 1 := ⟨k - 1, by omega⟩
  have hlt : j < T.length := by omega
  have he : rd_T24 T (j : Int) = T[j] := by simp [rd_T24, List.getD_eq_getElem?_getD, List.getElem?_eq_getElem hlt]
  have h1 := hr _ (List.getElem_mem hlt); rw [arbiterref07_steps.l1, if_pos (by omega), if_pos (by omega), if_pos (by omega), he, num_wrap (by omega), show wrap64 ((T[j]).f0 + 1) = (T[j]).f0 + 1 by unfold wrap64; omega, ih (j + 1) k _ (by omega) (by omega) (by rw [List.length_append]; simp; omega), List.drop_eq_getElem_cons hlt, List.map_cons, List.append_assoc]
  rfl
theorem stepL_small {es : List Ent} (h : Thy es) {d : Int} {s : ByteArray} (h0 : 0 ≤ d) (h1 : d ≤ 255) : (stepL es d s).length ≤ 100 ∧ ∀ t ∈ stepL es d s, -1000 ≤ t.f0 ∧ t.f0 ≤ 1000 := by
 have hc : (classF es (nameF es s).1).1.f2.length ≤ 20 := by
  by_cases hi : 0 ≤ (nameF es s).1 ∧ (nameF es s).1 < es.length
  ·rw [classF_in hi]; exact (h.src_ hi.1 hi.2).len
  ·rw [classF_out hi]; decide
 unfold stepL
 split
 ·refine ⟨by simp, fun t ht => ?_⟩
  simp only [List.mem_cons, List.not_mem_nil, or_false] at ht
  rcases ht with rfl | rfl | rfl <;> exact ⟨by show -1000 ≤ d - 1; omega, by show d - 1 ≤ 1000; omega⟩
 ·split
  ·exact ⟨by simp, fun t ht => by cases ht⟩
  ·refine ⟨?_, fun t ht => ?_⟩
   ·rw [List.length_append, List.length_map]
    split <;> simp <;> omega
   ·rcases List.mem_append.1 ht with ht | ht
    ·split at ht
     ·cases ht
     ·obtain rfl := List.mem_singleton.1 ht
      exact ⟨by show -1000 ≤ d; omega, by show d ≤ 1000; omega⟩
    ·obtain ⟨n, _, rfl⟩ := List.mem_map.1 ht
     exact ⟨by show -1000 ≤ d; omega, by show d ≤ 1000; omega⟩
theorem aCond_zero (s : ByteArray) : aCond 0 s = false := by
 unfold aCond; rw [show decide ((0 : Int) > 0) = false from rfl, Bool.false_and]
theorem aCond_pos {d : Int} (s : ByteArray) (h : 0 < d) : aCond d s = (s.toList == ([] : List UInt8) || s.toList == ([79, 98, 106, 101, 99, 116] : List UInt8)) := by
 unfold aCond; rw [decide_eq_true h, Bool.true_and]
theorem stepL_up {es : List Ent} {d : Int} {s : ByteArray} (h0 : 0 ≤ d) (hc : d = 0 → s.toList ≠ [] ∧ s.toList ≠ [79, 98, 106, 101, 99, 116]) : stepL es (d + 1) s = (stepL es d s).map (fun t => ⟨t.f0 + 1, t.f1⟩) := by
 have hA : aCond (d + 1) s = aCond d s := by
  by_cases hd : d = 0
  ·obtain ⟨h1, h2⟩ := hc hd
   rw [hd, aCond_zero, aCond_pos s (by decide), beq_eq_false_iff_ne.2 h1, beq_eq_false_iff_ne.2 h2]
   rfl
  ·rw [aCond_pos s (by omega), aCond_pos s (by omega)]
 unfold stepL; rw [hA]
 by_cases c1 : aCond d s = true
 ·rw [if_pos c1, if_pos c1]
  simp only [List.map_cons, List.map_nil]; rw [show d + 1 - 1 = d - 1 + 1 by omega]
 ·rw [if_neg c1, if_neg c1]
  by_cases c2 : s.toList = []
  ·rw [if_pos c2, if_pos c2]; rfl
  ·rw [if_neg c2, if_neg c2, List.map_append, List.map_map]
   congr 1
   split <;> rfl
theorem rsteps_ok {es : List Ent} (h : Thy es) (hl : es.length ≤ 1000) (s : ByteArray) (hs : s.toList ≠ [] → 0 ≤ (nameF es s).1 ∧ (nameF es s).1 < es.length) : ∀ (n k : Nat), n ≤ 255 → 2 * n + 1200 < k → arbiterref07_steps.f k (csOf es) (n : Int) s = some (stepL es n s) := by
 intro n
 induction n with
 | zero =>
  intro k hn hk
  obtain ⟨k, rfl⟩ : ∃ m, k = m + 2 := ⟨k - 2, by omega⟩
  rw [arbiterref07_steps.f, isint_ok, Option.bind_some]; unfold stepL; rw [show ((0 : Nat) : Int) = 0 from rfl, aCond_zero, if_neg (by decide : ¬ false = true)]
  by_cases c : s.toList = []
  ·rw [show intT 0 s = true by unfold intT; rw [c]; rfl, if_pos rfl, if_pos c]
  ·obtain ⟨i0, i1⟩ := hs c
   rw [show intT 0 s = false by unfold intT; rw [beq_eq_false_iff_ne.2 c]; rfl, if_neg (by decide), if_pos rfl, byname_ok es hl s (k + 1) (by omega), Option.bind_some, if_pos i0, cs_len, if_pos i1, cs_rd i0 i1, if_neg c, classF_in ⟨i0, i1⟩]; have hl2 := (h.src_ i0 i1).len
   have hj : ∀ acc : List S24, acc.length ≤ 1 → arbiterref07_steps.j0 (k + 1) acc (ent es (nameF es s).1).c.f0 (ent es (nameF es s).1).c.f1 (ent es (nameF es s).1).c.f2 (ent es (nameF es s).1).c.f3 (ent es (nameF es s).1).c.f4 (ent es (nameF es s).1).c.f5 = some (acc ++ (ent es (nameF es s).1).c.f2.map (fun n => ⟨0, n⟩)) := by
    intro acc ha; rw [arbiterref07_steps.j0]
    exact steps_l0 _ _ _ _ _ _ (by omega) (ent es (nameF es s).1).c.f2.length 0 k acc (by omega) (by omega) (by omega)
   by_cases e0 : (nameF es s).1 = 0
   ·have hO : objC.f1.toList = [] := by first | rfl | decide +kernel
    rw [if_pos e0, hj [] (by simp), e0, h.obj.1]
    show some (([] : List S24) ++ objC.f2.map _) = some ((if objC.f1.toList = [] then [] else [⟨0, objC.f1⟩]) ++ objC.f2.map _)
    rw [if_pos hO]
   ·have hne : (ent es (nameF es s).1).c.f1.toList ≠ [] := by
     rw [← (h.src_ i0 i1).sup (by omega)]; obtain ⟨a1, a2, _, _⟩ := h.sup _ _ (get_ent i0 i1) (by omega)
     exact valid_ne (h.valid ⟨a1, by omega⟩)
    rw [if_neg e0, if_pos (by simp), List.nil_append, hj _ (by simp), if_neg hne]
 | succ n ih =>
  intro k hn hk
  obtain ⟨k, rfl⟩ : ∃ m, k = m + 2 := ⟨k - 2, by omega⟩
  have e1 : ((n + 1 : Nat) : Int) = (n : Int) + 1 := by omega
  have i1 : intT ((n + 1 : Nat) : Int) s = false := by
   unfold intT; rw [beq_eq_false_iff_ne.2 (by omega : ((n + 1 : Nat) : Int) ≠ 0), Bool.false_and]
  rw [arbiterref07_steps.f, isint_ok, i1, Option.bind_some, if_neg (by decide), if_neg (by omega), show arbiterref07_lower.f ((n + 1 : Nat) : Int) s = some (wrap64 (((n + 1 : Nat) : Int) - 1), s) from rfl, Option.bind_some, show wrap64 (((n + 1 : Nat) : Int) - 1) = (n : Int) by unfold wrap64; omega]
  show (arbiterref07_IsInt.f (n : Int) s).bind _ = _
  rw [isint_ok, Option.bind_some]
  have htop : ∀ (hd : n = 0) (hc : s.toList = [] ∨ s.toList = [79, 98, 106, 101, 99, 116]) , arbiterref07_steps.j2 (k + 1) (csOf es) [] true (n : Int) s = some (stepL es ((n + 1 : Nat) : Int) s) := by
   rintro rfl hc; rw [arbiterref07_steps.j2, if_pos rfl]; unfold stepL
   rw [if_pos (by
    rw [aCond_pos s (by decide)]
    rcases hc with hc | hc <;> rw [hc] <;> rfl)]
   rfl
  have hno : (n = 0 → s.toList ≠ [] ∧ s.toList ≠ [79, 98, 106, 101, 99, 116]) → arbiterref07_steps.j2 (k + 1) (csOf es) [] false (n : Int) s = some (stepL es ((n + 1 : Nat) : Int) s) := by
   intro hc; rw [arbiterref07_steps.j2, if_neg (by decide), ih k (by omega) (by omega), Option.bind_some]; obtain ⟨t1, t2⟩ := stepL_small h (s := s) (show (0 : Int) ≤ n by omega) (by omega); rw [show (0 : Int) = ((0 : Nat) : Int) from rfl, steps_l1 _ (by omega) t2 _ 0 k [] (Nat.zero_add _) (by omega) (by simp), List.drop_zero, List.nil_append, e1, stepL_up (by omega) (fun hd => hc (by omega))]
  by_cases hn0 : n = 0
  ·by_cases c1 : s.toList = []
   ·rw [show intT (n : Int) s = true by unfold intT; rw [hn0, c1]; rfl, if_pos rfl]
    exact htop hn0 (.inl c1)
   ·rw [show intT (n : Int) s = false by unfold intT; rw [beq_eq_false_iff_ne.2 c1, Bool.and_false], if_neg (by decide), if_pos (by omega)]
    by_cases c2 : s.toList = [79, 98, 106, 101, 99, 116]
    ·rw [beq_iff_eq.2 c2]
     exact htop hn0 (.inr c2)
    ·rw [beq_eq_false_iff_ne.2 c2]
     exact hno fun _ => ⟨c1, c2⟩
  ·rw [show intT (n : Int) s = false by unfold intT; rw [beq_eq_false_iff_ne.2 (by omega : (n : Int) ≠ 0), Bool.false_and], if_neg (by decide), if_neg (by omega)]
   exact hno fun hd => absurd hd hn0
theorem rabove_ok {es : List Ent} (h : Thy es) (hl : es.length ≤ 1000) (d : Int) (s : ByteArray) (k : Nat) (hk : 2000 < k) : arbiterref07_Above.f k (csOf es) d s = some (aboveTF es d s) := by
 unfold arbiterref07_Above.f; rw [rload_ok es hl d s k (by omega), Option.bind_some]
 by_cases h0 : loadF es d s = 0
 ·obtain ⟨_, d0, d1⟩ := load_size h0
  obtain ⟨n, rfl⟩ : ∃ n : Nat, d = n := ⟨d.toNat, by omega⟩
  rw [if_pos h0, rsteps_ok h hl s (fun hs => ⟨(name_at h0 hs).1, (name_at h0 hs).2.1⟩) n k (by omega) (by omega), Option.bind_some, above_step h0]
 ·rw [if_neg h0]
  unfold aboveTF; rw [if_pos h0]
theorem above_small {es : List Ent} (h : Thy es) (d : Int) (s : ByteArray) : (aboveTF es d s).1.length ≤ 100 := by
 by_cases h0 : loadF es d s = 0
 ·obtain ⟨_, d0, d1⟩ := load_size h0
  rw [above_step h0]
  exact (stepL_small h d0 d1).1
 ·unfold aboveTF
  rw [if_pos h0]
  exact Nat.zero_le _
theorem above_tot {es : List Ent} (h : Thy es) (d : Int) (s : ByteArray) : arrays_Above.f es d s = some (aboveTF es d s) := by
 unfold arrays_Above.f; rw [if_pos]
 by_cases hi : 0 ≤ (nameF es s).1 ∧ (nameF es s).1 < es.length
 ·have := (h.src_ hi.1 hi.2).len
  rw [classF_in hi]
  show (ent es (nameF es s).1).c.f2.length ≤ 900
  omega
 ·rw [classF_out hi]; decide
theorem sameT_l0 (l : List S24) (hl : l.length ≤ 1000) : ∀ (d j k : Nat), j + d = l.length → d < k → arbiterref02_SameTypes.l0 k l l (j : Int) = some true := by
 intro d
 induction d with
 | zero =>
  intro j k hj hk
  obtain ⟨k, rfl⟩ : ∃ m, k = m + 1 := ⟨k - 1, by omega⟩
  rw [arbiterref02_SameTypes.l0, if_neg (by omega)]
 | succ d ih =>
  intro j k hj hk
  obtain ⟨k, rfl⟩ : ∃ m, k = m + 1 := ⟨k - 1, by omega⟩
  rw [arbiterref02_SameTypes.l0, if_pos (by omega), if_pos (by omega), if_pos (by omega), show ∀ (a : Int) (b : ByteArray), arbiterref02_Same.f a b a b = some true from fun a b => by simp [arbiterref02_Same.f], Option.bind_some, if_pos rfl, num_wrap (by omega)]
  exact ih (j + 1) k (by omega) (by omega)
theorem sameT_ok (l : List S24) (hl : l.length ≤ 1000) (k : Nat) (hk : l.length < k) : arbiterref02_SameTypes.f k l l = some true := by
 unfold arbiterref02_SameTypes.f; rw [if_pos rfl]
 exact sameT_l0 l hl l.length 0 k (by omega) hk
end Go.Proofs.YtaipkdglhfhhiaaGreatDoor.Pt

namespace Go.Proofs.YtaipkdglhfhhiaaGreatDoor.Pt
open Go Go.RowKit Go.Proofs.YtaipkdglhfhhiaaGreatDoor.Nm Go.Proofs.YtaipkdglhfhhiaaGreatDoor.Hi Go.Proofs.YtaipkdglhfhhiaaGreatDoorW.PrintWords Go.Proofs.YtaipkdglhfhhiaaGreatDoorW.PrintLast Go.Proofs.YtaipkdglhfhhiaaGreatDoorW.PrintMore
set_option linter.unusedVariables false
set_option linter.unusedSimpArgs false
set_option maxHeartbeats 2000000
set_option maxRecDepth 100000
theorem index_two (a : Int) (s : ByteArray) (b : Int) (t : ByteArray) (w : World) : (Instr.index 126 (.agg #[.int .i64 a, .string s, .int .i64 b, .string t]) (.int .i64 0)).run Tryz.prog w = .ok (.agg #[.int .i64 a, .string s]) w := by rfl
theorem index_two1 (a : Int) (s : ByteArray) (b : Int) (t : ByteArray) (w : World) : (Instr.index 126 (.agg #[.int .i64 a, .string s, .int .i64 b, .string t]) (.int .i64 1)).run Tryz.prog w = .ok (.agg #[.int .i64 b, .string t]) w := by rfl
def arrays_Sub.f (a0 : List Hi.Ent) (a1_0 : Int) (a1_1 : ByteArray) (a2_0 : Int) (a2_1 : ByteArray) : Option (Bool × Int) := some (subF a0 a1_0 a1_1 a2_0 a2_1)
theorem arrays_Sub.calls (G_ : Nat) (a0 : List Hi.Ent) (a1_0 : Int) (a1_1 : ByteArray) (a2_0 : Int) (a2_1 : ByteArray) (r1 : Bool) (r2 : Int) (w : World) (hq0 : WOK w G_ a0) (h : arrays_Sub.f a0 a1_0 a1_1 a2_0 a2_1 = some (r1, r2)) :
  Calls Tryz.prog 41 #[.pointer (some ⟨G_, 0, none⟩), .agg #[.int .i64 a1_0, .string a1_1], .agg #[.int .i64 a2_0, .string a2_1]] w fun e w' => e = .returned (.tuple #[.bool r1, .int .i64 r2]) ∧ Below w.heap.size w w' := by
 have hF := Lib.hid (Option.some.inj h); have B0 := heap_alloc2_old w (.cells #[.int .i64 a1_0, .string a1_1] 24) (.cells #[.int .i64 a2_0, .string a2_1] 24); have B1 := heap_alloc2_new w (.cells #[.int .i64 a1_0, .string a1_1] 24) (.cells #[.int .i64 a2_0, .string a2_1] 24); have BB := ((Below.refl w.heap.size w).alloc (Nat.le_refl _) (.cells #[.int .i64 a1_0, .string a1_1] 24)).alloc (by simp) (.cells #[.int .i64 a2_0, .string a2_1] 24); replace B0 := Lib.hid B0; replace B1 := Lib.hid B1; replace BB := Lib.hid BB; have LD := Lib.hid (fun (W : World) (hb : Below w.heap.size w W) (d : Int) (s : ByteArray) => arrays_Loaded.calls G_ a0 d s _ W (hq0.below hb) (load_tot a0 d s)); have BL := Lib.hid (fun (W : World) (hb : Below w.heap.size w W) (h1 : loadF a0 a1_0 a1_1 = 0) (h2 : loadF a0 a2_0 a2_1 = 0) => arrays_below.calls 300 G_ a0 a1_0 a1_1 a2_0 a2_1 _ W (hq0.below hb) (below_all h1 h2)); have I0 := fun w => index_two a1_0 a1_1 a2_0 a2_1 w; have I1 := fun w => index_two1 a1_0 a1_1 a2_0 a2_1 w; clear h hq0; unfold subF at hF; go_enter Tryz.func41, Tryz.ntmps41; go_wp2_with fail; change Code.wp _ _ _ _ ((w.alloc (.cells #[.int .i64 a1_0, .string a1_1] 24)).alloc (.cells #[.int .i64 a2_0, .string a2_1] 24)); generalize (w.alloc (.cells #[.int .i64 a1_0, .string a1_1] 24)).alloc (.cells #[.int .i64 a2_0, .string a2_1] 24) = w0 at *; have Z1 := Lib.hid ((Below.refl w0.heap.size w0).alloc (Nat.le_refl _) (.cells #[.int .i64 a1_0, .string a1_1] 24)); have N1 := Lib.hid (BB.out.alloc BB.out.size (.cells #[.int .i64 a1_0, .string a1_1] 24)); have L1 := Lib.hid (LD.out _ N1.out a1_0 a1_1); refine wp_loop_rounds 3 ?_; rw [rounds_succ]; go_wp2_with fail; refine L1.out.mono ?_; rintro e w1 ⟨rfl, hb1⟩; have M1 := Lib.hid (N1.out.trans (hb1.mono N1.out.size)); have Z2 := Lib.hid (Z1.out.trans (hb1.mono Z1.out.size)); clear L1 hb1 N1 Z1
 by_cases he1 : loadF a0 a1_0 a1_1 = 0
 ·rw [if_neg (fun h => h he1)] at hF
  have hk1 := Lib.hid he1; rw [he1]; clear he1; go_wp2_with fail; rw [rounds_succ]; have N2 := Lib.hid (M1.out.alloc M1.out.size (.cells #[.int .i64 a2_0, .string a2_1] 24)); have Z3 := Lib.hid (Z2.out.alloc Z2.out.size (.cells #[.int .i64 a2_0, .string a2_1] 24)); have L2 := Lib.hid (LD.out _ N2.out a2_0 a2_1); go_wp2_with fail; refine L2.out.mono ?_; rintro e w2 ⟨rfl, hb2⟩; have M2 := Lib.hid (N2.out.trans (hb2.mono N2.out.size)); have Z4 := Lib.hid (Z3.out.trans (hb2.mono Z3.out.size)); clear L2 hb2 N2 M1 Z2 Z3
  by_cases he2 : loadF a0 a2_0 a2_1 = 0
  ·rw [if_neg (fun h => h he2)] at hF
   have hk2 := Lib.hid he2; rw [he2]; clear he2; have C0 := Lib.hid (blk_below B0.out Z4.out); have C1 := Lib.hid (blk_below B1.out Z4.out); have q0 : w2.cell? ⟨w.heap.size, 0, none⟩ = some (.int .i64 a1_0) := (blk_cell C0.out 0).trans rfl; have q1 : w2.cell? ⟨w.heap.size, 1, none⟩ = some (.string a1_1) := (blk_cell C0.out 1).trans rfl; have q2 : w2.cell? ⟨w.heap.size + 1, 0, none⟩ = some (.int .i64 a2_0) := (blk_cell C1.out 0).trans rfl; have q3 : w2.cell? ⟨w.heap.size + 1, 1, none⟩ = some (.string a2_1) := (blk_cell C1.out 1).trans rfl; have L3 := Lib.hid (BL.out _ M2.out hk1.out hk2.out); go_wp2_with fail; rw [rounds_succ]; go_wp2_with fail; refine L3.out.mono ?_; rintro e w3 ⟨rfl, hb3⟩; have M3 := Lib.hid (M2.out.trans (hb3.mono M2.out.size)); clear L3 hb3 M2; go_wp2; go_ret2; have := hF.out
   cases this
   exact ⟨rfl, M3.out⟩
  ·have hne : (loadF a0 a2_0 a2_1 != 0) = true := bne_iff_ne.2 he2
   rw [if_pos he2] at hF; clear he2; go_wp2; go_ret2; have := hF.out
   cases this
   exact ⟨rfl, M2.out⟩
 ·have hne : (loadF a0 a1_0 a1_1 != 0) = true := bne_iff_ne.2 he1
  rw [if_pos he1] at hF; clear he1; go_wp2; go_ret2; have := hF.out
  cases this
  exact ⟨rfl, M1.out⟩
end Go.Proofs.YtaipkdglhfhhiaaGreatDoor.Pt

namespace Go.Proofs.YtaipkdglhfhhiaaGreatDoor.Pt
open Go Go.RowKit Go.Proofs.YtaipkdglhfhhiaaGreatDoor.Nm Go.Proofs.YtaipkdglhfhhiaaGreatDoor.Hi Go.Proofs.YtaipkdglhfhhiaaGreatDoorW.PrintWords Go.Proofs.YtaipkdglhfhhiaaGreatDoorW.PrintLast Go.Proofs.YtaipkdglhfhhiaaGreatDoorW.PrintMore
set_option linter.unusedVariables false
set_option linter.unusedSimpArgs false
set_option maxHeartbeats 1000000
set_option maxRecDepth 100000
def arrays_Loaded_nil.f (a1_0 : Int) (a1_1 : ByteArray) : Option Int := some 2
theorem arrays_Loaded_nil.calls (a1_0 : Int) (a1_1 : ByteArray) (r : Int) (w : World) (h : arrays_Loaded_nil.f a1_0 a1_1 = some r) :
  Calls Tryz.prog 42 #[.pointer none, .agg #[.int .i64 a1_0, .string a1_1]] w fun e w' => e = .returned (.int .i64 r) ∧ Below w.heap.size w w' := by
 obtain rfl := Option.some.inj h; go_enter Tryz.func42, Tryz.ntmps42; go_wp2; go_ret
 exact ⟨rfl, by repeat (first | exact Below.refl _ _ | refine below_alloc ?_ _)⟩
def arrays_Sub_nil.f (a1_0 : Int) (a1_1 : ByteArray) (a2_0 : Int) (a2_1 : ByteArray) : Option (Bool × Int) := some (false, 2)
theorem arrays_Sub_nil.calls (a1_0 : Int) (a1_1 : ByteArray) (a2_0 : Int) (a2_1 : ByteArray) (r1 : Bool) (r2 : Int) (w : World) (h : arrays_Sub_nil.f a1_0 a1_1 a2_0 a2_1 = some (r1, r2)) :
  Calls Tryz.prog 41 #[.pointer none, .agg #[.int .i64 a1_0, .string a1_1], .agg #[.int .i64 a2_0, .string a2_1]] w fun e w' => e = .returned (.tuple #[.bool r1, .int .i64 r2]) ∧ Below w.heap.size w w' := by
 have h := Option.some.inj h; simp only [Prod.mk.injEq] at h; obtain ⟨rfl, rfl⟩ := h; have BB := Lib.hid (((Below.refl w.heap.size w).alloc (Nat.le_refl _) (.cells #[.int .i64 a1_0, .string a1_1] 24)).alloc (by simp) (.cells #[.int .i64 a2_0, .string a2_1] 24)); have LD := Lib.hid (fun (W : World) => arrays_Loaded_nil.calls a1_0 a1_1 2 W rfl); have I0 := fun w => index_two a1_0 a1_1 a2_0 a2_1 w; go_enter Tryz.func41, Tryz.ntmps41; go_wp2_with fail; change Code.wp _ _ _ _ ((w.alloc (.cells #[.int .i64 a1_0, .string a1_1] 24)).alloc (.cells #[.int .i64 a2_0, .string a2_1] 24)); generalize (w.alloc (.cells #[.int .i64 a1_0, .string a1_1] 24)).alloc (.cells #[.int .i64 a2_0, .string a2_1] 24) = w0 at *; have N1 := Lib.hid (BB.out.alloc BB.out.size (.cells #[.int .i64 a1_0, .string a1_1] 24)); refine wp_loop_rounds 3 ?_; rw [rounds_succ]; go_wp2_with fail; refine (LD.out _).mono ?_; rintro e w1 ⟨rfl, hb1⟩; have M1 := Lib.hid (N1.out.trans (hb1.mono N1.out.size)); clear hb1 N1 LD; go_wp2; go_ret2
 exact ⟨rfl, M1.out⟩
def arrays_Above_nil.f (a1_0 : Int) (a1_1 : ByteArray) : Option (List S24 × Int) := some ([], 2)
theorem arrays_Above_nil.calls (a1_0 : Int) (a1_1 : ByteArray) (r1 : List S24) (r2 : Int) (w : World) (h : arrays_Above_nil.f a1_0 a1_1 = some (r1, r2)) :
  Calls Tryz.prog 38 #[.pointer none, .agg #[.int .i64 a1_0, .string a1_1]] w fun e w' => ∃ v0_ : Value, e = .returned (.tuple #[v0_, .int .i64 r2]) ∧ Kd.R k24 24 w' w.heap.size (fun _ => True) v0_ r1 ∧ Below w.heap.size w w' := by
 have h := Option.some.inj h; simp only [Prod.mk.injEq] at h; obtain ⟨rfl, rfl⟩ := h; have AB := Lib.hid ((Below.refl w.heap.size w).alloc (Nat.le_refl _) (.cells #[.int .i64 a1_0, .string a1_1] 24)); have LD := Lib.hid (fun (W : World) => arrays_Loaded_nil.calls a1_0 a1_1 2 W rfl); go_enter Tryz.func38, Tryz.ntmps38; go_wp2_with fail; refine (LD.out _).mono ?_; rintro e w1 ⟨rfl, hb1⟩; have M1 := Lib.hid (AB.out.trans (hb1.mono AB.out.size)); clear hb1 LD AB; go_wp2; go_ret2
 exact ⟨_, rfl, Kd.R_nil _ _ _ _ _, M1.out⟩
def arrays_Holder_nil.f (a1_0 : Int) (a1_1 : ByteArray) : Option (Int × Int) := some (0, 2)
theorem arrays_Holder_nil.calls (a1_0 : Int) (a1_1 : ByteArray) (r1 : Int) (r2 : Int) (w : World) (h : arrays_Holder_nil.f a1_0 a1_1 = some (r1, r2)) :
  Calls Tryz.prog 36 #[.pointer none, .agg #[.int .i64 a1_0, .string a1_1]] w fun e w' => e = .returned (.tuple #[.int .i64 r1, .int .i64 r2]) ∧ Below w.heap.size w w' := by
 have h := Option.some.inj h; simp only [Prod.mk.injEq] at h; obtain ⟨rfl, rfl⟩ := h; have AB := Lib.hid ((Below.refl w.heap.size w).alloc (Nat.le_refl _) (.cells #[.int .i64 a1_0, .string a1_1] 24)); have LD := Lib.hid (fun (W : World) => arrays_Loaded_nil.calls a1_0 a1_1 2 W rfl); go_enter Tryz.func36, Tryz.ntmps36; go_wp2_with fail; refine (LD.out _).mono ?_; rintro e w1 ⟨rfl, hb1⟩; have M1 := Lib.hid (AB.out.trans (hb1.mono AB.out.size)); clear hb1 LD AB; go_wp2; go_ret2
 exact ⟨rfl, M1.out⟩
def arrays_TypeOf_nil.f (a1 : Int) : Option (Int × ByteArray × Int) := some (0, ⟨#[]⟩, 2)
theorem arrays_TypeOf_nil.calls (a1 : Int) (r1 : Int) (r2 : ByteArray) (r3 : Int) (w : World) (h : arrays_TypeOf_nil.f a1 = some (r1, r2, r3)) :
  Calls Tryz.prog 33 #[.pointer none, .int .i64 a1] w fun e w' => e = .returned (.tuple #[.agg #[.int .i64 r1, .string r2], .int .i64 r3]) ∧ Below w.heap.size w w' := by
 have h := Option.some.inj h; simp only [Prod.mk.injEq] at h; obtain ⟨rfl, rfl, rfl⟩ := h; have AB := Lib.hid ((Below.refl w.heap.size w).alloc (Nat.le_refl _) (.cells #[.int .i64 0, .string ⟨#[]⟩] 24)); have B0 := Lib.hid (blk_new w (.cells #[.int .i64 0, .string ⟨#[]⟩] 24)); have z0 : (w.alloc (.cells #[.int .i64 0, .string ⟨#[]⟩] 24)).cell? ⟨w.heap.size, 0, none⟩ = some (.int .i64 0) := (blk_cell B0.out 0).trans rfl; have z1 : (w.alloc (.cells #[.int .i64 0, .string ⟨#[]⟩] 24)).cell? ⟨w.heap.size, 1, none⟩ = some (.string ⟨#[]⟩) := (blk_cell B0.out 1).trans rfl; have f0 := blk_frozen B0.out 0; have f1 := blk_frozen B0.out 1; go_enter Tryz.func33, Tryz.ntmps33; go_wp2
 exact bodyPost_ret (results_ct rfl _ _ w.heap.size 24 _ (0, 0) _ rfl B0.out Tryz.underlying24 rfl (by kernel_rfl)) rfl ⟨rfl, AB.out⟩
theorem R_typeAt {α : Type} {d : Kd α} {e base : Nat} {ok : Nat → Prop} {w : World} {v : Value} {xs : List α} (h : d.R e w base ok v xs) : ∀ k, v.ownBlock = some k → TypeAt w k e := by
 obtain ⟨_, _, ho, _⟩ := h
 exact fun k hk => own_typed ho k hk
theorem typed_away {w : World} {row : Option Nat} {t : Nat} (hb : ∀ k, row = some k → TypeAt w k t) {k q : Nat} {cells : Array Value} (h : w.heap[k]? = some (.cells cells q (0, 0))) (hq : q ≠ t) : some k ≠ row := by
 intro e; obtain ⟨c2, h2⟩ := hb k e.symm; rw [h] at h2
 cases h2
 exact hq rfl
theorem heap_lt {w : World} {k : Nat} {o : Obj} (h : w.heap[k]? = some o) : k < w.heap.size := by
 obtain ⟨h, _⟩ := Array.getElem?_eq_some_iff.mp h
 exact h
theorem WOK.grown {w w1 : World} {g : Nat} {es : List Hi.Ent} {row : Option Nat} {t : Nat} (hg : w.grownBy w1 row) (h : WOK w g es) (hb : ∀ k, row = some k → TypeAt w k t)
  (ht : ∀ q, q ∈ 133 :: 150 :: 147 :: kE.E → q ≠ t) : WOK w1 g es := by
 obtain ⟨⟨base, v, mb, ps, hi⟩, h2, h3, h4⟩ := h; refine ⟨⟨base, v, mb, ps, hi.hg, (hg.block g (heap_lt hi.blk) (typed_away hb hi.blk (ht _ List.mem_cons_self))).trans hi.blk, ?_, hi.len, fun i x p hx hp => ?_, hi.mbl, ?_⟩, h2, h3, h4⟩
 ·refine Kd.R_mono (Kd.R_move (Kd.R_bound hi.row) (fun k hk => ?_)) (fun _ hk => hk.1)
  obtain ⟨_, _, hlt, q, hq, cells, hc⟩ := hk
  exact hg.block k hlt (typed_away hb hc (ht q (by
   rcases List.mem_cons.1 hq with rfl | hq
   ·simp
   ·cases hq)))
 ·obtain ⟨h1, cs, h2, h3⟩ := hi.ent i x p hx hp
  refine ⟨h1, cs, (hg.block p (heap_lt h2) (typed_away hb h2 (ht _ (by simp)))).trans h2, kE.M_mono (fun _ hk => hk.1) (kE.M_move (fun k hk => ?_) (kE.M_bound h3))⟩; obtain ⟨_, _, hlt, q, hq, cells, hc⟩ := hk
  exact hg.block k hlt (typed_away hb hc (ht q (by simp [hq])))
 ·obtain ⟨D, h1, h2⟩ := hi.map
  obtain ⟨es1, clock, hbk, F, hs, rfl⟩ := h1; refine ⟨_, ⟨es1, clock, (hg.block mb (heap_lt hbk) ?_).trans hbk, F, hs, rfl⟩, h2⟩; intro e; obtain ⟨c2, h2⟩ := hb mb e.symm; rw [hbk] at h2
  cases h2
theorem ROK.grown {w w1 : World} {g : Nat} {cs : List S85} {row : Option Nat} {t : Nat} (hg : w.grownBy w1 row) (h : ROK w g cs) (hb : ∀ k, row = some k → TypeAt w k t)
  (ht : ∀ q, q ∈ 94 :: 85 :: k85.E → q ≠ t) : ROK w1 g cs := by
 obtain ⟨base, v, hi⟩ := h; refine ⟨base, v, hi.hg, (hg.block g (heap_lt hi.blk) (typed_away hb hi.blk (ht _ List.mem_cons_self))).trans hi.blk, ?_⟩; refine Kd.R_mono (Kd.R_move (Kd.R_bound hi.row) (fun k hk => ?_)) (fun _ hk => hk.1); obtain ⟨_, _, hlt, q, hq, cells, hc⟩ := hk
 exact hg.block k hlt (typed_away hb hc (ht q (by simp [hq])))
end Go.Proofs.YtaipkdglhfhhiaaGreatDoor.Pt

namespace Go.Proofs.YtaipkdglhfhhiaaGreatDoor.Pt
open Go Go.RowKit Go.Proofs.YtaipkdglhfhhiaaGreatDoor.Nm Go.Proofs.YtaipkdglhfhhiaaGreatDoor.Hi Go.Proofs.YtaipkdglhfhhiaaGreatDoorW.PrintWords Go.Proofs.YtaipkdglhfhhiaaGreatDoorW.PrintLast Go.Proofs.YtaipkdglhfhhiaaGreatDoorW.PrintMore
set_option linter.unusedVariables false
set_option linter.unusedSimpArgs false
set_option maxHeartbeats 2000000
set_option maxRecDepth 100000
theorem sub_new : arrays_Sub.f newE 1 ⟨#[]⟩ 0 ⟨#[67, 108, 111, 110, 101, 97, 98, 108, 101]⟩ = some (true, 0) := by
 unfold arrays_Sub.f
 decide +kernel
def arbiterlaw07_awake.f : Option Bool := some true
theorem arbiterlaw07_awake.calls (r : Bool) (w : World) (h : arbiterlaw07_awake.f = some r) : Calls Tryz.prog 31 #[] w fun e w' => e = .returned (.bool r) ∧ Below w.heap.size w w' := by
 obtain rfl := Option.some.inj h; go_enter Tryz.func31, Tryz.ntmps31; go_wp2_with fail; refine (new_any _).mono ?_; rintro e w1 ⟨g, v, mb, ps, rfl, hI, hb⟩; have HO := Lib.hid (arrays_Sub.calls g newE 1 ⟨#[]⟩ 0 ⟨#[67, 108, 111, 110, 101, 97, 98, 108, 101]⟩ true 0 w1 (wok_new hI) sub_new); have HB := Lib.hid hb; clear hI hb; go_wp2_with fail; refine HO.out.mono ?_; rintro e w2 ⟨rfl, hb2⟩; have HB2 := Lib.hid (HB.out.trans (hb2.mono HB.out.size)); clear hb2; go_wp2; go_ret
 exact ⟨rfl, HB2.out⟩
end Go.Proofs.YtaipkdglhfhhiaaGreatDoor.Pt

namespace Go.Proofs.YtaipkdglhfhhiaaGreatDoor.Pt
open Go.RowKit Go.Proofs.YtaipkdglhfhhiaaGreatDoorW.PrintWords Go.Proofs.YtaipkdglhfhhiaaGreatDoorW.PrintLast Go.Proofs.YtaipkdglhfhhiaaGreatDoorW.PrintMore
attribute [local go_sem] max2_int min2_int max_two min_two max_three min_three max_four min_four   -- for this text's walks alone
set_option linter.unusedVariables false
set_option linter.unusedSimpArgs false
mutual
def arbiterlaw07_ArraysKeeps.j0 : Nat → List Hi.Ent → List (S24) → List (S24) → List (S24) → Bool → Int → ByteArray → Option (Bool)
 | 0, _, _, _, _, _, _, _ => none
 | k + 1, x5, x6, x8, x10, x61, x382000, x382001 => if x61 = true then (some false) else (arbiterlaw07_ArraysKeeps.l0 k x5 x6 x8 x10 0 x382000 x382001)
def arbiterlaw07_ArraysKeeps.l0 : Nat → List Hi.Ent → List (S24) → List (S24) → List (S24) → Int → Int → ByteArray → Option (Bool)
 | 0, _, _, _, _, _, _, _ => none
 | k + 1, x5, x6, x8, x10, x12, x382000, x382001 => if x12 < (x6.length : Int) then (if 0 ≤ x12 then (arbiterlaw07_ArraysKeeps.l0 k x5 (x6.set (x12 : Int).toNat (⟨77, (⟨#[]⟩ : ByteArray)⟩ : S24)) x8 x10 (wrap64 (x12 + 1)) x382000 x382001) else (none)) else ((some (([(⟨78, (⟨#[]⟩ : ByteArray)⟩ : S24), (⟨79, (⟨#[]⟩ : ByteArray)⟩ : S24)] : List (S24)) : List (S24))).bind fun y400 => (if x6.length + y400.length < 5864062014805 then ((arrays_Above.f x5 x382000 x382001).bind fun bt406 => (if ((x6 ++ y400).length : Int) = (wrap64 ((x10.length : Int) + 2)) then ((arbiterref02_SameTypes.f k x8 x10).bind fun t410 => (if t410 = true then ((arbiterref02_SameTypes.f k bt406.1 x10).bind fun t411 => (arbiterlaw07_ArraysKeeps.j2 k (!t411) x382000 x382001)) else (arbiterlaw07_ArraysKeeps.j2 k true x382000 x382001))) else (arbiterlaw07_ArraysKeeps.j2 k true x382000 x382001))) else (none)))
def arbiterlaw07_ArraysKeeps.j2 : Nat → Bool → Int → ByteArray → Option (Bool)
 | 0, _, _, _ => none
 | k + 1, x100, x382000, x382001 => if x100 = true then (some false) else ((arrays_Sub_nil.f x382000 x382001 x382000 x382001).bind fun bt412 => ((arrays_Above_nil.f x382000 x382001).bind fun bt414 => ((arrays_Holder_nil.f x382000 x382001).bind fun bt418 => ((arrays_TypeOf_nil.f 0).bind fun bt420 => (if bt412.2 = 2 then (if bt414.2 = 2 then (if bt418.2 = 2 then (if bt420.2.2 = 2 then ((arrays_Loaded_nil.f x382000 x382001).bind fun t424 => (some (t424 == 2))) else (some false)) else (some false)) else (some false)) else (some false))))))
end
def arbiterlaw07_ArraysKeeps.f (k : Nat) (l0 : List (S85)) (a1_0 : Int) (a1_1 : ByteArray) : Option (Bool) := (arbiterlaw07_awake.f).bind fun t382 => (if t382 = true then ((arbiterlaw07_built.f l0).bind fun t383 => ((arrays_Above.f t383 a1_0 a1_1).bind fun bt384 => ((arrays_Above.f t383 a1_0 a1_1).bind fun bt388 => ((arbiterref06_Of.f l0).bind fun t392 => ((arbiterref07_Above.f k t392 a1_0 a1_1).bind fun bt393 => (if bt384.2 = bt393.2 then ((arbiterref02_SameTypes.f k bt384.1 bt393.1).bind fun t397 => (if t397 = true then ((arbiterref02_SameTypes.f k bt388.1 bt393.1).bind fun t398 => (arbiterlaw07_ArraysKeeps.j0 k t383 bt384.1 bt388.1 bt393.1 (!t398) a1_0 a1_1)) else (arbiterlaw07_ArraysKeeps.j0 k t383 bt384.1 bt388.1 bt393.1 true a1_0 a1_1))) else (arbiterlaw07_ArraysKeeps.j0 k t383 bt384.1 bt388.1 bt393.1 true a1_0 a1_1))))))) else (some false))
def arbiterlaw07_ArraysKeeps.T6 : Bool × List (List Nat × List Nat) := (true, [([], []), ([0], [0]), ([], []), ([1, 2, 1], [1, 2]), ([3], [3]), ([4], [4]), ([4], [4]), ([5, 3, 0, 1, 2, 3, 4, 5], [5]), ([6, 7, 0, 1, 2, 3, 4, 5, 6, 7], [6])])
def arbiterlaw07_ArraysKeeps.B6 : List Nat := [0, 1, 0, 7, 15, 31, 31, 63, 255]
theorem arbiterlaw07_ArraysKeeps.tab6 : rtab .any (opsOf Tryz.f8 6) = arbiterlaw07_ArraysKeeps.T6 := by kernel_rfl
theorem arbiterlaw07_ArraysKeeps.bits6 : waitsOk arbiterlaw07_ArraysKeeps.T6.2 arbiterlaw07_ArraysKeeps.B6 = true := by kernel_rfl
set_option maxHeartbeats 8000000 in
set_option maxRecDepth 100000 in
theorem arbiterlaw07_ArraysKeeps.calls (k : Nat) (A0 : Option Addr) (c0 : Nat) (l0 : List (S85)) (a1_0 : Int) (a1_1 : ByteArray) (r : Bool) (w : World) (hr0 : Kd.C k85 w A0 l0.length l0) (hc0 : l0.length ≤ c0) (h : arbiterlaw07_ArraysKeeps.f k l0 a1_0 a1_1 = some r) :
  Calls Tryz.prog 8 #[.slice A0 l0.length c0, .agg #[.int .i64 a1_0, .string a1_1]] w fun e w' => e = .returned (.bool r) ∧ Below w.heap.size w w' := by
 have hu24 := Tryz.underlying24; have HR0 := Aside0.mk hr0; have HC0 := Aside0.mk hc0; clear hr0 hc0; have HB := Aside0.mk (Below.refl w.heap.size w); have H : ((arbiterlaw07_awake.f).bind fun t382 => (if t382 = true then ((arbiterlaw07_built.f l0).bind fun t383 => ((arrays_Above.f t383 a1_0 a1_1).bind fun bt384 => ((arrays_Above.f t383 a1_0 a1_1).bind fun bt388 => ((arbiterref06_Of.f l0).bind fun t392 => ((arbiterref07_Above.f k t392 a1_0 a1_1).bind fun bt393 => (if bt384.2 = bt393.2 then ((arbiterref02_SameTypes.f k bt384.1 bt393.1).bind fun t397 => (if t397 = true then ((arbiterref02_SameTypes.f k bt388.1 bt393.1).bind fun t398 => (arbiterlaw07_ArraysKeeps.j0 k t383 bt384.1 bt388.1 bt393.1 (!t398) a1_0 a1_1)) else (arbiterlaw07_ArraysKeeps.j0 k t383 bt384.1 bt388.1 bt393.1 true a1_0 a1_1))) else (arbiterlaw07_ArraysKeeps.j0 k t383 bt384.1 bt388.1 bt393.1 true a1_0 a1_1))))))) else (some false))) = some r := h; clear h; replace H := Option.bind_eq_some_iff.mp H; obtain ⟨t382, A30, H⟩ := H; replace H : (if t382 = true then ((arbiterlaw07_built.f l0).bind fun t383 => ((arrays_Above.f t383 a1_0 a1_1).bind fun bt384 => ((arrays_Above.f t383 a1_0 a1_1).bind fun bt388 => ((arbiterref06_Of.f l0).bind fun t392 => ((arbiterref07_Above.f k t392 a1_0 a1_1).bind fun bt393 => (if bt384.2 = bt393.2 then ((arbiterref02_SameTypes.f k bt384.1 bt393.1).bind fun t397 => (if t397 = true then ((arbiterref02_SameTypes.f k bt388.1 bt393.1).bind fun t398 => (arbiterlaw07_ArraysKeeps.j0 k t383 bt384.1 bt388.1 bt393.1 (!t398) a1_0 a1_1)) else (arbiterlaw07_ArraysKeeps.j0 k t383 bt384.1 bt388.1 bt393.1 true a1_0 a1_1))) else (arbiterlaw07_ArraysKeeps.j0 k t383 bt384.1 bt388.1 bt393.1 true a1_0 a1_1))))))) else (some false)) = some r := H; have A3 := Aside0.mk A30; clear A30
 by_cases c4 : t382 = true
 ·subst c4
  have H1 : ((arbiterlaw07_built.f l0).bind fun t383 => ((arrays_Above.f t383 a1_0 a1_1).bind fun bt384 => ((arrays_Above.f t383 a1_0 a1_1).bind fun bt388 => ((arbiterref06_Of.f l0).bind fun t392 => ((arbiterref07_Above.f k t392 a1_0 a1_1).bind fun bt393 => (if bt384.2 = bt393.2 then ((arbiterref02_SameTypes.f k bt384.1 bt393.1).bind fun t397 => (if t397 = true then ((arbiterref02_SameTypes.f k bt388.1 bt393.1).bind fun t398 => (arbiterlaw07_ArraysKeeps.j0 k t383 bt384.1 bt388.1 bt393.1 (!t398) a1_0 a1_1)) else (arbiterlaw07_ArraysKeeps.j0 k t383 bt384.1 bt388.1 bt393.1 true a1_0 a1_1))) else (arbiterlaw07_ArraysKeeps.j0 k t383 bt384.1 bt388.1 bt393.1 true a1_0 a1_1))))))) = some r := by rw [if_pos rfl] at H; exact H
  clear H; have H := H1; clear H1; replace H := Option.bind_eq_some_iff.mp H; obtain ⟨t383, A50, H⟩ := H; replace H : ((arrays_Above.f t383 a1_0 a1_1).bind fun bt384 => ((arrays_Above.f t383 a1_0 a1_1).bind fun bt388 => ((arbiterref06_Of.f l0).bind fun t392 => ((arbiterref07_Above.f k t392 a1_0 a1_1).bind fun bt393 => (if bt384.2 = bt393.2 then ((arbiterref02_SameTypes.f k bt384.1 bt393.1).bind fun t397 => (if t397 = true then ((arbiterref02_SameTypes.f k bt388.1 bt393.1).bind fun t398 => (arbiterlaw07_ArraysKeeps.j0 k t383 bt384.1 bt388.1 bt393.1 (!t398) a1_0 a1_1)) else (arbiterlaw07_ArraysKeeps.j0 k t383 bt384.1 bt388.1 bt393.1 true a1_0 a1_1))) else (arbiterlaw07_ArraysKeeps.j0 k t383 bt384.1 bt388.1 bt393.1 true a1_0 a1_1)))))) = some r := H; have A5 := Aside0.mk A50; clear A50; replace H := Option.bind_eq_some_iff.mp H; obtain ⟨⟨t384, t387⟩, A60, H⟩ := H; replace H : ((arrays_Above.f t383 a1_0 a1_1).bind fun bt388 => ((arbiterref06_Of.f l0).bind fun t392 => ((arbiterref07_Above.f k t392 a1_0 a1_1).bind fun bt393 => (if t387 = bt393.2 then ((arbiterref02_SameTypes.f k t384 bt393.1).bind fun t397 => (if t397 = true then ((arbiterref02_SameTypes.f k bt388.1 bt393.1).bind fun t398 => (arbiterlaw07_ArraysKeeps.j0 k t383 t384 bt388.1 bt393.1 (!t398) a1_0 a1_1)) else (arbiterlaw07_ArraysKeeps.j0 k t383 t384 bt388.1 bt393.1 true a1_0 a1_1))) else (arbiterlaw07_ArraysKeeps.j0 k t383 t384 bt388.1 bt393.1 true a1_0 a1_1))))) = some r := H; have A6 := Aside0.mk A60; clear A60; replace H := Option.bind_eq_some_iff.mp H; obtain ⟨⟨t388, t391⟩, A70, H⟩ := H; replace H : ((arbiterref06_Of.f l0).bind fun t392 => ((arbiterref07_Above.f k t392 a1_0 a1_1).bind fun bt393 => (if t387 = bt393.2 then ((arbiterref02_SameTypes.f k t384 bt393.1).bind fun t397 => (if t397 = true then ((arbiterref02_SameTypes.f k t388 bt393.1).bind fun t398 => (arbiterlaw07_ArraysKeeps.j0 k t383 t384 t388 bt393.1 (!t398) a1_0 a1_1)) else (arbiterlaw07_ArraysKeeps.j0 k t383 t384 t388 bt393.1 true a1_0 a1_1))) else (arbiterlaw07_ArraysKeeps.j0 k t383 t384 t388 bt393.1 true a1_0 a1_1)))) = some r := H; have A7 := Aside0.mk A70; clear A70; replace H := Option.bind_eq_some_iff.mp H; obtain ⟨t392, A80, H⟩ := H; replace H : ((arbiterref07_Above.f k t392 a1_0 a1_1).bind fun bt393 => (if t387 = bt393.2 then ((arbiterref02_SameTypes.f k t384 bt393.1).bind fun t397 => (if t397 = true then ((arbiterref02_SameTypes.f k t388 bt393.1).bind fun t398 => (arbiterlaw07_ArraysKeeps.j0 k t383 t384 t388 bt393.1 (!t398) a1_0 a1_1)) else (arbiterlaw07_ArraysKeeps.j0 k t383 t384 t388 bt393.1 true a1_0 a1_1))) else (arbiterlaw07_ArraysKeeps.j0 k t383 t384 t388 bt393.1 true a1_0 a1_1))) = some r := H; have A8 := Aside0.mk A80; clear A80; replace H := Option.bind_eq_some_iff.mp H; obtain ⟨⟨t393, t396⟩, A90, H⟩ := H; replace H : (if t387 = t396 then ((arbiterref02_SameTypes.f k t384 t393).bind fun t397 => (if t397 = true then ((arbiterref02_SameTypes.f k t388 t393).bind fun t398 => (arbiterlaw07_ArraysKeeps.j0 k t383 t384 t388 t393 (!t398) a1_0 a1_1)) else (arbiterlaw07_ArraysKeeps.j0 k t383 t384 t388 t393 true a1_0 a1_1))) else (arbiterlaw07_ArraysKeeps.j0 k t383 t384 t388 t393 true a1_0 a1_1)) = some r := H; have A9 := Aside0.mk A90; clear A90; have HC10 := Aside0.mk H; clear H; go_enter Tryz.func8, Tryz.ntmps8
  try go_wp2_with (first | ((with_reducible refine gate_dst (N := 3) rfl ?_); refine eX 3 #[.int .i64 a1_0, .string a1_1] 24 ?_; intro gb381 hg w11 hbox hb; have n0_ := Aside0.mk (below_step (bX HB) hb); have n1_ := Aside0.mk (hbox); have n2_ := Aside0.mk ((by rw [hg]; exact (below_size (bX HB)) : w.heap.size ≤ gb381)); have n3_ := Aside0.mk ((by rw [hg]; exact (below_size (bX HB)) : w.heap.size ≤ gb381)); clear HB; have HB := n0_; have BK381 := n1_; have GW381 := n2_; have GE381 := n3_; clear n0_ n1_ n2_ n3_; clear hb hbox hg) | ((with_reducible refine gate_callee (f := 31) rfl ?_); refine gX (some 24) Tryz.func31 #[] ?_; (with_reducible refine (arbiterlaw07_awake.calls  true _ A3.out).mono ?_); rintro e w12 ⟨rfl, hb⟩; refine ⟨_, rfl, ?_⟩; have n0_ := Aside0.mk (blk_below (kX BK381) hb); have n1_ := Aside0.mk (below_step (bX1 HB GE381) hb); clear BK381; clear HB; have BK381 := n0_; have HB := n1_; clear n0_ n1_; (try clear hb); (try clear hb2); (try clear hk); (try clear hi)) | ((with_reducible refine gate_callee (f := 32) rfl ?_); refine gX (some 27) Tryz.func32 #[.slice A0 l0.length c0] ?_; (with_reducible refine (arbiterlaw07_built.calls _ _ l0 t383 _ ?side1 ?side2 A5.out).mono ?_); (case side1 => repeat (first | exact (Kd.C_below HR0.out HB.out) | (with_reducible refine Kd.C_alloc ?_ _) | (with_reducible refine Kd.C_drewN ?_ _) | (with_reducible refine Kd.C_drew ?_))); (case side2 => exact HC0.out); rintro e w13 ⟨G_t383, rfl, hqt383, hb⟩; refine ⟨_, rfl, ?_⟩; have n0_ := Aside0.mk (blk_below (kX BK381) hb); have n1_ := Aside0.mk (hqt383); have n2_ := Aside0.mk (below_step (bX1 HB GE381) hb); clear BK381; clear HB; have BK381 := n0_; have HQt383 := n1_; have HB := n2_; clear n0_ n1_ n2_; (try clear hb); (try clear hb2); (try clear hk); (try clear hi); obtain ⟨hcz14_0, hcz14_1, hfz14_0, hfz14_1⟩ := c2X BK381) | ((with_reducible refine gate_callee (f := 38) rfl ?_); refine gX (some 31) Tryz.func38 #[.pointer (some ⟨G_t383, 0, none⟩), .agg #[.int .i64 a1_0, .string a1_1]] ?_; (with_reducible refine (arrays_Above.calls G_t383 t383 a1_0 a1_1 t384 t387 _ ?side1 A6.out).mono ?_); (case side1 => repeat (first | (with_reducible exact HQt383.out) | (with_reducible refine WOK.alloc ?_ _) | (with_reducible refine WOK.drewN ?_ _) | (with_reducible refine WOK.drew ?_))); rintro e w15 ⟨v385, rfl, ho0, hb⟩; refine ⟨_, rfl, ?_⟩; have n0_ := Aside0.mk (Kd.R_lower (Kd.R_newB ho0 (g := gb381) (o := .cells #[.int .i64 a1_0, .string a1_1] 24 (0, 0)) (kX BK381)) (below_size (bX1 HB GE381))); have n1_ := Aside0.mk (blk_below (kX BK381) hb); have n2_ := Aside0.mk (WOK.below (g := G_t383) (es := t383) (by repeat (first | (with_reducible exact HQt383.out) | (with_reducible refine WOK.alloc ?_ _) | (with_reducible refine WOK.drewN ?_ _) | (with_reducible refine WOK.drew ?_))) hb); have n3_ := Aside0.mk (below_step (bX1 HB GE381) hb); clear BK381; clear HQt383; clear HB; have HO386 := n0_; have BK381 := n1_; have HQt383 := n2_; have HB := n3_; clear n0_ n1_ n2_ n3_; (try clear hb); (try clear hb2); (try clear hk); (try clear hi); (try clear ho0); obtain ⟨hcz16_0, hcz16_1, hfz16_0, hfz16_1⟩ := c2X BK381) | ((with_reducible refine gate_callee (f := 38) rfl ?_); refine gX (some 37) Tryz.func38 #[.pointer (some ⟨G_t383, 0, none⟩), .agg #[.int .i64 a1_0, .string a1_1]] ?_; (with_reducible refine (arrays_Above.calls G_t383 t383 a1_0 a1_1 t388 t391 _ ?side1 A7.out).mono ?_); (case side1 => repeat (first | (with_reducible exact HQt383.out) | (with_reducible refine WOK.alloc ?_ _) | (with_reducible refine WOK.drewN ?_ _) | (with_reducible refine WOK.drew ?_))); rintro e w17 ⟨v389, rfl, ho0, hb⟩; refine ⟨_, rfl, ?_⟩; have n0_ := Aside0.mk (Kd.R_elder' (rX HO386) (Kd.R_base ho0) hb); have n1_ := Aside0.mk (Kd.R_lower (Kd.R_newB (Kd.R_new' ho0 (Kd.R_lt (rX HO386))) (g := gb381) (o := .cells #[.int .i64 a1_0, .string a1_1] 24 (0, 0)) (kX BK381)) (below_size (bX1 HB GE381))); have n2_ := Aside0.mk (blk_below (kX BK381) hb); have n3_ := Aside0.mk (WOK.below (g := G_t383) (es := t383) (by repeat (first | (with_reducible exact HQt383.out) | (with_reducible refine WOK.alloc ?_ _) | (with_reducible refine WOK.drewN ?_ _) | (with_reducible refine WOK.drew ?_))) hb); have n4_ := Aside0.mk (below_step (bX1 HB GE381) hb); clear HO386; clear BK381; clear HQt383; clear HB; have HO386 := n0_; have HO390 := n1_; have BK381 := n2_; have HQt383 := n3_; have HB := n4_; clear n0_ n1_ n2_ n3_ n4_; (try clear hb); (try clear hb2); (try clear hk); (try clear hi); (try clear ho0)))
  have n0_ := Aside0.mk (Kd.R_drew HO386.out); have n1_ := Aside0.mk (Kd.R_drew HO390.out); have n2_ := Aside0.mk (blk_drew BK381.out); have n3_ := Aside0.mk (WOK.drew HQt383.out); have n4_ := Aside0.mk (below_drew1 HB.out); clear HO386; clear HO390; clear BK381; clear HQt383; clear HB; have HO386 := n0_; have HO390 := n1_; have BK381 := n2_; have HQt383 := n3_; have HB := n4_; clear n0_ n1_ n2_ n3_ n4_; refine start_ (n := 9) (S := fun w' => w'.cell? ⟨gb381, 0, none⟩ = some (.int .i64 a1_0) ∧ w'.cell? ⟨gb381, 1, none⟩ = some (.string a1_1)) (ds := []) #[false, false, false, false, false, false, false, false, false] (by kernel_rfl) rfl rfl ⟨(blk_cell BK381.out 0).trans rfl, (blk_cell BK381.out 1).trans rfl⟩ (fun hHeld => ?_); refine with_tabW arbiterlaw07_ArraysKeeps.tab6 arbiterlaw07_ArraysKeeps.bits6 (fun HT_ HW_ => ?_); generalize w17.drew = w18 at HO386 HO390 BK381 HQt383 HB hHeld ⊢; refine pX HT_ 0 (some 41) ?_; refine tX HT_ HW_ hHeld 2 (some 43) ?_; refine oX HT_ 1 (some 42) (fun K hK => ?_); refine hX Tryz.func13 #[.slice A0 l0.length c0] ?_
  with_reducible refine (arbiterref06_Of.calls _ _ l0 t392 _ ?side1 ?side2 A8.out).mono ?_
  (case side1 => repeat (first | exact (Kd.C_below HR0.out HB.out) | (with_reducible refine Kd.C_alloc ?_ _) | (with_reducible refine Kd.C_drewN ?_ _) | (with_reducible refine Kd.C_drew ?_)))
  (case side2 => exact HC0.out)
  rintro e w19 ⟨G_t392, rfl, hqt392, hb⟩; refine ⟨_, rfl, ?_⟩; have n0_ := Aside0.mk (Kd.R_below (rX HO386) hb); have n1_ := Aside0.mk (Kd.R_below (rX HO390) hb); have n2_ := Aside0.mk (blk_below (kX BK381) hb); have n3_ := Aside0.mk (WOK.below (g := G_t383) (es := t383) (by repeat (first | (with_reducible exact HQt383.out) | (with_reducible refine WOK.alloc ?_ _) | (with_reducible refine WOK.drewN ?_ _) | (with_reducible refine WOK.drew ?_))) hb); have n4_ := Aside0.mk (hqt392); have n5_ := Aside0.mk (below_step (bX1 HB GE381) hb); clear HO386; clear HO390; clear BK381; clear HQt383; clear HB; have HO386 := n0_; have HO390 := n1_; have BK381 := n2_; have HQt383 := n3_; have HQt392 := n4_; have HB := n5_; clear n0_ n1_ n2_ n3_ n4_ n5_
  (try clear hb)
  (try clear hb2)
  (try clear hk)
  (try clear hi)
  refine hK.out _ _ ⟨(blk_cell BK381.out 0).trans rfl, (blk_cell BK381.out 1).trans rfl⟩ (fun hHeld => ?_); clear hK K; refine nX (some 42) ?_; refine oX HT_ 3 (some 44) (fun K hK => ?_); refine hX Tryz.func39 #[.pointer (some ⟨G_t392, 0, none⟩), .agg #[.int .i64 a1_0, .string a1_1]] ?_
  with_reducible refine (arbiterref07_Above.calls k G_t392 t392 a1_0 a1_1 t393 t396 _ ?side1 A9.out).mono ?_
  (case side1 => repeat (first | (with_reducible exact HQt392.out) | (with_reducible refine ROK.alloc ?_ _) | (with_reducible refine ROK.drewN ?_ _) | (with_reducible refine ROK.drew ?_)))
  rintro e w20 ⟨v394, rfl, ho0, hb⟩; refine ⟨_, rfl, ?_⟩; have n0_ := Aside0.mk (Kd.R_elder' (rX HO386) (Kd.R_base ho0) hb); have n1_ := Aside0.mk (Kd.R_elder' (rX HO390) (Kd.R_base ho0) hb); have n2_ := Aside0.mk (Kd.R_lower (Kd.R_newB (Kd.R_new' (Kd.R_new' ho0 (Kd.R_lt (rX HO386))) (Kd.R_lt (rX HO390))) (g := gb381) (o := .cells #[.int .i64 a1_0, .string a1_1] 24 (0, 0)) (kX BK381)) (below_size (bX1 HB GE381))); have n3_ := Aside0.mk (blk_below (kX BK381) hb); have n4_ := Aside0.mk (WOK.below (g := G_t383) (es := t383) (by repeat (first | (with_reducible exact HQt383.out) | (with_reducible refine WOK.alloc ?_ _) | (with_reducible refine WOK.drewN ?_ _) | (with_reducible refine WOK.drew ?_))) hb); have n5_ := Aside0.mk (ROK.below (g := G_t392) (cs := t392) (by repeat (first | (with_reducible exact HQt392.out) | (with_reducible refine ROK.alloc ?_ _) | (with_reducible refine ROK.drewN ?_ _) | (with_reducible refine ROK.drew ?_))) hb); have n6_ := Aside0.mk (below_step (bX1 HB GE381) hb); clear HO386; clear HO390; clear BK381; clear HQt383; clear HQt392; clear HB; have HO386 := n0_; have HO390 := n1_; have HO395 := n2_; have BK381 := n3_; have HQt383 := n4_; have HQt392 := n5_; have HB := n6_; clear n0_ n1_ n2_ n3_ n4_ n5_ n6_
  (try clear hb)
  (try clear hb2)
  (try clear hk)
  (try clear hi)
  (try clear ho0)
  refine hK.out _ _ ⟨(blk_cell BK381.out 0).trans rfl, (blk_cell BK381.out 1).trans rfl⟩ (fun hHeld => ?_); clear hK K; refine nX (some 44) ?_; refine pX HT_ 4 (some 40) ?_; refine pX HT_ 5 (some 45) ?_; refine pX HT_ 6 (some 46) ?_; refine pX HT_ 7 (some 10) ?_; refine pX HT_ 8 (some 11) ?_; refine done_ (done_of HT_.out (by kernel_rfl)) ?_
  go_upto_region 7 with (fail)
  go_cut [61] (fun v61 wc => ∃ (kq : Nat) (x61_9 : Bool), v61 = .bool x61_9 ∧ Aside0 (arbiterlaw07_ArraysKeeps.j0 kq t383 t384 t388 t393 x61_9 a1_0 a1_1 = some r) ∧ Aside0 (kq ≤ k) ∧ Aside0 (Kd.R k24 24 wc w.heap.size (fun k_ => some k_ ≠ (v389 : Value).ownBlock ∧ some k_ ≠ (v394 : Value).ownBlock ∧ k_ ≠ gb381) v385 t384) ∧ Aside0 (Kd.R k24 24 wc w.heap.size (fun k_ => some k_ ≠ (v385 : Value).ownBlock ∧ some k_ ≠ (v394 : Value).ownBlock ∧ k_ ≠ gb381) v389 t388) ∧ Aside0 (Kd.R k24 24 wc w.heap.size (fun k_ => some k_ ≠ (v385 : Value).ownBlock ∧ some k_ ≠ (v389 : Value).ownBlock ∧ k_ ≠ gb381) v394 t393) ∧ Aside0 (wc.heap[gb381]? = some (.cells #[.int .i64 a1_0, .string a1_1] 24 (0, 0))) ∧ Aside0 (WOK wc G_t383 t383) ∧ Aside0 (ROK wc G_t392 t392) ∧ Aside0 (Below w.heap.size w wc))
  case first =>
   have H := HC10.out; clear HC10
   by_cases c21 : t387 = t396
   ·rw [if_pos c21] at H
    have c21b0 : (t387 == t396) = true := beq_iff_eq.mpr c21; have c21b1 : (t387 != t396) = false := bne_eq_false_iff_eq.mpr c21; clear c21
    (first | rw [c21b0] | (simp only [i64_w, i32_w]; rw [c21b0]) | skip)
    replace H := Option.bind_eq_some_iff.mp H; obtain ⟨t397, A220, H⟩ := H; replace H : (if t397 = true then ((arbiterref02_SameTypes.f k t388 t393).bind fun t398 => (arbiterlaw07_ArraysKeeps.j0 k t383 t384 t388 t393 (!t398) a1_0 a1_1)) else (arbiterlaw07_ArraysKeeps.j0 k t383 t384 t388 t393 true a1_0 a1_1)) = some r := H; have A22 := Aside0.mk A220; clear A220
    by_cases c23 : t397 = true
    ·subst c23
     have H1 : ((arbiterref02_SameTypes.f k t388 t393).bind fun t398 => (arbiterlaw07_ArraysKeeps.j0 k t383 t384 t388 t393 (!t398) a1_0 a1_1)) = some r := by rw [if_pos rfl] at H; exact H
     clear H; have H := H1; clear H1; replace H := Option.bind_eq_some_iff.mp H; obtain ⟨t398, A240, H⟩ := H; replace H : (arbiterlaw07_ArraysKeeps.j0 k t383 t384 t388 t393 (!t398) a1_0 a1_1) = some r := H; have A24 := Aside0.mk A240; clear A240; have H' := Aside0.mk H; clear H; obtain ⟨Ao25, co25, eo25⟩ := Kd.R_slice HO386.out; subst eo25; obtain ⟨Ao26, co26, eo26⟩ := Kd.R_slice HO395.out; subst eo26; go_wp2_with (first | (go_at_call 40; (with_reducible refine (arbiterref02_SameTypes.calls k _ _ t384 _ _ t393 true _ ?side1 ?side2 ?side3 ?side4 A22.out).mono ?_); (case side1 => repeat (first | exact (Kd.R_reads' HO386.out).2.2 | (with_reducible refine Kd.C_alloc ?_ _) | (with_reducible refine Kd.C_drewN ?_ _) | (with_reducible refine Kd.C_drew ?_))); (case side2 => exact (Kd.R_reads' HO386.out).2.1); (case side3 => repeat (first | exact (Kd.R_reads' HO395.out).2.2 | (with_reducible refine Kd.C_alloc ?_ _) | (with_reducible refine Kd.C_drewN ?_ _) | (with_reducible refine Kd.C_drew ?_))); (case side4 => exact (Kd.R_reads' HO395.out).2.1); rintro e w27 ⟨rfl, hb⟩; have n0_ := Aside0.mk (Kd.R_below (rX HO386) hb); have n1_ := Aside0.mk (Kd.R_below (rX HO390) hb); have n2_ := Aside0.mk (Kd.R_below (rX HO395) hb); have n3_ := Aside0.mk (blk_below (kX BK381) hb); have n4_ := Aside0.mk (WOK.below (g := G_t383) (es := t383) (by repeat (first | (with_reducible exact HQt383.out) | (with_reducible refine WOK.alloc ?_ _) | (with_reducible refine WOK.drewN ?_ _) | (with_reducible refine WOK.drew ?_))) hb); have n5_ := Aside0.mk (ROK.below (g := G_t392) (cs := t392) (by repeat (first | (with_reducible exact HQt392.out) | (with_reducible refine ROK.alloc ?_ _) | (with_reducible refine ROK.drewN ?_ _) | (with_reducible refine ROK.drew ?_))) hb); have n6_ := Aside0.mk (below_step (bX1 HB GE381) hb); clear HO386; clear HO390; clear HO395; clear BK381; clear HQt383; clear HQt392; clear HB; have HO386 := n0_; have HO390 := n1_; have HO395 := n2_; have BK381 := n3_; have HQt383 := n4_; have HQt392 := n5_; have HB := n6_; clear n0_ n1_ n2_ n3_ n4_ n5_ n6_; (try clear hb); (try clear hb2); (try clear hk); (try clear hi); obtain ⟨Ao28, co28, eo28⟩ := Kd.R_slice HO390.out; subst eo28) | (go_at_call 40; (with_reducible refine (arbiterref02_SameTypes.calls k _ _ t388 _ _ t393 t398 _ ?side1 ?side2 ?side3 ?side4 A24.out).mono ?_); (case side1 => repeat (first | exact (Kd.R_reads' HO390.out).2.2 | (with_reducible refine Kd.C_alloc ?_ _) | (with_reducible refine Kd.C_drewN ?_ _) | (with_reducible refine Kd.C_drew ?_))); (case side2 => exact (Kd.R_reads' HO390.out).2.1); (case side3 => repeat (first | exact (Kd.R_reads' HO395.out).2.2 | (with_reducible refine Kd.C_alloc ?_ _) | (with_reducible refine Kd.C_drewN ?_ _) | (with_reducible refine Kd.C_drew ?_))); (case side4 => exact (Kd.R_reads' HO395.out).2.1); rintro e w29 ⟨rfl, hb⟩; have n0_ := Aside0.mk (Kd.R_below (rX HO386) hb); have n1_ := Aside0.mk (Kd.R_below (rX HO390) hb); have n2_ := Aside0.mk (Kd.R_below (rX HO395) hb); have n3_ := Aside0.mk (blk_below (kX BK381) hb); have n4_ := Aside0.mk (WOK.below (g := G_t383) (es := t383) (by repeat (first | (with_reducible exact HQt383.out) | (with_reducible refine WOK.alloc ?_ _) | (with_reducible refine WOK.drewN ?_ _) | (with_reducible refine WOK.drew ?_))) hb); have n5_ := Aside0.mk (ROK.below (g := G_t392) (cs := t392) (by repeat (first | (with_reducible exact HQt392.out) | (with_reducible refine ROK.alloc ?_ _) | (with_reducible refine ROK.drewN ?_ _) | (with_reducible refine ROK.drew ?_))) hb); have n6_ := Aside0.mk (below_step (bX1 HB GE381) hb); clear HO386; clear HO390; clear HO395; clear BK381; clear HQt383; clear HQt392; clear HB; have HO386 := n0_; have HO390 := n1_; have HO395 := n2_; have BK381 := n3_; have HQt383 := n4_; have HQt392 := n5_; have HB := n6_; clear n0_ n1_ n2_ n3_ n4_ n5_ n6_; (try clear hb); (try clear hb2); (try clear hk); (try clear hi))); go_meet
     case rel => exact ⟨_, (!t398), vX, H', ⟨by first | omega | exact Nat.le_refl _⟩, ⟨by (with_reducible repeat (first | apply Kd.R_alloc | apply Kd.R_drewN | apply Kd.R_drew)); exact Kd.R_mono HO386.out (fun _ hk => ⟨hk.1.2, ⟨hk.2, hk.1.1.2⟩⟩)⟩, ⟨by (with_reducible repeat (first | apply Kd.R_alloc | apply Kd.R_drewN | apply Kd.R_drew)); exact Kd.R_mono HO390.out (fun _ hk => ⟨hk.1.1.2, ⟨hk.2, hk.1.2⟩⟩)⟩, ⟨by (with_reducible repeat (first | apply Kd.R_alloc | apply Kd.R_drewN | apply Kd.R_drew)); exact Kd.R_mono HO395.out (fun _ hk => ⟨hk.1.1.2, ⟨hk.1.2, hk.2⟩⟩)⟩, ⟨by (with_reducible repeat (first | refine blk_drewN ?_ _ | refine blk_drew ?_ | refine blk_alloc ?_ _)); exact BK381.out⟩, ⟨by repeat (first | (with_reducible exact HQt383.out) | (with_reducible refine WOK.alloc ?_ _) | (with_reducible refine WOK.drewN ?_ _) | (with_reducible refine WOK.drew ?_))⟩, ⟨by repeat (first | (with_reducible exact HQt392.out) | (with_reducible refine ROK.alloc ?_ _) | (with_reducible refine ROK.drewN ?_ _) | (with_reducible refine ROK.drew ?_))⟩, ⟨bX1 HB GE381⟩⟩
    ·replace c23 := Bool.eq_false_iff.mpr c23
     subst c23
     have H1 : (arbiterlaw07_ArraysKeeps.j0 k t383 t384 t388 t393 true a1_0 a1_1) = some r := by rw [if_neg (show ¬ (false = true) by decide)] at H; exact H
     clear H; have H := H1; clear H1; have H' := Aside0.mk H; clear H; obtain ⟨Ao30, co30, eo30⟩ := Kd.R_slice HO386.out; subst eo30; obtain ⟨Ao31, co31, eo31⟩ := Kd.R_slice HO395.out; subst eo31; go_wp2_with (first | (go_at_call 40; (with_reducible refine (arbiterref02_SameTypes.calls k _ _ t384 _ _ t393 false _ ?side1 ?side2 ?side3 ?side4 A22.out).mono ?_); (case side1 => repeat (first | exact (Kd.R_reads' HO386.out).2.2 | (with_reducible refine Kd.C_alloc ?_ _) | (with_reducible refine Kd.C_drewN ?_ _) | (with_reducible refine Kd.C_drew ?_))); (case side2 => exact (Kd.R_reads' HO386.out).2.1); (case side3 => repeat (first | exact (Kd.R_reads' HO395.out).2.2 | (with_reducible refine Kd.C_alloc ?_ _) | (with_reducible refine Kd.C_drewN ?_ _) | (with_reducible refine Kd.C_drew ?_))); (case side4 => exact (Kd.R_reads' HO395.out).2.1); rintro e w32 ⟨rfl, hb⟩; have n0_ := Aside0.mk (Kd.R_below (rX HO386) hb); have n1_ := Aside0.mk (Kd.R_below (rX HO390) hb); have n2_ := Aside0.mk (Kd.R_below (rX HO395) hb); have n3_ := Aside0.mk (blk_below (kX BK381) hb); have n4_ := Aside0.mk (WOK.below (g := G_t383) (es := t383) (by repeat (first | (with_reducible exact HQt383.out) | (with_reducible refine WOK.alloc ?_ _) | (with_reducible refine WOK.drewN ?_ _) | (with_reducible refine WOK.drew ?_))) hb); have n5_ := Aside0.mk (ROK.below (g := G_t392) (cs := t392) (by repeat (first | (with_reducible exact HQt392.out) | (with_reducible refine ROK.alloc ?_ _) | (with_reducible refine ROK.drewN ?_ _) | (with_reducible refine ROK.drew ?_))) hb); have n6_ := Aside0.mk (below_step (bX1 HB GE381) hb); clear HO386; clear HO390; clear HO395; clear BK381; clear HQt383; clear HQt392; clear HB; have HO386 := n0_; have HO390 := n1_; have HO395 := n2_; have BK381 := n3_; have HQt383 := n4_; have HQt392 := n5_; have HB := n6_; clear n0_ n1_ n2_ n3_ n4_ n5_ n6_; (try clear hb); (try clear hb2); (try clear hk); (try clear hi))); go_meet
     case rel => exact ⟨_, (true), vX, H', ⟨by first | omega | exact Nat.le_refl _⟩, ⟨by (with_reducible repeat (first | apply Kd.R_alloc | apply Kd.R_drewN | apply Kd.R_drew)); exact Kd.R_mono HO386.out (fun _ hk => ⟨hk.1.2, ⟨hk.2, hk.1.1.2⟩⟩)⟩, ⟨by (with_reducible repeat (first | apply Kd.R_alloc | apply Kd.R_drewN | apply Kd.R_drew)); exact Kd.R_mono HO390.out (fun _ hk => ⟨hk.1.1.2, ⟨hk.2, hk.1.2⟩⟩)⟩, ⟨by (with_reducible repeat (first | apply Kd.R_alloc | apply Kd.R_drewN | apply Kd.R_drew)); exact Kd.R_mono HO395.out (fun _ hk => ⟨hk.1.1.2, ⟨hk.1.2, hk.2⟩⟩)⟩, ⟨by (with_reducible repeat (first | refine blk_drewN ?_ _ | refine blk_drew ?_ | refine blk_alloc ?_ _)); exact BK381.out⟩, ⟨by repeat (first | (with_reducible exact HQt383.out) | (with_reducible refine WOK.alloc ?_ _) | (with_reducible refine WOK.drewN ?_ _) | (with_reducible refine WOK.drew ?_))⟩, ⟨by repeat (first | (with_reducible exact HQt392.out) | (with_reducible refine ROK.alloc ?_ _) | (with_reducible refine ROK.drewN ?_ _) | (with_reducible refine ROK.drew ?_))⟩, ⟨bX1 HB GE381⟩⟩
   ·rw [if_neg c21] at H
    have c21b0 : (t387 == t396) = false := beq_eq_false_iff_ne.mpr c21; have c21b1 : (t387 != t396) = true := bne_iff_ne.mpr c21
    (first | rw [c21b0] | (simp only [i64_w, i32_w]; rw [c21b0]) | skip)
    have H' := Aside0.mk H; clear H; go_wp2; go_meet
    case rel => exact ⟨_, (true), vX, H', ⟨by first | omega | exact Nat.le_refl _⟩, ⟨by (with_reducible repeat (first | apply Kd.R_alloc | apply Kd.R_drewN | apply Kd.R_drew)); exact Kd.R_mono HO386.out (fun _ hk => ⟨hk.1.2, ⟨hk.2, hk.1.1.2⟩⟩)⟩, ⟨by (with_reducible repeat (first | apply Kd.R_alloc | apply Kd.R_drewN | apply Kd.R_drew)); exact Kd.R_mono HO390.out (fun _ hk => ⟨hk.1.1.2, ⟨hk.2, hk.1.2⟩⟩)⟩, ⟨by (with_reducible repeat (first | apply Kd.R_alloc | apply Kd.R_drewN | apply Kd.R_drew)); exact Kd.R_mono HO395.out (fun _ hk => ⟨hk.1.1.2, ⟨hk.1.2, hk.2⟩⟩)⟩, ⟨by (with_reducible repeat (first | refine blk_drewN ?_ _ | refine blk_drew ?_ | refine blk_alloc ?_ _)); exact BK381.out⟩, ⟨by repeat (first | (with_reducible exact HQt383.out) | (with_reducible refine WOK.alloc ?_ _) | (with_reducible refine WOK.drewN ?_ _) | (with_reducible refine WOK.drew ?_))⟩, ⟨by repeat (first | (with_reducible exact HQt392.out) | (with_reducible refine ROK.alloc ?_ _) | (with_reducible refine ROK.drewN ?_ _) | (with_reducible refine ROK.drew ?_))⟩, ⟨bX1 HB GE381⟩⟩
  case rest =>
   clear HC10
   try clear c1
   try clear c2
   try clear p2
   try clear c3
   try clear c4
   try clear c8
   try clear c13
   try clear c21
   try clear c21b0
   try clear c21b1
   try clear c23
   try clear c31
   try clear c32
   try clear hcz14_0 hcz14_1
   try clear hcz16_0 hcz16_1
   try clear hfz14_0 hfz14_1
   try clear hfz16_0 hfz16_1
   obtain ⟨kq, x61_9, rfl, HA, HJ9, HO_6, HO_8, HO_10, BK381, HQt383, HQt392, HB⟩ := hcut
   cases kq with
   | zero => exact absurd HA.out (by simp [arbiterlaw07_ArraysKeeps.j0])
   | succ kj9 =>
    have H := HA.out; clear HA; simp only [arbiterlaw07_ArraysKeeps.j0] at H
    by_cases c33 : x61_9 = true
    ·subst c33
     have H1 : (some false) = some r := by rw [if_pos rfl] at H; exact H
     clear H; have H := H1; clear H1; obtain rfl := Option.some.inj H; go_wp2; go_ret
     exact ⟨by first | rfl | (simp [errW_none, errW_some] <;> rfl) | (simp [*, errW_none, errW_some] <;> rfl), bX1 HB GE381⟩
    ·replace c33 := Bool.eq_false_iff.mpr c33
     subst c33
     have H1 : (arbiterlaw07_ArraysKeeps.l0 kj9 t383 t384 t388 t393 0 a1_0 a1_1) = some r := by rw [if_neg (show ¬ (false = true) by decide)] at H; exact H
     clear H; have H := H1; clear H1; have H' := Aside0.mk H; clear H; go_wp2
     go_loopg [12] kj9 (fun kq v12 w' => ∃ (x6_2 : List (S24)) (x12_2 : Int) (x382000_2 : Int) (x382001_2 : ByteArray), v12 = .int .i64 x12_2 ∧ Aside0 (arbiterlaw07_ArraysKeeps.l0 kq t383 x6_2 t388 t393 x12_2 x382000_2 x382001_2 = some r) ∧ Aside0 (kq ≤ kj9) ∧ Aside0 (Kd.R k24 24 w' w.heap.size (fun k_ => some k_ ≠ (v389 : Value).ownBlock ∧ some k_ ≠ (v394 : Value).ownBlock ∧ k_ ≠ gb381) v385 x6_2) ∧ Aside0 (Kd.R k24 24 w' w.heap.size (fun k_ => some k_ ≠ (v385 : Value).ownBlock ∧ some k_ ≠ (v394 : Value).ownBlock ∧ k_ ≠ gb381) v389 t388) ∧ Aside0 (Kd.R k24 24 w' w.heap.size (fun k_ => some k_ ≠ (v385 : Value).ownBlock ∧ some k_ ≠ (v389 : Value).ownBlock ∧ k_ ≠ gb381) v394 t393) ∧ Aside0 (w'.heap[gb381]? = some (.cells #[.int .i64 x382000_2, .string x382001_2] 24 (0, 0))) ∧ Aside0 (WOK w' G_t383 t383) ∧ Aside0 (ROK w' G_t392 t392) ∧ Aside0 (Below w.heap.size w w'))
     case atStart => exact ⟨(t384), (0), (a1_0), (a1_1), vX, H', ⟨Nat.le_refl _⟩, ⟨rX HO_6⟩, ⟨rX HO_8⟩, ⟨rX HO_10⟩, ⟨by (with_reducible repeat (first | refine blk_drewN ?_ _ | refine blk_drew ?_ | refine blk_alloc ?_ _)); exact BK381.out⟩, ⟨by repeat (first | (with_reducible exact HQt383.out) | (with_reducible refine WOK.alloc ?_ _) | (with_reducible refine WOK.drewN ?_ _) | (with_reducible refine WOK.drew ?_))⟩, ⟨by repeat (first | (with_reducible exact HQt392.out) | (with_reducible refine ROK.alloc ?_ _) | (with_reducible refine ROK.drewN ?_ _) | (with_reducible refine ROK.drew ?_))⟩, ⟨bX1 HB GE381⟩⟩
     case round =>
      clear H'
      try clear c1
      try clear c2
      try clear p2
      try clear c3
      try clear c4
      try clear c8
      try clear c13
      try clear c21
      try clear c21b0
      try clear c21b1
      try clear c23
      try clear c31
      try clear c32
      try clear c33
      try clear hcz14_0 hcz14_1
      try clear hcz16_0 hcz16_1
      try clear hfz14_0 hfz14_1
      try clear hfz16_0 hfz16_1
      try clear p2
      obtain ⟨x6_2, x12_2, x382000_2, x382001_2, rfl, HA, HK2, HO_6, HO_8, HO_10, BK381, HQt383, HQt392, HB⟩ := hrel
      cases gk with
      | zero => exact absurd HA.out (by simp [arbiterlaw07_ArraysKeeps.l0])
      | succ k2 =>
       have H := HA.out; clear HA; simp only [arbiterlaw07_ArraysKeeps.l0] at H
       by_cases c34 : x12_2 < (x6_2.length : Int)
       ·rw [if_pos c34] at H
        have c34b0 : decide (x12_2 < (x6_2.length : Int)) = true := decide_eq_true c34; clear c34
        by_cases c35 : 0 ≤ x12_2
        ·rw [if_pos c35] at H
         have c35b0 : decide (0 ≤ x12_2) = true := decide_eq_true c35; clear c35
         obtain ⟨y399, hy399⟩ : ∃ y_ : List (S24), y_ = (x6_2.set (x12_2 : Int).toNat (⟨77, (⟨#[]⟩ : ByteArray)⟩ : S24)) := ⟨_, rfl⟩
         replace H : (arbiterlaw07_ArraysKeeps.l0 k2 t383 y399 t388 t393 (wrap64 (x12_2 + 1)) x382000_2 x382001_2) = some r := by first | (rw [hy399]; with_reducible exact H) | (have H2_ := (Option.bind_some _ _).symm.trans H; rw [hy399]; with_reducible exact H2_) | (have H2_ := (Option.bind_some _ _).symm.trans H; with_reducible exact H2_) | with_reducible exact H | (rw [hy399]; exact H) | exact H
         have Ny399 := Aside0.mk hy399; clear hy399; have H' := Aside0.mk H; clear H; obtain ⟨Ao37, co37, eo37⟩ := Kd.R_slice HO_6.out; subst eo37; have p36 : 0 ≤ (x12_2 : Int) := qX; have q36 : (x12_2 : Int) < ((x6_2.length : Int) : Int) := qX; obtain ⟨go36, co36, eo36, gb36, gl36, cl36, HG36⟩ := Kd.R_form HO_6.out (by omega)
         (first | cases eo36 | (injection eo36 with ea_ en_ ec_; (first | subst ea_ | (injection ea_ with ea_; subst ea_)); subst ec_; clear en_))
         have GB36 := Aside0.mk gb36; have GG36 := Aside0.mk HG36; clear gb36 gl36 HG36; obtain ⟨ce36, hcl36, hM36, hcc36, hfr36⟩ := Kd.R_elem HO_6.out z24 (x12_2 : Int) p36 q36; obtain rfl := k24_openM hM36; have hx36_0 : wr.cell? ⟨go36, (x12_2 : Int).toNat * 2, none⟩ = some (.int .i64 ((rd_T24 x6_2 x12_2).f0)) := hcc36 0 _ rfl; have hx36_1 : wr.cell? ⟨go36, (x12_2 : Int).toNat * 2 + 1, none⟩ = some (.string ((rd_T24 x6_2 x12_2).f1)) := hcc36 1 _ rfl; have hf36_0 : wr.frozen? ⟨go36, (x12_2 : Int).toNat * 2, none⟩ = false := hfr36 0; have hf36_1 : wr.frozen? ⟨go36, (x12_2 : Int).toNat * 2 + 1, none⟩ = false := hfr36 1; clear hcl36 hcc36 hfr36 hM36; replace p36 := eq_true p36; replace q36 := eq_true q36; have HX38 := Aside0.mk (show Kd.R k24 24 wr w.heap.size (fun k_ => some k_ ≠ (v389 : Value).ownBlock ∧ some k_ ≠ (v394 : Value).ownBlock ∧ k_ ≠ gb381) (.slice (some ⟨go36, 0, none⟩) x6_2.length co37) x6_2 from (rX HO_6)); obtain ⟨ce38, hcl38, hM38, hcc38, hfr38⟩ := Kd.R_elem HX38.out z24 (x12_2 : Int) (qX) (by have h_ : (x12_2 : Int) < ((x6_2.length : Int) : Int) := qX; first | exact h_ | (have e_ := (Kd.R_reads' HO_6.out).1; omega) | simpa using h_); obtain rfl := k24_openM hM38; have HP38 := Kd.R_seg HX38.out (x12_2 : Int) (qX) (by have h_ : (x12_2 : Int) < ((x6_2.length : Int) : Int) := qX; first | exact h_ | (have e_ := (Kd.R_reads' HO_6.out).1; omega) | simpa using h_) (seg := [.int .i64 77, .string (⟨#[]⟩ : ByteArray)]) (j := 0) hcl38 hcc38 (show 2 ≤ 2 from by decide) (x' := (⟨77, (⟨#[]⟩ : ByteArray)⟩ : S24)) (k24_mkM _ _ _ (⟨77, (⟨#[]⟩ : ByteArray)⟩ : S24) ) (fun _ hk => hk); have hx38_0 := hcc38 0 _ rfl
         (try simp only [show (k24).sz = 2 from rfl, Nat.mul_one, Nat.add_zero] at hx38_0)
         have hf38_0 := hfr38 0
         (try simp only [show (k24).sz = 2 from rfl, Nat.mul_one, Nat.add_zero] at hf38_0)
         have hx38_1 := hcc38 1 _ rfl
         (try simp only [show (k24).sz = 2 from rfl, Nat.mul_one, Nat.add_zero] at hx38_1)
         have hf38_1 := hfr38 1
         (try simp only [show (k24).sz = 2 from rfl, Nat.mul_one, Nat.add_zero] at hf38_1)
         clear hcl38 hcc38 hfr38 hM38; go_wp2_with (first | ((with_reducible refine gate_store (t := 24) (p := 71) rfl ?_); refine store_event (t := 24) (p := 71) (v := ?vo_w39) (w1 := ((wr.setCell ⟨go36, (x12_2 : Int).toNat * 2, none⟩ (.int .i64 77)).setCell ⟨go36, (x12_2 : Int).toNat * 2 + 1, none⟩ (.string (⟨#[]⟩ : ByteArray)))) ?hg ?ho ?hn ?hr ?_; (case ho => rfl); (case hg => rfl); (case hn => rfl); (case hr => first | (go_simp; done) | (go_simp; rfl)); intro w39 hw; have hg : wr.grownBy w39 (some go36) := (by rw [hw]; exact HP38.2); have hp_ : Kd.R k24 24 w39 w.heap.size (fun k_ => some k_ ≠ (v389 : Value).ownBlock ∧ some k_ ≠ (v394 : Value).ownBlock ∧ k_ ≠ gb381) (.slice (some ⟨go36, 0, none⟩) x6_2.length co37) y399 := (by rw [hw, Ny399.out]; exact HP38.1); clear HP38; have n0_ := Aside0.mk (hp_); have n1_ := Aside0.mk (Kd.R_after (v := (.slice (some ⟨go36, 0, none⟩) x6_2.length co37)) (v1 := (.slice (some ⟨go36, 0, none⟩) x6_2.length co37)) (ok := (fun k_ => some k_ ≠ (v394 : Value).ownBlock ∧ k_ ≠ gb381)) (by (with_reducible repeat (first | apply Kd.R_alloc | apply Kd.R_drewN | apply Kd.R_drew)); exact Kd.R_mono HO_8.out (fun _ hk => ⟨⟨hk.2.1, hk.2.2⟩, hk.1⟩)) hg (.inl rfl)); have n2_ := Aside0.mk (Kd.R_after (v := (.slice (some ⟨go36, 0, none⟩) x6_2.length co37)) (v1 := (.slice (some ⟨go36, 0, none⟩) x6_2.length co37)) (ok := (fun k_ => some k_ ≠ (v389 : Value).ownBlock ∧ k_ ≠ gb381)) (by (with_reducible repeat (first | apply Kd.R_alloc | apply Kd.R_drewN | apply Kd.R_drew)); exact Kd.R_mono HO_10.out (fun _ hk => ⟨⟨hk.2.1, hk.2.2⟩, hk.1⟩)) hg (.inl rfl)); have n3_ := Aside0.mk (blk_grown (g := gb381) (o := .cells #[.int .i64 x382000_2, .string x382001_2] 24 (0, 0)) (kX BK381) hg (Kd.R_away HO_6.out (fun _ hk => hk.2.2))); have n4_ := Aside0.mk ((by rw [hw]; exact below_set (below_set (HB.out) GB36.out) GB36.out : Below w.heap.size w w39)); have T_ := R_typeAt HO_6.out; have m1_ := Aside0.mk (WOK.grown (t := 24) hg (by repeat (first | (with_reducible exact HQt383.out) | (with_reducible refine WOK.alloc ?_ _) | (with_reducible refine WOK.drewN ?_ _) | (with_reducible refine WOK.drew ?_))) (fun k_ hk_ => by repeat (first | exact T_ k_ hk_ | (with_reducible refine TypeAt.alloc ?_ _) | (with_reducible refine TypeAt.drewN ?_ _) | (with_reducible refine TypeAt.drew ?_))) (by decide)); have m2_ := Aside0.mk (ROK.grown (t := 24) hg (by repeat (first | (with_reducible exact HQt392.out) | (with_reducible refine ROK.alloc ?_ _) | (with_reducible refine ROK.drewN ?_ _) | (with_reducible refine ROK.drew ?_))) (fun k_ hk_ => by repeat (first | exact T_ k_ hk_ | (with_reducible refine TypeAt.alloc ?_ _) | (with_reducible refine TypeAt.drewN ?_ _) | (with_reducible refine TypeAt.drew ?_))) (by decide)); clear T_; clear HQt383; clear HQt392; have HQt383 := m1_; have HQt392 := m2_; clear m1_ m2_; clear HO_6; clear HO_8; clear HO_10; clear BK381; clear HB; have HO_6 := n0_; have HO_8 := n1_; have HO_10 := n2_; have BK381 := n3_; have HB := n4_; clear n0_ n1_ n2_ n3_ n4_; clear hg hw hp_))
         go_roundg k2
         case measure => have := HJ9.out; have := HK2.out; omega
         case rel => exact ⟨(y399), (wrap64 (x12_2 + 1)), (x382000_2), (x382001_2), vX, H', ⟨by have := HJ9.out; have := HK2.out; omega⟩, ⟨rX HO_6⟩, ⟨by (with_reducible repeat (first | apply Kd.R_alloc | apply Kd.R_drewN | apply Kd.R_drew)); exact Kd.R_mono HO_8.out (fun _ hk => ⟨hk.2, ⟨hk.1.1, hk.1.2⟩⟩)⟩, ⟨by (with_reducible repeat (first | apply Kd.R_alloc | apply Kd.R_drewN | apply Kd.R_drew)); exact Kd.R_mono HO_10.out (fun _ hk => ⟨hk.2, ⟨hk.1.1, hk.1.2⟩⟩)⟩, ⟨by (with_reducible repeat (first | refine blk_drewN ?_ _ | refine blk_drew ?_ | refine blk_alloc ?_ _)); exact BK381.out⟩, ⟨by repeat (first | (with_reducible exact HQt383.out) | (with_reducible refine WOK.alloc ?_ _) | (with_reducible refine WOK.drewN ?_ _) | (with_reducible refine WOK.drew ?_))⟩, ⟨by repeat (first | (with_reducible exact HQt392.out) | (with_reducible refine ROK.alloc ?_ _) | (with_reducible refine ROK.drewN ?_ _) | (with_reducible refine ROK.drew ?_))⟩, ⟨bX1 HB GE381⟩⟩
        ·rw [if_neg c35] at H
         exact absurd H (by simp)
       ·rw [if_neg c34] at H
        have c34b0 : decide (x12_2 < (x6_2.length : Int)) = false := decide_eq_false c34; clear c34
        obtain ⟨y400, hy400⟩ : ∃ y_ : List (S24), y_ = (([(⟨78, (⟨#[]⟩ : ByteArray)⟩ : S24), (⟨79, (⟨#[]⟩ : ByteArray)⟩ : S24)] : List (S24))) := ⟨_, rfl⟩
        replace H : (if x6_2.length + y400.length < 5864062014805 then ((arrays_Above.f t383 x382000_2 x382001_2).bind fun bt406 => (if ((x6_2 ++ y400).length : Int) = (wrap64 ((t393.length : Int) + 2)) then ((arbiterref02_SameTypes.f k2 t388 t393).bind fun t410 => (if t410 = true then ((arbiterref02_SameTypes.f k2 bt406.1 t393).bind fun t411 => (arbiterlaw07_ArraysKeeps.j2 k2 (!t411) x382000_2 x382001_2)) else (arbiterlaw07_ArraysKeeps.j2 k2 true x382000_2 x382001_2))) else (arbiterlaw07_ArraysKeeps.j2 k2 true x382000_2 x382001_2))) else (none)) = some r := by first | (rw [hy400]; with_reducible exact H) | (have H2_ := (Option.bind_some _ _).symm.trans H; rw [hy400]; with_reducible exact H2_) | (have H2_ := (Option.bind_some _ _).symm.trans H; with_reducible exact H2_) | with_reducible exact H | (rw [hy400]; exact H) | exact H
        have Ny400 := Aside0.mk hy400; clear hy400
        by_cases c40 : x6_2.length + y400.length < 5864062014805
        ·rw [if_pos c40] at H
         have LMc40 := Aside0.mk c40; clear c40
         obtain ⟨y403, hy403⟩ : ∃ y_ : List (S24), y_ = (x6_2 ++ y400) := ⟨_, rfl⟩
         replace H : ((arrays_Above.f t383 x382000_2 x382001_2).bind fun bt406 => (if (y403.length : Int) = (wrap64 ((t393.length : Int) + 2)) then ((arbiterref02_SameTypes.f k2 t388 t393).bind fun t410 => (if t410 = true then ((arbiterref02_SameTypes.f k2 bt406.1 t393).bind fun t411 => (arbiterlaw07_ArraysKeeps.j2 k2 (!t411) x382000_2 x382001_2)) else (arbiterlaw07_ArraysKeeps.j2 k2 true x382000_2 x382001_2))) else (arbiterlaw07_ArraysKeeps.j2 k2 true x382000_2 x382001_2))) = some r := by first | (rw [hy403]; with_reducible exact H) | (have H2_ := (Option.bind_some _ _).symm.trans H; rw [hy403]; with_reducible exact H2_) | (have H2_ := (Option.bind_some _ _).symm.trans H; with_reducible exact H2_) | with_reducible exact H | (rw [hy403]; exact H) | exact H
         have Ny403 := Aside0.mk hy403; clear hy403; replace H := Option.bind_eq_some_iff.mp H; obtain ⟨⟨t406, t409⟩, A410, H⟩ := H; replace H : (if (y403.length : Int) = (wrap64 ((t393.length : Int) + 2)) then ((arbiterref02_SameTypes.f k2 t388 t393).bind fun t410 => (if t410 = true then ((arbiterref02_SameTypes.f k2 t406 t393).bind fun t411 => (arbiterlaw07_ArraysKeeps.j2 k2 (!t411) x382000_2 x382001_2)) else (arbiterlaw07_ArraysKeeps.j2 k2 true x382000_2 x382001_2))) else (arbiterlaw07_ArraysKeeps.j2 k2 true x382000_2 x382001_2)) = some r := H; have A41 := Aside0.mk A410; clear A410; have HC42 := Aside0.mk H; clear H; obtain ⟨Ao43, co43, eo43⟩ := Kd.R_slice HO_6.out; subst eo43
         go_upto_region 15 with (first | ((with_reducible refine gate_dst (N := 75) rfl ?_); refine Kd.R_lit k24 _ 24 ?hg (N := 75) ?hd (xs := ([(⟨78, (⟨#[]⟩ : ByteArray)⟩ : S24), (⟨79, (⟨#[]⟩ : ByteArray)⟩ : S24)] : List (S24))) (inner := [.int .i64 78, .string (⟨#[]⟩ : ByteArray), .int .i64 79, .string (⟨#[]⟩ : ByteArray)]) (ok := fun _ => True) (okp := fun _ => True) ?hr ?hp (fun _ hk => hk) trivial (Below.refl _ _) (Nat.le_refl _) (by simp) ?_; (case hd => rfl); (case hg => rfl); (case hr => first | (go_simp; done) | (go_simp; rfl)); (case hp => exact (Reps.c2 (show Kd.M k24 _ _ _ (⟨78, (⟨#[]⟩ : ByteArray)⟩ : S24) [.int .i64 78, .string (⟨#[]⟩ : ByteArray)] from (k24_mkM _ _ _ (⟨78, (⟨#[]⟩ : ByteArray)⟩ : S24) )) (Reps.c2 (show Kd.M k24 _ _ _ (⟨79, (⟨#[]⟩ : ByteArray)⟩ : S24) [.int .i64 79, .string (⟨#[]⟩ : ByteArray)] from (k24_mkM _ _ _ (⟨79, (⟨#[]⟩ : ByteArray)⟩ : S24) )) (Reps.none _ _)))); intro v401 w44 ho45 hb hg_ hnew_; clear hg_ hnew_; (first | rw [← Ny400.out] at ho45 | (simp only [Int.reduceToNat] at ho45; rw [← Ny400.out] at ho45)); have n0_ := Aside0.mk (Kd.R_elder' (rX HO_6) (Kd.R_base ho45) hb); have n1_ := Aside0.mk (Kd.R_elder' (rX HO_8) (Kd.R_base ho45) hb); have n2_ := Aside0.mk (Kd.R_elder' (rX HO_10) (Kd.R_base ho45) hb); have n3_ := Aside0.mk (Kd.R_lower (Kd.R_newB (Kd.R_new' (Kd.R_new' (Kd.R_new' ho45 (Kd.R_lt (rX HO_6))) (Kd.R_lt (rX HO_8))) (Kd.R_lt (rX HO_10))) (g := gb381) (o := .cells #[.int .i64 x382000_2, .string x382001_2] 24 (0, 0)) (kX BK381)) (below_size (bX1 HB GE381))); have n4_ := Aside0.mk (blk_below (kX BK381) hb); have n5_ := Aside0.mk (WOK.below (g := G_t383) (es := t383) (by repeat (first | (with_reducible exact HQt383.out) | (with_reducible refine WOK.alloc ?_ _) | (with_reducible refine WOK.drewN ?_ _) | (with_reducible refine WOK.drew ?_))) hb); have n6_ := Aside0.mk (ROK.below (g := G_t392) (cs := t392) (by repeat (first | (with_reducible exact HQt392.out) | (with_reducible refine ROK.alloc ?_ _) | (with_reducible refine ROK.drewN ?_ _) | (with_reducible refine ROK.drew ?_))) hb); have n7_ := Aside0.mk (below_step (bX1 HB GE381) hb); clear HO_6; clear HO_8; clear HO_10; clear BK381; clear HQt383; clear HQt392; clear HB; have HO_6 := n0_; have HO_8 := n1_; have HO_10 := n2_; have HO402 := n3_; have BK381 := n4_; have HQt383 := n5_; have HQt392 := n6_; have HB := n7_; clear n0_ n1_ n2_ n3_ n4_ n5_ n6_ n7_; clear hb ho45; obtain ⟨Ao47, co47, eo47⟩ := Kd.R_slice HO402.out; subst eo47) | ((with_reducible refine gate_builtin (b := .append) (xs := #[.tmp 72, .tmp 75]) rfl ?_); at_builtin; refine Kd.R_append_rows k24 (w0 := w) w.heap.size rfl (.tmp 72) (.tmp 75) 66 24 (.agg #[(.int .i64 0), (.string ⟨#[]⟩)]) 24 rfl Tryz.underlying66 info24 rfl (by decide) (by omega) (.slice Ao43 x6_2.length co43) x6_2 y400 _ _ _ (fun k_ => some k_ ≠ (v389 : Value).ownBlock ∧ some k_ ≠ (v394 : Value).ownBlock ∧ some k_ ≠ (.slice Ao47 y400.length co47 : Value).ownBlock ∧ k_ ≠ gb381) (fun _ => False) rfl rfl ?aO ?aR (fun _ _ h => h) (fun _ h => h.elim) ?aF ?aB ?aS ?aL ?_; (case aR => repeat (first | exact (Kd.R_reads' HO402.out).2.2 | (with_reducible refine Kd.C_alloc ?_ _) | (with_reducible refine Kd.C_drewN ?_ _) | (with_reducible refine Kd.C_drew ?_))); (case aB => exact (bX1 HB GE381)); (case aF => exact (fun k_ hk => ⟨Kd.fresh' (Kd.R_lt (rX HO_8)) k_ hk, Kd.fresh' (Kd.R_lt (rX HO_10)) k_ hk, Kd.fresh' (Kd.R_lt (rX HO402)) k_ hk, Kd.freshB (g := gb381) (o := .cells #[.int .i64 x382000_2, .string x382001_2] 24 (0, 0)) (kX BK381) k_ hk⟩)); (case aO => exact (by (with_reducible repeat (first | apply Kd.R_alloc | apply Kd.R_drewN | apply Kd.R_drew)); exact Kd.R_mono HO_6.out (fun _ hk => ⟨hk.1.1, ⟨hk.1.2.1, ⟨hk.2, hk.1.2.2⟩⟩⟩))); (case aS => exact (below_size (bX1 HB GE381))); (case aL => have := LMc40.out; omega); intro v404 w46 ho hb hg hat; rw [← Ny403.out] at ho; have n0_ := Aside0.mk (Kd.R_after (ok := (fun k_ => some k_ ≠ (v394 : Value).ownBlock ∧ some k_ ≠ (.slice Ao47 y400.length co47 : Value).ownBlock ∧ k_ ≠ gb381)) (by (with_reducible repeat (first | apply Kd.R_alloc | apply Kd.R_drewN | apply Kd.R_drew)); exact Kd.R_mono HO_8.out (fun _ hk => ⟨⟨hk.1.2.1, ⟨hk.2, hk.1.2.2⟩⟩, hk.1.1⟩)) hg hat); have n1_ := Aside0.mk (Kd.R_after (ok := (fun k_ => some k_ ≠ (v389 : Value).ownBlock ∧ some k_ ≠ (.slice Ao47 y400.length co47 : Value).ownBlock ∧ k_ ≠ gb381)) (by (with_reducible repeat (first | apply Kd.R_alloc | apply Kd.R_drewN | apply Kd.R_drew)); exact Kd.R_mono HO_10.out (fun _ hk => ⟨⟨hk.1.2.1, ⟨hk.2, hk.1.2.2⟩⟩, hk.1.1⟩)) hg hat); have n2_ := Aside0.mk (blk_grown (g := gb381) (o := .cells #[.int .i64 x382000_2, .string x382001_2] 24 (0, 0)) (kX BK381) hg (Kd.R_away HO_6.out (fun _ hk => hk.1.2.2))); have n3_ := Aside0.mk (Kd.R_after (ok := (fun k_ => some k_ ≠ (v389 : Value).ownBlock ∧ some k_ ≠ (v394 : Value).ownBlock ∧ k_ ≠ gb381)) (by (with_reducible repeat (first | apply Kd.R_alloc | apply Kd.R_drewN | apply Kd.R_drew)); exact Kd.R_mono HO402.out (fun _ hk => ⟨⟨hk.1.1.2, ⟨hk.1.2, hk.2⟩⟩, hk.1.1.1.2⟩)) hg hat); have n4_ := Aside0.mk (hb); have n5_ := Aside0.mk (ho); have T_ := R_typeAt HO_6.out; have m1_ := Aside0.mk (WOK.grown (t := 24) hg (by repeat (first | (with_reducible exact HQt383.out) | (with_reducible refine WOK.alloc ?_ _) | (with_reducible refine WOK.drewN ?_ _) | (with_reducible refine WOK.drew ?_))) (fun k_ hk_ => by repeat (first | exact T_ k_ hk_ | (with_reducible refine TypeAt.alloc ?_ _) | (with_reducible refine TypeAt.drewN ?_ _) | (with_reducible refine TypeAt.drew ?_))) (by decide)); have m2_ := Aside0.mk (ROK.grown (t := 24) hg (by repeat (first | (with_reducible exact HQt392.out) | (with_reducible refine ROK.alloc ?_ _) | (with_reducible refine ROK.drewN ?_ _) | (with_reducible refine ROK.drew ?_))) (fun k_ hk_ => by repeat (first | exact T_ k_ hk_ | (with_reducible refine TypeAt.alloc ?_ _) | (with_reducible refine TypeAt.drewN ?_ _) | (with_reducible refine TypeAt.drew ?_))) (by decide)); clear T_; clear HQt383; clear HQt392; have HQt383 := m1_; have HQt392 := m2_; clear m1_ m2_; clear HO_8; clear HO_10; clear BK381; clear HO402; clear HB; clear HO_6; have HO_8 := n0_; have HO_10 := n1_; have BK381 := n2_; have HO402 := n3_; have HB := n4_; have HO405 := n5_; clear n0_ n1_ n2_ n3_ n4_ n5_; clear ho hb hg hat; obtain ⟨hcz48_0, hcz48_1, hfz48_0, hfz48_1⟩ := c2X BK381) | ((with_reducible refine gate_callee (f := 38) rfl ?_); refine gX (some 80) Tryz.func38 #[.pointer (some ⟨G_t383, 0, none⟩), .agg #[.int .i64 x382000_2, .string x382001_2]] ?_; (with_reducible refine (arrays_Above.calls G_t383 t383 x382000_2 x382001_2 t406 t409 _ ?side1 A41.out).mono ?_); (case side1 => repeat (first | (with_reducible exact HQt383.out) | (with_reducible refine WOK.alloc ?_ _) | (with_reducible refine WOK.drewN ?_ _) | (with_reducible refine WOK.drew ?_))); rintro e w49 ⟨v407, rfl, ho0, hb⟩; refine ⟨_, rfl, ?_⟩; have n0_ := Aside0.mk (Kd.R_elder' (rX HO_8) (Kd.R_base ho0) hb); have n1_ := Aside0.mk (Kd.R_elder' (rX HO_10) (Kd.R_base ho0) hb); have n2_ := Aside0.mk (Kd.R_elder' (rX HO402) (Kd.R_base ho0) hb); have n3_ := Aside0.mk (Kd.R_elder' (rX HO405) (Kd.R_base ho0) hb); have n4_ := Aside0.mk (Kd.R_lower (Kd.R_newB (Kd.R_new' (Kd.R_new' (Kd.R_new' (Kd.R_new' ho0 (Kd.R_lt (rX HO_8))) (Kd.R_lt (rX HO_10))) (Kd.R_lt (rX HO402))) (Kd.R_lt (rX HO405))) (g := gb381) (o := .cells #[.int .i64 x382000_2, .string x382001_2] 24 (0, 0)) (kX BK381)) (below_size (bX1 HB GE381))); have n5_ := Aside0.mk (blk_below (kX BK381) hb); have n6_ := Aside0.mk (WOK.below (g := G_t383) (es := t383) (by repeat (first | (with_reducible exact HQt383.out) | (with_reducible refine WOK.alloc ?_ _) | (with_reducible refine WOK.drewN ?_ _) | (with_reducible refine WOK.drew ?_))) hb); have n7_ := Aside0.mk (ROK.below (g := G_t392) (cs := t392) (by repeat (first | (with_reducible exact HQt392.out) | (with_reducible refine ROK.alloc ?_ _) | (with_reducible refine ROK.drewN ?_ _) | (with_reducible refine ROK.drew ?_))) hb); have n8_ := Aside0.mk (below_step (bX1 HB GE381) hb); clear HO_8; clear HO_10; clear HO402; clear HO405; clear BK381; clear HQt383; clear HQt392; clear HB; have HO_8 := n0_; have HO_10 := n1_; have HO402 := n2_; have HO405 := n3_; have HO408 := n4_; have BK381 := n5_; have HQt383 := n6_; have HQt392 := n7_; have HB := n8_; clear n0_ n1_ n2_ n3_ n4_ n5_ n6_ n7_ n8_; (try clear hb); (try clear hb2); (try clear hk); (try clear hi); (try clear ho0)))
         (try simp only [Act.put, List.setIfInBounds_toArray, List.set_cons_zero, List.set_cons_succ])
         go_cut [100] (fun v100 wc => ∃ (kq : Nat) (x100_41 : Bool), v100 = .bool x100_41 ∧ Aside0 (arbiterlaw07_ArraysKeeps.j2 kq x100_41 x382000_2 x382001_2 = some r) ∧ Aside0 (kq ≤ k2) ∧ Aside0 (wc.heap[gb381]? = some (.cells #[.int .i64 x382000_2, .string x382001_2] 24 (0, 0))) ∧ Aside0 (WOK wc G_t383 t383) ∧ Aside0 (ROK wc G_t392 t392) ∧ Aside0 (Below w.heap.size w wc))
         case first =>
          have H := HC42.out; clear HC42
          by_cases c50 : (y403.length : Int) = (wrap64 ((t393.length : Int) + 2))
          ·rw [if_pos c50] at H
           have c50b0 : ((y403.length : Int) == (wrap64 ((t393.length : Int) + 2))) = true := beq_iff_eq.mpr c50; have c50b1 : ((y403.length : Int) != (wrap64 ((t393.length : Int) + 2))) = false := bne_eq_false_iff_eq.mpr c50; clear c50
           (first | rw [c50b0] | (simp only [i64_w, i32_w]; rw [c50b0]) | skip)
           replace H := Option.bind_eq_some_iff.mp H; obtain ⟨t410, A510, H⟩ := H; replace H : (if t410 = true then ((arbiterref02_SameTypes.f k2 t406 t393).bind fun t411 => (arbiterlaw07_ArraysKeeps.j2 k2 (!t411) x382000_2 x382001_2)) else (arbiterlaw07_ArraysKeeps.j2 k2 true x382000_2 x382001_2)) = some r := H; have A51 := Aside0.mk A510; clear A510
           by_cases c52 : t410 = true
           ·subst c52
            have H1 : ((arbiterref02_SameTypes.f k2 t406 t393).bind fun t411 => (arbiterlaw07_ArraysKeeps.j2 k2 (!t411) x382000_2 x382001_2)) = some r := by rw [if_pos rfl] at H; exact H
            clear H; have H := H1; clear H1; replace H := Option.bind_eq_some_iff.mp H; obtain ⟨t411, A530, H⟩ := H; replace H : (arbiterlaw07_ArraysKeeps.j2 k2 (!t411) x382000_2 x382001_2) = some r := H; have A53 := Aside0.mk A530; clear A530; have H' := Aside0.mk H; clear H; obtain ⟨Ao54, co54, eo54⟩ := Kd.R_slice HO405.out; subst eo54; obtain ⟨Ao55, co55, eo55⟩ := Kd.R_slice HO_10.out; subst eo55; obtain ⟨Ao56, co56, eo56⟩ := Kd.R_slice HO_8.out; subst eo56; go_wp2_with (first | (go_at_call 40; (with_reducible refine (arbiterref02_SameTypes.calls k2 _ _ t388 _ _ t393 true _ ?side1 ?side2 ?side3 ?side4 A51.out).mono ?_); (case side1 => repeat (first | exact (Kd.R_reads' HO_8.out).2.2 | (with_reducible refine Kd.C_alloc ?_ _) | (with_reducible refine Kd.C_drewN ?_ _) | (with_reducible refine Kd.C_drew ?_))); (case side2 => exact (Kd.R_reads' HO_8.out).2.1); (case side3 => repeat (first | exact (Kd.R_reads' HO_10.out).2.2 | (with_reducible refine Kd.C_alloc ?_ _) | (with_reducible refine Kd.C_drewN ?_ _) | (with_reducible refine Kd.C_drew ?_))); (case side4 => exact (Kd.R_reads' HO_10.out).2.1); rintro e w57 ⟨rfl, hb⟩; have n0_ := Aside0.mk (Kd.R_below (rX HO_8) hb); have n1_ := Aside0.mk (Kd.R_below (rX HO_10) hb); have n2_ := Aside0.mk (Kd.R_below (rX HO402) hb); have n3_ := Aside0.mk (Kd.R_below (rX HO405) hb); have n4_ := Aside0.mk (Kd.R_below (rX HO408) hb); have n5_ := Aside0.mk (blk_below (kX BK381) hb); have n6_ := Aside0.mk (WOK.below (g := G_t383) (es := t383) (by repeat (first | (with_reducible exact HQt383.out) | (with_reducible refine WOK.alloc ?_ _) | (with_reducible refine WOK.drewN ?_ _) | (with_reducible refine WOK.drew ?_))) hb); have n7_ := Aside0.mk (ROK.below (g := G_t392) (cs := t392) (by repeat (first | (with_reducible exact HQt392.out) | (with_reducible refine ROK.alloc ?_ _) | (with_reducible refine ROK.drewN ?_ _) | (with_reducible refine ROK.drew ?_))) hb); have n8_ := Aside0.mk (below_step (bX1 HB GE381) hb); clear HO_8; clear HO_10; clear HO402; clear HO405; clear HO408; clear BK381; clear HQt383; clear HQt392; clear HB; have HO_8 := n0_; have HO_10 := n1_; have HO402 := n2_; have HO405 := n3_; have HO408 := n4_; have BK381 := n5_; have HQt383 := n6_; have HQt392 := n7_; have HB := n8_; clear n0_ n1_ n2_ n3_ n4_ n5_ n6_ n7_ n8_; (try clear hb); (try clear hb2); (try clear hk); (try clear hi); obtain ⟨Ao58, co58, eo58⟩ := Kd.R_slice HO408.out; subst eo58) | (go_at_call 40; (with_reducible refine (arbiterref02_SameTypes.calls k2 _ _ t406 _ _ t393 t411 _ ?side1 ?side2 ?side3 ?side4 A53.out).mono ?_); (case side1 => repeat (first | exact (Kd.R_reads' HO408.out).2.2 | (with_reducible refine Kd.C_alloc ?_ _) | (with_reducible refine Kd.C_drewN ?_ _) | (with_reducible refine Kd.C_drew ?_))); (case side2 => exact (Kd.R_reads' HO408.out).2.1); (case side3 => repeat (first | exact (Kd.R_reads' HO_10.out).2.2 | (with_reducible refine Kd.C_alloc ?_ _) | (with_reducible refine Kd.C_drewN ?_ _) | (with_reducible refine Kd.C_drew ?_))); (case side4 => exact (Kd.R_reads' HO_10.out).2.1); rintro e w59 ⟨rfl, hb⟩; have n0_ := Aside0.mk (Kd.R_below (rX HO_8) hb); have n1_ := Aside0.mk (Kd.R_below (rX HO_10) hb); have n2_ := Aside0.mk (Kd.R_below (rX HO402) hb); have n3_ := Aside0.mk (Kd.R_below (rX HO405) hb); have n4_ := Aside0.mk (Kd.R_below (rX HO408) hb); have n5_ := Aside0.mk (blk_below (kX BK381) hb); have n6_ := Aside0.mk (WOK.below (g := G_t383) (es := t383) (by repeat (first | (with_reducible exact HQt383.out) | (with_reducible refine WOK.alloc ?_ _) | (with_reducible refine WOK.drewN ?_ _) | (with_reducible refine WOK.drew ?_))) hb); have n7_ := Aside0.mk (ROK.below (g := G_t392) (cs := t392) (by repeat (first | (with_reducible exact HQt392.out) | (with_reducible refine ROK.alloc ?_ _) | (with_reducible refine ROK.drewN ?_ _) | (with_reducible refine ROK.drew ?_))) hb); have n8_ := Aside0.mk (below_step (bX1 HB GE381) hb); clear HO_8; clear HO_10; clear HO402; clear HO405; clear HO408; clear BK381; clear HQt383; clear HQt392; clear HB; have HO_8 := n0_; have HO_10 := n1_; have HO402 := n2_; have HO405 := n3_; have HO408 := n4_; have BK381 := n5_; have HQt383 := n6_; have HQt392 := n7_; have HB := n8_; clear n0_ n1_ n2_ n3_ n4_ n5_ n6_ n7_ n8_; (try clear hb); (try clear hb2); (try clear hk); (try clear hi))); go_meet
            case rel => exact ⟨_, (!t411), vX, H', ⟨by have := HJ9.out; have := HK2.out; first | omega | exact Nat.le_refl _⟩, ⟨by (with_reducible repeat (first | refine blk_drewN ?_ _ | refine blk_drew ?_ | refine blk_alloc ?_ _)); exact BK381.out⟩, ⟨by repeat (first | (with_reducible exact HQt383.out) | (with_reducible refine WOK.alloc ?_ _) | (with_reducible refine WOK.drewN ?_ _) | (with_reducible refine WOK.drew ?_))⟩, ⟨by repeat (first | (with_reducible exact HQt392.out) | (with_reducible refine ROK.alloc ?_ _) | (with_reducible refine ROK.drewN ?_ _) | (with_reducible refine ROK.drew ?_))⟩, ⟨bX1 HB GE381⟩⟩
           ·replace c52 := Bool.eq_false_iff.mpr c52
            subst c52
            have H1 : (arbiterlaw07_ArraysKeeps.j2 k2 true x382000_2 x382001_2) = some r := by rw [if_neg (show ¬ (false = true) by decide)] at H; exact H
            clear H; have H := H1; clear H1; have H' := Aside0.mk H; clear H; obtain ⟨Ao60, co60, eo60⟩ := Kd.R_slice HO405.out; subst eo60; obtain ⟨Ao61, co61, eo61⟩ := Kd.R_slice HO_10.out; subst eo61; obtain ⟨Ao62, co62, eo62⟩ := Kd.R_slice HO_8.out; subst eo62; go_wp2_with (first | (go_at_call 40; (with_reducible refine (arbiterref02_SameTypes.calls k2 _ _ t388 _ _ t393 false _ ?side1 ?side2 ?side3 ?side4 A51.out).mono ?_); (case side1 => repeat (first | exact (Kd.R_reads' HO_8.out).2.2 | (with_reducible refine Kd.C_alloc ?_ _) | (with_reducible refine Kd.C_drewN ?_ _) | (with_reducible refine Kd.C_drew ?_))); (case side2 => exact (Kd.R_reads' HO_8.out).2.1); (case side3 => repeat (first | exact (Kd.R_reads' HO_10.out).2.2 | (with_reducible refine Kd.C_alloc ?_ _) | (with_reducible refine Kd.C_drewN ?_ _) | (with_reducible refine Kd.C_drew ?_))); (case side4 => exact (Kd.R_reads' HO_10.out).2.1); rintro e w63 ⟨rfl, hb⟩; have n0_ := Aside0.mk (Kd.R_below (rX HO_8) hb); have n1_ := Aside0.mk (Kd.R_below (rX HO_10) hb); have n2_ := Aside0.mk (Kd.R_below (rX HO402) hb); have n3_ := Aside0.mk (Kd.R_below (rX HO405) hb); have n4_ := Aside0.mk (Kd.R_below (rX HO408) hb); have n5_ := Aside0.mk (blk_below (kX BK381) hb); have n6_ := Aside0.mk (WOK.below (g := G_t383) (es := t383) (by repeat (first | (with_reducible exact HQt383.out) | (with_reducible refine WOK.alloc ?_ _) | (with_reducible refine WOK.drewN ?_ _) | (with_reducible refine WOK.drew ?_))) hb); have n7_ := Aside0.mk (ROK.below (g := G_t392) (cs := t392) (by repeat (first | (with_reducible exact HQt392.out) | (with_reducible refine ROK.alloc ?_ _) | (with_reducible refine ROK.drewN ?_ _) | (with_reducible refine ROK.drew ?_))) hb); have n8_ := Aside0.mk (below_step (bX1 HB GE381) hb); clear HO_8; clear HO_10; clear HO402; clear HO405; clear HO408; clear BK381; clear HQt383; clear HQt392; clear HB; have HO_8 := n0_; have HO_10 := n1_; have HO402 := n2_; have HO405 := n3_; have HO408 := n4_; have BK381 := n5_; have HQt383 := n6_; have HQt392 := n7_; have HB := n8_; clear n0_ n1_ n2_ n3_ n4_ n5_ n6_ n7_ n8_; (try clear hb); (try clear hb2); (try clear hk); (try clear hi))); go_meet
            case rel => exact ⟨_, (true), vX, H', ⟨by have := HJ9.out; have := HK2.out; first | omega | exact Nat.le_refl _⟩, ⟨by (with_reducible repeat (first | refine blk_drewN ?_ _ | refine blk_drew ?_ | refine blk_alloc ?_ _)); exact BK381.out⟩, ⟨by repeat (first | (with_reducible exact HQt383.out) | (with_reducible refine WOK.alloc ?_ _) | (with_reducible refine WOK.drewN ?_ _) | (with_reducible refine WOK.drew ?_))⟩, ⟨by repeat (first | (with_reducible exact HQt392.out) | (with_reducible refine ROK.alloc ?_ _) | (with_reducible refine ROK.drewN ?_ _) | (with_reducible refine ROK.drew ?_))⟩, ⟨bX1 HB GE381⟩⟩
          ·rw [if_neg c50] at H
           have c50b0 : ((y403.length : Int) == (wrap64 ((t393.length : Int) + 2))) = false := beq_eq_false_iff_ne.mpr c50; have c50b1 : ((y403.length : Int) != (wrap64 ((t393.length : Int) + 2))) = true := bne_iff_ne.mpr c50
           (first | rw [c50b0] | (simp only [i64_w, i32_w]; rw [c50b0]) | skip)
           have H' := Aside0.mk H; clear H; obtain ⟨Ao64, co64, eo64⟩ := Kd.R_slice HO405.out; subst eo64; obtain ⟨Ao65, co65, eo65⟩ := Kd.R_slice HO_10.out; subst eo65; go_wp2; go_meet
           case rel => exact ⟨_, (true), vX, H', ⟨by have := HJ9.out; have := HK2.out; first | omega | exact Nat.le_refl _⟩, ⟨by (with_reducible repeat (first | refine blk_drewN ?_ _ | refine blk_drew ?_ | refine blk_alloc ?_ _)); exact BK381.out⟩, ⟨by repeat (first | (with_reducible exact HQt383.out) | (with_reducible refine WOK.alloc ?_ _) | (with_reducible refine WOK.drewN ?_ _) | (with_reducible refine WOK.drew ?_))⟩, ⟨by repeat (first | (with_reducible exact HQt392.out) | (with_reducible refine ROK.alloc ?_ _) | (with_reducible refine ROK.drewN ?_ _) | (with_reducible refine ROK.drew ?_))⟩, ⟨bX1 HB GE381⟩⟩
         case rest =>
          clear HC42
          try clear c1
          try clear c2
          try clear p2
          try clear c3
          try clear p3
          try clear q3
          try clear hx3
          try clear hf3
          try clear c4
          try clear c5
          try clear p6
          try clear c8
          try clear c13
          try clear c21
          try clear c21b0
          try clear c21b1
          try clear c23
          try clear c31
          try clear c32
          try clear c33
          try clear c34
          try clear c34b0
          try clear c35
          try clear c35b0
          try clear c36
          try clear p36
          try clear q36
          try clear hx36
          try clear hf36
          try clear c38
          try clear hx38
          try clear hf38
          try clear c39
          try clear c40
          try clear c50
          try clear c50b0
          try clear c50b1
          try clear c52
          try clear p64
          try clear hcz14_0 hcz14_1
          try clear hcz16_0 hcz16_1
          try clear hcz48_0 hcz48_1
          try clear hfz14_0 hfz14_1
          try clear hfz16_0 hfz16_1
          try clear hfz48_0 hfz48_1
          try clear hx36_0
          try clear hx36_1
          try clear hx38_0
          try clear hx38_1
          try clear p2
          try clear p36
          try clear q36
          obtain ⟨kq, x100_41, rfl, HA, HJ41, BK381, HQt383, HQt392, HB⟩ := hcut
          cases kq with
          | zero => exact absurd HA.out (by simp [arbiterlaw07_ArraysKeeps.j2])
          | succ kj41 =>
           have H := HA.out; clear HA; simp only [arbiterlaw07_ArraysKeeps.j2] at H
           by_cases c66 : x100_41 = true
           ·subst c66
            have H1 : (some false) = some r := by rw [if_pos rfl] at H; exact H
            clear H; have H := H1; clear H1; obtain rfl := Option.some.inj H; go_wp2; go_ret
            exact ⟨by first | rfl | (simp [errW_none, errW_some] <;> rfl) | (simp [*, errW_none, errW_some] <;> rfl), bX1 HB GE381⟩
           ·replace c66 := Bool.eq_false_iff.mpr c66
            subst c66
            have H1 : ((arrays_Sub_nil.f x382000_2 x382001_2 x382000_2 x382001_2).bind fun bt412 => ((arrays_Above_nil.f x382000_2 x382001_2).bind fun bt414 => ((arrays_Holder_nil.f x382000_2 x382001_2).bind fun bt418 => ((arrays_TypeOf_nil.f 0).bind fun bt420 => (if bt412.2 = 2 then (if bt414.2 = 2 then (if bt418.2 = 2 then (if bt420.2.2 = 2 then ((arrays_Loaded_nil.f x382000_2 x382001_2).bind fun t424 => (some (t424 == 2))) else (some false)) else (some false)) else (some false)) else (some false)))))) = some r := by rw [if_neg (show ¬ (false = true) by decide)] at H; exact H
            clear H; have H := H1; clear H1; replace H := Option.bind_eq_some_iff.mp H; obtain ⟨⟨t412, t413⟩, A670, H⟩ := H; replace H : ((arrays_Above_nil.f x382000_2 x382001_2).bind fun bt414 => ((arrays_Holder_nil.f x382000_2 x382001_2).bind fun bt418 => ((arrays_TypeOf_nil.f 0).bind fun bt420 => (if t413 = 2 then (if bt414.2 = 2 then (if bt418.2 = 2 then (if bt420.2.2 = 2 then ((arrays_Loaded_nil.f x382000_2 x382001_2).bind fun t424 => (some (t424 == 2))) else (some false)) else (some false)) else (some false)) else (some false))))) = some r := H; have A67 := Aside0.mk A670; clear A670; replace H := Option.bind_eq_some_iff.mp H; obtain ⟨⟨t414, t417⟩, A680, H⟩ := H; replace H : ((arrays_Holder_nil.f x382000_2 x382001_2).bind fun bt418 => ((arrays_TypeOf_nil.f 0).bind fun bt420 => (if t413 = 2 then (if t417 = 2 then (if bt418.2 = 2 then (if bt420.2.2 = 2 then ((arrays_Loaded_nil.f x382000_2 x382001_2).bind fun t424 => (some (t424 == 2))) else (some false)) else (some false)) else (some false)) else (some false)))) = some r := H; have A68 := Aside0.mk A680; clear A680; replace H := Option.bind_eq_some_iff.mp H; obtain ⟨⟨t418, t419⟩, A690, H⟩ := H; replace H : ((arrays_TypeOf_nil.f 0).bind fun bt420 => (if t413 = 2 then (if t417 = 2 then (if t419 = 2 then (if bt420.2.2 = 2 then ((arrays_Loaded_nil.f x382000_2 x382001_2).bind fun t424 => (some (t424 == 2))) else (some false)) else (some false)) else (some false)) else (some false))) = some r := H; have A69 := Aside0.mk A690; clear A690; replace H := Option.bind_eq_some_iff.mp H; obtain ⟨⟨t420, t421, t422⟩, A700, H⟩ := H; replace H : (if t413 = 2 then (if t417 = 2 then (if t419 = 2 then (if t422 = 2 then ((arrays_Loaded_nil.f x382000_2 x382001_2).bind fun t424 => (some (t424 == 2))) else (some false)) else (some false)) else (some false)) else (some false)) = some r := H; have A70 := Aside0.mk A700; clear A700
            by_cases c71 : t413 = 2
            ·rw [if_pos c71] at H
             have c71b0 : (t413 == 2) = true := beq_iff_eq.mpr c71; have c71b1 : (t413 != 2) = false := bne_eq_false_iff_eq.mpr c71; clear c71
             by_cases c72 : t417 = 2
             ·rw [if_pos c72] at H
              have c72b0 : (t417 == 2) = true := beq_iff_eq.mpr c72; have c72b1 : (t417 != 2) = false := bne_eq_false_iff_eq.mpr c72; clear c72
              by_cases c73 : t419 = 2
              ·rw [if_pos c73] at H
               have c73b0 : (t419 == 2) = true := beq_iff_eq.mpr c73; have c73b1 : (t419 != 2) = false := bne_eq_false_iff_eq.mpr c73; clear c73
               by_cases c74 : t422 = 2
               ·rw [if_pos c74] at H
                have c74b0 : (t422 == 2) = true := beq_iff_eq.mpr c74; have c74b1 : (t422 != 2) = false := bne_eq_false_iff_eq.mpr c74; clear c74; replace H := Option.bind_eq_some_iff.mp H; obtain ⟨t424, A750, H⟩ := H; replace H : (some (t424 == 2)) = some r := H; have A75 := Aside0.mk A750; clear A750; obtain rfl := Option.some.inj H; obtain ⟨hcz76_0, hcz76_1, hfz76_0, hfz76_1⟩ := c2X BK381; go_wp2_with (first | ((with_reducible refine gate_callee (f := 41) rfl ?_); refine gX (some 104) Tryz.func41 #[.pointer none, .agg #[.int .i64 x382000_2, .string x382001_2], .agg #[.int .i64 x382000_2, .string x382001_2]] ?_; (with_reducible refine (arrays_Sub_nil.calls x382000_2 x382001_2 x382000_2 x382001_2 t412 t413 _ A67.out).mono ?_); rintro e w77 ⟨rfl, hb⟩; refine ⟨_, rfl, ?_⟩; have n0_ := Aside0.mk (blk_below (kX BK381) hb); have n1_ := Aside0.mk (WOK.below (g := G_t383) (es := t383) (by repeat (first | (with_reducible exact HQt383.out) | (with_reducible refine WOK.alloc ?_ _) | (with_reducible refine WOK.drewN ?_ _) | (with_reducible refine WOK.drew ?_))) hb); have n2_ := Aside0.mk (ROK.below (g := G_t392) (cs := t392) (by repeat (first | (with_reducible exact HQt392.out) | (with_reducible refine ROK.alloc ?_ _) | (with_reducible refine ROK.drewN ?_ _) | (with_reducible refine ROK.drew ?_))) hb); have n3_ := Aside0.mk (below_step (bX1 HB GE381) hb); clear BK381; clear HQt383; clear HQt392; clear HB; have BK381 := n0_; have HQt383 := n1_; have HQt392 := n2_; have HB := n3_; clear n0_ n1_ n2_ n3_; (try clear hb); (try clear hb2); (try clear hk); (try clear hi); obtain ⟨hcz78_0, hcz78_1, hfz78_0, hfz78_1⟩ := c2X BK381) | ((with_reducible refine gate_callee (f := 38) rfl ?_); refine gX (some 109) Tryz.func38 #[.pointer none, .agg #[.int .i64 x382000_2, .string x382001_2]] ?_; (with_reducible refine (arrays_Above_nil.calls x382000_2 x382001_2 t414 t417 _ A68.out).mono ?_); rintro e w79 ⟨v415, rfl, ho0, hb⟩; refine ⟨_, rfl, ?_⟩; have n0_ := Aside0.mk (Kd.R_lower (Kd.R_newB ho0 (g := gb381) (o := .cells #[.int .i64 x382000_2, .string x382001_2] 24 (0, 0)) (kX BK381)) (below_size (bX1 HB GE381))); have n1_ := Aside0.mk (blk_below (kX BK381) hb); have n2_ := Aside0.mk (WOK.below (g := G_t383) (es := t383) (by repeat (first | (with_reducible exact HQt383.out) | (with_reducible refine WOK.alloc ?_ _) | (with_reducible refine WOK.drewN ?_ _) | (with_reducible refine WOK.drew ?_))) hb); have n3_ := Aside0.mk (ROK.below (g := G_t392) (cs := t392) (by repeat (first | (with_reducible exact HQt392.out) | (with_reducible refine ROK.alloc ?_ _) | (with_reducible refine ROK.drewN ?_ _) | (with_reducible refine ROK.drew ?_))) hb); have n4_ := Aside0.mk (below_step (bX1 HB GE381) hb); clear BK381; clear HQt383; clear HQt392; clear HB; have HO416 := n0_; have BK381 := n1_; have HQt383 := n2_; have HQt392 := n3_; have HB := n4_; clear n0_ n1_ n2_ n3_ n4_; (try clear hb); (try clear hb2); (try clear hk); (try clear hi); (try clear ho0); obtain ⟨hcz80_0, hcz80_1, hfz80_0, hfz80_1⟩ := c2X BK381) | ((with_reducible refine gate_callee (f := 36) rfl ?_); refine gX (some 114) Tryz.func36 #[.pointer none, .agg #[.int .i64 x382000_2, .string x382001_2]] ?_; (with_reducible refine (arrays_Holder_nil.calls x382000_2 x382001_2 t418 t419 _ A69.out).mono ?_); rintro e w81 ⟨rfl, hb⟩; refine ⟨_, rfl, ?_⟩; have n0_ := Aside0.mk (Kd.R_below (rX HO416) hb); have n1_ := Aside0.mk (blk_below (kX BK381) hb); have n2_ := Aside0.mk (WOK.below (g := G_t383) (es := t383) (by repeat (first | (with_reducible exact HQt383.out) | (with_reducible refine WOK.alloc ?_ _) | (with_reducible refine WOK.drewN ?_ _) | (with_reducible refine WOK.drew ?_))) hb); have n3_ := Aside0.mk (ROK.below (g := G_t392) (cs := t392) (by repeat (first | (with_reducible exact HQt392.out) | (with_reducible refine ROK.alloc ?_ _) | (with_reducible refine ROK.drewN ?_ _) | (with_reducible refine ROK.drew ?_))) hb); have n4_ := Aside0.mk (below_step (bX1 HB GE381) hb); clear HO416; clear BK381; clear HQt383; clear HQt392; clear HB; have HO416 := n0_; have BK381 := n1_; have HQt383 := n2_; have HQt392 := n3_; have HB := n4_; clear n0_ n1_ n2_ n3_ n4_; (try clear hb); (try clear hb2); (try clear hk); (try clear hi)) | ((with_reducible refine gate_callee (f := 33) rfl ?_); refine gX (some 118) Tryz.func33 #[.pointer none, .int .i64 0] ?_; (with_reducible refine (arrays_TypeOf_nil.calls 0 t420 t421 t422 _ A70.out).mono ?_); rintro e w82 ⟨rfl, hb⟩; refine ⟨_, rfl, ?_⟩; have n0_ := Aside0.mk (Kd.R_below (rX HO416) hb); have n1_ := Aside0.mk (blk_below (kX BK381) hb); have n2_ := Aside0.mk (WOK.below (g := G_t383) (es := t383) (by repeat (first | (with_reducible exact HQt383.out) | (with_reducible refine WOK.alloc ?_ _) | (with_reducible refine WOK.drewN ?_ _) | (with_reducible refine WOK.drew ?_))) hb); have n3_ := Aside0.mk (ROK.below (g := G_t392) (cs := t392) (by repeat (first | (with_reducible exact HQt392.out) | (with_reducible refine ROK.alloc ?_ _) | (with_reducible refine ROK.drewN ?_ _) | (with_reducible refine ROK.drew ?_))) hb); have n4_ := Aside0.mk (below_step (bX1 HB GE381) hb); clear HO416; clear BK381; clear HQt383; clear HQt392; clear HB; have HO416 := n0_; have BK381 := n1_; have HQt383 := n2_; have HQt392 := n3_; have HB := n4_; clear n0_ n1_ n2_ n3_ n4_; (try clear hb); (try clear hb2); (try clear hk); (try clear hi)) | ((with_reducible refine gate_dst (N := 22) rfl ?_); refine eX 22 #[.int .i64 0, .string (⟨#[]⟩ : ByteArray)] 24 ?_; intro gb423 hg w83 hbox hb; have n0_ := Aside0.mk (Kd.R_below (Kd.R_elderB (rX HO416) gb423 (Nat.le_of_eq hg.symm)) hb); have n1_ := Aside0.mk (blk_below (kX BK381) hb); have n2_ := Aside0.mk (WOK.below (g := G_t383) (es := t383) (by repeat (first | (with_reducible exact HQt383.out) | (with_reducible refine WOK.alloc ?_ _) | (with_reducible refine WOK.drewN ?_ _) | (with_reducible refine WOK.drew ?_))) hb); have n3_ := Aside0.mk (ROK.below (g := G_t392) (cs := t392) (by repeat (first | (with_reducible exact HQt392.out) | (with_reducible refine ROK.alloc ?_ _) | (with_reducible refine ROK.drewN ?_ _) | (with_reducible refine ROK.drew ?_))) hb); have n4_ := Aside0.mk (below_step (bX1 HB GE381) hb); have n5_ := Aside0.mk (hbox); have n6_ := Aside0.mk ((by rw [hg]; exact (below_size (bX1 HB GE381)) : w.heap.size ≤ gb423)); have n7_ := Aside0.mk ((by rw [hg]; exact (below_size (bX1 HB GE381)) : w.heap.size ≤ gb423)); have n8_ := Aside0.mk ((by rw [hg]; exact Nat.ne_of_lt (blk_lt (kX BK381)) : gb381 ≠ gb423)); have n9_ := Aside0.mk ((by rw [hg]; exact Nat.ne_of_gt (blk_lt (kX BK381)) : gb423 ≠ gb381)); clear HO416; clear BK381; clear HQt383; clear HQt392; clear HB; have HO416 := n0_; have BK381 := n1_; have HQt383 := n2_; have HQt392 := n3_; have HB := n4_; have BK423 := n5_; have GW423 := n6_; have GE423 := n7_; have NB381_423 := n8_; have NB423_381 := n9_; clear n0_ n1_ n2_ n3_ n4_ n5_ n6_ n7_ n8_ n9_; clear hb hbox hg; have hnb84 := NB423_381.out; have hnc84 := NB381_423.out; obtain ⟨hcz85_0, hcz85_1, hfz85_0, hfz85_1⟩ := c2X BK423; obtain ⟨hcz86_0, hcz86_1, hfz86_0, hfz86_1⟩ := c2X BK381) | (go_at_call 42; (with_reducible refine (arrays_Loaded_nil.calls x382000_2 x382001_2 t424 _ A75.out).mono ?_); rintro e w87 ⟨rfl, hb⟩; have n0_ := Aside0.mk (Kd.R_below (by (with_reducible repeat (first | apply Kd.R_alloc | apply Kd.R_drewN | apply Kd.R_drew)); exact (Kd.R_mono (Kd.R_far (p := ⟨gb423, 1, none⟩) (Kd.R_far (p := ⟨gb423, 0, none⟩) (Kd.R_mono HO416.out (fun k_ hk => (⟨hk, hk.2⟩ : _ ∧ k_ ≠ gb423))) (fun _ hk => hk.2) (.int .i64 t420)) (fun _ hk => hk.2) (.string t421)) (fun _ h_ => h_.1))) hb); have n1_ := Aside0.mk (blk_below (g := gb381) (o := .cells #[.int .i64 x382000_2, .string x382001_2] 24 (0, 0)) (fX BK381 NB381_423) hb); have n2_ := Aside0.mk (WOK.below (g := G_t383) (es := t383) (by repeat (first | (with_reducible exact HQt383.out) | (with_reducible refine WOK.alloc ?_ _) | (with_reducible refine WOK.drewN ?_ _) | (with_reducible refine WOK.drew ?_) | ((with_reducible refine WOK.set (b := gb381) (t := 24) ?_ ?_ ?_ _ _); rotate_left 2; decide; rotate_left 1; (focus (repeat (first | (with_reducible refine TypeAt.setCell ?_ _ _) | (with_reducible refine TypeAt.alloc ?_ _) | (with_reducible refine TypeAt.drewN ?_ _) | (with_reducible refine TypeAt.drew ?_) | exact ⟨_, BK381.out⟩)))) | ((with_reducible refine WOK.set (b := gb423) (t := 24) ?_ ?_ ?_ _ _); rotate_left 2; decide; rotate_left 1; (focus (repeat (first | (with_reducible refine TypeAt.setCell ?_ _ _) | (with_reducible refine TypeAt.alloc ?_ _) | (with_reducible refine TypeAt.drewN ?_ _) | (with_reducible refine TypeAt.drew ?_) | exact ⟨_, BK423.out⟩)))))) hb); have n3_ := Aside0.mk (ROK.below (g := G_t392) (cs := t392) (by repeat (first | (with_reducible exact HQt392.out) | (with_reducible refine ROK.alloc ?_ _) | (with_reducible refine ROK.drewN ?_ _) | (with_reducible refine ROK.drew ?_) | ((with_reducible refine ROK.set (b := gb381) (t := 24) ?_ ?_ ?_ _ _); rotate_left 2; decide; rotate_left 1; (focus (repeat (first | (with_reducible refine TypeAt.setCell ?_ _ _) | (with_reducible refine TypeAt.alloc ?_ _) | (with_reducible refine TypeAt.drewN ?_ _) | (with_reducible refine TypeAt.drew ?_) | exact ⟨_, BK381.out⟩)))) | ((with_reducible refine ROK.set (b := gb423) (t := 24) ?_ ?_ ?_ _ _); rotate_left 2; decide; rotate_left 1; (focus (repeat (first | (with_reducible refine TypeAt.setCell ?_ _ _) | (with_reducible refine TypeAt.alloc ?_ _) | (with_reducible refine TypeAt.drewN ?_ _) | (with_reducible refine TypeAt.drew ?_) | exact ⟨_, BK423.out⟩)))))) hb); have n4_ := Aside0.mk (blk_below (g := gb423) (o := .cells #[.int .i64 t420, .string t421] 24 (0, 0)) (by (with_reducible repeat (first | refine blk_drewN ?_ _ | refine blk_drew ?_ | refine blk_alloc ?_ _)); refine blk_put (cs := #[.int .i64 t420, .string (⟨#[]⟩ : ByteArray)]) ?_ 1 _ rfl; (with_reducible repeat (first | refine blk_drewN ?_ _ | refine blk_drew ?_ | refine blk_alloc ?_ _)); refine blk_put (cs := #[.int .i64 0, .string (⟨#[]⟩ : ByteArray)]) ?_ 0 _ rfl; (with_reducible repeat (first | refine blk_drewN ?_ _ | refine blk_drew ?_ | refine blk_alloc ?_ _)); exact BK423.out) hb); have n5_ := Aside0.mk (below_step (bX2 HB GE381 GE423) hb); clear HO416; clear BK381; clear HQt383; clear HQt392; clear BK423; clear HB; have HO416 := n0_; have BK381 := n1_; have HQt383 := n2_; have HQt392 := n3_; have BK423 := n4_; have HB := n5_; clear n0_ n1_ n2_ n3_ n4_ n5_; (try clear hb); (try clear hb2); (try clear hk); (try clear hi)))
                go_ret
                exact ⟨by first | rfl | (simp [errW_none, errW_some] <;> rfl) | (simp [*, errW_none, errW_some] <;> rfl), bX2 HB GE381 GE423⟩
               ·rw [if_neg c74] at H
                have c74b0 : (t422 == 2) = false := beq_eq_false_iff_ne.mpr c74; have c74b1 : (t422 != 2) = true := bne_iff_ne.mpr c74; obtain rfl := Option.some.inj H; obtain ⟨hcz88_0, hcz88_1, hfz88_0, hfz88_1⟩ := c2X BK381; go_wp2_with (first | ((with_reducible refine gate_callee (f := 41) rfl ?_); refine gX (some 104) Tryz.func41 #[.pointer none, .agg #[.int .i64 x382000_2, .string x382001_2], .agg #[.int .i64 x382000_2, .string x382001_2]] ?_; (with_reducible refine (arrays_Sub_nil.calls x382000_2 x382001_2 x382000_2 x382001_2 t412 t413 _ A67.out).mono ?_); rintro e w89 ⟨rfl, hb⟩; refine ⟨_, rfl, ?_⟩; have n0_ := Aside0.mk (blk_below (kX BK381) hb); have n1_ := Aside0.mk (WOK.below (g := G_t383) (es := t383) (by repeat (first | (with_reducible exact HQt383.out) | (with_reducible refine WOK.alloc ?_ _) | (with_reducible refine WOK.drewN ?_ _) | (with_reducible refine WOK.drew ?_))) hb); have n2_ := Aside0.mk (ROK.below (g := G_t392) (cs := t392) (by repeat (first | (with_reducible exact HQt392.out) | (with_reducible refine ROK.alloc ?_ _) | (with_reducible refine ROK.drewN ?_ _) | (with_reducible refine ROK.drew ?_))) hb); have n3_ := Aside0.mk (below_step (bX1 HB GE381) hb); clear BK381; clear HQt383; clear HQt392; clear HB; have BK381 := n0_; have HQt383 := n1_; have HQt392 := n2_; have HB := n3_; clear n0_ n1_ n2_ n3_; (try clear hb); (try clear hb2); (try clear hk); (try clear hi); obtain ⟨hcz90_0, hcz90_1, hfz90_0, hfz90_1⟩ := c2X BK381) | ((with_reducible refine gate_callee (f := 38) rfl ?_); refine gX (some 109) Tryz.func38 #[.pointer none, .agg #[.int .i64 x382000_2, .string x382001_2]] ?_; (with_reducible refine (arrays_Above_nil.calls x382000_2 x382001_2 t414 t417 _ A68.out).mono ?_); rintro e w91 ⟨v415, rfl, ho0, hb⟩; refine ⟨_, rfl, ?_⟩; have n0_ := Aside0.mk (Kd.R_lower (Kd.R_newB ho0 (g := gb381) (o := .cells #[.int .i64 x382000_2, .string x382001_2] 24 (0, 0)) (kX BK381)) (below_size (bX1 HB GE381))); have n1_ := Aside0.mk (blk_below (kX BK381) hb); have n2_ := Aside0.mk (WOK.below (g := G_t383) (es := t383) (by repeat (first | (with_reducible exact HQt383.out) | (with_reducible refine WOK.alloc ?_ _) | (with_reducible refine WOK.drewN ?_ _) | (with_reducible refine WOK.drew ?_))) hb); have n3_ := Aside0.mk (ROK.below (g := G_t392) (cs := t392) (by repeat (first | (with_reducible exact HQt392.out) | (with_reducible refine ROK.alloc ?_ _) | (with_reducible refine ROK.drewN ?_ _) | (with_reducible refine ROK.drew ?_))) hb); have n4_ := Aside0.mk (below_step (bX1 HB GE381) hb); clear BK381; clear HQt383; clear HQt392; clear HB; have HO416 := n0_; have BK381 := n1_; have HQt383 := n2_; have HQt392 := n3_; have HB := n4_; clear n0_ n1_ n2_ n3_ n4_; (try clear hb); (try clear hb2); (try clear hk); (try clear hi); (try clear ho0); obtain ⟨hcz92_0, hcz92_1, hfz92_0, hfz92_1⟩ := c2X BK381) | ((with_reducible refine gate_callee (f := 36) rfl ?_); refine gX (some 114) Tryz.func36 #[.pointer none, .agg #[.int .i64 x382000_2, .string x382001_2]] ?_; (with_reducible refine (arrays_Holder_nil.calls x382000_2 x382001_2 t418 t419 _ A69.out).mono ?_); rintro e w93 ⟨rfl, hb⟩; refine ⟨_, rfl, ?_⟩; have n0_ := Aside0.mk (Kd.R_below (rX HO416) hb); have n1_ := Aside0.mk (blk_below (kX BK381) hb); have n2_ := Aside0.mk (WOK.below (g := G_t383) (es := t383) (by repeat (first | (with_reducible exact HQt383.out) | (with_reducible refine WOK.alloc ?_ _) | (with_reducible refine WOK.drewN ?_ _) | (with_reducible refine WOK.drew ?_))) hb); have n3_ := Aside0.mk (ROK.below (g := G_t392) (cs := t392) (by repeat (first | (with_reducible exact HQt392.out) | (with_reducible refine ROK.alloc ?_ _) | (with_reducible refine ROK.drewN ?_ _) | (with_reducible refine ROK.drew ?_))) hb); have n4_ := Aside0.mk (below_step (bX1 HB GE381) hb); clear HO416; clear BK381; clear HQt383; clear HQt392; clear HB; have HO416 := n0_; have BK381 := n1_; have HQt383 := n2_; have HQt392 := n3_; have HB := n4_; clear n0_ n1_ n2_ n3_ n4_; (try clear hb); (try clear hb2); (try clear hk); (try clear hi)) | ((with_reducible refine gate_callee (f := 33) rfl ?_); refine gX (some 118) Tryz.func33 #[.pointer none, .int .i64 0] ?_; (with_reducible refine (arrays_TypeOf_nil.calls 0 t420 t421 t422 _ A70.out).mono ?_); rintro e w94 ⟨rfl, hb⟩; refine ⟨_, rfl, ?_⟩; have n0_ := Aside0.mk (Kd.R_below (rX HO416) hb); have n1_ := Aside0.mk (blk_below (kX BK381) hb); have n2_ := Aside0.mk (WOK.below (g := G_t383) (es := t383) (by repeat (first | (with_reducible exact HQt383.out) | (with_reducible refine WOK.alloc ?_ _) | (with_reducible refine WOK.drewN ?_ _) | (with_reducible refine WOK.drew ?_))) hb); have n3_ := Aside0.mk (ROK.below (g := G_t392) (cs := t392) (by repeat (first | (with_reducible exact HQt392.out) | (with_reducible refine ROK.alloc ?_ _) | (with_reducible refine ROK.drewN ?_ _) | (with_reducible refine ROK.drew ?_))) hb); have n4_ := Aside0.mk (below_step (bX1 HB GE381) hb); clear HO416; clear BK381; clear HQt383; clear HQt392; clear HB; have HO416 := n0_; have BK381 := n1_; have HQt383 := n2_; have HQt392 := n3_; have HB := n4_; clear n0_ n1_ n2_ n3_ n4_; (try clear hb); (try clear hb2); (try clear hk); (try clear hi)) | ((with_reducible refine gate_dst (N := 22) rfl ?_); refine eX 22 #[.int .i64 0, .string (⟨#[]⟩ : ByteArray)] 24 ?_; intro gb423 hg w95 hbox hb; have n0_ := Aside0.mk (Kd.R_below (Kd.R_elderB (rX HO416) gb423 (Nat.le_of_eq hg.symm)) hb); have n1_ := Aside0.mk (blk_below (kX BK381) hb); have n2_ := Aside0.mk (WOK.below (g := G_t383) (es := t383) (by repeat (first | (with_reducible exact HQt383.out) | (with_reducible refine WOK.alloc ?_ _) | (with_reducible refine WOK.drewN ?_ _) | (with_reducible refine WOK.drew ?_))) hb); have n3_ := Aside0.mk (ROK.below (g := G_t392) (cs := t392) (by repeat (first | (with_reducible exact HQt392.out) | (with_reducible refine ROK.alloc ?_ _) | (with_reducible refine ROK.drewN ?_ _) | (with_reducible refine ROK.drew ?_))) hb); have n4_ := Aside0.mk (below_step (bX1 HB GE381) hb); have n5_ := Aside0.mk (hbox); have n6_ := Aside0.mk ((by rw [hg]; exact (below_size (bX1 HB GE381)) : w.heap.size ≤ gb423)); have n7_ := Aside0.mk ((by rw [hg]; exact (below_size (bX1 HB GE381)) : w.heap.size ≤ gb423)); have n8_ := Aside0.mk ((by rw [hg]; exact Nat.ne_of_lt (blk_lt (kX BK381)) : gb381 ≠ gb423)); have n9_ := Aside0.mk ((by rw [hg]; exact Nat.ne_of_gt (blk_lt (kX BK381)) : gb423 ≠ gb381)); clear HO416; clear BK381; clear HQt383; clear HQt392; clear HB; have HO416 := n0_; have BK381 := n1_; have HQt383 := n2_; have HQt392 := n3_; have HB := n4_; have BK423 := n5_; have GW423 := n6_; have GE423 := n7_; have NB381_423 := n8_; have NB423_381 := n9_; clear n0_ n1_ n2_ n3_ n4_ n5_ n6_ n7_ n8_ n9_; clear hb hbox hg; have hnb96 := NB423_381.out; have hnc96 := NB381_423.out; obtain ⟨hcz97_0, hcz97_1, hfz97_0, hfz97_1⟩ := c2X BK423))
                go_ret
                exact ⟨by first | rfl | (simp [errW_none, errW_some] <;> rfl) | (simp [*, errW_none, errW_some] <;> rfl), bX2 HB GE381 GE423⟩
              ·rw [if_neg c73] at H
               have c73b0 : (t419 == 2) = false := beq_eq_false_iff_ne.mpr c73; have c73b1 : (t419 != 2) = true := bne_iff_ne.mpr c73; obtain rfl := Option.some.inj H; obtain ⟨hcz98_0, hcz98_1, hfz98_0, hfz98_1⟩ := c2X BK381; go_wp2_with (first | ((with_reducible refine gate_callee (f := 41) rfl ?_); refine gX (some 104) Tryz.func41 #[.pointer none, .agg #[.int .i64 x382000_2, .string x382001_2], .agg #[.int .i64 x382000_2, .string x382001_2]] ?_; (with_reducible refine (arrays_Sub_nil.calls x382000_2 x382001_2 x382000_2 x382001_2 t412 t413 _ A67.out).mono ?_); rintro e w99 ⟨rfl, hb⟩; refine ⟨_, rfl, ?_⟩; have n0_ := Aside0.mk (blk_below (kX BK381) hb); have n1_ := Aside0.mk (WOK.below (g := G_t383) (es := t383) (by repeat (first | (with_reducible exact HQt383.out) | (with_reducible refine WOK.alloc ?_ _) | (with_reducible refine WOK.drewN ?_ _) | (with_reducible refine WOK.drew ?_))) hb); have n2_ := Aside0.mk (ROK.below (g := G_t392) (cs := t392) (by repeat (first | (with_reducible exact HQt392.out) | (with_reducible refine ROK.alloc ?_ _) | (with_reducible refine ROK.drewN ?_ _) | (with_reducible refine ROK.drew ?_))) hb); have n3_ := Aside0.mk (below_step (bX1 HB GE381) hb); clear BK381; clear HQt383; clear HQt392; clear HB; have BK381 := n0_; have HQt383 := n1_; have HQt392 := n2_; have HB := n3_; clear n0_ n1_ n2_ n3_; (try clear hb); (try clear hb2); (try clear hk); (try clear hi); obtain ⟨hcz100_0, hcz100_1, hfz100_0, hfz100_1⟩ := c2X BK381) | ((with_reducible refine gate_callee (f := 38) rfl ?_); refine gX (some 109) Tryz.func38 #[.pointer none, .agg #[.int .i64 x382000_2, .string x382001_2]] ?_; (with_reducible refine (arrays_Above_nil.calls x382000_2 x382001_2 t414 t417 _ A68.out).mono ?_); rintro e w101 ⟨v415, rfl, ho0, hb⟩; refine ⟨_, rfl, ?_⟩; have n0_ := Aside0.mk (Kd.R_lower (Kd.R_newB ho0 (g := gb381) (o := .cells #[.int .i64 x382000_2, .string x382001_2] 24 (0, 0)) (kX BK381)) (below_size (bX1 HB GE381))); have n1_ := Aside0.mk (blk_below (kX BK381) hb); have n2_ := Aside0.mk (WOK.below (g := G_t383) (es := t383) (by repeat (first | (with_reducible exact HQt383.out) | (with_reducible refine WOK.alloc ?_ _) | (with_reducible refine WOK.drewN ?_ _) | (with_reducible refine WOK.drew ?_))) hb); have n3_ := Aside0.mk (ROK.below (g := G_t392) (cs := t392) (by repeat (first | (with_reducible exact HQt392.out) | (with_reducible refine ROK.alloc ?_ _) | (with_reducible refine ROK.drewN ?_ _) | (with_reducible refine ROK.drew ?_))) hb); have n4_ := Aside0.mk (below_step (bX1 HB GE381) hb); clear BK381; clear HQt383; clear HQt392; clear HB; have HO416 := n0_; have BK381 := n1_; have HQt383 := n2_; have HQt392 := n3_; have HB := n4_; clear n0_ n1_ n2_ n3_ n4_; (try clear hb); (try clear hb2); (try clear hk); (try clear hi); (try clear ho0); obtain ⟨hcz102_0, hcz102_1, hfz102_0, hfz102_1⟩ := c2X BK381) | ((with_reducible refine gate_callee (f := 36) rfl ?_); refine gX (some 114) Tryz.func36 #[.pointer none, .agg #[.int .i64 x382000_2, .string x382001_2]] ?_; (with_reducible refine (arrays_Holder_nil.calls x382000_2 x382001_2 t418 t419 _ A69.out).mono ?_); rintro e w103 ⟨rfl, hb⟩; refine ⟨_, rfl, ?_⟩; have n0_ := Aside0.mk (Kd.R_below (rX HO416) hb); have n1_ := Aside0.mk (blk_below (kX BK381) hb); have n2_ := Aside0.mk (WOK.below (g := G_t383) (es := t383) (by repeat (first | (with_reducible exact HQt383.out) | (with_reducible refine WOK.alloc ?_ _) | (with_reducible refine WOK.drewN ?_ _) | (with_reducible refine WOK.drew ?_))) hb); have n3_ := Aside0.mk (ROK.below (g := G_t392) (cs := t392) (by repeat (first | (with_reducible exact HQt392.out) | (with_reducible refine ROK.alloc ?_ _) | (with_reducible refine ROK.drewN ?_ _) | (with_reducible refine ROK.drew ?_))) hb); have n4_ := Aside0.mk (below_step (bX1 HB GE381) hb); clear HO416; clear BK381; clear HQt383; clear HQt392; clear HB; have HO416 := n0_; have BK381 := n1_; have HQt383 := n2_; have HQt392 := n3_; have HB := n4_; clear n0_ n1_ n2_ n3_ n4_; (try clear hb); (try clear hb2); (try clear hk); (try clear hi)) | ((with_reducible refine gate_callee (f := 33) rfl ?_); refine gX (some 118) Tryz.func33 #[.pointer none, .int .i64 0] ?_; (with_reducible refine (arrays_TypeOf_nil.calls 0 t420 t421 t422 _ A70.out).mono ?_); rintro e w104 ⟨rfl, hb⟩; refine ⟨_, rfl, ?_⟩; have n0_ := Aside0.mk (Kd.R_below (rX HO416) hb); have n1_ := Aside0.mk (blk_below (kX BK381) hb); have n2_ := Aside0.mk (WOK.below (g := G_t383) (es := t383) (by repeat (first | (with_reducible exact HQt383.out) | (with_reducible refine WOK.alloc ?_ _) | (with_reducible refine WOK.drewN ?_ _) | (with_reducible refine WOK.drew ?_))) hb); have n3_ := Aside0.mk (ROK.below (g := G_t392) (cs := t392) (by repeat (first | (with_reducible exact HQt392.out) | (with_reducible refine ROK.alloc ?_ _) | (with_reducible refine ROK.drewN ?_ _) | (with_reducible refine ROK.drew ?_))) hb); have n4_ := Aside0.mk (below_step (bX1 HB GE381) hb); clear HO416; clear BK381; clear HQt383; clear HQt392; clear HB; have HO416 := n0_; have BK381 := n1_; have HQt383 := n2_; have HQt392 := n3_; have HB := n4_; clear n0_ n1_ n2_ n3_ n4_; (try clear hb); (try clear hb2); (try clear hk); (try clear hi)) | ((with_reducible refine gate_dst (N := 22) rfl ?_); refine eX 22 #[.int .i64 0, .string (⟨#[]⟩ : ByteArray)] 24 ?_; intro gb423 hg w105 hbox hb; have n0_ := Aside0.mk (Kd.R_below (Kd.R_elderB (rX HO416) gb423 (Nat.le_of_eq hg.symm)) hb); have n1_ := Aside0.mk (blk_below (kX BK381) hb); have n2_ := Aside0.mk (WOK.below (g := G_t383) (es := t383) (by repeat (first | (with_reducible exact HQt383.out) | (with_reducible refine WOK.alloc ?_ _) | (with_reducible refine WOK.drewN ?_ _) | (with_reducible refine WOK.drew ?_))) hb); have n3_ := Aside0.mk (ROK.below (g := G_t392) (cs := t392) (by repeat (first | (with_reducible exact HQt392.out) | (with_reducible refine ROK.alloc ?_ _) | (with_reducible refine ROK.drewN ?_ _) | (with_reducible refine ROK.drew ?_))) hb); have n4_ := Aside0.mk (below_step (bX1 HB GE381) hb); have n5_ := Aside0.mk (hbox); have n6_ := Aside0.mk ((by rw [hg]; exact (below_size (bX1 HB GE381)) : w.heap.size ≤ gb423)); have n7_ := Aside0.mk ((by rw [hg]; exact (below_size (bX1 HB GE381)) : w.heap.size ≤ gb423)); have n8_ := Aside0.mk ((by rw [hg]; exact Nat.ne_of_lt (blk_lt (kX BK381)) : gb381 ≠ gb423)); have n9_ := Aside0.mk ((by rw [hg]; exact Nat.ne_of_gt (blk_lt (kX BK381)) : gb423 ≠ gb381)); clear HO416; clear BK381; clear HQt383; clear HQt392; clear HB; have HO416 := n0_; have BK381 := n1_; have HQt383 := n2_; have HQt392 := n3_; have HB := n4_; have BK423 := n5_; have GW423 := n6_; have GE423 := n7_; have NB381_423 := n8_; have NB423_381 := n9_; clear n0_ n1_ n2_ n3_ n4_ n5_ n6_ n7_ n8_ n9_; clear hb hbox hg; have hnb106 := NB423_381.out; have hnc106 := NB381_423.out; obtain ⟨hcz107_0, hcz107_1, hfz107_0, hfz107_1⟩ := c2X BK423))
               go_ret
               exact ⟨by first | rfl | (simp [errW_none, errW_some] <;> rfl) | (simp [*, errW_none, errW_some] <;> rfl), bX2 HB GE381 GE423⟩
             ·rw [if_neg c72] at H
              have c72b0 : (t417 == 2) = false := beq_eq_false_iff_ne.mpr c72; have c72b1 : (t417 != 2) = true := bne_iff_ne.mpr c72; obtain rfl := Option.some.inj H; obtain ⟨hcz108_0, hcz108_1, hfz108_0, hfz108_1⟩ := c2X BK381; go_wp2_with (first | ((with_reducible refine gate_callee (f := 41) rfl ?_); refine gX (some 104) Tryz.func41 #[.pointer none, .agg #[.int .i64 x382000_2, .string x382001_2], .agg #[.int .i64 x382000_2, .string x382001_2]] ?_; (with_reducible refine (arrays_Sub_nil.calls x382000_2 x382001_2 x382000_2 x382001_2 t412 t413 _ A67.out).mono ?_); rintro e w109 ⟨rfl, hb⟩; refine ⟨_, rfl, ?_⟩; have n0_ := Aside0.mk (blk_below (kX BK381) hb); have n1_ := Aside0.mk (WOK.below (g := G_t383) (es := t383) (by repeat (first | (with_reducible exact HQt383.out) | (with_reducible refine WOK.alloc ?_ _) | (with_reducible refine WOK.drewN ?_ _) | (with_reducible refine WOK.drew ?_))) hb); have n2_ := Aside0.mk (ROK.below (g := G_t392) (cs := t392) (by repeat (first | (with_reducible exact HQt392.out) | (with_reducible refine ROK.alloc ?_ _) | (with_reducible refine ROK.drewN ?_ _) | (with_reducible refine ROK.drew ?_))) hb); have n3_ := Aside0.mk (below_step (bX1 HB GE381) hb); clear BK381; clear HQt383; clear HQt392; clear HB; have BK381 := n0_; have HQt383 := n1_; have HQt392 := n2_; have HB := n3_; clear n0_ n1_ n2_ n3_; (try clear hb); (try clear hb2); (try clear hk); (try clear hi); obtain ⟨hcz110_0, hcz110_1, hfz110_0, hfz110_1⟩ := c2X BK381) | ((with_reducible refine gate_callee (f := 38) rfl ?_); refine gX (some 109) Tryz.func38 #[.pointer none, .agg #[.int .i64 x382000_2, .string x382001_2]] ?_; (with_reducible refine (arrays_Above_nil.calls x382000_2 x382001_2 t414 t417 _ A68.out).mono ?_); rintro e w111 ⟨v415, rfl, ho0, hb⟩; refine ⟨_, rfl, ?_⟩; have n0_ := Aside0.mk (Kd.R_lower (Kd.R_newB ho0 (g := gb381) (o := .cells #[.int .i64 x382000_2, .string x382001_2] 24 (0, 0)) (kX BK381)) (below_size (bX1 HB GE381))); have n1_ := Aside0.mk (blk_below (kX BK381) hb); have n2_ := Aside0.mk (WOK.below (g := G_t383) (es := t383) (by repeat (first | (with_reducible exact HQt383.out) | (with_reducible refine WOK.alloc ?_ _) | (with_reducible refine WOK.drewN ?_ _) | (with_reducible refine WOK.drew ?_))) hb); have n3_ := Aside0.mk (ROK.below (g := G_t392) (cs := t392) (by repeat (first | (with_reducible exact HQt392.out) | (with_reducible refine ROK.alloc ?_ _) | (with_reducible refine ROK.drewN ?_ _) | (with_reducible refine ROK.drew ?_))) hb); have n4_ := Aside0.mk (below_step (bX1 HB GE381) hb); clear BK381; clear HQt383; clear HQt392; clear HB; have HO416 := n0_; have BK381 := n1_; have HQt383 := n2_; have HQt392 := n3_; have HB := n4_; clear n0_ n1_ n2_ n3_ n4_; (try clear hb); (try clear hb2); (try clear hk); (try clear hi); (try clear ho0); obtain ⟨hcz112_0, hcz112_1, hfz112_0, hfz112_1⟩ := c2X BK381) | ((with_reducible refine gate_callee (f := 36) rfl ?_); refine gX (some 114) Tryz.func36 #[.pointer none, .agg #[.int .i64 x382000_2, .string x382001_2]] ?_; (with_reducible refine (arrays_Holder_nil.calls x382000_2 x382001_2 t418 t419 _ A69.out).mono ?_); rintro e w113 ⟨rfl, hb⟩; refine ⟨_, rfl, ?_⟩; have n0_ := Aside0.mk (Kd.R_below (rX HO416) hb); have n1_ := Aside0.mk (blk_below (kX BK381) hb); have n2_ := Aside0.mk (WOK.below (g := G_t383) (es := t383) (by repeat (first | (with_reducible exact HQt383.out) | (with_reducible refine WOK.alloc ?_ _) | (with_reducible refine WOK.drewN ?_ _) | (with_reducible refine WOK.drew ?_))) hb); have n3_ := Aside0.mk (ROK.below (g := G_t392) (cs := t392) (by repeat (first | (with_reducible exact HQt392.out) | (with_reducible refine ROK.alloc ?_ _) | (with_reducible refine ROK.drewN ?_ _) | (with_reducible refine ROK.drew ?_))) hb); have n4_ := Aside0.mk (below_step (bX1 HB GE381) hb); clear HO416; clear BK381; clear HQt383; clear HQt392; clear HB; have HO416 := n0_; have BK381 := n1_; have HQt383 := n2_; have HQt392 := n3_; have HB := n4_; clear n0_ n1_ n2_ n3_ n4_; (try clear hb); (try clear hb2); (try clear hk); (try clear hi)) | ((with_reducible refine gate_callee (f := 33) rfl ?_); refine gX (some 118) Tryz.func33 #[.pointer none, .int .i64 0] ?_; (with_reducible refine (arrays_TypeOf_nil.calls 0 t420 t421 t422 _ A70.out).mono ?_); rintro e w114 ⟨rfl, hb⟩; refine ⟨_, rfl, ?_⟩; have n0_ := Aside0.mk (Kd.R_below (rX HO416) hb); have n1_ := Aside0.mk (blk_below (kX BK381) hb); have n2_ := Aside0.mk (WOK.below (g := G_t383) (es := t383) (by repeat (first | (with_reducible exact HQt383.out) | (with_reducible refine WOK.alloc ?_ _) | (with_reducible refine WOK.drewN ?_ _) | (with_reducible refine WOK.drew ?_))) hb); have n3_ := Aside0.mk (ROK.below (g := G_t392) (cs := t392) (by repeat (first | (with_reducible exact HQt392.out) | (with_reducible refine ROK.alloc ?_ _) | (with_reducible refine ROK.drewN ?_ _) | (with_reducible refine ROK.drew ?_))) hb); have n4_ := Aside0.mk (below_step (bX1 HB GE381) hb); clear HO416; clear BK381; clear HQt383; clear HQt392; clear HB; have HO416 := n0_; have BK381 := n1_; have HQt383 := n2_; have HQt392 := n3_; have HB := n4_; clear n0_ n1_ n2_ n3_ n4_; (try clear hb); (try clear hb2); (try clear hk); (try clear hi)) | ((with_reducible refine gate_dst (N := 22) rfl ?_); refine eX 22 #[.int .i64 0, .string (⟨#[]⟩ : ByteArray)] 24 ?_; intro gb423 hg w115 hbox hb; have n0_ := Aside0.mk (Kd.R_below (Kd.R_elderB (rX HO416) gb423 (Nat.le_of_eq hg.symm)) hb); have n1_ := Aside0.mk (blk_below (kX BK381) hb); have n2_ := Aside0.mk (WOK.below (g := G_t383) (es := t383) (by repeat (first | (with_reducible exact HQt383.out) | (with_reducible refine WOK.alloc ?_ _) | (with_reducible refine WOK.drewN ?_ _) | (with_reducible refine WOK.drew ?_))) hb); have n3_ := Aside0.mk (ROK.below (g := G_t392) (cs := t392) (by repeat (first | (with_reducible exact HQt392.out) | (with_reducible refine ROK.alloc ?_ _) | (with_reducible refine ROK.drewN ?_ _) | (with_reducible refine ROK.drew ?_))) hb); have n4_ := Aside0.mk (below_step (bX1 HB GE381) hb); have n5_ := Aside0.mk (hbox); have n6_ := Aside0.mk ((by rw [hg]; exact (below_size (bX1 HB GE381)) : w.heap.size ≤ gb423)); have n7_ := Aside0.mk ((by rw [hg]; exact (below_size (bX1 HB GE381)) : w.heap.size ≤ gb423)); have n8_ := Aside0.mk ((by rw [hg]; exact Nat.ne_of_lt (blk_lt (kX BK381)) : gb381 ≠ gb423)); have n9_ := Aside0.mk ((by rw [hg]; exact Nat.ne_of_gt (blk_lt (kX BK381)) : gb423 ≠ gb381)); clear HO416; clear BK381; clear HQt383; clear HQt392; clear HB; have HO416 := n0_; have BK381 := n1_; have HQt383 := n2_; have HQt392 := n3_; have HB := n4_; have BK423 := n5_; have GW423 := n6_; have GE423 := n7_; have NB381_423 := n8_; have NB423_381 := n9_; clear n0_ n1_ n2_ n3_ n4_ n5_ n6_ n7_ n8_ n9_; clear hb hbox hg; have hnb116 := NB423_381.out; have hnc116 := NB381_423.out; obtain ⟨hcz117_0, hcz117_1, hfz117_0, hfz117_1⟩ := c2X BK423))
              go_ret
              exact ⟨by first | rfl | (simp [errW_none, errW_some] <;> rfl) | (simp [*, errW_none, errW_some] <;> rfl), bX2 HB GE381 GE423⟩
            ·rw [if_neg c71] at H
             have c71b0 : (t413 == 2) = false := beq_eq_false_iff_ne.mpr c71; have c71b1 : (t413 != 2) = true := bne_iff_ne.mpr c71; obtain rfl := Option.some.inj H; obtain ⟨hcz118_0, hcz118_1, hfz118_0, hfz118_1⟩ := c2X BK381; go_wp2_with (first | ((with_reducible refine gate_callee (f := 41) rfl ?_); refine gX (some 104) Tryz.func41 #[.pointer none, .agg #[.int .i64 x382000_2, .string x382001_2], .agg #[.int .i64 x382000_2, .string x382001_2]] ?_; (with_reducible refine (arrays_Sub_nil.calls x382000_2 x382001_2 x382000_2 x382001_2 t412 t413 _ A67.out).mono ?_); rintro e w119 ⟨rfl, hb⟩; refine ⟨_, rfl, ?_⟩; have n0_ := Aside0.mk (blk_below (kX BK381) hb); have n1_ := Aside0.mk (WOK.below (g := G_t383) (es := t383) (by repeat (first | (with_reducible exact HQt383.out) | (with_reducible refine WOK.alloc ?_ _) | (with_reducible refine WOK.drewN ?_ _) | (with_reducible refine WOK.drew ?_))) hb); have n2_ := Aside0.mk (ROK.below (g := G_t392) (cs := t392) (by repeat (first | (with_reducible exact HQt392.out) | (with_reducible refine ROK.alloc ?_ _) | (with_reducible refine ROK.drewN ?_ _) | (with_reducible refine ROK.drew ?_))) hb); have n3_ := Aside0.mk (below_step (bX1 HB GE381) hb); clear BK381; clear HQt383; clear HQt392; clear HB; have BK381 := n0_; have HQt383 := n1_; have HQt392 := n2_; have HB := n3_; clear n0_ n1_ n2_ n3_; (try clear hb); (try clear hb2); (try clear hk); (try clear hi); obtain ⟨hcz120_0, hcz120_1, hfz120_0, hfz120_1⟩ := c2X BK381) | ((with_reducible refine gate_callee (f := 38) rfl ?_); refine gX (some 109) Tryz.func38 #[.pointer none, .agg #[.int .i64 x382000_2, .string x382001_2]] ?_; (with_reducible refine (arrays_Above_nil.calls x382000_2 x382001_2 t414 t417 _ A68.out).mono ?_); rintro e w121 ⟨v415, rfl, ho0, hb⟩; refine ⟨_, rfl, ?_⟩; have n0_ := Aside0.mk (Kd.R_lower (Kd.R_newB ho0 (g := gb381) (o := .cells #[.int .i64 x382000_2, .string x382001_2] 24 (0, 0)) (kX BK381)) (below_size (bX1 HB GE381))); have n1_ := Aside0.mk (blk_below (kX BK381) hb); have n2_ := Aside0.mk (WOK.below (g := G_t383) (es := t383) (by repeat (first | (with_reducible exact HQt383.out) | (with_reducible refine WOK.alloc ?_ _) | (with_reducible refine WOK.drewN ?_ _) | (with_reducible refine WOK.drew ?_))) hb); have n3_ := Aside0.mk (ROK.below (g := G_t392) (cs := t392) (by repeat (first | (with_reducible exact HQt392.out) | (with_reducible refine ROK.alloc ?_ _) | (with_reducible refine ROK.drewN ?_ _) | (with_reducible refine ROK.drew ?_))) hb); have n4_ := Aside0.mk (below_step (bX1 HB GE381) hb); clear BK381; clear HQt383; clear HQt392; clear HB; have HO416 := n0_; have BK381 := n1_; have HQt383 := n2_; have HQt392 := n3_; have HB := n4_; clear n0_ n1_ n2_ n3_ n4_; (try clear hb); (try clear hb2); (try clear hk); (try clear hi); (try clear ho0); obtain ⟨hcz122_0, hcz122_1, hfz122_0, hfz122_1⟩ := c2X BK381) | ((with_reducible refine gate_callee (f := 36) rfl ?_); refine gX (some 114) Tryz.func36 #[.pointer none, .agg #[.int .i64 x382000_2, .string x382001_2]] ?_; (with_reducible refine (arrays_Holder_nil.calls x382000_2 x382001_2 t418 t419 _ A69.out).mono ?_); rintro e w123 ⟨rfl, hb⟩; refine ⟨_, rfl, ?_⟩; have n0_ := Aside0.mk (Kd.R_below (rX HO416) hb); have n1_ := Aside0.mk (blk_below (kX BK381) hb); have n2_ := Aside0.mk (WOK.below (g := G_t383) (es := t383) (by repeat (first | (with_reducible exact HQt383.out) | (with_reducible refine WOK.alloc ?_ _) | (with_reducible refine WOK.drewN ?_ _) | (with_reducible refine WOK.drew ?_))) hb); have n3_ := Aside0.mk (ROK.below (g := G_t392) (cs := t392) (by repeat (first | (with_reducible exact HQt392.out) | (with_reducible refine ROK.alloc ?_ _) | (with_reducible refine ROK.drewN ?_ _) | (with_reducible refine ROK.drew ?_))) hb); have n4_ := Aside0.mk (below_step (bX1 HB GE381) hb); clear HO416; clear BK381; clear HQt383; clear HQt392; clear HB; have HO416 := n0_; have BK381 := n1_; have HQt383 := n2_; have HQt392 := n3_; have HB := n4_; clear n0_ n1_ n2_ n3_ n4_; (try clear hb); (try clear hb2); (try clear hk); (try clear hi)) | ((with_reducible refine gate_callee (f := 33) rfl ?_); refine gX (some 118) Tryz.func33 #[.pointer none, .int .i64 0] ?_; (with_reducible refine (arrays_TypeOf_nil.calls 0 t420 t421 t422 _ A70.out).mono ?_); rintro e w124 ⟨rfl, hb⟩; refine ⟨_, rfl, ?_⟩; have n0_ := Aside0.mk (Kd.R_below (rX HO416) hb); have n1_ := Aside0.mk (blk_below (kX BK381) hb); have n2_ := Aside0.mk (WOK.below (g := G_t383) (es := t383) (by repeat (first | (with_reducible exact HQt383.out) | (with_reducible refine WOK.alloc ?_ _) | (with_reducible refine WOK.drewN ?_ _) | (with_reducible refine WOK.drew ?_))) hb); have n3_ := Aside0.mk (ROK.below (g := G_t392) (cs := t392) (by repeat (first | (with_reducible exact HQt392.out) | (with_reducible refine ROK.alloc ?_ _) | (with_reducible refine ROK.drewN ?_ _) | (with_reducible refine ROK.drew ?_))) hb); have n4_ := Aside0.mk (below_step (bX1 HB GE381) hb); clear HO416; clear BK381; clear HQt383; clear HQt392; clear HB; have HO416 := n0_; have BK381 := n1_; have HQt383 := n2_; have HQt392 := n3_; have HB := n4_; clear n0_ n1_ n2_ n3_ n4_; (try clear hb); (try clear hb2); (try clear hk); (try clear hi)) | ((with_reducible refine gate_dst (N := 22) rfl ?_); refine eX 22 #[.int .i64 0, .string (⟨#[]⟩ : ByteArray)] 24 ?_; intro gb423 hg w125 hbox hb; have n0_ := Aside0.mk (Kd.R_below (Kd.R_elderB (rX HO416) gb423 (Nat.le_of_eq hg.symm)) hb); have n1_ := Aside0.mk (blk_below (kX BK381) hb); have n2_ := Aside0.mk (WOK.below (g := G_t383) (es := t383) (by repeat (first | (with_reducible exact HQt383.out) | (with_reducible refine WOK.alloc ?_ _) | (with_reducible refine WOK.drewN ?_ _) | (with_reducible refine WOK.drew ?_))) hb); have n3_ := Aside0.mk (ROK.below (g := G_t392) (cs := t392) (by repeat (first | (with_reducible exact HQt392.out) | (with_reducible refine ROK.alloc ?_ _) | (with_reducible refine ROK.drewN ?_ _) | (with_reducible refine ROK.drew ?_))) hb); have n4_ := Aside0.mk (below_step (bX1 HB GE381) hb); have n5_ := Aside0.mk (hbox); have n6_ := Aside0.mk ((by rw [hg]; exact (below_size (bX1 HB GE381)) : w.heap.size ≤ gb423)); have n7_ := Aside0.mk ((by rw [hg]; exact (below_size (bX1 HB GE381)) : w.heap.size ≤ gb423)); have n8_ := Aside0.mk ((by rw [hg]; exact Nat.ne_of_lt (blk_lt (kX BK381)) : gb381 ≠ gb423)); have n9_ := Aside0.mk ((by rw [hg]; exact Nat.ne_of_gt (blk_lt (kX BK381)) : gb423 ≠ gb381)); clear HO416; clear BK381; clear HQt383; clear HQt392; clear HB; have HO416 := n0_; have BK381 := n1_; have HQt383 := n2_; have HQt392 := n3_; have HB := n4_; have BK423 := n5_; have GW423 := n6_; have GE423 := n7_; have NB381_423 := n8_; have NB423_381 := n9_; clear n0_ n1_ n2_ n3_ n4_ n5_ n6_ n7_ n8_ n9_; clear hb hbox hg; have hnb126 := NB423_381.out; have hnc126 := NB381_423.out; obtain ⟨hcz127_0, hcz127_1, hfz127_0, hfz127_1⟩ := c2X BK423))
             go_ret
             exact ⟨by first | rfl | (simp [errW_none, errW_some] <;> rfl) | (simp [*, errW_none, errW_some] <;> rfl), bX2 HB GE381 GE423⟩
        ·rw [if_neg c40] at H
         exact absurd H (by simp)
 ·replace c4 := Bool.eq_false_iff.mpr c4
  subst c4
  have H1 : (some false) = some r := by rw [if_neg (show ¬ (false = true) by decide)] at H; exact H
  clear H; have H := H1; clear H1; obtain rfl := Option.some.inj H; go_enter Tryz.func8, Tryz.ntmps8; go_wp2_with (first | ((with_reducible refine gate_dst (N := 3) rfl ?_); refine eX 3 #[.int .i64 a1_0, .string a1_1] 24 ?_; intro gb381 hg w128 hbox hb; have n0_ := Aside0.mk (below_step (bX HB) hb); have n1_ := Aside0.mk (hbox); have n2_ := Aside0.mk ((by rw [hg]; exact (below_size (bX HB)) : w.heap.size ≤ gb381)); have n3_ := Aside0.mk ((by rw [hg]; exact (below_size (bX HB)) : w.heap.size ≤ gb381)); clear HB; have HB := n0_; have BK381 := n1_; have GW381 := n2_; have GE381 := n3_; clear n0_ n1_ n2_ n3_; clear hb hbox hg) | ((with_reducible refine gate_callee (f := 31) rfl ?_); refine gX (some 24) Tryz.func31 #[] ?_; (with_reducible refine (arbiterlaw07_awake.calls  false _ A3.out).mono ?_); rintro e w129 ⟨rfl, hb⟩; refine ⟨_, rfl, ?_⟩; have n0_ := Aside0.mk (blk_below (kX BK381) hb); have n1_ := Aside0.mk (below_step (bX1 HB GE381) hb); clear BK381; clear HB; have BK381 := n0_; have HB := n1_; clear n0_ n1_; (try clear hb); (try clear hb2); (try clear hk); (try clear hi))); go_ret
  exact ⟨by first | rfl | (simp [errW_none, errW_some] <;> rfl) | (simp [*, errW_none, errW_some] <;> rfl), bX1 HB GE381⟩
end Go.Proofs.YtaipkdglhfhhiaaGreatDoor.Pt

namespace Go.Proofs.YtaipkdglhfhhiaaGreatDoor.Pt
open Go Go.RowKit Go.Proofs.YtaipkdglhfhhiaaGreatDoor.Nm Go.Proofs.YtaipkdglhfhhiaaGreatDoor.Ty Go.Proofs.YtaipkdglhfhhiaaGreatDoor.Hi Go.Proofs.YtaipkdglhfhhiaaGreatDoorW.PrintWords Go.Proofs.YtaipkdglhfhhiaaGreatDoorW.PrintLast Go.Proofs.YtaipkdglhfhhiaaGreatDoorW.PrintMore
set_option linter.unusedVariables false
set_option linter.unusedSimpArgs false
set_option maxRecDepth 100000
theorem ake_l0 {es : List Ent} (h : Thy es) (a : Int) (s : ByteArray) (A : List S24) (hA : (aboveTF es a s).1 = A) (hl : A.length ≤ 100) : ∀ (d i k : Nat) (X : List S24), i + d = X.length → X.length = A.length → d + 1100 < k → arbiterlaw07_ArraysKeeps.l0 k es X A A i a s = some true := by
 intro d
 induction d with
 | zero =>
  intro i k X hi hX hk
  obtain ⟨k, rfl⟩ : ∃ m, k = m + 2 := ⟨k - 2, by omega⟩
  rw [arbiterlaw07_ArraysKeeps.l0, if_neg (by omega), Option.bind_some]
  show (if X.length + 2 < 5864062014805 then _ else _) = _
  rw [if_pos (by omega), above_tot h, Option.bind_some, if_pos (by rw [List.length_append]; show ((X.length + 2 : Nat) : Int) = _; unfold wrap64; omega), sameT_ok A (by omega) (k + 1) (by omega), Option.bind_some, if_pos rfl, hA, sameT_ok A (by omega) (k + 1) (by omega), Option.bind_some]
  rfl
 | succ d ih =>
  intro i k X hi hX hk
  obtain ⟨k, rfl⟩ : ∃ m, k = m + 1 := ⟨k - 1, by omega⟩
  rw [arbiterlaw07_ArraysKeeps.l0, if_pos (by omega), if_pos (by omega), num_wrap (by omega)]
  exact ih (i + 1) k _ (by rw [List.length_set]; omega) (by rw [List.length_set]; exact hX) (by omega)
theorem ake_pure (l : List S85) (hl : l.all goodC = true) (a : Int) (s : ByteArray) : arbiterlaw07_ArraysKeeps.f 20000 l a s = some true := by
 have hT := thy_made (made_built l); have hn := len_made (made_built l); unfold arbiterlaw07_ArraysKeeps.f; rw [show arbiterlaw07_awake.f = some true from rfl, Option.bind_some, if_pos rfl, show arbiterlaw07_built.f l = some (builtF l) from rfl, Option.bind_some]; unfold arbiterref06_Of.f; generalize builtF l = es at *; have hsm := above_small hT a s; rw [above_tot hT, Option.bind_some, Option.bind_some, if_pos hl, Option.bind_some, rabove_ok hT (by omega) a s 20000 (by omega), Option.bind_some, if_pos rfl, sameT_ok _ (by omega) 20000 (by omega), Option.bind_some, if_pos rfl, Option.bind_some]; rw [arbiterlaw07_ArraysKeeps.j0, if_neg (by decide)]
 exact ake_l0 hT a s _ rfl hsm (aboveTF es a s).1.length 0 19999 _ (by omega) rfl (by omega)
theorem ake_any {W : World} {A : Option Addr} {n : Nat} {l : List S85} (hk : Kd.C k85 W A l.length l) (hc : l.length ≤ n) (hg : l.all goodC = true) (a : Int) (s : ByteArray) :
  Calls Tryz.prog 8 #[.slice A l.length n, .agg #[.int .i64 a, .string s]] W fun e W' => e = .returned (.bool true) ∧ Below W.heap.size W W' :=
 arbiterlaw07_ArraysKeeps.calls 20000 _ _ l a s true W hk hc (ake_pure l hg a s)
end Go.Proofs.YtaipkdglhfhhiaaGreatDoor.Pt

namespace Go.Proofs.YtaipkdglhfhhiaaGreatDoor.RowC
open Go Go.RowKit Go.WideShapes Go.Deep Go.Proofs.YtaipkdglhfhhiaaGreatDoorW.PrintWords Go.Proofs.YtaipkdglhfhhiaaGreatDoorW.PrintLast Go.Proofs.YtaipkdglhfhhiaaGreatDoorW.PrintMore Go.Proofs.YtaipkdglhfhhiaaGreatDoor.Pt
set_option linter.unusedVariables false
set_option linter.unusedSimpArgs false
set_option maxRecDepth 100000
variable {H : Type} {enc : TypeId × Value → H} {w : World}
def Opens {H : Type} (enc : TypeId × Value → H) (w : World) (t : TypeId) {α : Type} (d : Kd α) : Prop :=
 ∀ (fuel : Nat) (cs : List Value) (x : DataW H × List MemPlace), DataW.trod enc Tryz.prog w 0 (fun _ => true) true fuel t cs = some x → ∃ a : α, d.K w a cs
theorem opens_int : Opens enc w 3 (Kd.int .i64) := fun fuel cs x h => by
 obtain ⟨n, rfl, _⟩ := DataW.trod_int Tryz.underlying3 h
 exact ⟨n, rfl⟩
theorem opens_bool : Opens enc w 4 Kd.bool := fun fuel cs x h => by
 obtain ⟨n, rfl, _⟩ := DataW.trod_bool Tryz.underlying4 h
 exact ⟨n, rfl⟩
theorem opens_string : Opens enc w 9 Kd.string := fun fuel cs x h => by
 obtain ⟨n, rfl, _⟩ := DataW.trod_string Tryz.underlying9 h
 exact ⟨n, rfl⟩
theorem opens_slice {α : Type} {d : Kd α} {t e : TypeId} (tag : Nat) (ht : Tryz.prog.underlying t = some (.slice e)) (he : Tryz.prog.cellsOf e = d.sz) (ho : Opens enc w e d) : Opens enc w t (Kd.slice tag d) := fun fuel cs x h => by
 rcases open_slice ht h with ⟨rfl, _⟩ | ⟨a, len, cap, m, n, D, Pl, rfl, _, hl, hm, hmm, _, hx⟩
 ·exact ⟨[], none, 0, rfl, Nat.le_refl _, Kd.C_nil _ _⟩
 ·have hmm : m = cap := by simpa using hmm
  have hel : ∀ i : Fin len, ∃ p : α, ∃ c : List Value, c.length = d.sz ∧ d.K w p c ∧ ∀ j u, c[j]? = some u → w.cell? (a.add (i.val * d.sz + j)) = some u := by
   intro i; obtain ⟨cs', h1, h2⟩ := hx i.val (by omega); obtain ⟨p, hp⟩ := ho _ _ _ h2; obtain ⟨_, h3, h4⟩ := World.cells?_some h1; rw [he] at h3 h4; refine ⟨p, cs', h3, hp, fun j u hj => ?_⟩
   have hjl : j < d.sz := by
    rcases Nat.lt_or_ge j d.sz with h | h
    ·exact h
    ·rw [List.getElem?_eq_none (by omega)] at hj; cases hj
   have h5 := h4 j hjl; rw [hj] at h5; rw [← h5]; rw [Addr.add_add]
  let f : Fin len → α := fun i => Classical.choose (hel i)
  have hf : ∀ i : Fin len, ∃ c : List Value, c.length = d.sz ∧ d.K w (f i) c ∧ ∀ j u, c[j]? = some u → w.cell? (a.add (i.val * d.sz + j)) = some u := fun i => Classical.choose_spec (hel i); have hlen : (List.ofFn f).length = len := List.length_ofFn; refine ⟨List.ofFn f, some a, cap, by rw [hlen], by omega, ?_⟩; rw [hlen]; refine ⟨hlen, by unfold maxLen at hm; omega, fun h0 => ⟨a, rfl, fun j p hj => ?_⟩⟩
  have hjl : j < len := by
   rcases Nat.lt_or_ge j len with h | h
   ·exact h
   ·rw [List.getElem?_eq_none (by omega)] at hj; cases hj
  rw [List.getElem?_eq_getElem (by omega), List.getElem_ofFn] at hj; obtain rfl := Option.some.inj hj
  exact hf ⟨j, hjl⟩
theorem cut (cs : List Value) (o n : Nat) : cs.drop o = (cs.drop o).take n ++ cs.drop (o + n) := by
 rw [← List.drop_drop, List.take_append_drop]
theorem field {n : Nat} {fs : Array Field} {cs : List Value} {xs : List (DataW H × List MemPlace)} (hlen : xs.length = fs.size)
  (hf : ∀ (i : Nat) (f : Field), fs[i]? = some f → DataW.trod enc Tryz.prog w 0 (fun _ => true) true n f.type ((cs.drop f.offset).take (Tryz.prog.cellsOf f.type)) = xs[i]?) {α : Type} {d : Kd α} (i : Nat) (f : Field) (hi : fs[i]? = some f) (ho : Opens enc w f.type d) (k : Nat) (hk : Tryz.prog.cellsOf f.type = k) :
  ∃ a : α, d.K w a ((cs.drop f.offset).take k) := by
 have hl : i < fs.size := by
  rcases Nat.lt_or_ge i fs.size with h | h
  ·exact h
  ·rw [Array.getElem?_eq_none h] at hi; cases hi
 have h := hf i f hi; rw [hk, List.getElem?_eq_getElem (by omega)] at h
 exact ho _ _ _ h
theorem opens_Ref : Opens enc w 141 k141 := fun fuel cs x h => by
 obtain ⟨xs, n, _, _, hl, hlen, hf⟩ := DataW.trod_struct Tryz.underlying141 h; rw [show Tryz.prog.cellsOf 141 = 4 by kernel_rfl] at hl; obtain ⟨a0, e0⟩ := field hlen hf 0 _ rfl opens_bool 1 (by kernel_rfl); obtain ⟨a1, e1⟩ := field hlen hf 1 _ rfl opens_string 1 (by kernel_rfl); obtain ⟨a2, e2⟩ := field hlen hf 2 _ rfl opens_string 1 (by kernel_rfl); obtain ⟨a3, e3⟩ := field hlen hf 3 _ rfl opens_string 1 (by kernel_rfl); refine ⟨⟨a0, a1, a2, a3⟩, _, _, cut cs 0 1, e0, _, _, cut cs 1 1, e1, _, _, cut cs 2 1, e2, ?_⟩; rw [List.take_of_length_le (by simp; omega)] at e3
 exact e3
theorem opens_Inst : Opens enc w 143 k143 := fun fuel cs x h => by
 obtain ⟨xs, n, _, _, hl, hlen, hf⟩ := DataW.trod_struct Tryz.underlying143 h; rw [show Tryz.prog.cellsOf 143 = 7 by kernel_rfl] at hl; obtain ⟨a0, e0⟩ := field hlen hf 0 _ rfl opens_int 1 (by kernel_rfl); obtain ⟨a1, e1⟩ := field hlen hf 1 _ rfl opens_int 1 (by kernel_rfl); obtain ⟨a2, e2⟩ := field hlen hf 2 _ rfl opens_string 1 (by kernel_rfl); obtain ⟨a3, e3⟩ := field hlen hf 3 _ rfl opens_Ref 4 (by kernel_rfl); refine ⟨⟨a0, a1, a2, a3⟩, _, _, cut cs 0 1, e0, _, _, cut cs 1 1, e1, _, _, cut cs 2 1, e2, ?_⟩; rw [List.take_of_length_le (by simp; omega)] at e3
 exact e3
theorem opens_Method : Opens enc w 105 k105 := fun fuel cs x h => by
 obtain ⟨xs, n, _, _, hl, hlen, hf⟩ := DataW.trod_struct Tryz.underlying105 h; rw [show Tryz.prog.cellsOf 105 = 6 by kernel_rfl] at hl; obtain ⟨a0, e0⟩ := field hlen hf 0 _ rfl opens_string 1 (by kernel_rfl); obtain ⟨a1, e1⟩ := field hlen hf 1 _ rfl opens_string 1 (by kernel_rfl); obtain ⟨a2, e2⟩ := field hlen hf 2 _ rfl opens_int 1 (by kernel_rfl); obtain ⟨a3, e3⟩ := field hlen hf 3 _ rfl opens_int 1 (by kernel_rfl); obtain ⟨a4, e4⟩ := field hlen hf 4 _ rfl opens_int 1 (by kernel_rfl); obtain ⟨a5, e5⟩ := field hlen hf 5 _ rfl (opens_slice 143 Tryz.underlying103 (by kernel_rfl) opens_Inst) 1 (by kernel_rfl); refine ⟨⟨a0, a1, a2, a3, a4, a5⟩, _, _, cut cs 0 1, e0, _, _, cut cs 1 1, e1, _, _, cut cs 2 1, e2, _, _, cut cs 3 1, e3, _, _, cut cs 4 1, e4, ?_⟩; rw [List.take_of_length_le (by simp; omega)] at e5
 exact e5
theorem opens_Class : Opens enc w 85 k85 := fun fuel cs x h => by
 obtain ⟨xs, n, _, _, hl, hlen, hf⟩ := DataW.trod_struct Tryz.underlying85 h; rw [show Tryz.prog.cellsOf 85 = 6 by kernel_rfl] at hl; obtain ⟨a0, e0⟩ := field hlen hf 0 _ rfl opens_string 1 (by kernel_rfl); obtain ⟨a1, e1⟩ := field hlen hf 1 _ rfl opens_string 1 (by kernel_rfl); obtain ⟨a2, e2⟩ := field hlen hf 2 _ rfl (opens_slice 9 Tryz.underlying82 (by kernel_rfl) opens_string) 1 (by kernel_rfl); obtain ⟨a3, e3⟩ := field hlen hf 3 _ rfl opens_int 1 (by kernel_rfl); obtain ⟨a4, e4⟩ := field hlen hf 4 _ rfl opens_int 1 (by kernel_rfl); obtain ⟨a5, e5⟩ := field hlen hf 5 _ rfl (opens_slice 105 Tryz.underlying83 (by kernel_rfl) opens_Method) 1 (by kernel_rfl); refine ⟨⟨a0, a1, a2, a3, a4, a5⟩, _, _, cut cs 0 1, e0, _, _, cut cs 1 1, e1, _, _, cut cs 2 1, e2, _, _, cut cs 3 1, e3, _, _, cut cs 4 1, e4, ?_⟩; rw [List.take_of_length_le (by simp; omega)] at e5
 exact e5
theorem open_list {base : Nat} {R : Reach} {v : Value} {d : DataW H} {p : List MemPlace} (hv : Value.okWide Tryz.prog w R base 22 v) (h : DataW.Trod enc Tryz.prog w 0 (fun _ => true) true 22 v d p) :
  ∃ (A : Option Addr) (c : Nat) (l : List S85), v = .slice A l.length c ∧ l.length ≤ c ∧ Kd.C k85 w A l.length l := by
 obtain ⟨a, len, cap, rfl⟩ := okWide_slice Tryz.underlying22 hv; obtain ⟨fuel, hf⟩ := h; obtain ⟨l, A, c, e, hc, hk⟩ := opens_slice 85 Tryz.underlying22 (by kernel_rfl) opens_Class _ _ _ hf; have e : [Value.slice a len cap] = [.slice A l.length c] := e
 obtain ⟨rfl, rfl, rfl⟩ : a = A ∧ len = l.length ∧ cap = c := by simpa using e
 exact ⟨_, _, l, rfl, hc, hk⟩
end Go.Proofs.YtaipkdglhfhhiaaGreatDoor.RowC

namespace Go.Proofs.YtaipkdglhfhhiaaGreatDoor.RowR
open Go Go.RowKit Go.WideShapes Go.Deep Go.Proofs.YtaipkdglhfhhiaaGreatDoorW.PrintWords Go.Proofs.YtaipkdglhfhhiaaGreatDoorW.PrintLast Go.Proofs.YtaipkdglhfhhiaaGreatDoorW.PrintMore Go.Proofs.YtaipkdglhfhhiaaGreatDoor.Pt Go.Proofs.YtaipkdglhfhhiaaGreatDoor.RowC
set_option linter.unusedVariables false
set_option linter.unusedSimpArgs false
set_option maxRecDepth 100000
variable {H : Type} {enc : TypeId × Value → H} {w : World}
theorem inRB_wf {f : Int} (h : (Lit.int .i64 f).wf = true) : inRB f = true := by
 have this : IntKind.i64.min ≤ f ∧ f ≤ 9223372036854775807 := by simpa [Lit.wf] using h
 replace this : -9223372036854775808 ≤ f ∧ f ≤ 9223372036854775807 := this; unfold inRB; rw [decide_eq_true this.1, decide_eq_true this.2]; rfl
def OpensP {H : Type} (enc : TypeId × Value → H) (w : World) (t : TypeId) {α : Type} (d : Kd α) (P : α → Prop) : Prop :=
 ∀ (fuel : Nat) (cs : List Value) (x : DataW H × List MemPlace), DataW.trod enc Tryz.prog w 0 (fun _ => true) true fuel t cs = some x → ∃ a : α, d.K w a cs ∧ P a
theorem opensP_int : OpensP enc w 3 (Kd.int .i64) (fun n => inRB n = true) := fun fuel cs x h => by
 obtain ⟨n, rfl, _, hw⟩ := DataW.trod_int Tryz.underlying3 h
 exact ⟨n, rfl, inRB_wf hw⟩
theorem opensP_slice {α : Type} {d : Kd α} {P : α → Prop} {t e : TypeId} (tag : Nat) (ht : Tryz.prog.underlying t = some (.slice e)) (he : Tryz.prog.cellsOf e = d.sz) (ho : OpensP enc w e d P) : OpensP enc w t (Kd.slice tag d) (fun l => ∀ a ∈ l, P a) := fun fuel cs x h => by
 rcases open_slice ht h with ⟨rfl, _⟩ | ⟨a, len, cap, m, n, D, Pl, rfl, _, hl, hm, hmm, _, hx⟩
 ·exact ⟨[], ⟨none, 0, rfl, Nat.le_refl _, Kd.C_nil _ _⟩, fun a ha => by cases ha⟩
 ·have hmm : m = cap := by simpa using hmm
  have hel : ∀ i : Fin len, ∃ p : α, (∃ c : List Value, c.length = d.sz ∧ d.K w p c ∧ ∀ j u, c[j]? = some u → w.cell? (a.add (i.val * d.sz + j)) = some u) ∧ P p := by
   intro i; obtain ⟨cs', h1, h2⟩ := hx i.val (by omega); obtain ⟨p, hp, hq⟩ := ho _ _ _ h2; obtain ⟨_, h3, h4⟩ := World.cells?_some h1; rw [he] at h3 h4; refine ⟨p, ⟨cs', h3, hp, fun j u hj => ?_⟩, hq⟩
   have hjl : j < d.sz := by
    rcases Nat.lt_or_ge j d.sz with h | h
    ·exact h
    ·rw [List.getElem?_eq_none (by omega)] at hj; cases hj
   have h5 := h4 j hjl; rw [hj] at h5; rw [← h5]; rw [Addr.add_add]
  let f : Fin len → α := fun i => Classical.choose (hel i)
  have hf : ∀ i : Fin len, (∃ c : List Value, c.length = d.sz ∧ d.K w (f i) c ∧ ∀ j u, c[j]? = some u → w.cell? (a.add (i.val * d.sz + j)) = some u) ∧ P (f i) := fun i => Classical.choose_spec (hel i); have hlen : (List.ofFn f).length = len := List.length_ofFn; refine ⟨List.ofFn f, ⟨some a, cap, by rw [hlen], by omega, ?_⟩, fun p hp => ?_⟩
  ·rw [hlen]
   refine ⟨hlen, by unfold maxLen at hm; omega, fun h0 => ⟨a, rfl, fun j p hj => ?_⟩⟩
   have hjl : j < len := by
    rcases Nat.lt_or_ge j len with h | h
    ·exact h
    ·rw [List.getElem?_eq_none (by omega)] at hj; cases hj
   rw [List.getElem?_eq_getElem (by omega), List.getElem_ofFn] at hj; obtain rfl := Option.some.inj hj
   exact (hf ⟨j, hjl⟩).1
  ·obtain ⟨i, rfl⟩ := (List.mem_ofFn).1 hp
   exact (hf i).2
theorem fieldP {n : Nat} {fs : Array Field} {cs : List Value} {xs : List (DataW H × List MemPlace)} (hlen : xs.length = fs.size)
  (hf : ∀ (i : Nat) (f : Field), fs[i]? = some f → DataW.trod enc Tryz.prog w 0 (fun _ => true) true n f.type ((cs.drop f.offset).take (Tryz.prog.cellsOf f.type)) = xs[i]?) {α : Type} {d : Kd α} {P : α → Prop} (i : Nat) (f : Field) (hi : fs[i]? = some f) (ho : OpensP enc w f.type d P) (k : Nat) (hk : Tryz.prog.cellsOf f.type = k) :
  ∃ a : α, d.K w a ((cs.drop f.offset).take k) ∧ P a := by
 have hl : i < fs.size := by
  rcases Nat.lt_or_ge i fs.size with h | h
  ·exact h
  ·rw [Array.getElem?_eq_none h] at hi; cases hi
 have h := hf i f hi; rw [hk, List.getElem?_eq_getElem (by omega)] at h
 exact ho _ _ _ h
theorem opensP_Method : OpensP enc w 105 k105 (fun m => inRB m.f2 = true) := fun fuel cs x h => by
 obtain ⟨xs, n, _, _, hl, hlen, hf⟩ := DataW.trod_struct Tryz.underlying105 h; rw [show Tryz.prog.cellsOf 105 = 6 by kernel_rfl] at hl; obtain ⟨a0, e0⟩ := field hlen hf 0 _ rfl opens_string 1 (by kernel_rfl); obtain ⟨a1, e1⟩ := field hlen hf 1 _ rfl opens_string 1 (by kernel_rfl); obtain ⟨a2, e2, p2⟩ := fieldP hlen hf 2 _ rfl opensP_int 1 (by kernel_rfl); obtain ⟨a3, e3⟩ := field hlen hf 3 _ rfl opens_int 1 (by kernel_rfl); obtain ⟨a4, e4⟩ := field hlen hf 4 _ rfl opens_int 1 (by kernel_rfl); obtain ⟨a5, e5⟩ := field hlen hf 5 _ rfl (opens_slice 143 Tryz.underlying103 (by kernel_rfl) opens_Inst) 1 (by kernel_rfl); refine ⟨⟨a0, a1, a2, a3, a4, a5⟩, ⟨_, _, cut cs 0 1, e0, _, _, cut cs 1 1, e1, _, _, cut cs 2 1, e2, _, _, cut cs 3 1, e3, _, _, cut cs 4 1, e4, ?_⟩, p2⟩; rw [List.take_of_length_le (by simp; omega)] at e5
 exact e5
theorem opensP_Class : OpensP enc w 85 k85 (fun c => goodC c = true) := fun fuel cs x h => by
 obtain ⟨xs, n, _, _, hl, hlen, hf⟩ := DataW.trod_struct Tryz.underlying85 h; rw [show Tryz.prog.cellsOf 85 = 6 by kernel_rfl] at hl; obtain ⟨a0, e0⟩ := field hlen hf 0 _ rfl opens_string 1 (by kernel_rfl); obtain ⟨a1, e1⟩ := field hlen hf 1 _ rfl opens_string 1 (by kernel_rfl); obtain ⟨a2, e2⟩ := field hlen hf 2 _ rfl (opens_slice 9 Tryz.underlying82 (by kernel_rfl) opens_string) 1 (by kernel_rfl); obtain ⟨a3, e3, p3⟩ := fieldP hlen hf 3 _ rfl opensP_int 1 (by kernel_rfl); obtain ⟨a4, e4⟩ := field hlen hf 4 _ rfl opens_int 1 (by kernel_rfl); obtain ⟨a5, e5, p5⟩ := fieldP hlen hf 5 _ rfl (opensP_slice 105 Tryz.underlying83 (by kernel_rfl) opensP_Method) 1 (by kernel_rfl); refine ⟨⟨a0, a1, a2, a3, a4, a5⟩, ⟨_, _, cut cs 0 1, e0, _, _, cut cs 1 1, e1, _, _, cut cs 2 1, e2, _, _, cut cs 3 1, e3, _, _, cut cs 4 1, e4, ?_⟩, ?_⟩
 ·rw [List.take_of_length_le (by simp; omega)] at e5
  exact e5
 ·show goodC _ = true
  unfold goodC; rw [Bool.and_eq_true, List.all_eq_true]
  exact ⟨p3, p5⟩
theorem open_list {base : Nat} {R : Reach} {v : Value} {d : DataW H} {p : List MemPlace} (hv : Value.okWide Tryz.prog w R base 22 v) (h : DataW.Trod enc Tryz.prog w 0 (fun _ => true) true 22 v d p) :
  ∃ (A : Option Addr) (c : Nat) (l : List S85), v = .slice A l.length c ∧ l.length ≤ c ∧ Kd.C k85 w A l.length l ∧ l.all goodC = true := by
 obtain ⟨a, len, cap, rfl⟩ := okWide_slice Tryz.underlying22 hv; obtain ⟨fuel, hf⟩ := h; obtain ⟨l, ⟨A, c, e, hc, hk⟩, hp⟩ := opensP_slice 85 Tryz.underlying22 (by kernel_rfl) opensP_Class _ _ _ hf; have e : [Value.slice a len cap] = [.slice A l.length c] := e
 obtain ⟨rfl, rfl, rfl⟩ : a = A ∧ len = l.length ∧ cap = c := by simpa using e
 exact ⟨_, _, l, rfl, hc, hk, List.all_eq_true.2 hp⟩
end Go.Proofs.YtaipkdglhfhhiaaGreatDoor.RowR
