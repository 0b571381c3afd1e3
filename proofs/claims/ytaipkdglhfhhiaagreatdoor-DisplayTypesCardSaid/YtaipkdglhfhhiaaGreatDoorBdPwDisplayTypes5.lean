/- Lemmas and contracts for the statement of PwDisplayTypes: joined by program out of this session's texts. -/
import Derived.Test.YtaipkdglhfhhiaaGreatDoorBdPwDisplayTypes4
import Derived.Outline
namespace Go.Proofs.YtaipkdglhfhhiaaGreatDoor.Pt
open Go.RowKit Go.Proofs.YtaipkdglhfhhiaaGreatDoorW.PrintWords Go.Proofs.YtaipkdglhfhhiaaGreatDoorW.PrintLast Go.Proofs.YtaipkdglhfhhiaaGreatDoorW.PrintMore
attribute [local go_sem] max2_int min2_int max_two min_two max_three min_three max_four min_four   -- for this text's walks alone
set_option linter.unusedVariables false
set_option linter.unusedSimpArgs false
def arbiterref07_Loaded.f (k : Nat) (a0 : List S85) (a1_0 : Int) (a1_1 : ByteArray) : Option (Int) := (arbiterref02_Check.f a1_0 a1_1).bind fun t234 => (if t234 = 0 then (if a1_1.toList = ([] : List UInt8) then (some 0) else ((arbiterref06_ByName.f k a0 a1_1).bind fun bt235 => (if bt235.2 = 0 then (some 0) else (some 20)))) else (some 1))
set_option maxHeartbeats 8000000 in
set_option maxRecDepth 100000 in
theorem arbiterref07_Loaded.calls (k : Nat) (G_ : Nat) (a0 : List S85) (a1_0 : Int) (a1_1 : ByteArray) (r : Int) (w : World) (hq0 : ROK w G_ a0) (h : arbiterref07_Loaded.f k a0 a1_0 a1_1 = some r) :
  Calls Tryz.prog 56 #[.pointer (some ⟨G_, 0, none⟩), .agg #[.int .i64 a1_0, .string a1_1]] w fun e w' => e = .returned (.int .i64 r) ∧ Below w.heap.size w w' := by
 have hu24 := Tryz.underlying24; obtain ⟨AQa0, cQa0, hp0, hrq0, hcq0⟩ := ROK.open hq0; have HPa0 := Aside0.mk hp0; have HRqa0 := Aside0.mk hrq0; have HCqa0 := Aside0.mk hcq0; clear hp0 hrq0 hcq0; have HQa0 := Aside0.mk hq0; clear hq0; have HB := Aside0.mk (Below.refl w.heap.size w); have H : ((arbiterref02_Check.f a1_0 a1_1).bind fun t234 => (if t234 = 0 then (if a1_1.toList = ([] : List UInt8) then (some 0) else ((arbiterref06_ByName.f k a0 a1_1).bind fun bt235 => (if bt235.2 = 0 then (some 0) else (some 20)))) else (some 1))) = some r := h; clear h; replace H := Option.bind_eq_some_iff.mp H; obtain ⟨t234, A30, H⟩ := H; replace H : (if t234 = 0 then (if a1_1.toList = ([] : List UInt8) then (some 0) else ((arbiterref06_ByName.f k a0 a1_1).bind fun bt235 => (if bt235.2 = 0 then (some 0) else (some 20)))) else (some 1)) = some r := H; have A3 := Aside0.mk A30; clear A30
 by_cases c4 : t234 = 0
 ·rw [if_pos c4] at H
  have c4b0 : (t234 == 0) = true := beq_iff_eq.mpr c4; have c4b1 : (t234 != 0) = false := bne_eq_false_iff_eq.mpr c4; clear c4
  by_cases c5 : a1_1.toList = ([] : List UInt8)
  ·rw [if_pos c5] at H
   have c5b0 : (a1_1.toList == ([] : List UInt8)) = true := beq_iff_eq.mpr c5; have c5b1 : (a1_1.toList != ([] : List UInt8)) = false := bne_eq_false_iff_eq.mpr c5; clear c5; obtain rfl := Option.some.inj H; go_enter Tryz.func56, Tryz.ntmps56; go_wp2_with (first | ((with_reducible refine gate_dst (N := 3) rfl ?_); refine eX 3 #[.int .i64 a1_0, .string a1_1] 24 ?_; intro gb233 hg w6 hbox hb; have n0_ := Aside0.mk (below_step (bX HB) hb); have n1_ := Aside0.mk (hbox); have n2_ := Aside0.mk ((by rw [hg]; exact (below_size (bX HB)) : w.heap.size ≤ gb233)); have n3_ := Aside0.mk ((by rw [hg]; exact (below_size (bX HB)) : w.heap.size ≤ gb233)); clear HB; have HB := n0_; have BK233 := n1_; have GW233 := n2_; have GE233 := n3_; clear n0_ n1_ n2_ n3_; clear hb hbox hg; obtain ⟨hcz7_0, hcz7_1, hfz7_0, hfz7_1⟩ := c2X BK233) | ((with_reducible refine gate_callee (f := 97) rfl ?_); refine gX (some 8) Tryz.func97 #[.agg #[.int .i64 a1_0, .string a1_1]] ?_; (with_reducible refine (arbiterref02_Check.calls a1_0 a1_1 t234 _ A3.out).mono ?_); rintro e w8 ⟨rfl, hb⟩; refine ⟨_, rfl, ?_⟩; have n0_ := Aside0.mk (blk_below (kX BK233) hb); have n1_ := Aside0.mk (below_step (bX1 HB GE233) hb); clear BK233; clear HB; have BK233 := n0_; have HB := n1_; clear n0_ n1_; (try clear hb); (try clear hb2); (try clear hk); (try clear hi); obtain ⟨hcz9_0, hcz9_1, hfz9_0, hfz9_1⟩ := c2X BK233)); go_ret
   exact ⟨by first | rfl | (simp [errW_none, errW_some] <;> rfl) | (simp [*, errW_none, errW_some] <;> rfl), bX1 HB GE233⟩
  ·rw [if_neg c5] at H
   have c5b0 : (a1_1.toList == ([] : List UInt8)) = false := beq_eq_false_iff_ne.mpr c5; have c5b1 : (a1_1.toList != ([] : List UInt8)) = true := bne_iff_ne.mpr c5; replace H := Option.bind_eq_some_iff.mp H; obtain ⟨⟨t235, t236⟩, A100, H⟩ := H; replace H : (if t236 = 0 then (some 0) else (some 20)) = some r := H; have A10 := Aside0.mk A100; clear A100
   by_cases c11 : t236 = 0
   ·rw [if_pos c11] at H
    have c11b0 : (t236 == 0) = true := beq_iff_eq.mpr c11; have c11b1 : (t236 != 0) = false := bne_eq_false_iff_eq.mpr c11; clear c11; obtain rfl := Option.some.inj H; go_enter Tryz.func56, Tryz.ntmps56; go_wp2_with (first | ((with_reducible refine gate_dst (N := 3) rfl ?_); refine eX 3 #[.int .i64 a1_0, .string a1_1] 24 ?_; intro gb233 hg w12 hbox hb; have n0_ := Aside0.mk (below_step (bX HB) hb); have n1_ := Aside0.mk (hbox); have n2_ := Aside0.mk ((by rw [hg]; exact (below_size (bX HB)) : w.heap.size ≤ gb233)); have n3_ := Aside0.mk ((by rw [hg]; exact (below_size (bX HB)) : w.heap.size ≤ gb233)); clear HB; have HB := n0_; have BK233 := n1_; have GW233 := n2_; have GE233 := n3_; clear n0_ n1_ n2_ n3_; clear hb hbox hg; obtain ⟨hcz13_0, hcz13_1, hfz13_0, hfz13_1⟩ := c2X BK233) | ((with_reducible refine gate_callee (f := 97) rfl ?_); refine gX (some 8) Tryz.func97 #[.agg #[.int .i64 a1_0, .string a1_1]] ?_; (with_reducible refine (arbiterref02_Check.calls a1_0 a1_1 t234 _ A3.out).mono ?_); rintro e w14 ⟨rfl, hb⟩; refine ⟨_, rfl, ?_⟩; have n0_ := Aside0.mk (blk_below (kX BK233) hb); have n1_ := Aside0.mk (below_step (bX1 HB GE233) hb); clear BK233; clear HB; have BK233 := n0_; have HB := n1_; clear n0_ n1_; (try clear hb); (try clear hb2); (try clear hk); (try clear hi); obtain ⟨hcz15_0, hcz15_1, hfz15_0, hfz15_1⟩ := c2X BK233) | ((with_reducible refine gate_callee (f := 57) rfl ?_); refine gX (some 17) Tryz.func57 #[.pointer (some ⟨G_, 0, none⟩), .string a1_1] ?_; (with_reducible refine (arbiterref06_ByName.calls k G_ a0 a1_1 t235 t236 _ ?side1 A10.out).mono ?_); (case side1 => repeat (first | (with_reducible exact HQa0.out) | (with_reducible refine ROK.alloc ?_ _) | (with_reducible refine ROK.drewN ?_ _) | (with_reducible refine ROK.drew ?_) | exact ROK.below HQa0.out HB.out | exact ROK.below HQa0.out (bX1 HB GE233))); rintro e w' ⟨rfl, ⟨nd, rfl⟩⟩; refine ⟨_, rfl, ?_⟩)); go_ret
    exact ⟨by first | rfl | (simp [errW_none, errW_some] <;> rfl) | (simp [*, errW_none, errW_some] <;> rfl), bX1 HB GE233⟩
   ·rw [if_neg c11] at H
    have c11b0 : (t236 == 0) = false := beq_eq_false_iff_ne.mpr c11; have c11b1 : (t236 != 0) = true := bne_iff_ne.mpr c11; obtain rfl := Option.some.inj H; go_enter Tryz.func56, Tryz.ntmps56; go_wp2_with (first | ((with_reducible refine gate_dst (N := 3) rfl ?_); refine eX 3 #[.int .i64 a1_0, .string a1_1] 24 ?_; intro gb233 hg w16 hbox hb; have n0_ := Aside0.mk (below_step (bX HB) hb); have n1_ := Aside0.mk (hbox); have n2_ := Aside0.mk ((by rw [hg]; exact (below_size (bX HB)) : w.heap.size ≤ gb233)); have n3_ := Aside0.mk ((by rw [hg]; exact (below_size (bX HB)) : w.heap.size ≤ gb233)); clear HB; have HB := n0_; have BK233 := n1_; have GW233 := n2_; have GE233 := n3_; clear n0_ n1_ n2_ n3_; clear hb hbox hg; obtain ⟨hcz17_0, hcz17_1, hfz17_0, hfz17_1⟩ := c2X BK233) | ((with_reducible refine gate_callee (f := 97) rfl ?_); refine gX (some 8) Tryz.func97 #[.agg #[.int .i64 a1_0, .string a1_1]] ?_; (with_reducible refine (arbiterref02_Check.calls a1_0 a1_1 t234 _ A3.out).mono ?_); rintro e w18 ⟨rfl, hb⟩; refine ⟨_, rfl, ?_⟩; have n0_ := Aside0.mk (blk_below (kX BK233) hb); have n1_ := Aside0.mk (below_step (bX1 HB GE233) hb); clear BK233; clear HB; have BK233 := n0_; have HB := n1_; clear n0_ n1_; (try clear hb); (try clear hb2); (try clear hk); (try clear hi); obtain ⟨hcz19_0, hcz19_1, hfz19_0, hfz19_1⟩ := c2X BK233) | ((with_reducible refine gate_callee (f := 57) rfl ?_); refine gX (some 17) Tryz.func57 #[.pointer (some ⟨G_, 0, none⟩), .string a1_1] ?_; (with_reducible refine (arbiterref06_ByName.calls k G_ a0 a1_1 t235 t236 _ ?side1 A10.out).mono ?_); (case side1 => repeat (first | (with_reducible exact HQa0.out) | (with_reducible refine ROK.alloc ?_ _) | (with_reducible refine ROK.drewN ?_ _) | (with_reducible refine ROK.drew ?_) | exact ROK.below HQa0.out HB.out | exact ROK.below HQa0.out (bX1 HB GE233))); rintro e w' ⟨rfl, ⟨nd, rfl⟩⟩; refine ⟨_, rfl, ?_⟩)); go_ret
    exact ⟨by first | rfl | (simp [errW_none, errW_some] <;> rfl) | (simp [*, errW_none, errW_some] <;> rfl), bX1 HB GE233⟩
 ·rw [if_neg c4] at H
  have c4b0 : (t234 == 0) = false := beq_eq_false_iff_ne.mpr c4; have c4b1 : (t234 != 0) = true := bne_iff_ne.mpr c4; obtain rfl := Option.some.inj H; go_enter Tryz.func56, Tryz.ntmps56; go_wp2_with (first | ((with_reducible refine gate_dst (N := 3) rfl ?_); refine eX 3 #[.int .i64 a1_0, .string a1_1] 24 ?_; intro gb233 hg w20 hbox hb; have n0_ := Aside0.mk (below_step (bX HB) hb); have n1_ := Aside0.mk (hbox); have n2_ := Aside0.mk ((by rw [hg]; exact (below_size (bX HB)) : w.heap.size ≤ gb233)); have n3_ := Aside0.mk ((by rw [hg]; exact (below_size (bX HB)) : w.heap.size ≤ gb233)); clear HB; have HB := n0_; have BK233 := n1_; have GW233 := n2_; have GE233 := n3_; clear n0_ n1_ n2_ n3_; clear hb hbox hg; obtain ⟨hcz21_0, hcz21_1, hfz21_0, hfz21_1⟩ := c2X BK233) | ((with_reducible refine gate_callee (f := 97) rfl ?_); refine gX (some 8) Tryz.func97 #[.agg #[.int .i64 a1_0, .string a1_1]] ?_; (with_reducible refine (arbiterref02_Check.calls a1_0 a1_1 t234 _ A3.out).mono ?_); rintro e w22 ⟨rfl, hb⟩; refine ⟨_, rfl, ?_⟩; have n0_ := Aside0.mk (blk_below (kX BK233) hb); have n1_ := Aside0.mk (below_step (bX1 HB GE233) hb); clear BK233; clear HB; have BK233 := n0_; have HB := n1_; clear n0_ n1_; (try clear hb); (try clear hb2); (try clear hk); (try clear hi))); go_ret
  exact ⟨by first | rfl | (simp [errW_none, errW_some] <;> rfl) | (simp [*, errW_none, errW_some] <;> rfl), bX1 HB GE233⟩
def arbiterref08_TypeOpen.f (k : Nat) (a0 : List S85) (a1 : Int) (a2_0 : Int) (a2_1 : ByteArray) : Option (Bool × Int) := (arbiterref06_In.f a0 a1).bind fun t238 => (if t238 = true then ((arbiterref07_Loaded.f k a0 a2_0 a2_1).bind fun t239 => (if t239 = 0 then (if a2_1.toList = ([] : List UInt8) then (some (true, 0)) else ((arbiterref06_ByName.f k a0 a2_1).bind fun bt240 => ((arbiterref08_ClassOpen.f k a0 a1 bt240.1).bind fun bt242 => (some (bt242.1, bt242.2))))) else (some (false, t239)))) else (some (false, 3)))
end Go.Proofs.YtaipkdglhfhhiaaGreatDoor.Pt

namespace Go.Proofs.YtaipkdglhfhhiaaGreatDoor.Pt
open Go.RowKit Go.Proofs.YtaipkdglhfhhiaaGreatDoorW.PrintWords Go.Proofs.YtaipkdglhfhhiaaGreatDoorW.PrintLast Go.Proofs.YtaipkdglhfhhiaaGreatDoorW.PrintMore
attribute [local go_sem] max2_int min2_int max_two min_two max_three min_three max_four min_four   -- for this text's walks alone
set_option linter.unusedVariables false
set_option linter.unusedSimpArgs false
def arbiterref06_Closure.f (k : Nat) (a0 : List S85) (a1 : Int) : Option (List Int × Int) := (arbiterref06_In.f a0 a1).bind fun t470 => (if t470 = true then ((arbiterref06_gather.f k a0 a1 ([] : List Int)).bind fun t471 => (some (t471, 0))) else (some (([] : List Int), 3)))
set_option maxHeartbeats 8000000 in
set_option maxRecDepth 100000 in
theorem arbiterref06_Closure.calls (k : Nat) (G_ : Nat) (a0 : List S85) (a1 : Int) (r1 : List Int) (r2 : Int) (w : World) (hq0 : ROK w G_ a0) (h : arbiterref06_Closure.f k a0 a1 = some (r1, r2)) :
  Calls Tryz.prog 68 #[.pointer (some ⟨G_, 0, none⟩), .int .i64 a1] w fun e w' => ∃ v0_ : Value, e = .returned (.tuple #[v0_, .int .i64 r2]) ∧ Kd.R (Kd.int .i64) 3 w' w.heap.size (fun _ => True) v0_ r1 ∧ Below w.heap.size w w' := by
 obtain ⟨AQa0, cQa0, hp0, hrq0, hcq0⟩ := ROK.open hq0; have HPa0 := Aside0.mk hp0; have HRqa0 := Aside0.mk hrq0; have HCqa0 := Aside0.mk hcq0; clear hp0 hrq0 hcq0; have HQa0 := Aside0.mk hq0; clear hq0; have HB := Aside0.mk (Below.refl w.heap.size w); have H : ((arbiterref06_In.f a0 a1).bind fun t470 => (if t470 = true then ((arbiterref06_gather.f k a0 a1 ([] : List Int)).bind fun t471 => (some (t471, 0))) else (some (([] : List Int), 3)))) = some (r1, r2) := h; clear h; replace H := Option.bind_eq_some_iff.mp H; obtain ⟨t470, A30, H⟩ := H; replace H : (if t470 = true then ((arbiterref06_gather.f k a0 a1 ([] : List Int)).bind fun t471 => (some (t471, 0))) else (some (([] : List Int), 3))) = some (r1, r2) := H; have A3 := Aside0.mk A30; clear A30
 by_cases c4 : t470 = true
 ·subst c4
  have H1 : ((arbiterref06_gather.f k a0 a1 ([] : List Int)).bind fun t471 => (some (t471, 0))) = some (r1, r2) := by rw [if_pos rfl] at H; exact H
  clear H; have H := H1; clear H1; replace H := Option.bind_eq_some_iff.mp H; obtain ⟨t471, A50, H⟩ := H; replace H : (some (t471, 0)) = some (r1, r2) := H; have A5 := Aside0.mk A50; clear A50; simp only [Option.some.injEq, Prod.mk.injEq] at H; obtain ⟨rfl, rfl⟩ := H; go_enter Tryz.func68, Tryz.ntmps68; go_wp2_with (first | ((with_reducible refine gate_callee (f := 51) rfl ?_); refine gX (some 8) Tryz.func51 #[.pointer (some ⟨G_, 0, none⟩), .int .i64 a1] ?_; (with_reducible refine (arbiterref06_In.calls G_ a0 a1 true _ ?side1 A3.out).mono ?_); (case side1 => repeat (first | (with_reducible exact HQa0.out) | (with_reducible refine ROK.alloc ?_ _) | (with_reducible refine ROK.drewN ?_ _) | (with_reducible refine ROK.drew ?_) | exact ROK.below HQa0.out HB.out | exact ROK.below HQa0.out (bX HB))); rintro e w' ⟨rfl, ⟨nd, rfl⟩⟩; refine ⟨_, rfl, ?_⟩) | ((with_reducible refine gate_callee (f := 103) rfl ?_); refine gX (some 12) Tryz.func103 #[.pointer (some ⟨G_, 0, none⟩), .int .i64 a1, .slice none 0 0] ?_; (refine (arbiterref06_gather.calls k G_ a0 a1 (fun k_ => some k_ = (.slice none 0 0 : Value).ownBlock) (.slice none 0 0) ([] : List Int) t471 w _ ?side1 HQa0.out ?side2 A5.out).mono ?_); (case side1 => repeat (first | (with_reducible first | exact HB.out | apply below_alloc | apply pw_below_drewN | apply below_drew1) | exact HB.out)); (case side2 => exact Kd.R_nil _ _ _ _ _); rintro e w6 ⟨v472, rfl, ho0, hb, hkp⟩; refine ⟨_, rfl, ?_⟩; have n0_ := Aside0.mk (Kd.R_mono (ok' := fun k_ => True) ho0 (fun k_ hk_ => trivial)); have n1_ := Aside0.mk (hb); clear HB; have HO473 := n0_; have HB := n1_; clear n0_ n1_; (try clear hb); (try clear hkp); (try clear ho0))); go_ret2
  exact ⟨_, by first | rfl | (simp [errW_none, errW_some] <;> rfl) | (simp [*, errW_none, errW_some] <;> rfl), by (with_reducible repeat (first | apply Kd.R_alloc | apply Kd.R_drewN | apply Kd.R_drew)); exact HO473.out, bX HB⟩
 ·replace c4 := Bool.eq_false_iff.mpr c4
  subst c4
  have H1 : (some (([] : List Int), 3)) = some (r1, r2) := by rw [if_neg (show ¬ (false = true) by decide)] at H; exact H
  clear H; have H := H1; clear H1; simp only [Option.some.injEq, Prod.mk.injEq] at H; obtain ⟨rfl, rfl⟩ := H; go_enter Tryz.func68, Tryz.ntmps68; go_wp2_with (first | ((with_reducible refine gate_callee (f := 51) rfl ?_); refine gX (some 8) Tryz.func51 #[.pointer (some ⟨G_, 0, none⟩), .int .i64 a1] ?_; (with_reducible refine (arbiterref06_In.calls G_ a0 a1 false _ ?side1 A3.out).mono ?_); (case side1 => repeat (first | (with_reducible exact HQa0.out) | (with_reducible refine ROK.alloc ?_ _) | (with_reducible refine ROK.drewN ?_ _) | (with_reducible refine ROK.drew ?_) | exact ROK.below HQa0.out HB.out | exact ROK.below HQa0.out (bX HB))); rintro e w' ⟨rfl, ⟨nd, rfl⟩⟩; refine ⟨_, rfl, ?_⟩)); go_ret2
  exact ⟨_, by first | rfl | (simp [errW_none, errW_some] <;> rfl) | (simp [*, errW_none, errW_some] <;> rfl), by first | exact Kd.R_nil _ _ _ _ _ | exact Kd.N_nil _ _ _ _ _ | exact Kd.V_nil _ _ _ _ _ | exact Kd.Q_nil _ _ _ _ _ | exact Kd.S_nil _ _ _ _ _, bX HB⟩
end Go.Proofs.YtaipkdglhfhhiaaGreatDoor.Pt

namespace Go.Proofs.YtaipkdglhfhhiaaGreatDoor.Pt
open Go.RowKit Go.Proofs.YtaipkdglhfhhiaaGreatDoorW.PrintWords Go.Proofs.YtaipkdglhfhhiaaGreatDoorW.PrintLast Go.Proofs.YtaipkdglhfhhiaaGreatDoorW.PrintMore
attribute [local go_sem] max2_int min2_int max_two min_two max_three min_three max_four min_four   -- for this text's walks alone
set_option linter.unusedVariables false
set_option linter.unusedSimpArgs false
mutual
def arbiterref15_Test.j0 : Nat → List S85 → Int → Int → Bool → Option (Bool × Int × Int)
 | 0, _, _, _, _ => none
 | k + 1, x0, x1, x2, x21 => if x21 = true then (some (false, 0, 3)) else ((arbiterref06_Extends.f k x0 x1 x2).bind fun t494 => ((arbiterref06_IsIface.f x0 x2).bind fun t495 => (if t495 = true then (arbiterref15_Test.j1 k x0 x1 x2 t494 (x1 == x2)) else (arbiterref15_Test.j1 k x0 x1 x2 t494 true))))
def arbiterref15_Test.j1 : Nat → List S85 → Int → Int → Bool → Bool → Option (Bool × Int × Int)
 | 0, _, _, _, _, _ => none
 | k + 1, x0, x1, x2, x6, x34 => if x34 = true then (some (x6, 1, 0)) else ((arbiterref06_Closure.f k x0 x1).bind fun bt496 => (arbiterref15_Test.l0 k x2 x6 1 bt496.1 0))
def arbiterref15_Test.l0 : Nat → Int → Bool → Int → List Int → Int → Option (Bool × Int × Int)
 | 0, _, _, _, _, _ => none
 | k + 1, x2, x6, x7, x9, x11 => if x11 < (x9.length : Int) then (if 0 ≤ x11 then (if (rd x9 x11) = x2 then (some (x6, wrap64 (x7 + 1), 0)) else (arbiterref15_Test.l0 k x2 x6 (wrap64 (x7 + 1)) x9 (wrap64 (x11 + 1)))) else (none)) else (some (x6, x7, 0))
end
def arbiterref15_Test.f (k : Nat) (a0 : List S85) (a1 : Int) (a2 : Int) : Option (Bool × Int × Int) := (arbiterref06_In.f a0 a1).bind fun t492 => (if t492 = true then ((arbiterref06_In.f a0 a2).bind fun t493 => (arbiterref15_Test.j0 k a0 a1 a2 (!t493))) else (arbiterref15_Test.j0 k a0 a1 a2 true))
set_option maxHeartbeats 8000000 in
set_option maxRecDepth 100000 in
theorem arbiterref15_Test.calls (k : Nat) (G_ : Nat) (a0 : List S85) (a1 : Int) (a2 : Int) (r1 : Bool) (r2 : Int) (r3 : Int) (w : World) (hq0 : ROK w G_ a0) (h : arbiterref15_Test.f k a0 a1 a2 = some (r1, r2, r3)) :
  Calls Tryz.prog 25 #[.pointer (some ⟨G_, 0, none⟩), .int .i64 a1, .int .i64 a2] w fun e w' => e = .returned (.tuple #[.bool r1, .int .i64 r2, .int .i64 r3]) ∧ Below w.heap.size w w' := by
 obtain ⟨AQa0, cQa0, hp0, hrq0, hcq0⟩ := ROK.open hq0; have HPa0 := Aside0.mk hp0; have HRqa0 := Aside0.mk hrq0; have HCqa0 := Aside0.mk hcq0; clear hp0 hrq0 hcq0; have HQa0 := Aside0.mk hq0; clear hq0; have HB := Aside0.mk (Below.refl w.heap.size w); have H : ((arbiterref06_In.f a0 a1).bind fun t492 => (if t492 = true then ((arbiterref06_In.f a0 a2).bind fun t493 => (arbiterref15_Test.j0 k a0 a1 a2 (!t493))) else (arbiterref15_Test.j0 k a0 a1 a2 true))) = some (r1, r2, r3) := h; clear h; have HC4 := Aside0.mk H; clear H; go_enter Tryz.func25, Tryz.ntmps25
 go_upto_region 1 with (fail)
 go_cut [21] (fun v21 wc => ∃ (kq : Nat) (x21_3 : Bool), v21 = .bool x21_3 ∧ Aside0 (arbiterref15_Test.j0 kq a0 a1 a2 x21_3 = some (r1, r2, r3)) ∧ Aside0 (kq ≤ k) ∧ Aside0 (Below w.heap.size w wc))
 case first =>
  have H := HC4.out; clear HC4; replace H := Option.bind_eq_some_iff.mp H; obtain ⟨t492, A50, H⟩ := H; replace H : (if t492 = true then ((arbiterref06_In.f a0 a2).bind fun t493 => (arbiterref15_Test.j0 k a0 a1 a2 (!t493))) else (arbiterref15_Test.j0 k a0 a1 a2 true)) = some (r1, r2, r3) := H; have A5 := Aside0.mk A50; clear A50
  by_cases c6 : t492 = true
  ·subst c6
   have H1 : ((arbiterref06_In.f a0 a2).bind fun t493 => (arbiterref15_Test.j0 k a0 a1 a2 (!t493))) = some (r1, r2, r3) := by rw [if_pos rfl] at H; exact H
   clear H; have H := H1; clear H1; replace H := Option.bind_eq_some_iff.mp H; obtain ⟨t493, A70, H⟩ := H; replace H : (arbiterref15_Test.j0 k a0 a1 a2 (!t493)) = some (r1, r2, r3) := H; have A7 := Aside0.mk A70; clear A70; have H' := Aside0.mk H; clear H; go_wp2_with (first | ((with_reducible refine gate_callee (f := 51) rfl ?_); refine gX (some 14) Tryz.func51 #[.pointer (some ⟨G_, 0, none⟩), .int .i64 a1] ?_; (with_reducible refine (arbiterref06_In.calls G_ a0 a1 true _ ?side1 A5.out).mono ?_); (case side1 => repeat (first | (with_reducible exact HQa0.out) | (with_reducible refine ROK.alloc ?_ _) | (with_reducible refine ROK.drewN ?_ _) | (with_reducible refine ROK.drew ?_) | exact ROK.below HQa0.out HB.out | exact ROK.below HQa0.out (bX HB))); rintro e w' ⟨rfl, ⟨nd, rfl⟩⟩; refine ⟨_, rfl, ?_⟩) | (go_at_call 51; (with_reducible refine (arbiterref06_In.calls G_ a0 a2 t493 _ ?side1 A7.out).mono ?_); (case side1 => repeat (first | (with_reducible exact HQa0.out) | (with_reducible refine ROK.alloc ?_ _) | (with_reducible refine ROK.drewN ?_ _) | (with_reducible refine ROK.drew ?_) | exact ROK.below HQa0.out HB.out | exact ROK.below HQa0.out (bX HB))); rintro e w' ⟨rfl, ⟨nd, rfl⟩⟩)); go_meet
   case rel => exact ⟨_, (!t493), vX, H', ⟨by first | omega | exact Nat.le_refl _⟩, ⟨bX HB⟩⟩
  ·replace c6 := Bool.eq_false_iff.mpr c6
   subst c6
   have H1 : (arbiterref15_Test.j0 k a0 a1 a2 true) = some (r1, r2, r3) := by rw [if_neg (show ¬ (false = true) by decide)] at H; exact H
   clear H; have H := H1; clear H1; have H' := Aside0.mk H; clear H; go_wp2_with (first | ((with_reducible refine gate_callee (f := 51) rfl ?_); refine gX (some 14) Tryz.func51 #[.pointer (some ⟨G_, 0, none⟩), .int .i64 a1] ?_; (with_reducible refine (arbiterref06_In.calls G_ a0 a1 false _ ?side1 A5.out).mono ?_); (case side1 => repeat (first | (with_reducible exact HQa0.out) | (with_reducible refine ROK.alloc ?_ _) | (with_reducible refine ROK.drewN ?_ _) | (with_reducible refine ROK.drew ?_) | exact ROK.below HQa0.out HB.out | exact ROK.below HQa0.out (bX HB))); rintro e w' ⟨rfl, ⟨nd, rfl⟩⟩; refine ⟨_, rfl, ?_⟩)); go_meet
   case rel => exact ⟨_, (true), vX, H', ⟨by first | omega | exact Nat.le_refl _⟩, ⟨bX HB⟩⟩
 case rest =>
  clear HC4
  try clear c2
  try clear p2
  try clear c5
  try clear c6
  obtain ⟨kq, x21_3, rfl, HA, HJ3, HB⟩ := hcut
  cases kq with
  | zero => exact absurd HA.out (by simp [arbiterref15_Test.j0])
  | succ kj3 =>
   have H := HA.out; clear HA; simp only [arbiterref15_Test.j0] at H
   by_cases c8 : x21_3 = true
   ·subst c8
    have H1 : (some (false, 0, 3)) = some (r1, r2, r3) := by rw [if_pos rfl] at H; exact H
    clear H; have H := H1; clear H1; simp only [Option.some.injEq, Prod.mk.injEq] at H; obtain ⟨rfl, rfl, rfl⟩ := H; go_wp2
    go_ret3
    exact ⟨by first | rfl | (simp [errW_none, errW_some] <;> rfl) | (simp [*, errW_none, errW_some] <;> rfl), bX HB⟩
   ·replace c8 := Bool.eq_false_iff.mpr c8
    subst c8
    have H1 : ((arbiterref06_Extends.f kj3 a0 a1 a2).bind fun t494 => ((arbiterref06_IsIface.f a0 a2).bind fun t495 => (if t495 = true then (arbiterref15_Test.j1 kj3 a0 a1 a2 t494 (a1 == a2)) else (arbiterref15_Test.j1 kj3 a0 a1 a2 t494 true)))) = some (r1, r2, r3) := by rw [if_neg (show ¬ (false = true) by decide)] at H; exact H
    clear H; have H := H1; clear H1; replace H := Option.bind_eq_some_iff.mp H; obtain ⟨t494, A90, H⟩ := H; replace H : ((arbiterref06_IsIface.f a0 a2).bind fun t495 => (if t495 = true then (arbiterref15_Test.j1 kj3 a0 a1 a2 t494 (a1 == a2)) else (arbiterref15_Test.j1 kj3 a0 a1 a2 t494 true))) = some (r1, r2, r3) := H; have A9 := Aside0.mk A90; clear A90; have HC10 := Aside0.mk H; clear H
    go_upto_region 4 with (first | ((with_reducible refine gate_callee (f := 66) rfl ?_); refine gX (some 25) Tryz.func66 #[.pointer (some ⟨G_, 0, none⟩), .int .i64 a1, .int .i64 a2] ?_; (with_reducible refine (arbiterref06_Extends.calls kj3 G_ a0 a1 a2 t494 _ ?side1 A9.out).mono ?_); (case side1 => repeat (first | (with_reducible exact HQa0.out) | (with_reducible refine ROK.alloc ?_ _) | (with_reducible refine ROK.drewN ?_ _) | (with_reducible refine ROK.drew ?_) | exact ROK.below HQa0.out HB.out | exact ROK.below HQa0.out (bX HB))); rintro e w11 ⟨rfl, hb⟩; refine ⟨_, rfl, ?_⟩; have n0_ := Aside0.mk (below_step (bX HB) hb); clear HB; have HB := n0_; clear n0_; (try clear hb); (try clear hb2); (try clear hk); (try clear hi)))
    (try simp only [Act.put, List.setIfInBounds_toArray, List.set_cons_zero, List.set_cons_succ])
    go_cut [34] (fun v34 wc => ∃ (kq : Nat) (x34_9 : Bool), v34 = .bool x34_9 ∧ Aside0 (arbiterref15_Test.j1 kq a0 a1 a2 t494 x34_9 = some (r1, r2, r3)) ∧ Aside0 (kq ≤ kj3) ∧ Aside0 (Below w.heap.size w wc))
    case first =>
     have H := HC10.out; clear HC10; replace H := Option.bind_eq_some_iff.mp H; obtain ⟨t495, A120, H⟩ := H; replace H : (if t495 = true then (arbiterref15_Test.j1 kj3 a0 a1 a2 t494 (a1 == a2)) else (arbiterref15_Test.j1 kj3 a0 a1 a2 t494 true)) = some (r1, r2, r3) := H; have A12 := Aside0.mk A120; clear A120
     by_cases c13 : t495 = true
     ·subst c13
      have H1 : (arbiterref15_Test.j1 kj3 a0 a1 a2 t494 (a1 == a2)) = some (r1, r2, r3) := by rw [if_pos rfl] at H; exact H
      clear H; have H := H1; clear H1; have H' := Aside0.mk H; clear H; go_wp2_with (first | ((with_reducible refine gate_callee (f := 65) rfl ?_); refine gX (some 28) Tryz.func65 #[.pointer (some ⟨G_, 0, none⟩), .int .i64 a2] ?_; (with_reducible refine (arbiterref06_IsIface.calls G_ a0 a2 true _ ?side1 A12.out).mono ?_); (case side1 => repeat (first | (with_reducible exact HQa0.out) | (with_reducible refine ROK.alloc ?_ _) | (with_reducible refine ROK.drewN ?_ _) | (with_reducible refine ROK.drew ?_) | exact ROK.below HQa0.out HB.out | exact ROK.below HQa0.out (bX HB))); rintro e w14 ⟨rfl, hb⟩; refine ⟨_, rfl, ?_⟩; have n0_ := Aside0.mk (below_step (bX HB) hb); clear HB; have HB := n0_; clear n0_; (try clear hb); (try clear hb2); (try clear hk); (try clear hi))); go_meet
      case rel => exact ⟨_, ((a1 == a2)), vX, H', ⟨by have := HJ3.out; first | omega | exact Nat.le_refl _⟩, ⟨bX HB⟩⟩
     ·replace c13 := Bool.eq_false_iff.mpr c13
      subst c13
      have H1 : (arbiterref15_Test.j1 kj3 a0 a1 a2 t494 true) = some (r1, r2, r3) := by rw [if_neg (show ¬ (false = true) by decide)] at H; exact H
      clear H; have H := H1; clear H1; have H' := Aside0.mk H; clear H; go_wp2_with (first | ((with_reducible refine gate_callee (f := 65) rfl ?_); refine gX (some 28) Tryz.func65 #[.pointer (some ⟨G_, 0, none⟩), .int .i64 a2] ?_; (with_reducible refine (arbiterref06_IsIface.calls G_ a0 a2 false _ ?side1 A12.out).mono ?_); (case side1 => repeat (first | (with_reducible exact HQa0.out) | (with_reducible refine ROK.alloc ?_ _) | (with_reducible refine ROK.drewN ?_ _) | (with_reducible refine ROK.drew ?_) | exact ROK.below HQa0.out HB.out | exact ROK.below HQa0.out (bX HB))); rintro e w15 ⟨rfl, hb⟩; refine ⟨_, rfl, ?_⟩; have n0_ := Aside0.mk (below_step (bX HB) hb); clear HB; have HB := n0_; clear n0_; (try clear hb); (try clear hb2); (try clear hk); (try clear hi))); go_meet
      case rel => exact ⟨_, (true), vX, H', ⟨by have := HJ3.out; first | omega | exact Nat.le_refl _⟩, ⟨bX HB⟩⟩
    case rest =>
     clear HC10
     try clear c1
     try clear c2
     try clear p2
     try clear c5
     try clear c6
     try clear c8
     try clear c13
     try clear p2
     obtain ⟨kq, x34_9, rfl, HA, HJ9, HB⟩ := hcut
     cases kq with
     | zero => exact absurd HA.out (by simp [arbiterref15_Test.j1])
     | succ kj9 =>
      have H := HA.out; clear HA; simp only [arbiterref15_Test.j1] at H
      by_cases c16 : x34_9 = true
      ·subst c16
       have H1 : (some (t494, 1, 0)) = some (r1, r2, r3) := by rw [if_pos rfl] at H; exact H
       clear H; have H := H1; clear H1; simp only [Option.some.injEq, Prod.mk.injEq] at H; obtain ⟨rfl, rfl, rfl⟩ := H; go_wp2
       go_ret3
       exact ⟨by first | rfl | (simp [errW_none, errW_some] <;> rfl) | (simp [*, errW_none, errW_some] <;> rfl), bX HB⟩
      ·replace c16 := Bool.eq_false_iff.mpr c16
       subst c16
       have H1 : ((arbiterref06_Closure.f kj9 a0 a1).bind fun bt496 => (arbiterref15_Test.l0 kj9 a2 t494 1 bt496.1 0)) = some (r1, r2, r3) := by rw [if_neg (show ¬ (false = true) by decide)] at H; exact H
       clear H; have H := H1; clear H1; replace H := Option.bind_eq_some_iff.mp H; obtain ⟨⟨t496, t497⟩, A170, H⟩ := H; replace H : (arbiterref15_Test.l0 kj9 a2 t494 1 t496 0) = some (r1, r2, r3) := H; have A17 := Aside0.mk A170; clear A170; have H' := Aside0.mk H; clear H; go_wp2_with (first | ((with_reducible refine gate_callee (f := 68) rfl ?_); refine gX (some 39) Tryz.func68 #[.pointer (some ⟨G_, 0, none⟩), .int .i64 a1] ?_; (with_reducible refine (arbiterref06_Closure.calls kj9 G_ a0 a1 t496 t497 _ ?side1 A17.out).mono ?_); (case side1 => repeat (first | (with_reducible exact HQa0.out) | (with_reducible refine ROK.alloc ?_ _) | (with_reducible refine ROK.drewN ?_ _) | (with_reducible refine ROK.drew ?_) | exact ROK.below HQa0.out HB.out | exact ROK.below HQa0.out (bX HB))); rintro e w18 ⟨v498, rfl, ho0, hb⟩; refine ⟨_, rfl, ?_⟩; have n0_ := Aside0.mk (Kd.R_lower ho0 (below_size (bX HB))); have n1_ := Aside0.mk (below_step (bX HB) hb); clear HB; have HO499 := n0_; have HB := n1_; clear n0_ n1_; (try clear hb); (try clear hb2); (try clear hk); (try clear hi); (try clear ho0)))
       go_loopg [6, 7, 11] kj9 (fun kq v6 v7 v11 w' => ∃ (x6_3 : Bool) (x7_3 : Int) (x11_3 : Int), v6 = .bool x6_3 ∧ v7 = .int .i64 x7_3 ∧ v11 = .int .i64 x11_3 ∧ Aside0 (arbiterref15_Test.l0 kq a2 x6_3 x7_3 t496 x11_3 = some (r1, r2, r3)) ∧ Aside0 (kq ≤ kj9) ∧ Aside0 (Kd.R (Kd.int .i64) 3 w' w.heap.size (fun _ => True) v498 t496) ∧ Aside0 (Below w.heap.size w w'))
       case atStart => exact ⟨(t494), (1), (0), vX, vX, vX, H', ⟨Nat.le_refl _⟩, ⟨rX HO499⟩, ⟨bX HB⟩⟩
       case round =>
        clear H'
        try clear c1
        try clear c2
        try clear p2
        try clear c5
        try clear c6
        try clear c8
        try clear c13
        try clear c16
        try clear p2
        obtain ⟨x6_3, x7_3, x11_3, rfl, rfl, rfl, HA, HK3, HO_9, HB⟩ := hrel
        cases gk with
        | zero => exact absurd HA.out (by simp [arbiterref15_Test.l0])
        | succ k3 =>
         have H := HA.out; clear HA; simp only [arbiterref15_Test.l0] at H
         by_cases c19 : x11_3 < (t496.length : Int)
         ·rw [if_pos c19] at H
          have c19b0 : decide (x11_3 < (t496.length : Int)) = true := decide_eq_true c19; clear c19
          by_cases c20 : 0 ≤ x11_3
          ·rw [if_pos c20] at H
           have c20b0 : decide (0 ≤ x11_3) = true := decide_eq_true c20; clear c20
           by_cases c21 : (rd t496 x11_3) = a2
           ·rw [if_pos c21] at H
            have c21b0 : ((rd t496 x11_3) == a2) = true := beq_iff_eq.mpr c21; have c21b1 : ((rd t496 x11_3) != a2) = false := bne_eq_false_iff_eq.mpr c21; clear c21; simp only [Option.some.injEq, Prod.mk.injEq] at H; obtain ⟨rfl, rfl, rfl⟩ := H; obtain ⟨Ao22, co22, eo22⟩ := Kd.R_slice HO_9.out; subst eo22; have p500 : 0 ≤ (x11_3 : Int) := qX; have q500 : x11_3 < (t496.length : Int) := qX; obtain ⟨ad500, e500, hx500_0⟩ := Kd.at_int (Kd.R_reads' HO_9.out).2.2 x11_3 p500 q500
            cases e500
            replace p500 := eq_true p500; replace q500 := eq_true q500; go_wp2
            go_ret3
            exact ⟨by first | rfl | (simp [errW_none, errW_some] <;> rfl) | (simp [*, errW_none, errW_some] <;> rfl), bX HB⟩
           ·rw [if_neg c21] at H
            have c21b0 : ((rd t496 x11_3) == a2) = false := beq_eq_false_iff_ne.mpr c21; have c21b1 : ((rd t496 x11_3) != a2) = true := bne_iff_ne.mpr c21; have H' := Aside0.mk H; clear H; obtain ⟨Ao23, co23, eo23⟩ := Kd.R_slice HO_9.out; subst eo23; have p500 : 0 ≤ (x11_3 : Int) := qX; have q500 : x11_3 < (t496.length : Int) := qX; obtain ⟨ad500, e500, hx500_0⟩ := Kd.at_int (Kd.R_reads' HO_9.out).2.2 x11_3 p500 q500
            cases e500
            replace p500 := eq_true p500; replace q500 := eq_true q500; go_wp2
            go_roundg k3
            case measure => have := HJ3.out; have := HJ9.out; have := HK3.out; omega
            case rel => exact ⟨(x6_3), (wrap64 (x7_3 + 1)), (wrap64 (x11_3 + 1)), vX, vX, vX, H', ⟨by have := HJ3.out; have := HJ9.out; have := HK3.out; omega⟩, ⟨rX HO_9⟩, ⟨bX HB⟩⟩
          ·rw [if_neg c20] at H
           exact absurd H (by simp)
         ·rw [if_neg c19] at H
          have c19b0 : decide (x11_3 < (t496.length : Int)) = false := decide_eq_false c19; clear c19; simp only [Option.some.injEq, Prod.mk.injEq] at H; obtain ⟨rfl, rfl, rfl⟩ := H; obtain ⟨Ao24, co24, eo24⟩ := Kd.R_slice HO_9.out; subst eo24; go_wp2
          go_ret3
          exact ⟨by first | rfl | (simp [errW_none, errW_some] <;> rfl) | (simp [*, errW_none, errW_some] <;> rfl), bX HB⟩
end Go.Proofs.YtaipkdglhfhhiaaGreatDoor.Pt

namespace Go.Proofs.YtaipkdglhfhhiaaGreatDoor.Pt
open Go.RowKit Go.Proofs.YtaipkdglhfhhiaaGreatDoorW.PrintWords Go.Proofs.YtaipkdglhfhhiaaGreatDoorW.PrintLast Go.Proofs.YtaipkdglhfhhiaaGreatDoorW.PrintMore
attribute [local go_sem] max2_int min2_int max_two min_two max_three min_three max_four min_four   -- for this text's walks alone
set_option linter.unusedVariables false
set_option linter.unusedSimpArgs false
def arbiterref07_IsInt.f (a0_0 : Int) (a0_1 : ByteArray) : Option (Bool) := if a0_0 = 0 then (some (a0_1.toList == ([] : List UInt8))) else (some false)
set_option maxHeartbeats 8000000 in
set_option maxRecDepth 100000 in
theorem arbiterref07_IsInt.calls (a0_0 : Int) (a0_1 : ByteArray) (r : Bool) (w : World) (h : arbiterref07_IsInt.f a0_0 a0_1 = some r) :
  Calls Tryz.prog 79 #[.agg #[.int .i64 a0_0, .string a0_1]] w fun e w' => e = .returned (.bool r) ∧ Below w.heap.size w w' := by
 have hu24 := Tryz.underlying24; have HB := Aside0.mk (Below.refl w.heap.size w); have H : (if a0_0 = 0 then (some (a0_1.toList == ([] : List UInt8))) else (some false)) = some r := h; clear h
 by_cases c2 : a0_0 = 0
 ·rw [if_pos c2] at H
  have c2b0 : (a0_0 == 0) = true := beq_iff_eq.mpr c2; have c2b1 : (a0_0 != 0) = false := bne_eq_false_iff_eq.mpr c2; clear c2; obtain rfl := Option.some.inj H; go_enter Tryz.func79, Tryz.ntmps79; go_wp2_with (first | ((with_reducible refine gate_dst (N := 1) rfl ?_); refine eX 1 #[.int .i64 a0_0, .string a0_1] 24 ?_; intro gb311 hg w3 hbox hb; have n0_ := Aside0.mk (below_step (bX HB) hb); have n1_ := Aside0.mk (hbox); have n2_ := Aside0.mk ((by rw [hg]; exact (below_size (bX HB)) : w.heap.size ≤ gb311)); have n3_ := Aside0.mk ((by rw [hg]; exact (below_size (bX HB)) : w.heap.size ≤ gb311)); clear HB; have HB := n0_; have BK311 := n1_; have GW311 := n2_; have GE311 := n3_; clear n0_ n1_ n2_ n3_; clear hb hbox hg; obtain ⟨hcz4_0, hcz4_1, hfz4_0, hfz4_1⟩ := c2X BK311)); go_ret
  exact ⟨by first | rfl | (simp [errW_none, errW_some] <;> rfl) | (simp [*, errW_none, errW_some] <;> rfl), bX1 HB GE311⟩
 ·rw [if_neg c2] at H
  have c2b0 : (a0_0 == 0) = false := beq_eq_false_iff_ne.mpr c2; have c2b1 : (a0_0 != 0) = true := bne_iff_ne.mpr c2; obtain rfl := Option.some.inj H; go_enter Tryz.func79, Tryz.ntmps79; go_wp2_with (first | ((with_reducible refine gate_dst (N := 1) rfl ?_); refine eX 1 #[.int .i64 a0_0, .string a0_1] 24 ?_; intro gb311 hg w5 hbox hb; have n0_ := Aside0.mk (below_step (bX HB) hb); have n1_ := Aside0.mk (hbox); have n2_ := Aside0.mk ((by rw [hg]; exact (below_size (bX HB)) : w.heap.size ≤ gb311)); have n3_ := Aside0.mk ((by rw [hg]; exact (below_size (bX HB)) : w.heap.size ≤ gb311)); clear HB; have HB := n0_; have BK311 := n1_; have GW311 := n2_; have GE311 := n3_; clear n0_ n1_ n2_ n3_; clear hb hbox hg; obtain ⟨hcz6_0, hcz6_1, hfz6_0, hfz6_1⟩ := c2X BK311)); go_ret
  exact ⟨by first | rfl | (simp [errW_none, errW_some] <;> rfl) | (simp [*, errW_none, errW_some] <;> rfl), bX1 HB GE311⟩
def arbiterref07_Holder.f (k : Nat) (a0 : List S85) (a1_0 : Int) (a1_1 : ByteArray) : Option (Int × Int) := (arbiterref07_Loaded.f k a0 a1_0 a1_1).bind fun t313 => (if t313 = 0 then ((arbiterref07_IsInt.f a1_0 a1_1).bind fun t314 => (if t314 = true then (some (0, 2)) else (if a1_0 > 0 then (some (0, 0)) else ((arbiterref06_ByName.f k a0 a1_1).bind fun bt315 => (some (bt315.1, 0)))))) else (some (0, t313)))
def arbiterref07_lower.f (a0_0 : Int) (a0_1 : ByteArray) : Option (Int × ByteArray) := some (wrap64 (a0_0 - 1), a0_1)
set_option maxHeartbeats 8000000 in
set_option maxRecDepth 100000 in
theorem arbiterref07_lower.calls (a0_0 : Int) (a0_1 : ByteArray) (r1 : Int) (r2 : ByteArray) (w : World) (h : arbiterref07_lower.f a0_0 a0_1 = some (r1, r2)) :
  Calls Tryz.prog 105 #[.agg #[.int .i64 a0_0, .string a0_1]] w fun e w' => e = .returned (.agg #[.int .i64 r1, .string r2]) ∧ Below w.heap.size w w' := by
 have hu24 := Tryz.underlying24; have HB := Aside0.mk (Below.refl w.heap.size w); have H : (some (wrap64 (a0_0 - 1), a0_1)) = some (r1, r2) := h; clear h; simp only [Option.some.injEq, Prod.mk.injEq] at H; obtain ⟨rfl, rfl⟩ := H; go_enter Tryz.func105, Tryz.ntmps105; go_wp2_with (first | ((with_reducible refine gate_dst (N := 1) rfl ?_); refine eX 1 #[.int .i64 a0_0, .string a0_1] 24 ?_; intro gb317 hg w2 hbox hb; have n0_ := Aside0.mk (below_step (bX HB) hb); have n1_ := Aside0.mk (hbox); have n2_ := Aside0.mk ((by rw [hg]; exact (below_size (bX HB)) : w.heap.size ≤ gb317)); have n3_ := Aside0.mk ((by rw [hg]; exact (below_size (bX HB)) : w.heap.size ≤ gb317)); clear HB; have HB := n0_; have BK317 := n1_; have GW317 := n2_; have GE317 := n3_; clear n0_ n1_ n2_ n3_; clear hb hbox hg) | ((with_reducible refine gate_dst (N := 2) rfl ?_); refine eX 2 #[.int .i64 0, .string (⟨#[]⟩ : ByteArray)] 24 ?_; intro gb318 hg w3 hbox hb; have n0_ := Aside0.mk (blk_below (kX BK317) hb); have n1_ := Aside0.mk (below_step (bX1 HB GE317) hb); have n2_ := Aside0.mk (hbox); have n3_ := Aside0.mk ((by rw [hg]; exact (below_size (bX1 HB GE317)) : w.heap.size ≤ gb318)); have n4_ := Aside0.mk ((by rw [hg]; exact (below_size (bX1 HB GE317)) : w.heap.size ≤ gb318)); have n5_ := Aside0.mk ((by rw [hg]; exact Nat.ne_of_lt (blk_lt (kX BK317)) : gb317 ≠ gb318)); have n6_ := Aside0.mk ((by rw [hg]; exact Nat.ne_of_gt (blk_lt (kX BK317)) : gb318 ≠ gb317)); clear BK317; clear HB; have BK317 := n0_; have HB := n1_; have BK318 := n2_; have GW318 := n3_; have GE318 := n4_; have NB317_318 := n5_; have NB318_317 := n6_; clear n0_ n1_ n2_ n3_ n4_ n5_ n6_; clear hb hbox hg; have hnb4 := NB317_318.out; have hnc4 := NB318_317.out; obtain ⟨hcz5_0, hcz5_1, hfz5_0, hfz5_1⟩ := c2X BK317; obtain ⟨hcz6_0, hcz6_1, hfz6_0, hfz6_1⟩ := c2X BK318)); refine bodyPost_ret (results_cell_row rfl _ _ gb318 24 #[.int .i64 (wrap64 (a0_0 - 1)), .string a0_1] (0, 0) _ rfl (by (with_reducible repeat (first | refine blk_drewN ?_ _ | refine blk_drew ?_ | refine blk_alloc ?_ _)); refine blk_put (cs := #[.int .i64 (wrap64 (a0_0 - 1)), .string (⟨#[]⟩ : ByteArray)]) ?_ 1 _ rfl; (with_reducible repeat (first | refine blk_drewN ?_ _ | refine blk_drew ?_ | refine blk_alloc ?_ _)); refine blk_put (cs := #[.int .i64 0, .string (⟨#[]⟩ : ByteArray)]) ?_ 0 _ rfl; (with_reducible repeat (first | refine blk_drewN ?_ _ | refine blk_drew ?_ | refine blk_alloc ?_ _)); exact BK318.out) Tryz.underlying24 rfl (by kernel_rfl)) rfl ?_
 exact ⟨by first | rfl | (simp [errW_none, errW_some] <;> rfl) | (simp [*, errW_none, errW_some] <;> rfl), bX2 HB GE317 GE318⟩
end Go.Proofs.YtaipkdglhfhhiaaGreatDoor.Pt

namespace Go.Proofs.YtaipkdglhfhhiaaGreatDoor.Pt
open Go.RowKit Go.Proofs.YtaipkdglhfhhiaaGreatDoorW.PrintWords Go.Proofs.YtaipkdglhfhhiaaGreatDoorW.PrintLast Go.Proofs.YtaipkdglhfhhiaaGreatDoorW.PrintMore
attribute [local go_sem] max2_int min2_int max_two min_two max_three min_three max_four min_four   -- for this text's walks alone
set_option linter.unusedVariables false
set_option linter.unusedSimpArgs false
mutual
def arbiterref07_below.j0 : Nat → List S85 → Bool → Int → ByteArray → Int → ByteArray → Option (Bool)
 | 0, _, _, _, _, _, _ => none
 | k + 1, x0, x16, x502000, x502001, x503000, x503001 => if x16 = true then ((arbiterref07_IsInt.f x502000 x502001).bind fun t505 => (if t505 = true then ((arbiterref07_IsInt.f x503000 x503001).bind fun t506 => (some t506)) else (some false))) else (if x502000 = 0 then (arbiterref07_below.j1 k x0 (x503000 == 0) x502000 x502001 x503000 x503001) else (arbiterref07_below.j1 k x0 false x502000 x502001 x503000 x503001))
def arbiterref07_below.j1 : Nat → List S85 → Bool → Int → ByteArray → Int → ByteArray → Option (Bool)
 | 0, _, _, _, _, _, _ => none
 | k + 1, x0, x30, x502000, x502001, x503000, x503001 => if x30 = true then ((arbiterref06_ByName.f k x0 x502001).bind fun bt507 => ((arbiterref06_ByName.f k x0 x503001).bind fun bt509 => ((arbiterref06_Extends.f k x0 bt507.1 bt509.1).bind fun t511 => (some t511)))) else (if x502000 = 0 then (some false) else (if x503000 = 0 then (if x503001.toList = ([79, 98, 106, 101, 99, 116] : List UInt8) then (some true) else (if x503001.toList = ([67, 108, 111, 110, 101, 97, 98, 108, 101] : List UInt8) then (some true) else (some (x503001.toList == ([83, 101, 114, 105, 97, 108, 105, 122, 97, 98, 108, 101] : List UInt8))))) else ((arbiterref07_lower.f x502000 x502001).bind fun bt512 => ((arbiterref07_lower.f x503000 x503001).bind fun bt514 => ((arbiterref07_below.f k x0 bt512.1 bt512.2 bt514.1 bt514.2).bind fun t516 => (some t516))))))
def arbiterref07_below.f : Nat → List S85 → Int → ByteArray → Int → ByteArray → Option (Bool)
 | 0, _, _, _, _, _ => none
 | k + 1, a0, a1_0, a1_1, a2_0, a2_1 => (arbiterref07_IsInt.f a1_0 a1_1).bind fun t503 => (if t503 = true then (arbiterref07_below.j0 k a0 true a1_0 a1_1 a2_0 a2_1) else ((arbiterref07_IsInt.f a2_0 a2_1).bind fun t504 => (arbiterref07_below.j0 k a0 t504 a1_0 a1_1 a2_0 a2_1)))
end
set_option maxHeartbeats 8000000 in
set_option maxRecDepth 100000 in
theorem arbiterref07_below.calls (k : Nat) : ∀ (G_ : Nat) (a0 : List S85) (a1_0 : Int) (a1_1 : ByteArray) (a2_0 : Int) (a2_1 : ByteArray) (r : Bool) (w : World) (hq0 : ROK w G_ a0) (h : arbiterref07_below.f k a0 a1_0 a1_1 a2_0 a2_1 = some r),
  Calls Tryz.prog 108 #[.pointer (some ⟨G_, 0, none⟩), .agg #[.int .i64 a1_0, .string a1_1], .agg #[.int .i64 a2_0, .string a2_1]] w fun e w' => e = .returned (.bool r) ∧ Below w.heap.size w w' := by
 induction k using Nat.strongRecOn with
 | _ k ih =>
 intro G_ a0 a1_0 a1_1 a2_0 a2_1 r w hq0 h
 cases k with
 | zero => exact absurd h (by simp [arbiterref07_below.f])
 | succ k =>
 simp only [arbiterref07_below.f] at h; have hu24 := Tryz.underlying24; obtain ⟨AQa0, cQa0, hp0, hrq0, hcq0⟩ := ROK.open hq0; have HPa0 := Aside0.mk hp0; have HRqa0 := Aside0.mk hrq0; have HCqa0 := Aside0.mk hcq0; clear hp0 hrq0 hcq0; have HQa0 := Aside0.mk hq0; clear hq0; have HB := Aside0.mk (Below.refl w.heap.size w); have H : ((arbiterref07_IsInt.f a1_0 a1_1).bind fun t503 => (if t503 = true then (arbiterref07_below.j0 k a0 true a1_0 a1_1 a2_0 a2_1) else ((arbiterref07_IsInt.f a2_0 a2_1).bind fun t504 => (arbiterref07_below.j0 k a0 t504 a1_0 a1_1 a2_0 a2_1)))) = some r := h; clear h; have HC4 := Aside0.mk H; clear H; go_enter Tryz.func108, Tryz.ntmps108
 go_upto_region 1 with (first | ((with_reducible refine gate_dst (N := 4) rfl ?_); refine eX 4 #[.int .i64 a1_0, .string a1_1] 24 ?_; intro gb501 hg w5 hbox hb; have n0_ := Aside0.mk (below_step (bX HB) hb); have n1_ := Aside0.mk (hbox); have n2_ := Aside0.mk ((by rw [hg]; exact (below_size (bX HB)) : w.heap.size ≤ gb501)); have n3_ := Aside0.mk ((by rw [hg]; exact (below_size (bX HB)) : w.heap.size ≤ gb501)); clear HB; have HB := n0_; have BK501 := n1_; have GW501 := n2_; have GE501 := n3_; clear n0_ n1_ n2_ n3_; clear hb hbox hg) | ((with_reducible refine gate_dst (N := 5) rfl ?_); refine eX 5 #[.int .i64 a2_0, .string a2_1] 24 ?_; intro gb502 hg w6 hbox hb; have n0_ := Aside0.mk (blk_below (kX BK501) hb); have n1_ := Aside0.mk (below_step (bX1 HB GE501) hb); have n2_ := Aside0.mk (hbox); have n3_ := Aside0.mk ((by rw [hg]; exact (below_size (bX1 HB GE501)) : w.heap.size ≤ gb502)); have n4_ := Aside0.mk ((by rw [hg]; exact (below_size (bX1 HB GE501)) : w.heap.size ≤ gb502)); have n5_ := Aside0.mk ((by rw [hg]; exact Nat.ne_of_lt (blk_lt (kX BK501)) : gb501 ≠ gb502)); have n6_ := Aside0.mk ((by rw [hg]; exact Nat.ne_of_gt (blk_lt (kX BK501)) : gb502 ≠ gb501)); clear BK501; clear HB; have BK501 := n0_; have HB := n1_; have BK502 := n2_; have GW502 := n3_; have GE502 := n4_; have NB501_502 := n5_; have NB502_501 := n6_; clear n0_ n1_ n2_ n3_ n4_ n5_ n6_; clear hb hbox hg))
 (try simp only [Act.put, List.setIfInBounds_toArray, List.set_cons_zero, List.set_cons_succ])
 go_cut [16] (fun v16 wc => ∃ (kq : Nat) (x16_3 : Bool), v16 = .bool x16_3 ∧ Aside0 (arbiterref07_below.j0 kq a0 x16_3 a1_0 a1_1 a2_0 a2_1 = some r) ∧ Aside0 (kq ≤ k) ∧ Aside0 (wc.heap[gb501]? = some (.cells #[.int .i64 a1_0, .string a1_1] 24 (0, 0))) ∧ Aside0 (wc.heap[gb502]? = some (.cells #[.int .i64 a2_0, .string a2_1] 24 (0, 0))) ∧ Aside0 (Below w.heap.size w wc))
 case first =>
  have H := HC4.out; clear HC4; replace H := Option.bind_eq_some_iff.mp H; obtain ⟨t503, A70, H⟩ := H; replace H : (if t503 = true then (arbiterref07_below.j0 k a0 true a1_0 a1_1 a2_0 a2_1) else ((arbiterref07_IsInt.f a2_0 a2_1).bind fun t504 => (arbiterref07_below.j0 k a0 t504 a1_0 a1_1 a2_0 a2_1))) = some r := H; have A7 := Aside0.mk A70; clear A70
  by_cases c8 : t503 = true
  ·subst c8
   have H1 : (arbiterref07_below.j0 k a0 true a1_0 a1_1 a2_0 a2_1) = some r := by rw [if_pos rfl] at H; exact H
   clear H; have H := H1; clear H1; have H' := Aside0.mk H; clear H; have hnb9 := NB501_502.out; have hnc9 := NB502_501.out; obtain ⟨hcz10_0, hcz10_1, hfz10_0, hfz10_1⟩ := c2X BK501; go_wp2_with (first | ((with_reducible refine gate_callee (f := 79) rfl ?_); refine gX (some 12) Tryz.func79 #[.agg #[.int .i64 a1_0, .string a1_1]] ?_; (with_reducible refine (arbiterref07_IsInt.calls a1_0 a1_1 true _ A7.out).mono ?_); rintro e w11 ⟨rfl, hb⟩; refine ⟨_, rfl, ?_⟩; have n0_ := Aside0.mk (blk_below (kX BK501) hb); have n1_ := Aside0.mk (blk_below (kX BK502) hb); have n2_ := Aside0.mk (below_step (bX2 HB GE501 GE502) hb); clear BK501; clear BK502; clear HB; have BK501 := n0_; have BK502 := n1_; have HB := n2_; clear n0_ n1_ n2_; (try clear hb); (try clear hb2); (try clear hk); (try clear hi))); go_meet
   case rel => exact ⟨_, (true), vX, H', ⟨by first | omega | exact Nat.le_refl _⟩, ⟨by (with_reducible repeat (first | refine blk_drewN ?_ _ | refine blk_drew ?_ | refine blk_alloc ?_ _)); exact BK501.out⟩, ⟨by (with_reducible repeat (first | refine blk_drewN ?_ _ | refine blk_drew ?_ | refine blk_alloc ?_ _)); exact BK502.out⟩, ⟨bX2 HB GE501 GE502⟩⟩
  ·replace c8 := Bool.eq_false_iff.mpr c8
   subst c8
   have H1 : ((arbiterref07_IsInt.f a2_0 a2_1).bind fun t504 => (arbiterref07_below.j0 k a0 t504 a1_0 a1_1 a2_0 a2_1)) = some r := by rw [if_neg (show ¬ (false = true) by decide)] at H; exact H
   clear H; have H := H1; clear H1; replace H := Option.bind_eq_some_iff.mp H; obtain ⟨t504, A120, H⟩ := H; replace H : (arbiterref07_below.j0 k a0 t504 a1_0 a1_1 a2_0 a2_1) = some r := H; have A12 := Aside0.mk A120; clear A120; have H' := Aside0.mk H; clear H; have hnb13 := NB501_502.out; have hnc13 := NB502_501.out; obtain ⟨hcz14_0, hcz14_1, hfz14_0, hfz14_1⟩ := c2X BK501; go_wp2_with (first | ((with_reducible refine gate_callee (f := 79) rfl ?_); refine gX (some 12) Tryz.func79 #[.agg #[.int .i64 a1_0, .string a1_1]] ?_; (with_reducible refine (arbiterref07_IsInt.calls a1_0 a1_1 false _ A7.out).mono ?_); rintro e w15 ⟨rfl, hb⟩; refine ⟨_, rfl, ?_⟩; have n0_ := Aside0.mk (blk_below (kX BK501) hb); have n1_ := Aside0.mk (blk_below (kX BK502) hb); have n2_ := Aside0.mk (below_step (bX2 HB GE501 GE502) hb); clear BK501; clear BK502; clear HB; have BK501 := n0_; have BK502 := n1_; have HB := n2_; clear n0_ n1_ n2_; (try clear hb); (try clear hb2); (try clear hk); (try clear hi); obtain ⟨hcz16_0, hcz16_1, hfz16_0, hfz16_1⟩ := c2X BK502) | (go_at_call 79; (with_reducible refine (arbiterref07_IsInt.calls a2_0 a2_1 t504 _ A12.out).mono ?_); rintro e w17 ⟨rfl, hb⟩; have n0_ := Aside0.mk (blk_below (kX BK501) hb); have n1_ := Aside0.mk (blk_below (kX BK502) hb); have n2_ := Aside0.mk (below_step (bX2 HB GE501 GE502) hb); clear BK501; clear BK502; clear HB; have BK501 := n0_; have BK502 := n1_; have HB := n2_; clear n0_ n1_ n2_; (try clear hb); (try clear hb2); (try clear hk); (try clear hi))); go_meet
   case rel => exact ⟨_, (t504), vX, H', ⟨by first | omega | exact Nat.le_refl _⟩, ⟨by (with_reducible repeat (first | refine blk_drewN ?_ _ | refine blk_drew ?_ | refine blk_alloc ?_ _)); exact BK501.out⟩, ⟨by (with_reducible repeat (first | refine blk_drewN ?_ _ | refine blk_drew ?_ | refine blk_alloc ?_ _)); exact BK502.out⟩, ⟨bX2 HB GE501 GE502⟩⟩
 case rest =>
  clear HC4
  try clear c1
  try clear p2
  try clear c7
  try clear c8
  try clear c9
  try clear c10
  try clear c13
  try clear hcz10_0 hcz10_1
  try clear hcz14_0 hcz14_1
  try clear hcz16_0 hcz16_1
  try clear hfz10_0 hfz10_1
  try clear hfz14_0 hfz14_1
  try clear hfz16_0 hfz16_1
  obtain ⟨kq, x16_3, rfl, HA, HJ3, BK501, BK502, HB⟩ := hcut
  cases kq with
  | zero => exact absurd HA.out (by simp [arbiterref07_below.j0])
  | succ kj3 =>
   have H := HA.out; clear HA; simp only [arbiterref07_below.j0] at H
   by_cases c18 : x16_3 = true
   ·subst c18
    have H1 : ((arbiterref07_IsInt.f a1_0 a1_1).bind fun t505 => (if t505 = true then ((arbiterref07_IsInt.f a2_0 a2_1).bind fun t506 => (some t506)) else (some false))) = some r := by rw [if_pos rfl] at H; exact H
    clear H; have H := H1; clear H1; replace H := Option.bind_eq_some_iff.mp H; obtain ⟨t505, A190, H⟩ := H; replace H : (if t505 = true then ((arbiterref07_IsInt.f a2_0 a2_1).bind fun t506 => (some t506)) else (some false)) = some r := H; have A19 := Aside0.mk A190; clear A190
    by_cases c20 : t505 = true
    ·subst c20
     have H1 : ((arbiterref07_IsInt.f a2_0 a2_1).bind fun t506 => (some t506)) = some r := by rw [if_pos rfl] at H; exact H
     clear H; have H := H1; clear H1; replace H := Option.bind_eq_some_iff.mp H; obtain ⟨t506, A210, H⟩ := H; replace H : (some t506) = some r := H; have A21 := Aside0.mk A210; clear A210; obtain rfl := Option.some.inj H; have hnb22 := NB501_502.out; have hnc22 := NB502_501.out; obtain ⟨hcz23_0, hcz23_1, hfz23_0, hfz23_1⟩ := c2X BK501; go_wp2_with (first | ((with_reducible refine gate_callee (f := 79) rfl ?_); refine gX (some 18) Tryz.func79 #[.agg #[.int .i64 a1_0, .string a1_1]] ?_; (with_reducible refine (arbiterref07_IsInt.calls a1_0 a1_1 true _ A19.out).mono ?_); rintro e w24 ⟨rfl, hb⟩; refine ⟨_, rfl, ?_⟩; have n0_ := Aside0.mk (blk_below (kX BK501) hb); have n1_ := Aside0.mk (blk_below (kX BK502) hb); have n2_ := Aside0.mk (below_step (bX2 HB GE501 GE502) hb); clear BK501; clear BK502; clear HB; have BK501 := n0_; have BK502 := n1_; have HB := n2_; clear n0_ n1_ n2_; (try clear hb); (try clear hb2); (try clear hk); (try clear hi); obtain ⟨hcz25_0, hcz25_1, hfz25_0, hfz25_1⟩ := c2X BK502) | (go_at_call 79; (with_reducible refine (arbiterref07_IsInt.calls a2_0 a2_1 t506 _ A21.out).mono ?_); rintro e w26 ⟨rfl, hb⟩; have n0_ := Aside0.mk (blk_below (kX BK501) hb); have n1_ := Aside0.mk (blk_below (kX BK502) hb); have n2_ := Aside0.mk (below_step (bX2 HB GE501 GE502) hb); clear BK501; clear BK502; clear HB; have BK501 := n0_; have BK502 := n1_; have HB := n2_; clear n0_ n1_ n2_; (try clear hb); (try clear hb2); (try clear hk); (try clear hi))); go_ret
     exact ⟨by first | rfl | (simp [errW_none, errW_some] <;> rfl) | (simp [*, errW_none, errW_some] <;> rfl), bX2 HB GE501 GE502⟩
    ·replace c20 := Bool.eq_false_iff.mpr c20
     subst c20
     have H1 : (some false) = some r := by rw [if_neg (show ¬ (false = true) by decide)] at H; exact H
     clear H; have H := H1; clear H1; obtain rfl := Option.some.inj H; have hnb27 := NB501_502.out; have hnc27 := NB502_501.out; obtain ⟨hcz28_0, hcz28_1, hfz28_0, hfz28_1⟩ := c2X BK501; go_wp2_with (first | ((with_reducible refine gate_callee (f := 79) rfl ?_); refine gX (some 18) Tryz.func79 #[.agg #[.int .i64 a1_0, .string a1_1]] ?_; (with_reducible refine (arbiterref07_IsInt.calls a1_0 a1_1 false _ A19.out).mono ?_); rintro e w29 ⟨rfl, hb⟩; refine ⟨_, rfl, ?_⟩; have n0_ := Aside0.mk (blk_below (kX BK501) hb); have n1_ := Aside0.mk (blk_below (kX BK502) hb); have n2_ := Aside0.mk (below_step (bX2 HB GE501 GE502) hb); clear BK501; clear BK502; clear HB; have BK501 := n0_; have BK502 := n1_; have HB := n2_; clear n0_ n1_ n2_; (try clear hb); (try clear hb2); (try clear hk); (try clear hi))); go_ret
     exact ⟨by first | rfl | (simp [errW_none, errW_some] <;> rfl) | (simp [*, errW_none, errW_some] <;> rfl), bX2 HB GE501 GE502⟩
   ·replace c18 := Bool.eq_false_iff.mpr c18
    subst c18
    have H1 : (if a1_0 = 0 then (arbiterref07_below.j1 kj3 a0 (a2_0 == 0) a1_0 a1_1 a2_0 a2_1) else (arbiterref07_below.j1 kj3 a0 false a1_0 a1_1 a2_0 a2_1)) = some r := by rw [if_neg (show ¬ (false = true) by decide)] at H; exact H
    clear H; have H := H1; clear H1; have HC30 := Aside0.mk H; clear H
    go_upto_region 3 with (fail)
    go_cut [30] (fun v30 wc => ∃ (kq : Nat) (x30_29 : Bool), v30 = .bool x30_29 ∧ Aside0 (arbiterref07_below.j1 kq a0 x30_29 a1_0 a1_1 a2_0 a2_1 = some r) ∧ Aside0 (kq ≤ kj3) ∧ Aside0 (wc.heap[gb501]? = some (.cells #[.int .i64 a1_0, .string a1_1] 24 (0, 0))) ∧ Aside0 (wc.heap[gb502]? = some (.cells #[.int .i64 a2_0, .string a2_1] 24 (0, 0))) ∧ Aside0 (Below w.heap.size w wc))
    case first =>
     have H := HC30.out; clear HC30
     by_cases c31 : a1_0 = 0
     ·rw [if_pos c31] at H
      have c31b0 : (a1_0 == 0) = true := beq_iff_eq.mpr c31; have c31b1 : (a1_0 != 0) = false := bne_eq_false_iff_eq.mpr c31; clear c31
      (first | rw [c31b0] | (simp only [i64_w, i32_w]; rw [c31b0]) | skip)
      have H' := Aside0.mk H; clear H; have hnb32 := NB501_502.out; have hnc32 := NB502_501.out; obtain ⟨hcz33_0, hcz33_1, hfz33_0, hfz33_1⟩ := c2X BK501; obtain ⟨hcz34_0, hcz34_1, hfz34_0, hfz34_1⟩ := c2X BK502; go_wp2; go_meet
      case rel => exact ⟨_, ((a2_0 == 0)), vX, H', ⟨by have := HJ3.out; first | omega | exact Nat.le_refl _⟩, ⟨by (with_reducible repeat (first | refine blk_drewN ?_ _ | refine blk_drew ?_ | refine blk_alloc ?_ _)); exact BK501.out⟩, ⟨by (with_reducible repeat (first | refine blk_drewN ?_ _ | refine blk_drew ?_ | refine blk_alloc ?_ _)); exact BK502.out⟩, ⟨bX2 HB GE501 GE502⟩⟩
     ·rw [if_neg c31] at H
      have c31b0 : (a1_0 == 0) = false := beq_eq_false_iff_ne.mpr c31; have c31b1 : (a1_0 != 0) = true := bne_iff_ne.mpr c31
      (first | rw [c31b0] | (simp only [i64_w, i32_w]; rw [c31b0]) | skip)
      have H' := Aside0.mk H; clear H; have hnb35 := NB501_502.out; have hnc35 := NB502_501.out; obtain ⟨hcz36_0, hcz36_1, hfz36_0, hfz36_1⟩ := c2X BK501; go_wp2; go_meet
      case rel => exact ⟨_, (false), vX, H', ⟨by have := HJ3.out; first | omega | exact Nat.le_refl _⟩, ⟨by (with_reducible repeat (first | refine blk_drewN ?_ _ | refine blk_drew ?_ | refine blk_alloc ?_ _)); exact BK501.out⟩, ⟨by (with_reducible repeat (first | refine blk_drewN ?_ _ | refine blk_drew ?_ | refine blk_alloc ?_ _)); exact BK502.out⟩, ⟨bX2 HB GE501 GE502⟩⟩
    case rest =>
     clear HC30
     try clear c1
     try clear c2
     try clear p2
     try clear c3
     try clear c7
     try clear c8
     try clear c9
     try clear c10
     try clear c13
     try clear c18
     try clear c20
     try clear c22
     try clear c27
     try clear c31
     try clear c31b0
     try clear c31b1
     try clear c32
     try clear c35
     try clear hcz10_0 hcz10_1
     try clear hcz14_0 hcz14_1
     try clear hcz16_0 hcz16_1
     try clear hcz23_0 hcz23_1
     try clear hcz25_0 hcz25_1
     try clear hcz28_0 hcz28_1
     try clear hcz33_0 hcz33_1
     try clear hcz34_0 hcz34_1
     try clear hcz36_0 hcz36_1
     try clear hfz10_0 hfz10_1
     try clear hfz14_0 hfz14_1
     try clear hfz16_0 hfz16_1
     try clear hfz23_0 hfz23_1
     try clear hfz25_0 hfz25_1
     try clear hfz28_0 hfz28_1
     try clear hfz33_0 hfz33_1
     try clear hfz34_0 hfz34_1
     try clear hfz36_0 hfz36_1
     try clear p2
     obtain ⟨kq, x30_29, rfl, HA, HJ29, BK501, BK502, HB⟩ := hcut
     cases kq with
     | zero => exact absurd HA.out (by simp [arbiterref07_below.j1])
     | succ kj29 =>
      have H := HA.out; clear HA; simp only [arbiterref07_below.j1] at H
      by_cases c37 : x30_29 = true
      ·subst c37
       have H1 : ((arbiterref06_ByName.f kj29 a0 a1_1).bind fun bt507 => ((arbiterref06_ByName.f kj29 a0 a2_1).bind fun bt509 => ((arbiterref06_Extends.f kj29 a0 bt507.1 bt509.1).bind fun t511 => (some t511)))) = some r := by rw [if_pos rfl] at H; exact H
       clear H; have H := H1; clear H1; replace H := Option.bind_eq_some_iff.mp H; obtain ⟨⟨t507, t508⟩, A380, H⟩ := H; replace H : ((arbiterref06_ByName.f kj29 a0 a2_1).bind fun bt509 => ((arbiterref06_Extends.f kj29 a0 t507 bt509.1).bind fun t511 => (some t511))) = some r := H; have A38 := Aside0.mk A380; clear A380; replace H := Option.bind_eq_some_iff.mp H; obtain ⟨⟨t509, t510⟩, A390, H⟩ := H; replace H : ((arbiterref06_Extends.f kj29 a0 t507 t509).bind fun t511 => (some t511)) = some r := H; have A39 := Aside0.mk A390; clear A390; replace H := Option.bind_eq_some_iff.mp H; obtain ⟨t511, A400, H⟩ := H; replace H : (some t511) = some r := H; have A40 := Aside0.mk A400; clear A400; obtain rfl := Option.some.inj H; have hnb41 := NB501_502.out; have hnc41 := NB502_501.out; obtain ⟨hcz42_0, hcz42_1, hfz42_0, hfz42_1⟩ := c2X BK501; go_wp2_with (first | ((with_reducible refine gate_callee (f := 57) rfl ?_); refine gX (some 35) Tryz.func57 #[.pointer (some ⟨G_, 0, none⟩), .string a1_1] ?_; (with_reducible refine (arbiterref06_ByName.calls kj29 G_ a0 a1_1 t507 t508 _ ?side1 A38.out).mono ?_); (case side1 => repeat (first | (with_reducible exact HQa0.out) | (with_reducible refine ROK.alloc ?_ _) | (with_reducible refine ROK.drewN ?_ _) | (with_reducible refine ROK.drew ?_) | exact ROK.below HQa0.out HB.out | exact ROK.below HQa0.out (bX2 HB GE501 GE502))); rintro e w' ⟨rfl, ⟨nd, rfl⟩⟩; refine ⟨_, rfl, ?_⟩; obtain ⟨hcz43_0, hcz43_1, hfz43_0, hfz43_1⟩ := c2X BK502) | ((with_reducible refine gate_callee (f := 57) rfl ?_); refine gX (some 42) Tryz.func57 #[.pointer (some ⟨G_, 0, none⟩), .string a2_1] ?_; (with_reducible refine (arbiterref06_ByName.calls kj29 G_ a0 a2_1 t509 t510 _ ?side1 A39.out).mono ?_); (case side1 => repeat (first | (with_reducible exact HQa0.out) | (with_reducible refine ROK.alloc ?_ _) | (with_reducible refine ROK.drewN ?_ _) | (with_reducible refine ROK.drew ?_) | exact ROK.below HQa0.out HB.out | exact ROK.below HQa0.out (bX2 HB GE501 GE502))); rintro e w' ⟨rfl, ⟨nd, rfl⟩⟩; refine ⟨_, rfl, ?_⟩) | ((with_reducible refine gate_callee (f := 66) rfl ?_); refine gX (some 48) Tryz.func66 #[.pointer (some ⟨G_, 0, none⟩), .int .i64 t507, .int .i64 t509] ?_; (with_reducible refine (arbiterref06_Extends.calls kj29 G_ a0 t507 t509 t511 _ ?side1 A40.out).mono ?_); (case side1 => repeat (first | (with_reducible exact HQa0.out) | (with_reducible refine ROK.alloc ?_ _) | (with_reducible refine ROK.drewN ?_ _) | (with_reducible refine ROK.drew ?_) | exact ROK.below HQa0.out HB.out | exact ROK.below HQa0.out (bX2 HB GE501 GE502))); rintro e w44 ⟨rfl, hb⟩; refine ⟨_, rfl, ?_⟩; have n0_ := Aside0.mk (blk_below (kX BK501) hb); have n1_ := Aside0.mk (blk_below (kX BK502) hb); have n2_ := Aside0.mk (below_step (bX2 HB GE501 GE502) hb); clear BK501; clear BK502; clear HB; have BK501 := n0_; have BK502 := n1_; have HB := n2_; clear n0_ n1_ n2_; (try clear hb); (try clear hb2); (try clear hk); (try clear hi))); go_ret
       exact ⟨by first | rfl | (simp [errW_none, errW_some] <;> rfl) | (simp [*, errW_none, errW_some] <;> rfl), bX2 HB GE501 GE502⟩
      ·replace c37 := Bool.eq_false_iff.mpr c37
       subst c37
       have H1 : (if a1_0 = 0 then (some false) else (if a2_0 = 0 then (if a2_1.toList = ([79, 98, 106, 101, 99, 116] : List UInt8) then (some true) else (if a2_1.toList = ([67, 108, 111, 110, 101, 97, 98, 108, 101] : List UInt8) then (some true) else (some (a2_1.toList == ([83, 101, 114, 105, 97, 108, 105, 122, 97, 98, 108, 101] : List UInt8))))) else ((arbiterref07_lower.f a1_0 a1_1).bind fun bt512 => ((arbiterref07_lower.f a2_0 a2_1).bind fun bt514 => ((arbiterref07_below.f kj29 a0 bt512.1 bt512.2 bt514.1 bt514.2).bind fun t516 => (some t516)))))) = some r := by rw [if_neg (show ¬ (false = true) by decide)] at H; exact H
       clear H; have H := H1; clear H1
       by_cases c45 : a1_0 = 0
       ·rw [if_pos c45] at H
        have c45b0 : (a1_0 == 0) = true := beq_iff_eq.mpr c45; have c45b1 : (a1_0 != 0) = false := bne_eq_false_iff_eq.mpr c45; clear c45; obtain rfl := Option.some.inj H; have hnb46 := NB501_502.out; have hnc46 := NB502_501.out; obtain ⟨hcz47_0, hcz47_1, hfz47_0, hfz47_1⟩ := c2X BK501; go_wp2; go_ret
        exact ⟨by first | rfl | (simp [errW_none, errW_some] <;> rfl) | (simp [*, errW_none, errW_some] <;> rfl), bX2 HB GE501 GE502⟩
       ·rw [if_neg c45] at H
        have c45b0 : (a1_0 == 0) = false := beq_eq_false_iff_ne.mpr c45; have c45b1 : (a1_0 != 0) = true := bne_iff_ne.mpr c45
        by_cases c48 : a2_0 = 0
        ·rw [if_pos c48] at H
         have c48b0 : (a2_0 == 0) = true := beq_iff_eq.mpr c48; have c48b1 : (a2_0 != 0) = false := bne_eq_false_iff_eq.mpr c48; clear c48
         by_cases c49 : a2_1.toList = ([79, 98, 106, 101, 99, 116] : List UInt8)
         ·rw [if_pos c49] at H
          have c49b0 : (a2_1.toList == ([79, 98, 106, 101, 99, 116] : List UInt8)) = true := beq_iff_eq.mpr c49; have c49b1 : (a2_1.toList != ([79, 98, 106, 101, 99, 116] : List UInt8)) = false := bne_eq_false_iff_eq.mpr c49; clear c49; obtain rfl := Option.some.inj H; have hnb50 := NB501_502.out; have hnc50 := NB502_501.out; obtain ⟨hcz51_0, hcz51_1, hfz51_0, hfz51_1⟩ := c2X BK501; obtain ⟨hcz52_0, hcz52_1, hfz52_0, hfz52_1⟩ := c2X BK502; go_wp2; go_ret
          exact ⟨by first | rfl | (simp [errW_none, errW_some] <;> rfl) | (simp [*, errW_none, errW_some] <;> rfl), bX2 HB GE501 GE502⟩
         ·rw [if_neg c49] at H
          have c49b0 : (a2_1.toList == ([79, 98, 106, 101, 99, 116] : List UInt8)) = false := beq_eq_false_iff_ne.mpr c49; have c49b1 : (a2_1.toList != ([79, 98, 106, 101, 99, 116] : List UInt8)) = true := bne_iff_ne.mpr c49
          by_cases c53 : a2_1.toList = ([67, 108, 111, 110, 101, 97, 98, 108, 101] : List UInt8)
          ·rw [if_pos c53] at H
           have c53b0 : (a2_1.toList == ([67, 108, 111, 110, 101, 97, 98, 108, 101] : List UInt8)) = true := beq_iff_eq.mpr c53; have c53b1 : (a2_1.toList != ([67, 108, 111, 110, 101, 97, 98, 108, 101] : List UInt8)) = false := bne_eq_false_iff_eq.mpr c53; clear c53; obtain rfl := Option.some.inj H; have hnb54 := NB501_502.out; have hnc54 := NB502_501.out; obtain ⟨hcz55_0, hcz55_1, hfz55_0, hfz55_1⟩ := c2X BK501; obtain ⟨hcz56_0, hcz56_1, hfz56_0, hfz56_1⟩ := c2X BK502; go_wp2; go_ret
           exact ⟨by first | rfl | (simp [errW_none, errW_some] <;> rfl) | (simp [*, errW_none, errW_some] <;> rfl), bX2 HB GE501 GE502⟩
          ·rw [if_neg c53] at H
           have c53b0 : (a2_1.toList == ([67, 108, 111, 110, 101, 97, 98, 108, 101] : List UInt8)) = false := beq_eq_false_iff_ne.mpr c53; have c53b1 : (a2_1.toList != ([67, 108, 111, 110, 101, 97, 98, 108, 101] : List UInt8)) = true := bne_iff_ne.mpr c53; obtain rfl := Option.some.inj H; have hnb57 := NB501_502.out; have hnc57 := NB502_501.out; obtain ⟨hcz58_0, hcz58_1, hfz58_0, hfz58_1⟩ := c2X BK501; obtain ⟨hcz59_0, hcz59_1, hfz59_0, hfz59_1⟩ := c2X BK502; go_wp2; go_ret
           exact ⟨by first | rfl | (simp [errW_none, errW_some] <;> rfl) | (simp [*, errW_none, errW_some] <;> rfl), bX2 HB GE501 GE502⟩
        ·rw [if_neg c48] at H
         have c48b0 : (a2_0 == 0) = false := beq_eq_false_iff_ne.mpr c48; have c48b1 : (a2_0 != 0) = true := bne_iff_ne.mpr c48; replace H := Option.bind_eq_some_iff.mp H; obtain ⟨⟨t512, t513⟩, A600, H⟩ := H; replace H : ((arbiterref07_lower.f a2_0 a2_1).bind fun bt514 => ((arbiterref07_below.f kj29 a0 t512 t513 bt514.1 bt514.2).bind fun t516 => (some t516))) = some r := H; have A60 := Aside0.mk A600; clear A600; replace H := Option.bind_eq_some_iff.mp H; obtain ⟨⟨t514, t515⟩, A610, H⟩ := H; replace H : ((arbiterref07_below.f kj29 a0 t512 t513 t514 t515).bind fun t516 => (some t516)) = some r := H; have A61 := Aside0.mk A610; clear A610; replace H := Option.bind_eq_some_iff.mp H; obtain ⟨t516, A620, H⟩ := H; replace H : (some t516) = some r := H; have A62 := Aside0.mk A620; clear A620; obtain rfl := Option.some.inj H; have hnb63 := NB501_502.out; have hnc63 := NB502_501.out; obtain ⟨hcz64_0, hcz64_1, hfz64_0, hfz64_1⟩ := c2X BK501; obtain ⟨hcz65_0, hcz65_1, hfz65_0, hfz65_1⟩ := c2X BK502
         try go_wp2
         have n0_ := Aside0.mk (blk_drew BK501.out); have n1_ := Aside0.mk (blk_drew BK502.out); have n2_ := Aside0.mk (below_drew1 HB.out); clear BK501; clear BK502; clear HB; have BK501 := n0_; have BK502 := n1_; have HB := n2_; clear n0_ n1_ n2_; refine start_ (n := 7) (S := fun w' => w'.cell? ⟨gb501, 0, none⟩ = some (.int .i64 a1_0) ∧ w'.cell? ⟨gb501, 1, none⟩ = some (.string a1_1) ∧ w'.cell? ⟨gb502, 0, none⟩ = some (.int .i64 a2_0) ∧ w'.cell? ⟨gb502, 1, none⟩ = some (.string a2_1)) (ds := []) #[false, false, false, false, false, false, false] (by kernel_rfl) rfl rfl ⟨(blk_cell BK501.out 0).trans rfl, (blk_cell BK501.out 1).trans rfl, (blk_cell BK502.out 0).trans rfl, (blk_cell BK502.out 1).trans rfl⟩ (fun hHeld => ?_); generalize wc.drew = w66 at BK501 BK502 HB hHeld ⊢; refine pure_ (i := 0) (N := some 68) (v := ?_) (a' := ?_) #[true, false, false, false, false, false, false] rfl rfl (by kernel_rfl) (fun _ _ _ h => h) (Or.inl ⟨by rfl, ?_⟩) ?_ ?_; rotate_left
         ·intro w'
          go_simp
          with_reducible rfl
         rotate_left
         ·simp only [Act.put, List.setIfInBounds_toArray, List.set_cons_zero, List.set_cons_succ, i64_w, i32_w]
          rfl
         refine take_ (i := 1) (N := some 69) (v := ?_) (a' := ?_) #[true, true, false, false, false, false, false] rfl rfl (by kernel_rfl) (fun _ _ _ h => h) (Or.inl ⟨by rfl, ?_⟩) hHeld ?_ ?_; rotate_left
         ·rintro w' ⟨s0, s1, s2, s3⟩
          go_simp
          with_reducible rfl
         rotate_left
         ·simp only [Act.put, List.setIfInBounds_toArray, List.set_cons_zero, List.set_cons_succ, i64_w, i32_w]
          rfl
         refine take_ (i := 3) (N := some 71) (v := ?_) (a' := ?_) #[true, true, false, true, false, false, false] rfl rfl (by kernel_rfl) (fun _ _ _ h => h) (Or.inl ⟨by rfl, ?_⟩) hHeld ?_ ?_; rotate_left
         ·rintro w' ⟨s0, s1, s2, s3⟩
          go_simp
          with_reducible rfl
         rotate_left
         ·simp only [Act.put, List.setIfInBounds_toArray, List.set_cons_zero, List.set_cons_succ, i64_w, i32_w]
          rfl
         refine one_ (i := 2) (N := some 70) #[true, true, true, true, false, false, false] rfl rfl (by kernel_rfl) (by decide) (fun K hK => ?_); refine hX Tryz.func105 #[.agg #[.int .i64 a1_0, .string a1_1]] ?_
         with_reducible refine (arbiterref07_lower.calls a1_0 a1_1 t512 t513 _ A60.out).mono ?_
         rintro e w67 ⟨rfl, hb⟩; refine ⟨_, rfl, ?_⟩; have n0_ := Aside0.mk (blk_below (kX BK501) hb); have n1_ := Aside0.mk (blk_below (kX BK502) hb); have n2_ := Aside0.mk (below_step (bX2 HB GE501 GE502) hb); clear BK501; clear BK502; clear HB; have BK501 := n0_; have BK502 := n1_; have HB := n2_; clear n0_ n1_ n2_
         (try clear hb)
         (try clear hb2)
         (try clear hk)
         (try clear hi)
         refine hK.out _ _ ⟨(blk_cell BK501.out 0).trans rfl, (blk_cell BK501.out 1).trans rfl, (blk_cell BK502.out 0).trans rfl, (blk_cell BK502.out 1).trans rfl⟩ (fun hHeld => ?_); clear hK K; refine nX (some 70) ?_; refine one_ (i := 4) (N := some 72) #[true, true, true, true, true, false, false] rfl rfl (by kernel_rfl) (by decide) (fun K hK => ?_); refine hX Tryz.func105 #[.agg #[.int .i64 a2_0, .string a2_1]] ?_
         with_reducible refine (arbiterref07_lower.calls a2_0 a2_1 t514 t515 _ A61.out).mono ?_
         rintro e w68 ⟨rfl, hb⟩; refine ⟨_, rfl, ?_⟩; have n0_ := Aside0.mk (blk_below (kX BK501) hb); have n1_ := Aside0.mk (blk_below (kX BK502) hb); have n2_ := Aside0.mk (below_step (bX2 HB GE501 GE502) hb); clear BK501; clear BK502; clear HB; have BK501 := n0_; have BK502 := n1_; have HB := n2_; clear n0_ n1_ n2_
         (try clear hb)
         (try clear hb2)
         (try clear hk)
         (try clear hi)
         refine hK.out _ _ ⟨(blk_cell BK501.out 0).trans rfl, (blk_cell BK501.out 1).trans rfl, (blk_cell BK502.out 0).trans rfl, (blk_cell BK502.out 1).trans rfl⟩ (fun hHeld => ?_); clear hK K; refine nX (some 72) ?_; refine one_ (i := 5) (N := some 73) #[true, true, true, true, true, true, false] rfl rfl (by kernel_rfl) (by decide) (fun K hK => ?_); refine hX Tryz.func108 #[.pointer (some ⟨G_, 0, none⟩), .agg #[.int .i64 t512, .string t513], .agg #[.int .i64 t514, .string t515]] ?_
         with_reducible refine (ih kj29 (by have := HJ3.out; have := HJ29.out; omega) G_ a0 t512 t513 t514 t515 t516 _ ?side1 A62.out).mono ?_
         (case side1 => repeat (first | (with_reducible exact HQa0.out) | (with_reducible refine ROK.alloc ?_ _) | (with_reducible refine ROK.drewN ?_ _) | (with_reducible refine ROK.drew ?_) | exact ROK.below HQa0.out HB.out | exact ROK.below HQa0.out (bX2 HB GE501 GE502)))
         rintro e w69 ⟨rfl, hb⟩; refine ⟨_, rfl, ?_⟩; have n0_ := Aside0.mk (blk_below (kX BK501) hb); have n1_ := Aside0.mk (blk_below (kX BK502) hb); have n2_ := Aside0.mk (below_step (bX2 HB GE501 GE502) hb); clear BK501; clear BK502; clear HB; have BK501 := n0_; have BK502 := n1_; have HB := n2_; clear n0_ n1_ n2_
         (try clear hb)
         (try clear hb2)
         (try clear hk)
         (try clear hi)
         refine hK.out _ _ ⟨(blk_cell BK501.out 0).trans rfl, (blk_cell BK501.out 1).trans rfl, (blk_cell BK502.out 0).trans rfl, (blk_cell BK502.out 1).trans rfl⟩ (fun hHeld => ?_); clear hK K; refine nX (some 73) ?_; refine pure_ (i := 6) (N := some 6) (v := ?_) (a' := ?_) #[true, true, true, true, true, true, true] rfl rfl (by kernel_rfl) (fun _ _ _ h => h) (Or.inl ⟨by rfl, ?_⟩) ?_ ?_; rotate_left
         ·intro w'
          go_simp
          with_reducible rfl
         rotate_left
         ·simp only [Act.put, List.setIfInBounds_toArray, List.set_cons_zero, List.set_cons_succ, i64_w, i32_w]
          rfl
         refine done_ (by kernel_rfl) ?_
         try go_wp2
         go_ret
         exact ⟨by first | rfl | (simp [errW_none, errW_some] <;> rfl) | (simp [*, errW_none, errW_some] <;> rfl), bX2 HB GE501 GE502⟩
end Go.Proofs.YtaipkdglhfhhiaaGreatDoor.Pt

namespace Go.Proofs.YtaipkdglhfhhiaaGreatDoor.Pt
open Go.RowKit Go.Proofs.YtaipkdglhfhhiaaGreatDoorW.PrintWords Go.Proofs.YtaipkdglhfhhiaaGreatDoorW.PrintLast Go.Proofs.YtaipkdglhfhhiaaGreatDoorW.PrintMore
attribute [local go_sem] max2_int min2_int max_two min_two max_three min_three max_four min_four   -- for this text's walks alone
set_option linter.unusedVariables false
set_option linter.unusedSimpArgs false
def arbiterref07_Sub.f (k : Nat) (a0 : List S85) (a1_0 : Int) (a1_1 : ByteArray) (a2_0 : Int) (a2_1 : ByteArray) : Option (Bool × Int) := (arbiterref07_Loaded.f k a0 a1_0 a1_1).bind fun t519 => (if t519 = 0 then ((arbiterref07_Loaded.f k a0 a2_0 a2_1).bind fun t520 => (if t520 = 0 then ((arbiterref07_below.f k a0 a1_0 a1_1 a2_0 a2_1).bind fun t521 => (some (t521, 0))) else (some (false, t520)))) else (some (false, t519)))
set_option maxHeartbeats 8000000 in
set_option maxRecDepth 100000 in
theorem arbiterref07_Sub.calls (k : Nat) (G_ : Nat) (a0 : List S85) (a1_0 : Int) (a1_1 : ByteArray) (a2_0 : Int) (a2_1 : ByteArray) (r1 : Bool) (r2 : Int) (w : World) (hq0 : ROK w G_ a0) (h : arbiterref07_Sub.f k a0 a1_0 a1_1 a2_0 a2_1 = some (r1, r2)) :
  Calls Tryz.prog 84 #[.pointer (some ⟨G_, 0, none⟩), .agg #[.int .i64 a1_0, .string a1_1], .agg #[.int .i64 a2_0, .string a2_1]] w fun e w' => e = .returned (.tuple #[.bool r1, .int .i64 r2]) ∧ Below w.heap.size w w' := by
 have hu24 := Tryz.underlying24; obtain ⟨AQa0, cQa0, hp0, hrq0, hcq0⟩ := ROK.open hq0; have HPa0 := Aside0.mk hp0; have HRqa0 := Aside0.mk hrq0; have HCqa0 := Aside0.mk hcq0; clear hp0 hrq0 hcq0; have HQa0 := Aside0.mk hq0; clear hq0; have HB := Aside0.mk (Below.refl w.heap.size w); have H : ((arbiterref07_Loaded.f k a0 a1_0 a1_1).bind fun t519 => (if t519 = 0 then ((arbiterref07_Loaded.f k a0 a2_0 a2_1).bind fun t520 => (if t520 = 0 then ((arbiterref07_below.f k a0 a1_0 a1_1 a2_0 a2_1).bind fun t521 => (some (t521, 0))) else (some (false, t520)))) else (some (false, t519)))) = some (r1, r2) := h; clear h; replace H := Option.bind_eq_some_iff.mp H; obtain ⟨t519, A40, H⟩ := H; replace H : (if t519 = 0 then ((arbiterref07_Loaded.f k a0 a2_0 a2_1).bind fun t520 => (if t520 = 0 then ((arbiterref07_below.f k a0 a1_0 a1_1 a2_0 a2_1).bind fun t521 => (some (t521, 0))) else (some (false, t520)))) else (some (false, t519))) = some (r1, r2) := H; have A4 := Aside0.mk A40; clear A40
 by_cases c5 : t519 = 0
 ·rw [if_pos c5] at H
  have c5b0 : (t519 == 0) = true := beq_iff_eq.mpr c5; have c5b1 : (t519 != 0) = false := bne_eq_false_iff_eq.mpr c5; clear c5; replace H := Option.bind_eq_some_iff.mp H; obtain ⟨t520, A60, H⟩ := H; replace H : (if t520 = 0 then ((arbiterref07_below.f k a0 a1_0 a1_1 a2_0 a2_1).bind fun t521 => (some (t521, 0))) else (some (false, t520))) = some (r1, r2) := H; have A6 := Aside0.mk A60; clear A60
  by_cases c7 : t520 = 0
  ·rw [if_pos c7] at H
   have c7b0 : (t520 == 0) = true := beq_iff_eq.mpr c7; have c7b1 : (t520 != 0) = false := bne_eq_false_iff_eq.mpr c7; clear c7; replace H := Option.bind_eq_some_iff.mp H; obtain ⟨t521, A80, H⟩ := H; replace H : (some (t521, 0)) = some (r1, r2) := H; have A8 := Aside0.mk A80; clear A80; simp only [Option.some.injEq, Prod.mk.injEq] at H; obtain ⟨rfl, rfl⟩ := H; go_enter Tryz.func84, Tryz.ntmps84; go_wp2_with (first | ((with_reducible refine gate_dst (N := 4) rfl ?_); refine eX 4 #[.int .i64 a1_0, .string a1_1] 24 ?_; intro gb517 hg w9 hbox hb; have n0_ := Aside0.mk (below_step (bX HB) hb); have n1_ := Aside0.mk (hbox); have n2_ := Aside0.mk ((by rw [hg]; exact (below_size (bX HB)) : w.heap.size ≤ gb517)); have n3_ := Aside0.mk ((by rw [hg]; exact (below_size (bX HB)) : w.heap.size ≤ gb517)); clear HB; have HB := n0_; have BK517 := n1_; have GW517 := n2_; have GE517 := n3_; clear n0_ n1_ n2_ n3_; clear hb hbox hg) | ((with_reducible refine gate_dst (N := 5) rfl ?_); refine eX 5 #[.int .i64 a2_0, .string a2_1] 24 ?_; intro gb518 hg w10 hbox hb; have n0_ := Aside0.mk (blk_below (kX BK517) hb); have n1_ := Aside0.mk (below_step (bX1 HB GE517) hb); have n2_ := Aside0.mk (hbox); have n3_ := Aside0.mk ((by rw [hg]; exact (below_size (bX1 HB GE517)) : w.heap.size ≤ gb518)); have n4_ := Aside0.mk ((by rw [hg]; exact (below_size (bX1 HB GE517)) : w.heap.size ≤ gb518)); have n5_ := Aside0.mk ((by rw [hg]; exact Nat.ne_of_lt (blk_lt (kX BK517)) : gb517 ≠ gb518)); have n6_ := Aside0.mk ((by rw [hg]; exact Nat.ne_of_gt (blk_lt (kX BK517)) : gb518 ≠ gb517)); clear BK517; clear HB; have BK517 := n0_; have HB := n1_; have BK518 := n2_; have GW518 := n3_; have GE518 := n4_; have NB517_518 := n5_; have NB518_517 := n6_; clear n0_ n1_ n2_ n3_ n4_ n5_ n6_; clear hb hbox hg; have hnb11 := NB517_518.out; have hnc11 := NB518_517.out; obtain ⟨hcz12_0, hcz12_1, hfz12_0, hfz12_1⟩ := c2X BK517) | ((with_reducible refine gate_callee (f := 56) rfl ?_); refine gX (some 11) Tryz.func56 #[.pointer (some ⟨G_, 0, none⟩), .agg #[.int .i64 a1_0, .string a1_1]] ?_; (with_reducible refine (arbiterref07_Loaded.calls k G_ a0 a1_0 a1_1 t519 _ ?side1 A4.out).mono ?_); (case side1 => repeat (first | (with_reducible exact HQa0.out) | (with_reducible refine ROK.alloc ?_ _) | (with_reducible refine ROK.drewN ?_ _) | (with_reducible refine ROK.drew ?_) | exact ROK.below HQa0.out HB.out | exact ROK.below HQa0.out (bX2 HB GE517 GE518))); rintro e w13 ⟨rfl, hb⟩; refine ⟨_, rfl, ?_⟩; have n0_ := Aside0.mk (blk_below (kX BK517) hb); have n1_ := Aside0.mk (blk_below (kX BK518) hb); have n2_ := Aside0.mk (below_step (bX2 HB GE517 GE518) hb); clear BK517; clear BK518; clear HB; have BK517 := n0_; have BK518 := n1_; have HB := n2_; clear n0_ n1_ n2_; (try clear hb); (try clear hb2); (try clear hk); (try clear hi); obtain ⟨hcz14_0, hcz14_1, hfz14_0, hfz14_1⟩ := c2X BK518) | ((with_reducible refine gate_callee (f := 56) rfl ?_); refine gX (some 16) Tryz.func56 #[.pointer (some ⟨G_, 0, none⟩), .agg #[.int .i64 a2_0, .string a2_1]] ?_; (with_reducible refine (arbiterref07_Loaded.calls k G_ a0 a2_0 a2_1 t520 _ ?side1 A6.out).mono ?_); (case side1 => repeat (first | (with_reducible exact HQa0.out) | (with_reducible refine ROK.alloc ?_ _) | (with_reducible refine ROK.drewN ?_ _) | (with_reducible refine ROK.drew ?_) | exact ROK.below HQa0.out HB.out | exact ROK.below HQa0.out (bX2 HB GE517 GE518))); rintro e w15 ⟨rfl, hb⟩; refine ⟨_, rfl, ?_⟩; have n0_ := Aside0.mk (blk_below (kX BK517) hb); have n1_ := Aside0.mk (blk_below (kX BK518) hb); have n2_ := Aside0.mk (below_step (bX2 HB GE517 GE518) hb); clear BK517; clear BK518; clear HB; have BK517 := n0_; have BK518 := n1_; have HB := n2_; clear n0_ n1_ n2_; (try clear hb); (try clear hb2); (try clear hk); (try clear hi); obtain ⟨hcz16_0, hcz16_1, hfz16_0, hfz16_1⟩ := c2X BK517; obtain ⟨hcz17_0, hcz17_1, hfz17_0, hfz17_1⟩ := c2X BK518) | ((with_reducible refine gate_callee (f := 108) rfl ?_); refine gX (some 23) Tryz.func108 #[.pointer (some ⟨G_, 0, none⟩), .agg #[.int .i64 a1_0, .string a1_1], .agg #[.int .i64 a2_0, .string a2_1]] ?_; (with_reducible refine (arbiterref07_below.calls k G_ a0 a1_0 a1_1 a2_0 a2_1 t521 _ ?side1 A8.out).mono ?_); (case side1 => repeat (first | (with_reducible exact HQa0.out) | (with_reducible refine ROK.alloc ?_ _) | (with_reducible refine ROK.drewN ?_ _) | (with_reducible refine ROK.drew ?_) | exact ROK.below HQa0.out HB.out | exact ROK.below HQa0.out (bX2 HB GE517 GE518))); rintro e w18 ⟨rfl, hb⟩; refine ⟨_, rfl, ?_⟩; have n0_ := Aside0.mk (blk_below (kX BK517) hb); have n1_ := Aside0.mk (blk_below (kX BK518) hb); have n2_ := Aside0.mk (below_step (bX2 HB GE517 GE518) hb); clear BK517; clear BK518; clear HB; have BK517 := n0_; have BK518 := n1_; have HB := n2_; clear n0_ n1_ n2_; (try clear hb); (try clear hb2); (try clear hk); (try clear hi))); go_ret2
   exact ⟨by first | rfl | (simp [errW_none, errW_some] <;> rfl) | (simp [*, errW_none, errW_some] <;> rfl), bX2 HB GE517 GE518⟩
  ·rw [if_neg c7] at H
   have c7b0 : (t520 == 0) = false := beq_eq_false_iff_ne.mpr c7; have c7b1 : (t520 != 0) = true := bne_iff_ne.mpr c7; simp only [Option.some.injEq, Prod.mk.injEq] at H; obtain ⟨rfl, rfl⟩ := H; go_enter Tryz.func84, Tryz.ntmps84; go_wp2_with (first | ((with_reducible refine gate_dst (N := 4) rfl ?_); refine eX 4 #[.int .i64 a1_0, .string a1_1] 24 ?_; intro gb517 hg w19 hbox hb; have n0_ := Aside0.mk (below_step (bX HB) hb); have n1_ := Aside0.mk (hbox); have n2_ := Aside0.mk ((by rw [hg]; exact (below_size (bX HB)) : w.heap.size ≤ gb517)); have n3_ := Aside0.mk ((by rw [hg]; exact (below_size (bX HB)) : w.heap.size ≤ gb517)); clear HB; have HB := n0_; have BK517 := n1_; have GW517 := n2_; have GE517 := n3_; clear n0_ n1_ n2_ n3_; clear hb hbox hg) | ((with_reducible refine gate_dst (N := 5) rfl ?_); refine eX 5 #[.int .i64 a2_0, .string a2_1] 24 ?_; intro gb518 hg w20 hbox hb; have n0_ := Aside0.mk (blk_below (kX BK517) hb); have n1_ := Aside0.mk (below_step (bX1 HB GE517) hb); have n2_ := Aside0.mk (hbox); have n3_ := Aside0.mk ((by rw [hg]; exact (below_size (bX1 HB GE517)) : w.heap.size ≤ gb518)); have n4_ := Aside0.mk ((by rw [hg]; exact (below_size (bX1 HB GE517)) : w.heap.size ≤ gb518)); have n5_ := Aside0.mk ((by rw [hg]; exact Nat.ne_of_lt (blk_lt (kX BK517)) : gb517 ≠ gb518)); have n6_ := Aside0.mk ((by rw [hg]; exact Nat.ne_of_gt (blk_lt (kX BK517)) : gb518 ≠ gb517)); clear BK517; clear HB; have BK517 := n0_; have HB := n1_; have BK518 := n2_; have GW518 := n3_; have GE518 := n4_; have NB517_518 := n5_; have NB518_517 := n6_; clear n0_ n1_ n2_ n3_ n4_ n5_ n6_; clear hb hbox hg; have hnb21 := NB517_518.out; have hnc21 := NB518_517.out; obtain ⟨hcz22_0, hcz22_1, hfz22_0, hfz22_1⟩ := c2X BK517) | ((with_reducible refine gate_callee (f := 56) rfl ?_); refine gX (some 11) Tryz.func56 #[.pointer (some ⟨G_, 0, none⟩), .agg #[.int .i64 a1_0, .string a1_1]] ?_; (with_reducible refine (arbiterref07_Loaded.calls k G_ a0 a1_0 a1_1 t519 _ ?side1 A4.out).mono ?_); (case side1 => repeat (first | (with_reducible exact HQa0.out) | (with_reducible refine ROK.alloc ?_ _) | (with_reducible refine ROK.drewN ?_ _) | (with_reducible refine ROK.drew ?_) | exact ROK.below HQa0.out HB.out | exact ROK.below HQa0.out (bX2 HB GE517 GE518))); rintro e w23 ⟨rfl, hb⟩; refine ⟨_, rfl, ?_⟩; have n0_ := Aside0.mk (blk_below (kX BK517) hb); have n1_ := Aside0.mk (blk_below (kX BK518) hb); have n2_ := Aside0.mk (below_step (bX2 HB GE517 GE518) hb); clear BK517; clear BK518; clear HB; have BK517 := n0_; have BK518 := n1_; have HB := n2_; clear n0_ n1_ n2_; (try clear hb); (try clear hb2); (try clear hk); (try clear hi); obtain ⟨hcz24_0, hcz24_1, hfz24_0, hfz24_1⟩ := c2X BK518) | ((with_reducible refine gate_callee (f := 56) rfl ?_); refine gX (some 16) Tryz.func56 #[.pointer (some ⟨G_, 0, none⟩), .agg #[.int .i64 a2_0, .string a2_1]] ?_; (with_reducible refine (arbiterref07_Loaded.calls k G_ a0 a2_0 a2_1 t520 _ ?side1 A6.out).mono ?_); (case side1 => repeat (first | (with_reducible exact HQa0.out) | (with_reducible refine ROK.alloc ?_ _) | (with_reducible refine ROK.drewN ?_ _) | (with_reducible refine ROK.drew ?_) | exact ROK.below HQa0.out HB.out | exact ROK.below HQa0.out (bX2 HB GE517 GE518))); rintro e w25 ⟨rfl, hb⟩; refine ⟨_, rfl, ?_⟩; have n0_ := Aside0.mk (blk_below (kX BK517) hb); have n1_ := Aside0.mk (blk_below (kX BK518) hb); have n2_ := Aside0.mk (below_step (bX2 HB GE517 GE518) hb); clear BK517; clear BK518; clear HB; have BK517 := n0_; have BK518 := n1_; have HB := n2_; clear n0_ n1_ n2_; (try clear hb); (try clear hb2); (try clear hk); (try clear hi))); go_ret2
   exact ⟨by first | rfl | (simp [errW_none, errW_some] <;> rfl) | (simp [*, errW_none, errW_some] <;> rfl), bX2 HB GE517 GE518⟩
 ·rw [if_neg c5] at H
  have c5b0 : (t519 == 0) = false := beq_eq_false_iff_ne.mpr c5; have c5b1 : (t519 != 0) = true := bne_iff_ne.mpr c5; simp only [Option.some.injEq, Prod.mk.injEq] at H; obtain ⟨rfl, rfl⟩ := H; go_enter Tryz.func84, Tryz.ntmps84; go_wp2_with (first | ((with_reducible refine gate_dst (N := 4) rfl ?_); refine eX 4 #[.int .i64 a1_0, .string a1_1] 24 ?_; intro gb517 hg w26 hbox hb; have n0_ := Aside0.mk (below_step (bX HB) hb); have n1_ := Aside0.mk (hbox); have n2_ := Aside0.mk ((by rw [hg]; exact (below_size (bX HB)) : w.heap.size ≤ gb517)); have n3_ := Aside0.mk ((by rw [hg]; exact (below_size (bX HB)) : w.heap.size ≤ gb517)); clear HB; have HB := n0_; have BK517 := n1_; have GW517 := n2_; have GE517 := n3_; clear n0_ n1_ n2_ n3_; clear hb hbox hg) | ((with_reducible refine gate_dst (N := 5) rfl ?_); refine eX 5 #[.int .i64 a2_0, .string a2_1] 24 ?_; intro gb518 hg w27 hbox hb; have n0_ := Aside0.mk (blk_below (kX BK517) hb); have n1_ := Aside0.mk (below_step (bX1 HB GE517) hb); have n2_ := Aside0.mk (hbox); have n3_ := Aside0.mk ((by rw [hg]; exact (below_size (bX1 HB GE517)) : w.heap.size ≤ gb518)); have n4_ := Aside0.mk ((by rw [hg]; exact (below_size (bX1 HB GE517)) : w.heap.size ≤ gb518)); have n5_ := Aside0.mk ((by rw [hg]; exact Nat.ne_of_lt (blk_lt (kX BK517)) : gb517 ≠ gb518)); have n6_ := Aside0.mk ((by rw [hg]; exact Nat.ne_of_gt (blk_lt (kX BK517)) : gb518 ≠ gb517)); clear BK517; clear HB; have BK517 := n0_; have HB := n1_; have BK518 := n2_; have GW518 := n3_; have GE518 := n4_; have NB517_518 := n5_; have NB518_517 := n6_; clear n0_ n1_ n2_ n3_ n4_ n5_ n6_; clear hb hbox hg; have hnb28 := NB517_518.out; have hnc28 := NB518_517.out; obtain ⟨hcz29_0, hcz29_1, hfz29_0, hfz29_1⟩ := c2X BK517) | ((with_reducible refine gate_callee (f := 56) rfl ?_); refine gX (some 11) Tryz.func56 #[.pointer (some ⟨G_, 0, none⟩), .agg #[.int .i64 a1_0, .string a1_1]] ?_; (with_reducible refine (arbiterref07_Loaded.calls k G_ a0 a1_0 a1_1 t519 _ ?side1 A4.out).mono ?_); (case side1 => repeat (first | (with_reducible exact HQa0.out) | (with_reducible refine ROK.alloc ?_ _) | (with_reducible refine ROK.drewN ?_ _) | (with_reducible refine ROK.drew ?_) | exact ROK.below HQa0.out HB.out | exact ROK.below HQa0.out (bX2 HB GE517 GE518))); rintro e w30 ⟨rfl, hb⟩; refine ⟨_, rfl, ?_⟩; have n0_ := Aside0.mk (blk_below (kX BK517) hb); have n1_ := Aside0.mk (blk_below (kX BK518) hb); have n2_ := Aside0.mk (below_step (bX2 HB GE517 GE518) hb); clear BK517; clear BK518; clear HB; have BK517 := n0_; have BK518 := n1_; have HB := n2_; clear n0_ n1_ n2_; (try clear hb); (try clear hb2); (try clear hk); (try clear hi))); go_ret2
  exact ⟨by first | rfl | (simp [errW_none, errW_some] <;> rfl) | (simp [*, errW_none, errW_some] <;> rfl), bX2 HB GE517 GE518⟩
def arbiterref15_TestTypes.j0 : Nat → List S85 → Bool → Bool → Int → ByteArray → Int → ByteArray → Option (Bool × Int × Int)
 | 0, _, _, _, _, _, _, _ => none
 | k + 1, x0, x6, x37, x523000, x523001, x524000, x524001 => if x37 = true then ((arbiterref06_ByName.f k x0 x523001).bind fun bt526 => ((arbiterref06_ByName.f k x0 x524001).bind fun bt528 => ((arbiterref15_Test.f k x0 bt526.1 bt528.1).bind fun bt530 => (some (x6, bt530.2.1, 0))))) else (some (x6, 1, 0))
def arbiterref15_TestTypes.f (k : Nat) (a0 : List S85) (a1_0 : Int) (a1_1 : ByteArray) (a2_0 : Int) (a2_1 : ByteArray) : Option (Bool × Int × Int) := (arbiterref07_Sub.f k a0 a1_0 a1_1 a2_0 a2_1).bind fun bt524 => (if bt524.2 = 0 then (if a1_0 = a2_0 then (if a1_1.toList = ([] : List UInt8) then (arbiterref15_TestTypes.j0 k a0 bt524.1 false a1_0 a1_1 a2_0 a2_1) else (arbiterref15_TestTypes.j0 k a0 bt524.1 (a2_1.toList != ([] : List UInt8)) a1_0 a1_1 a2_0 a2_1)) else (arbiterref15_TestTypes.j0 k a0 bt524.1 false a1_0 a1_1 a2_0 a2_1)) else (some (false, 0, bt524.2)))
set_option maxHeartbeats 8000000 in
set_option maxRecDepth 100000 in
theorem arbiterref15_TestTypes.calls (k : Nat) (G_ : Nat) (a0 : List S85) (a1_0 : Int) (a1_1 : ByteArray) (a2_0 : Int) (a2_1 : ByteArray) (r1 : Bool) (r2 : Int) (r3 : Int) (w : World) (hq0 : ROK w G_ a0) (h : arbiterref15_TestTypes.f k a0 a1_0 a1_1 a2_0 a2_1 = some (r1, r2, r3)) :
  Calls Tryz.prog 44 #[.pointer (some ⟨G_, 0, none⟩), .agg #[.int .i64 a1_0, .string a1_1], .agg #[.int .i64 a2_0, .string a2_1]] w fun e w' => e = .returned (.tuple #[.bool r1, .int .i64 r2, .int .i64 r3]) ∧ Below w.heap.size w w' := by
 have hu24 := Tryz.underlying24; obtain ⟨AQa0, cQa0, hp0, hrq0, hcq0⟩ := ROK.open hq0; have HPa0 := Aside0.mk hp0; have HRqa0 := Aside0.mk hrq0; have HCqa0 := Aside0.mk hcq0; clear hp0 hrq0 hcq0; have HQa0 := Aside0.mk hq0; clear hq0; have HB := Aside0.mk (Below.refl w.heap.size w); have H : ((arbiterref07_Sub.f k a0 a1_0 a1_1 a2_0 a2_1).bind fun bt524 => (if bt524.2 = 0 then (if a1_0 = a2_0 then (if a1_1.toList = ([] : List UInt8) then (arbiterref15_TestTypes.j0 k a0 bt524.1 false a1_0 a1_1 a2_0 a2_1) else (arbiterref15_TestTypes.j0 k a0 bt524.1 (a2_1.toList != ([] : List UInt8)) a1_0 a1_1 a2_0 a2_1)) else (arbiterref15_TestTypes.j0 k a0 bt524.1 false a1_0 a1_1 a2_0 a2_1)) else (some (false, 0, bt524.2)))) = some (r1, r2, r3) := h; clear h; replace H := Option.bind_eq_some_iff.mp H; obtain ⟨⟨t524, t525⟩, A40, H⟩ := H; replace H : (if t525 = 0 then (if a1_0 = a2_0 then (if a1_1.toList = ([] : List UInt8) then (arbiterref15_TestTypes.j0 k a0 t524 false a1_0 a1_1 a2_0 a2_1) else (arbiterref15_TestTypes.j0 k a0 t524 (a2_1.toList != ([] : List UInt8)) a1_0 a1_1 a2_0 a2_1)) else (arbiterref15_TestTypes.j0 k a0 t524 false a1_0 a1_1 a2_0 a2_1)) else (some (false, 0, t525))) = some (r1, r2, r3) := H; have A4 := Aside0.mk A40; clear A40
 by_cases c5 : t525 = 0
 ·rw [if_pos c5] at H
  have c5b0 : (t525 == 0) = true := beq_iff_eq.mpr c5; have c5b1 : (t525 != 0) = false := bne_eq_false_iff_eq.mpr c5; clear c5; have HC6 := Aside0.mk H; clear H; go_enter Tryz.func44, Tryz.ntmps44
  go_upto_region 4 with (first | ((with_reducible refine gate_dst (N := 4) rfl ?_); refine eX 4 #[.int .i64 a1_0, .string a1_1] 24 ?_; intro gb522 hg w7 hbox hb; have n0_ := Aside0.mk (below_step (bX HB) hb); have n1_ := Aside0.mk (hbox); have n2_ := Aside0.mk ((by rw [hg]; exact (below_size (bX HB)) : w.heap.size ≤ gb522)); have n3_ := Aside0.mk ((by rw [hg]; exact (below_size (bX HB)) : w.heap.size ≤ gb522)); clear HB; have HB := n0_; have BK522 := n1_; have GW522 := n2_; have GE522 := n3_; clear n0_ n1_ n2_ n3_; clear hb hbox hg) | ((with_reducible refine gate_dst (N := 5) rfl ?_); refine eX 5 #[.int .i64 a2_0, .string a2_1] 24 ?_; intro gb523 hg w8 hbox hb; have n0_ := Aside0.mk (blk_below (kX BK522) hb); have n1_ := Aside0.mk (below_step (bX1 HB GE522) hb); have n2_ := Aside0.mk (hbox); have n3_ := Aside0.mk ((by rw [hg]; exact (below_size (bX1 HB GE522)) : w.heap.size ≤ gb523)); have n4_ := Aside0.mk ((by rw [hg]; exact (below_size (bX1 HB GE522)) : w.heap.size ≤ gb523)); have n5_ := Aside0.mk ((by rw [hg]; exact Nat.ne_of_lt (blk_lt (kX BK522)) : gb522 ≠ gb523)); have n6_ := Aside0.mk ((by rw [hg]; exact Nat.ne_of_gt (blk_lt (kX BK522)) : gb523 ≠ gb522)); clear BK522; clear HB; have BK522 := n0_; have HB := n1_; have BK523 := n2_; have GW523 := n3_; have GE523 := n4_; have NB522_523 := n5_; have NB523_522 := n6_; clear n0_ n1_ n2_ n3_ n4_ n5_ n6_; clear hb hbox hg; have hnb9 := NB522_523.out; have hnc9 := NB523_522.out; obtain ⟨hcz10_0, hcz10_1, hfz10_0, hfz10_1⟩ := c2X BK522; obtain ⟨hcz11_0, hcz11_1, hfz11_0, hfz11_1⟩ := c2X BK523) | ((with_reducible refine gate_callee (f := 84) rfl ?_); refine gX (some 17) Tryz.func84 #[.pointer (some ⟨G_, 0, none⟩), .agg #[.int .i64 a1_0, .string a1_1], .agg #[.int .i64 a2_0, .string a2_1]] ?_; (with_reducible refine (arbiterref07_Sub.calls k G_ a0 a1_0 a1_1 a2_0 a2_1 t524 t525 _ ?side1 A4.out).mono ?_); (case side1 => repeat (first | (with_reducible exact HQa0.out) | (with_reducible refine ROK.alloc ?_ _) | (with_reducible refine ROK.drewN ?_ _) | (with_reducible refine ROK.drew ?_) | exact ROK.below HQa0.out HB.out | exact ROK.below HQa0.out (bX2 HB GE522 GE523))); rintro e w12 ⟨rfl, hb⟩; refine ⟨_, rfl, ?_⟩; have n0_ := Aside0.mk (blk_below (kX BK522) hb); have n1_ := Aside0.mk (blk_below (kX BK523) hb); have n2_ := Aside0.mk (below_step (bX2 HB GE522 GE523) hb); clear BK522; clear BK523; clear HB; have BK522 := n0_; have BK523 := n1_; have HB := n2_; clear n0_ n1_ n2_; (try clear hb); (try clear hb2); (try clear hk); (try clear hi)))
  (try simp only [Act.put, List.setIfInBounds_toArray, List.set_cons_zero, List.set_cons_succ])
  go_cut [37] (fun v37 wc => ∃ (kq : Nat) (x37_5 : Bool), v37 = .bool x37_5 ∧ Aside0 (arbiterref15_TestTypes.j0 kq a0 t524 x37_5 a1_0 a1_1 a2_0 a2_1 = some (r1, r2, r3)) ∧ Aside0 (kq ≤ k) ∧ Aside0 (wc.heap[gb522]? = some (.cells #[.int .i64 a1_0, .string a1_1] 24 (0, 0))) ∧ Aside0 (wc.heap[gb523]? = some (.cells #[.int .i64 a2_0, .string a2_1] 24 (0, 0))) ∧ Aside0 (Below w.heap.size w wc))
  case first =>
   have H := HC6.out; clear HC6
   by_cases c13 : a1_0 = a2_0
   ·rw [if_pos c13] at H
    have c13b0 : (a1_0 == a2_0) = true := beq_iff_eq.mpr c13; have c13b1 : (a1_0 != a2_0) = false := bne_eq_false_iff_eq.mpr c13; clear c13
    (first | rw [c13b0] | (simp only [i64_w, i32_w]; rw [c13b0]) | skip)
    by_cases c14 : a1_1.toList = ([] : List UInt8)
    ·rw [if_pos c14] at H
     have c14b0 : (a1_1.toList == ([] : List UInt8)) = true := beq_iff_eq.mpr c14; have c14b1 : (a1_1.toList != ([] : List UInt8)) = false := bne_eq_false_iff_eq.mpr c14; clear c14; have H' := Aside0.mk H; clear H; have hnb15 := NB522_523.out; have hnc15 := NB523_522.out; obtain ⟨hcz16_0, hcz16_1, hfz16_0, hfz16_1⟩ := c2X BK522; obtain ⟨hcz17_0, hcz17_1, hfz17_0, hfz17_1⟩ := c2X BK523; go_wp2; go_meet
     case rel => exact ⟨_, (false), vX, H', ⟨by first | omega | exact Nat.le_refl _⟩, ⟨by (with_reducible repeat (first | refine blk_drewN ?_ _ | refine blk_drew ?_ | refine blk_alloc ?_ _)); exact BK522.out⟩, ⟨by (with_reducible repeat (first | refine blk_drewN ?_ _ | refine blk_drew ?_ | refine blk_alloc ?_ _)); exact BK523.out⟩, ⟨bX2 HB GE522 GE523⟩⟩
    ·rw [if_neg c14] at H
     have c14b0 : (a1_1.toList == ([] : List UInt8)) = false := beq_eq_false_iff_ne.mpr c14; have c14b1 : (a1_1.toList != ([] : List UInt8)) = true := bne_iff_ne.mpr c14; have H' := Aside0.mk H; clear H; have hnb18 := NB522_523.out; have hnc18 := NB523_522.out; obtain ⟨hcz19_0, hcz19_1, hfz19_0, hfz19_1⟩ := c2X BK522; obtain ⟨hcz20_0, hcz20_1, hfz20_0, hfz20_1⟩ := c2X BK523; go_wp2; go_meet
     case rel => exact ⟨_, ((a2_1.toList != ([] : List UInt8))), (by first | rfl | (simp; done) | (simp [*]; done) | (cases a2_1.toList <;> simp; done) | (simp; cases a2_1.toList <;> rfl)), H', ⟨by first | omega | exact Nat.le_refl _⟩, ⟨by (with_reducible repeat (first | refine blk_drewN ?_ _ | refine blk_drew ?_ | refine blk_alloc ?_ _)); exact BK522.out⟩, ⟨by (with_reducible repeat (first | refine blk_drewN ?_ _ | refine blk_drew ?_ | refine blk_alloc ?_ _)); exact BK523.out⟩, ⟨bX2 HB GE522 GE523⟩⟩
   ·rw [if_neg c13] at H
    have c13b0 : (a1_0 == a2_0) = false := beq_eq_false_iff_ne.mpr c13; have c13b1 : (a1_0 != a2_0) = true := bne_iff_ne.mpr c13
    (first | rw [c13b0] | (simp only [i64_w, i32_w]; rw [c13b0]) | skip)
    have H' := Aside0.mk H; clear H; have hnb21 := NB522_523.out; have hnc21 := NB523_522.out; obtain ⟨hcz22_0, hcz22_1, hfz22_0, hfz22_1⟩ := c2X BK522; obtain ⟨hcz23_0, hcz23_1, hfz23_0, hfz23_1⟩ := c2X BK523; go_wp2; go_meet
    case rel => exact ⟨_, (false), vX, H', ⟨by first | omega | exact Nat.le_refl _⟩, ⟨by (with_reducible repeat (first | refine blk_drewN ?_ _ | refine blk_drew ?_ | refine blk_alloc ?_ _)); exact BK522.out⟩, ⟨by (with_reducible repeat (first | refine blk_drewN ?_ _ | refine blk_drew ?_ | refine blk_alloc ?_ _)); exact BK523.out⟩, ⟨bX2 HB GE522 GE523⟩⟩
  case rest =>
   clear HC6
   try clear c1
   try clear c2
   try clear p2
   try clear c4
   try clear c5
   try clear c5b0
   try clear c5b1
   try clear c8
   try clear c9
   try clear c13
   try clear c13b0
   try clear c13b1
   try clear c14
   try clear c14b0
   try clear c14b1
   try clear c15
   try clear c18
   try clear c21
   try clear hcz10_0 hcz10_1
   try clear hcz11_0 hcz11_1
   try clear hcz16_0 hcz16_1
   try clear hcz17_0 hcz17_1
   try clear hcz19_0 hcz19_1
   try clear hcz20_0 hcz20_1
   try clear hcz22_0 hcz22_1
   try clear hcz23_0 hcz23_1
   try clear hfz10_0 hfz10_1
   try clear hfz11_0 hfz11_1
   try clear hfz16_0 hfz16_1
   try clear hfz17_0 hfz17_1
   try clear hfz19_0 hfz19_1
   try clear hfz20_0 hfz20_1
   try clear hfz22_0 hfz22_1
   try clear hfz23_0 hfz23_1
   obtain ⟨kq, x37_5, rfl, HA, HJ5, BK522, BK523, HB⟩ := hcut
   cases kq with
   | zero => exact absurd HA.out (by simp [arbiterref15_TestTypes.j0])
   | succ kj5 =>
    have H := HA.out; clear HA; simp only [arbiterref15_TestTypes.j0] at H
    by_cases c24 : x37_5 = true
    ·subst c24
     have H1 : ((arbiterref06_ByName.f kj5 a0 a1_1).bind fun bt526 => ((arbiterref06_ByName.f kj5 a0 a2_1).bind fun bt528 => ((arbiterref15_Test.f kj5 a0 bt526.1 bt528.1).bind fun bt530 => (some (t524, bt530.2.1, 0))))) = some (r1, r2, r3) := by rw [if_pos rfl] at H; exact H
     clear H; have H := H1; clear H1; replace H := Option.bind_eq_some_iff.mp H; obtain ⟨⟨t526, t527⟩, A250, H⟩ := H; replace H : ((arbiterref06_ByName.f kj5 a0 a2_1).bind fun bt528 => ((arbiterref15_Test.f kj5 a0 t526 bt528.1).bind fun bt530 => (some (t524, bt530.2.1, 0)))) = some (r1, r2, r3) := H; have A25 := Aside0.mk A250; clear A250; replace H := Option.bind_eq_some_iff.mp H; obtain ⟨⟨t528, t529⟩, A260, H⟩ := H; replace H : ((arbiterref15_Test.f kj5 a0 t526 t528).bind fun bt530 => (some (t524, bt530.2.1, 0))) = some (r1, r2, r3) := H; have A26 := Aside0.mk A260; clear A260; replace H := Option.bind_eq_some_iff.mp H; obtain ⟨⟨t530, t531, t532⟩, A270, H⟩ := H; replace H : (some (t524, t531, 0)) = some (r1, r2, r3) := H; have A27 := Aside0.mk A270; clear A270; simp only [Option.some.injEq, Prod.mk.injEq] at H; obtain ⟨rfl, rfl, rfl⟩ := H; have hnb28 := NB522_523.out; have hnc28 := NB523_522.out; obtain ⟨hcz29_0, hcz29_1, hfz29_0, hfz29_1⟩ := c2X BK522; go_wp2_with (first | ((with_reducible refine gate_callee (f := 57) rfl ?_); refine gX (some 42) Tryz.func57 #[.pointer (some ⟨G_, 0, none⟩), .string a1_1] ?_; (with_reducible refine (arbiterref06_ByName.calls kj5 G_ a0 a1_1 t526 t527 _ ?side1 A25.out).mono ?_); (case side1 => repeat (first | (with_reducible exact HQa0.out) | (with_reducible refine ROK.alloc ?_ _) | (with_reducible refine ROK.drewN ?_ _) | (with_reducible refine ROK.drew ?_) | exact ROK.below HQa0.out HB.out | exact ROK.below HQa0.out (bX2 HB GE522 GE523))); rintro e w' ⟨rfl, ⟨nd, rfl⟩⟩; refine ⟨_, rfl, ?_⟩; obtain ⟨hcz30_0, hcz30_1, hfz30_0, hfz30_1⟩ := c2X BK523) | ((with_reducible refine gate_callee (f := 57) rfl ?_); refine gX (some 49) Tryz.func57 #[.pointer (some ⟨G_, 0, none⟩), .string a2_1] ?_; (with_reducible refine (arbiterref06_ByName.calls kj5 G_ a0 a2_1 t528 t529 _ ?side1 A26.out).mono ?_); (case side1 => repeat (first | (with_reducible exact HQa0.out) | (with_reducible refine ROK.alloc ?_ _) | (with_reducible refine ROK.drewN ?_ _) | (with_reducible refine ROK.drew ?_) | exact ROK.below HQa0.out HB.out | exact ROK.below HQa0.out (bX2 HB GE522 GE523))); rintro e w' ⟨rfl, ⟨nd, rfl⟩⟩; refine ⟨_, rfl, ?_⟩) | ((with_reducible refine gate_callee (f := 25) rfl ?_); refine gX (some 56) Tryz.func25 #[.pointer (some ⟨G_, 0, none⟩), .int .i64 t526, .int .i64 t528] ?_; (with_reducible refine (arbiterref15_Test.calls kj5 G_ a0 t526 t528 t530 t531 t532 _ ?side1 A27.out).mono ?_); (case side1 => repeat (first | (with_reducible exact HQa0.out) | (with_reducible refine ROK.alloc ?_ _) | (with_reducible refine ROK.drewN ?_ _) | (with_reducible refine ROK.drew ?_) | exact ROK.below HQa0.out HB.out | exact ROK.below HQa0.out (bX2 HB GE522 GE523))); rintro e w31 ⟨rfl, hb⟩; refine ⟨_, rfl, ?_⟩; have n0_ := Aside0.mk (blk_below (kX BK522) hb); have n1_ := Aside0.mk (blk_below (kX BK523) hb); have n2_ := Aside0.mk (below_step (bX2 HB GE522 GE523) hb); clear BK522; clear BK523; clear HB; have BK522 := n0_; have BK523 := n1_; have HB := n2_; clear n0_ n1_ n2_; (try clear hb); (try clear hb2); (try clear hk); (try clear hi)))
     go_ret3
     exact ⟨by first | rfl | (simp [errW_none, errW_some] <;> rfl) | (simp [*, errW_none, errW_some] <;> rfl), bX2 HB GE522 GE523⟩
    ·replace c24 := Bool.eq_false_iff.mpr c24
     subst c24
     have H1 : (some (t524, 1, 0)) = some (r1, r2, r3) := by rw [if_neg (show ¬ (false = true) by decide)] at H; exact H
     clear H; have H := H1; clear H1; simp only [Option.some.injEq, Prod.mk.injEq] at H; obtain ⟨rfl, rfl, rfl⟩ := H; go_wp2
     go_ret3
     exact ⟨by first | rfl | (simp [errW_none, errW_some] <;> rfl) | (simp [*, errW_none, errW_some] <;> rfl), bX2 HB GE522 GE523⟩
 ·rw [if_neg c5] at H
  have c5b0 : (t525 == 0) = false := beq_eq_false_iff_ne.mpr c5; have c5b1 : (t525 != 0) = true := bne_iff_ne.mpr c5; simp only [Option.some.injEq, Prod.mk.injEq] at H; obtain ⟨rfl, rfl, rfl⟩ := H; go_enter Tryz.func44, Tryz.ntmps44; go_wp2_with (first | ((with_reducible refine gate_dst (N := 4) rfl ?_); refine eX 4 #[.int .i64 a1_0, .string a1_1] 24 ?_; intro gb522 hg w32 hbox hb; have n0_ := Aside0.mk (below_step (bX HB) hb); have n1_ := Aside0.mk (hbox); have n2_ := Aside0.mk ((by rw [hg]; exact (below_size (bX HB)) : w.heap.size ≤ gb522)); have n3_ := Aside0.mk ((by rw [hg]; exact (below_size (bX HB)) : w.heap.size ≤ gb522)); clear HB; have HB := n0_; have BK522 := n1_; have GW522 := n2_; have GE522 := n3_; clear n0_ n1_ n2_ n3_; clear hb hbox hg) | ((with_reducible refine gate_dst (N := 5) rfl ?_); refine eX 5 #[.int .i64 a2_0, .string a2_1] 24 ?_; intro gb523 hg w33 hbox hb; have n0_ := Aside0.mk (blk_below (kX BK522) hb); have n1_ := Aside0.mk (below_step (bX1 HB GE522) hb); have n2_ := Aside0.mk (hbox); have n3_ := Aside0.mk ((by rw [hg]; exact (below_size (bX1 HB GE522)) : w.heap.size ≤ gb523)); have n4_ := Aside0.mk ((by rw [hg]; exact (below_size (bX1 HB GE522)) : w.heap.size ≤ gb523)); have n5_ := Aside0.mk ((by rw [hg]; exact Nat.ne_of_lt (blk_lt (kX BK522)) : gb522 ≠ gb523)); have n6_ := Aside0.mk ((by rw [hg]; exact Nat.ne_of_gt (blk_lt (kX BK522)) : gb523 ≠ gb522)); clear BK522; clear HB; have BK522 := n0_; have HB := n1_; have BK523 := n2_; have GW523 := n3_; have GE523 := n4_; have NB522_523 := n5_; have NB523_522 := n6_; clear n0_ n1_ n2_ n3_ n4_ n5_ n6_; clear hb hbox hg; have hnb34 := NB522_523.out; have hnc34 := NB523_522.out; obtain ⟨hcz35_0, hcz35_1, hfz35_0, hfz35_1⟩ := c2X BK522; obtain ⟨hcz36_0, hcz36_1, hfz36_0, hfz36_1⟩ := c2X BK523) | ((with_reducible refine gate_callee (f := 84) rfl ?_); refine gX (some 17) Tryz.func84 #[.pointer (some ⟨G_, 0, none⟩), .agg #[.int .i64 a1_0, .string a1_1], .agg #[.int .i64 a2_0, .string a2_1]] ?_; (with_reducible refine (arbiterref07_Sub.calls k G_ a0 a1_0 a1_1 a2_0 a2_1 t524 t525 _ ?side1 A4.out).mono ?_); (case side1 => repeat (first | (with_reducible exact HQa0.out) | (with_reducible refine ROK.alloc ?_ _) | (with_reducible refine ROK.drewN ?_ _) | (with_reducible refine ROK.drew ?_) | exact ROK.below HQa0.out HB.out | exact ROK.below HQa0.out (bX2 HB GE522 GE523))); rintro e w37 ⟨rfl, hb⟩; refine ⟨_, rfl, ?_⟩; have n0_ := Aside0.mk (blk_below (kX BK522) hb); have n1_ := Aside0.mk (blk_below (kX BK523) hb); have n2_ := Aside0.mk (below_step (bX2 HB GE522 GE523) hb); clear BK522; clear BK523; clear HB; have BK522 := n0_; have BK523 := n1_; have HB := n2_; clear n0_ n1_ n2_; (try clear hb); (try clear hb2); (try clear hk); (try clear hi)))
  go_ret3
  exact ⟨by first | rfl | (simp [errW_none, errW_some] <;> rfl) | (simp [*, errW_none, errW_some] <;> rfl), bX2 HB GE522 GE523⟩
def arbiterref06_Depth.f (k : Nat) (a0 : List S85) (a1 : Int) : Option (Int × Int) := (arbiterref06_Chain.f k a0 a1).bind fun bt533 => (if bt533.2 = 0 then (some (wrap64 ((bt533.1.length : Int) - 1), 0)) else (some (0, bt533.2)))
def arbiterref15_Deepest.l0 : Nat → List S85 → Int → Int → Option (Int)
 | 0, _, _, _ => none
 | k + 1, x0, x3, x4 => if x4 < (x0.length : Int) then ((arbiterref06_Depth.f k x0 x4).bind fun bt537 => (if bt537.1 > x3 then (arbiterref15_Deepest.l0 k x0 bt537.1 (wrap64 (x4 + 1))) else (arbiterref15_Deepest.l0 k x0 x3 (wrap64 (x4 + 1))))) else (some x3)
def arbiterref15_Deepest.f (k : Nat) (a0 : List S85) : Option (Int) := arbiterref15_Deepest.l0 k a0 0 0
def arbiterref06_SameNums.l0 : Nat → List Int → List Int → Int → Option (Bool)
 | 0, _, _, _ => none
 | k + 1, x0, x1, x5 => if x5 < (x0.length : Int) then (if 0 ≤ x5 then (if x5 < (x1.length : Int) then (if (rd x0 x5) = (rd x1 x5) then (arbiterref06_SameNums.l0 k x0 x1 (wrap64 (x5 + 1))) else (some false)) else (none)) else (none)) else (some true)
def arbiterref06_SameNums.f (k : Nat) (l0 : List Int) (l1 : List Int) : Option (Bool) := if (l0.length : Int) = (l1.length : Int) then (arbiterref06_SameNums.l0 k l0 l1 0) else (some false)
def arbiterref15_Same.f (k : Nat) (l0_0 : List Int) (l0_1 : List Int) (l0_2 : List Int) (l1_0 : List Int) (l1_1 : List Int) (l1_2 : List Int) : Option (Bool) := (arbiterref06_SameNums.f k l0_0 l1_0).bind fun t543 => (if t543 = true then ((arbiterref06_SameNums.f k l0_1 l1_1).bind fun t544 => (if t544 = true then ((arbiterref06_SameNums.f k l0_2 l1_2).bind fun t545 => (some t545)) else (some false))) else (some false))
end Go.Proofs.YtaipkdglhfhhiaaGreatDoor.Pt

namespace Go.Proofs.YtaipkdglhfhhiaaGreatDoor.Pt
open Go Go.RowKit Go.Proofs.YtaipkdglhfhhiaaGreatDoor.Nm Go.Proofs.YtaipkdglhfhhiaaGreatDoor.Ty Go.Proofs.YtaipkdglhfhhiaaGreatDoor.Hi Go.Proofs.YtaipkdglhfhhiaaGreatDoorW.PrintWords
set_option linter.unusedVariables false
set_option linter.unusedSimpArgs false
theorem chk_two (d : Int) (s : ByteArray) : chk d s.data.toList = 0 ∨ chk d s.data.toList = 1 := by
 unfold chk
 by_cases h1 : d < 0 ∨ 255 < d
 ·exact .inr (if_pos h1)
 ·rw [if_neg h1]
  by_cases h2 : s.data.toList ≠ [] ∧ validB (bs s.data.toList) = false
  ·exact .inr (if_pos h2)
  ·exact .inl (if_neg h2)
theorem rload_ok (es : List Ent) (hl : es.length ≤ 1000) (d : Int) (s : ByteArray) (k : Nat) (hk : es.length < k) : arbiterref07_Loaded.f k (csOf es) d s = some (loadF es d s) := by
 unfold arbiterref07_Loaded.f loadF; rw [show arbiterref02_Check.f d s = some (chk d s.data.toList) from rfl, Option.bind_some, byname_ok es hl s k hk, Option.bind_some]
 by_cases h0 : chk d s.data.toList = 0
 ·rw [if_pos h0, if_pos h0]
  by_cases h1 : s.toList = []
  ·rw [if_pos h1, if_pos h1]
  ·rw [if_neg h1, if_neg h1]
   by_cases h2 : (nameF es s).2 = 0
   ·rw [if_pos h2, if_pos h2]
   ·rw [if_neg h2, if_neg h2]
 ·rw [if_neg h0, if_neg h0, (chk_two d s).resolve_left h0]
theorem isint_ok (d : Int) (s : ByteArray) : arbiterref07_IsInt.f d s = some (intT d s) := by
 unfold arbiterref07_IsInt.f intT
 by_cases h : d = 0
 ·rw [if_pos h, beq_iff_eq.2 h, Bool.true_and]
 ·rw [if_neg h, beq_eq_false_iff_ne.2 h, Bool.false_and]
theorem rtop_ok (t : ByteArray) : (if t.toList = ([79, 98, 106, 101, 99, 116] : List UInt8) then (some true) else (if t.toList = ([67, 108, 111, 110, 101, 97, 98, 108, 101] : List UInt8) then (some true) else (some (t.toList == ([83, 101, 114, 105, 97, 108, 105, 122, 97, 98, 108, 101] : List UInt8))))) = some (topB t) := by
 unfold topB
 by_cases c1 : t.toList = ([79, 98, 106, 101, 99, 116] : List UInt8)
 ·rw [if_pos c1, if_pos c1]
 ·rw [if_neg c1, if_neg c1]
  by_cases c2 : t.toList = ([67, 108, 111, 110, 101, 97, 98, 108, 101] : List UInt8)
  ·rw [if_pos c2, if_pos c2]
  ·rw [if_neg c2, if_neg c2]
theorem int_name {d : Int} {s : ByteArray} (h : intT d s = true) : d = 0 ∧ s.toList = [] := by
 unfold intT at h; rw [Bool.and_eq_true] at h
 exact ⟨beq_iff_eq.1 h.1, beq_iff_eq.1 h.2⟩
theorem rred_ok {es : List Ent} (h : Thy es) (hl : es.length ≤ 1000) (a b : Int) (s t : ByteArray) (ha : 0 ≤ a) (hb : 0 ≤ b) (hab : a = 0 ∨ b = 0) (k : Nat) (hk : 30 * es.length + 2020 < k) : arbiterref07_below.f (k + 3) (csOf es) a s b t = some (redF es a s b t) := by
 have hj0 : ∀ x : Bool, x = (intT a s || intT b t) → arbiterref07_below.j0 (k + 2) (csOf es) x a s b t = some (redF es a s b t) := by
  rintro x rfl; rw [arbiterref07_below.j0]; unfold redF
  by_cases hi : (intT a s || intT b t) = true
  ·rw [if_pos hi, if_pos hi, isint_ok, Option.bind_some, isint_ok, Option.bind_some]
   by_cases h1 : intT a s = true
   ·rw [if_pos h1]
    congr 1
    rw [(int_name h1).1, (int_name h1).2]; unfold intT; rw [Bool.eq_iff_iff]; simp only [Bool.and_eq_true, beq_iff_eq]
    exact ⟨fun h => ⟨h.1.symm, h.2.symm⟩, fun h => ⟨h.1.symm, h.2.symm⟩⟩
   ·rw [if_neg h1]
    have h2 : intT b t = true := by
     rw [Bool.or_eq_true] at hi
     exact hi.resolve_left h1
    congr 1
    symm; rw [(int_name h2).1, (int_name h2).2]
    exact Bool.eq_false_iff.2 h1
  ·rw [if_neg hi, if_neg hi]
   by_cases h0 : a = 0
   ·rw [if_pos h0, if_neg (show ¬ a > 0 by omega)]
    by_cases h1 : b = 0
    ·rw [beq_iff_eq.2 h1, arbiterref07_below.j1, if_pos rfl, byname_ok es hl s k (by omega), Option.bind_some, byname_ok es hl t k (by omega), Option.bind_some, ext_ok h hl _ _ k (by omega), Option.bind_some, if_neg (show ¬ b > 0 by omega)]
    ·rw [beq_eq_false_iff_ne.2 h1, arbiterref07_below.j1, if_neg (by decide), if_pos h0, if_pos (show b > 0 by omega)]
   ·have h1 : b = 0 := hab.resolve_left h0
    rw [if_neg h0, arbiterref07_below.j1, if_neg (by decide), if_neg h0, if_pos h1, if_pos (show a > 0 by omega)]
    exact rtop_ok t
 rw [show k + 3 = (k + 2) + 1 by rfl, arbiterref07_below.f, isint_ok, Option.bind_some]
 by_cases h1 : intT a s = true
 ·rw [if_pos h1]
  exact hj0 true (by rw [h1]; rfl)
 ·rw [if_neg h1, isint_ok, Option.bind_some]
  exact hj0 _ (by rw [Bool.eq_false_iff.2 h1]; rfl)
theorem rbelow_ok {es : List Ent} (h : Thy es) (hl : es.length ≤ 1000) (s t : ByteArray) : ∀ (n : Nat) (a b : Int) (k : Nat), 0 ≤ a → 0 ≤ b → a ≤ 255 → b ≤ 255 → min a b ≤ n → 30 * es.length + 2030 + 3 * n < k → arbiterref07_below.f k (csOf es) a s b t = some (belowF es a s b t) := by
 intro n
 induction n with
 | zero =>
  intro a b k ha hb ha2 hb2 hn hk
  obtain ⟨k, rfl⟩ : ∃ m, k = m + 3 := ⟨k - 3, by omega⟩
  rw [rred_ok h hl a b s t ha hb (by omega) k (by omega)]; unfold belowF; rw [show min a b = 0 by omega, Int.sub_zero, Int.sub_zero]
 | succ n ih =>
  intro a b k ha hb ha2 hb2 hn hk
  obtain ⟨k, rfl⟩ : ∃ m, k = m + 3 := ⟨k - 3, by omega⟩
  by_cases hz : a = 0 ∨ b = 0
  ·rw [rred_ok h hl a b s t ha hb hz k (by omega)]
   unfold belowF; rw [show min a b = 0 by omega, Int.sub_zero, Int.sub_zero]
  ·have h0 : ¬ a = 0 := fun e => hz (.inl e)
   have h1 : ¬ b = 0 := fun e => hz (.inr e)
   have i0 : intT a s = false := by unfold intT; rw [beq_eq_false_iff_ne.2 h0, Bool.false_and]
   have i1 : intT b t = false := by unfold intT; rw [beq_eq_false_iff_ne.2 h1, Bool.false_and]
   rw [arbiterref07_below.f, isint_ok, i0, Option.bind_some, if_neg (by decide), isint_ok, i1, Option.bind_some, arbiterref07_below.j0, if_neg (by decide), if_neg h0, arbiterref07_below.j1, if_neg (by decide), if_neg h0, if_neg h1]; rw [show arbiterref07_lower.f a s = some (wrap64 (a - 1), s) from rfl, show arbiterref07_lower.f b t = some (wrap64 (b - 1), t) from rfl, Option.bind_some, Option.bind_some]; rw [show wrap64 (a - 1) = a - 1 by unfold wrap64; omega, show wrap64 (b - 1) = b - 1 by unfold wrap64; omega]; rw [ih (a - 1) (b - 1) k (by omega) (by omega) (by omega) (by omega) (by omega) (by omega), Option.bind_some]; unfold belowF; rw [show a - 1 - min (a - 1) (b - 1) = a - min a b by omega, show b - 1 - min (a - 1) (b - 1) = b - min a b by omega]
theorem rsub_ok {es : List Ent} (h : Thy es) (hl : es.length ≤ 1000) (a b : Int) (s t : ByteArray) (k : Nat) (hk : 30 * es.length + 3000 < k) : arbiterref07_Sub.f k (csOf es) a s b t = some (subF es a s b t) := by
 unfold arbiterref07_Sub.f subF; rw [rload_ok es hl a s k (by omega), Option.bind_some]
 by_cases h1 : loadF es a s = 0
 ·rw [if_pos h1, if_neg (fun h => h h1), rload_ok es hl b t k (by omega), Option.bind_some]
  by_cases h2 : loadF es b t = 0
  ·obtain ⟨s1, s2, s3⟩ := load_size h1
   obtain ⟨t1, t2, t3⟩ := load_size h2; rw [if_pos h2, if_neg (fun h3 => h3 h2), rbelow_ok h hl s t 255 a b k s2 t2 s3 t3 (by omega) (by omega), Option.bind_some]
  ·rw [if_neg h2, if_pos h2]
 ·rw [if_neg h1, if_pos h1]
end Go.Proofs.YtaipkdglhfhhiaaGreatDoor.Pt

namespace Go.Proofs.YtaipkdglhfhhiaaGreatDoor.Hi
open Go Go.RowKit Go.Proofs.YtaipkdglhfhhiaaGreatDoor.Nm Go.Proofs.YtaipkdglhfhhiaaGreatDoorW.PrintWords Go.Proofs.YtaipkdglhfhhiaaGreatDoorW.PrintLast Go.Proofs.YtaipkdglhfhhiaaGreatDoorW.PrintMore Go.Proofs.YtaipkdglhfhhiaaGreatDoor.Pt
set_option linter.unusedVariables false
set_option linter.unusedSimpArgs false
set_option maxRecDepth 100000
def superF (es : List Ent) (i : Int) : Int × Int := if 0 ≤ i ∧ i < es.length then (if (ent es i).above < 0 then (0, 6) else ((ent es i).above, 0)) else (0, 3)
def depthF (es : List Ent) (i : Int) : Int × Int := if 0 ≤ i ∧ i < es.length then ((ent es i).depth, 0) else (0, 3)
def closureF (es : List Ent) (i : Int) : List Int × Int := if 0 ≤ i ∧ i < es.length then ((ent es i).clo, 0) else ([], 3)
def chainF (es : List Ent) (i : Int) : List Int × Int := if 0 ≤ i ∧ i < es.length then (chL es i, 0) else ([], 3)
def rcL (es : List Ent) (i : Int) : List Int := (chL es i).reverse
def buildF (es : List Ent) (i : Int) : List Int × List Int × List Int × Int := if 0 ≤ i ∧ i < es.length then ((rcL es i).take 8, (rcL es i).drop 8, (ent es i).clo, 0) else ([], [], [], 3)
def atF (p q : List Int) (d : Int) : Int := if d < p.length then p.getD d.toNat 0 else if 8 ≤ d ∧ d - 8 < q.length then q.getD (d - 8).toNat 0 else -1
def scanN (t : Int) : List Int → Int
 | [] => 0
 | x :: l => if x = t then 1 else 1 + scanN t l
def lookF (es : List Ent) (s t : Int) : Bool × Int :=
 if isI (ent es t).c = true ∧ s = t then (true, 1)
 else if isI (ent es t).c = false then (atF (buildF es s).1 (buildF es s).2.1 (ent es t).depth == t, 1)
 else (decide (t ∈ (ent es s).clo), 1 + scanN t (ent es s).clo)
def testF (es : List Ent) (s t : Int) : Bool × Int × Int :=
 if 0 ≤ s ∧ s < es.length then (if 0 ≤ t ∧ t < es.length then ((lookF es s t).1, (lookF es s t).2, 0) else (false, 0, 3)) else (false, 0, 3)
def ttF (es : List Ent) (a : Int) (s : ByteArray) (b : Int) (t : ByteArray) : Bool × Int × Int :=
 if (subF es a s b t).2 ≠ 0 then (false, 0, (subF es a s b t).2)
 else if a ≠ b ∨ s.toList = [] ∨ t.toList = [] then ((subF es a s b t).1, 1, 0)
 else testF es (nameF es s).1 (nameF es t).1
theorem atF_split (l : List Int) {d : Int} (h0 : 0 ≤ d) : atF (l.take 8) (l.drop 8) d = if d < l.length then l.getD d.toNat 0 else -1 := by
 unfold atF; rw [List.length_take, List.length_drop]
 by_cases h1 : d < 8
 ·by_cases h2 : d < l.length
  ·rw [if_pos (by omega), if_pos h2, List.getD_eq_getElem?_getD, List.getD_eq_getElem?_getD, List.getElem?_take_of_lt (by omega)]
  ·rw [if_neg (by omega), if_neg (by omega), if_neg h2]
 ·by_cases h2 : d < l.length
  ·rw [if_neg (by omega), if_pos (by omega), if_pos h2, List.getD_eq_getElem?_getD, List.getD_eq_getElem?_getD, List.getElem?_drop, show 8 + (d - 8).toNat = d.toNat by omega]
  ·rw [if_neg (by omega), if_neg (by omega), if_neg h2]
theorem scanN_le (t : Int) : ∀ l : List Int, 0 ≤ scanN t l ∧ scanN t l ≤ l.length
 | [] => ⟨Int.le_refl _, Int.le_refl _⟩
 | x :: l => by
  have := scanN_le t l; rw [scanN, List.length_cons]
  split <;> omega
theorem look_ext {es : List Ent} (h : Thy es) {s t : Int} (hs0 : 0 ≤ s) (hs1 : s < es.length) (ht0 : 0 ≤ t) (ht1 : t < es.length) : (lookF es s t).1 = extF es s t := by
 have ht := h.good.tree; unfold lookF extF inB; rw [decide_eq_true (⟨hs0, hs1⟩ : 0 ≤ s ∧ s < (es.length : Int)), decide_eq_true (⟨ht0, ht1⟩ : 0 ≤ t ∧ t < (es.length : Int))]
 cases hi : isI (ent es t).c with
 | true =>
  by_cases he : s = t
  ·rw [if_pos ⟨rfl, he⟩]
   simp [he]
  ·rw [if_neg (fun h2 => he h2.2), if_neg (by decide)]
   simp [he]
 | false =>
  rw [if_neg (fun h2 => by cases h2.1), if_pos rfl]; have hd := ht.depth_ ht0 ht1; unfold buildF; rw [if_pos ⟨hs0, hs1⟩]
  show (atF ((rcL es s).take 8) ((rcL es s).drop 8) (ent es t).depth == t) = _
  rw [atF_split _ hd.1]; have hl := chL_len ht hs0 hs1
  have hrl : ((rcL es s).length : Int) = (ent es s).depth + 1 := by rw [rcL, List.length_reverse]; exact hl
  simp only [Bool.and_self, if_true, Bool.false_eq_true, if_false]
  by_cases hle : (ent es t).depth ≤ (ent es s).depth
  ·have ha := chL_at ht hs0 hs1 (ent es t).depth.toNat (by omega)
   rw [if_pos (by omega), List.getD_eq_getElem?_getD, rcL, ha, show ((ent es t).depth.toNat : Int) = (ent es t).depth by omega]
   rfl
  ·rw [if_neg (by omega), climb_end (by omega)]
   have h1 : (-1 == t) = false := beq_eq_false_iff_ne.2 (by omega); have h2 : (s == t) = false := beq_eq_false_iff_ne.2 (fun e => by rw [e] at hle; omega); rw [h1, h2]
theorem look_reads {es : List Ent} (s t : Int) : 1 ≤ (lookF es s t).2 ∧ (lookF es s t).2 ≤ (ent es s).clo.length + 1 ∧ (isI (ent es t).c = false → (lookF es s t).2 = 1) := by
 have := scanN_le t (ent es s).clo; unfold lookF
 split
 ·exact ⟨Int.le_refl _, by omega, fun _ => rfl⟩
 ·split
  ·exact ⟨Int.le_refl _, by omega, fun _ => rfl⟩
  ·rename_i h2
   exact ⟨by omega, by omega, fun h3 => absurd h3 h2⟩
theorem test_in {es : List Ent} (h : Thy es) {s t : Int} (hs : 0 ≤ s ∧ s < es.length) (ht : 0 ≤ t ∧ t < es.length) : testF es s t = (extF es s t, (lookF es s t).2, 0) := by
 unfold testF; rw [if_pos hs, if_pos ht, look_ext h hs.1 hs.2 ht.1 ht.2]
theorem tt_sub {es : List Ent} (h : Thy es) (a : Int) (s : ByteArray) (b : Int) (t : ByteArray) : (ttF es a s b t).1 = (subF es a s b t).1 ∧ (ttF es a s b t).2.2 = (subF es a s b t).2 ∧ ((subF es a s b t).2 = 0 → 1 ≤ (ttF es a s b t).2.1) := by
 unfold ttF
 by_cases he : (subF es a s b t).2 = 0
 ·rw [if_neg (fun h => h he)]
  by_cases hc : a ≠ b ∨ s.toList = [] ∨ t.toList = []
  ·rw [if_pos hc]
   exact ⟨rfl, he.symm, fun _ => Int.le_refl _⟩
  ·rw [if_neg hc]
   have hab : a = b := Classical.byContradiction fun e => hc (.inl e); have hs : s.toList ≠ [] := fun e => hc (.inr (.inl e)); have htt : t.toList ≠ [] := fun e => hc (.inr (.inr e))
   have h1 : loadF es a s = 0 := by
    apply Classical.byContradiction
    intro h1; unfold subF at he; rw [if_pos h1] at he
    exact h1 he
   have h2 : loadF es b t = 0 := by
    apply Classical.byContradiction
    intro h2; unfold subF at he; rw [if_neg (fun h => h h1), if_pos h2] at he
    exact h2 he
   have hsb : subF es a s b t = (belowF es a s b t, 0) := by
    unfold subF; rw [if_neg (fun h => h h1), if_neg (fun h => h h2)]
   obtain ⟨s0, s1, _⟩ := name_at h1 hs; obtain ⟨t0, t1, _⟩ := name_at h2 htt; rw [test_in h ⟨s0, s1⟩ ⟨t0, t1⟩, hsb]; refine ⟨?_, rfl, fun _ => (look_reads _ _).1⟩; subst hab
   show _ = belowF es a s a t
   unfold belowF redF; rw [show a - min a a = 0 by omega]
   have i1 : intT 0 s = false := by unfold intT; rw [beq_eq_false_iff_ne.2 hs, Bool.and_false]
   have i2 : intT 0 t = false := by unfold intT; rw [beq_eq_false_iff_ne.2 htt, Bool.and_false]
   simp [i1, i2]
 ·rw [if_pos he]
  refine ⟨?_, rfl, fun h => absurd h he⟩; unfold subF at he ⊢
  by_cases h1 : loadF es a s = 0
  ·rw [if_neg (fun h => h h1)] at he ⊢
   by_cases h2 : loadF es b t = 0
   ·rw [if_neg (fun h => h h2)] at he
    exact absurd rfl he
   ·rw [if_pos h2]
  ·rw [if_pos h1]
end Go.Proofs.YtaipkdglhfhhiaaGreatDoor.Hi

namespace Go.Proofs.YtaipkdglhfhhiaaGreatDoor.Hi
open Go Go.RowKit Go.Proofs.YtaipkdglhfhhiaaGreatDoor.Nm Go.Proofs.YtaipkdglhfhhiaaGreatDoorW.PrintWords Go.Proofs.YtaipkdglhfhhiaaGreatDoorW.PrintLast Go.Proofs.YtaipkdglhfhhiaaGreatDoorW.PrintMore Go.Proofs.YtaipkdglhfhhiaaGreatDoor.Pt
set_option linter.unusedVariables false
set_option linter.unusedSimpArgs false
set_option maxHeartbeats 2000000
set_option maxRecDepth 100000
theorem depth_any (w : World) (g : Nat) (es : List Ent) (hq : WOK w g es) (i : Int) :
  Calls Tryz.prog 75 #[.pointer (some ⟨g, 0, none⟩), .int .i64 i] w fun e w' => e = .returned (.tuple #[.int .i64 (depthF es i).1, .int .i64 (depthF es i).2]) ∧ Below w.heap.size w w' := by
 generalize hV : depthF es i = V; replace hV := Lib.hid hV; unfold depthF at hV
 by_cases hi : 0 ≤ i ∧ i < es.length
 ·obtain ⟨p, A2, c2, A5, c5, A8, c8, hb, l2, g2, l5, g5, l8, R8, HA⟩ := at_in hq hi.1 hi.2
  rw [if_pos hi] at hV; have CA := Lib.hid (HA w (Below.refl _ _)); generalize ent es i = x at *; replace hb := Lib.hid hb; have hz := hV.out; subst hz; clear HA hq l2 g2 l5 g5 l8 R8 hV; go_enter Tryz.func75, Tryz.ntmps75; go_wp2_with fail; refine CA.out.mono ?_; rintro e w1 ⟨rfl, hb1⟩; have p7 : w1.cell? ⟨p, 7, none⟩ = some (.int .i64 x.depth) := (blk_cell (blk_below hb.out hb1) 7).trans rfl; replace hb1 := Lib.hid hb1; clear CA; go_wp2; go_ret2
  exact ⟨rfl, hb1.out⟩
 ·have CA := Lib.hid (at_out hq hi w (Below.refl _ _))
  rw [if_neg hi] at hV; have hz := hV.out; subst hz; clear hq hV; go_enter Tryz.func75, Tryz.ntmps75; go_wp2_with fail; refine CA.out.mono ?_; rintro e w1 ⟨rfl, hb1⟩; replace hb1 := Lib.hid hb1; clear CA; go_wp2; go_ret2
  exact ⟨rfl, hb1.out⟩
theorem closure_any (w : World) (g : Nat) (es : List Ent) (hq : WOK w g es) (i : Int) :
  Calls Tryz.prog 71 #[.pointer (some ⟨g, 0, none⟩), .int .i64 i] w fun e w' => ∃ v, e = .returned (.tuple #[v, .int .i64 (closureF es i).2]) ∧ Kd.R (Kd.int .i64) 3 w' w.heap.size (fun _ => True) v (closureF es i).1 ∧ Below w.heap.size w w' := by
 generalize hV : closureF es i = V; replace hV := Lib.hid hV; unfold closureF at hV
 by_cases hi : 0 ≤ i ∧ i < es.length
 ·have hcl := (hq.fine _ (List.mem_of_getElem? (get_ent hi.1 hi.2))).2.2
  obtain ⟨p, A2, c2, A5, c5, A8, c8, hb, l2, g2, l5, g5, l8, ⟨base, R8⟩, HA⟩ := at_in hq hi.1 hi.2; rw [if_pos hi] at hV; have CA := Lib.hid (HA w (Below.refl _ _)); generalize ent es i = x at *; have CL := Lib.hid (fun (W : World) (hb : Below w.heap.size w W) => cloneInt A8 c8 x.clo W (Kd.C_below (Kd.R_reads' R8).2.2 hb) (by omega)); replace hb := Lib.hid hb; have hz := hV.out; subst hz; clear HA hq l2 g2 l5 g5 l8 R8 hV; go_enter Tryz.func71, Tryz.ntmps71; go_wp2_with fail; refine CA.out.mono ?_; rintro e w1 ⟨rfl, hb1⟩; have p8 : w1.cell? ⟨p, 8, none⟩ = some (.slice A8 x.clo.length c8) := (blk_cell (blk_below hb.out hb1) 8).trans rfl; have C2 := Lib.hid (CL.out w1 hb1); replace hb1 := Lib.hid hb1; clear CA CL; go_wp2_with fail; refine C2.out.mono ?_; rintro e w2 ⟨v, rfl, R2, hb2⟩; obtain ⟨A9, c9, rfl⟩ := Kd.R_slice R2; have R3 := Lib.hid (Kd.R_lower R2 hb1.out.size); replace hb2 := Lib.hid hb2; clear C2 R2; go_wp2; go_ret2
  exact ⟨_, rfl, R3.out, hb1.out.trans (hb2.out.mono hb1.out.size)⟩
 ·have CA := Lib.hid (at_out hq hi w (Below.refl _ _))
  rw [if_neg hi] at hV; have hz := hV.out; subst hz; clear hq hV; go_enter Tryz.func71, Tryz.ntmps71; go_wp2_with fail; refine CA.out.mono ?_; rintro e w1 ⟨rfl, hb1⟩; replace hb1 := Lib.hid hb1; clear CA; go_wp2; go_ret2
  exact ⟨_, rfl, Kd.R_nil _ _ _ _ _, hb1.out⟩
theorem chain_any (w : World) (g : Nat) (es : List Ent) (hq : WOK w g es) (i : Int) :
  Calls Tryz.prog 69 #[.pointer (some ⟨g, 0, none⟩), .int .i64 i] w fun e w' => ∃ v, e = .returned (.tuple #[v, .int .i64 (chainF es i).2]) ∧ Kd.R (Kd.int .i64) 3 w' w.heap.size (fun _ => True) v (chainF es i).1 ∧ Below w.heap.size w w' := by
 generalize hV : chainF es i = V; replace hV := Lib.hid hV; unfold chainF at hV
 by_cases hi : 0 ≤ i ∧ i < es.length
 ·obtain ⟨p, A2, c2, A5, c5, A8, c8, hb, l2, g2, l5, g5, l8, _, HA⟩ := at_in hq hi.1 hi.2
  rw [if_pos hi] at hV; have CA := Lib.hid (HA w (Below.refl _ _)); have HW := Lib.hid hq; have hlen := hq.len; have hz := hV.out; subst hz; clear HA hb l2 g2 l5 g5 l8 hV; have hgl := Lib.hid hq.inn; clear hq; go_enter Tryz.func69, Tryz.ntmps69; go_wp2
  go_step3
  go_wp2_with fail; refine CA.out.mono ?_; rintro e w1 ⟨rfl, hb1⟩; replace hb1 := Lib.hid hb1; clear CA; go_wp2
  go_step3
  go_wp2
  go_loopw [1, 6] (fun v1 v6 wr => ∃ (c : Int) (acc : List Int), v1 = .int .i64 c ∧ Hid (0 ≤ c ∧ c < es.length) ∧ Hid (Kd.R (Kd.int .i64) 3 wr w.heap.size (fun _ => True) v6 acc) ∧ Hid (acc ++ chL es c = chL es i) ∧ Hid (acc.length + c.toNat ≤ i.toNat) ∧ Hid (Below w.heap.size w wr)) (fun v1 _ _ => (intOf v1).toNat)
  case atStart => exact ⟨i, [], rfl, Lib.hid hi, Lib.hid (Kd.R_nil _ _ _ _ _), Lib.hid rfl, Lib.hid (by simp), hb1⟩
  case round =>
   clear hb1; obtain ⟨c, acc, rfl, hc, hR, hA, hL, hbr⟩ := hrel; obtain ⟨Aa, ca, rfl⟩ := Kd.R_slice hR.out
   have hll : acc.length ≤ 1000 := by
    have h1 := hL.out; have h2 := hc.out
    omega
   obtain ⟨base, v, mb, ps, h⟩ := hgl.out; obtain ⟨Av, cv, rfl⟩ := Kd.R_slice h.row; obtain ⟨hnl, ad, p2, A2', c2', A5', c5', A8', c8', rfl, hrow, hent, _, _, _⟩ := WIn_all_at h hc.out.1 hc.out.2; have hg0 : w.cell? ⟨g, 0, none⟩ = some (.slice (some ad) ps.length cv) := (blk_cell h.blk 0).trans rfl; have u6 : w.cell? ⟨p2, 6, none⟩ = some (.int .i64 (ent es c).above) := (blk_cell hent 6).trans rfl
   have hlt2 : c < (ps.length : Int) := by have := hc.out.2; omega
   have hge2 : 0 ≤ c := hc.out.1; have HT := Lib.hid HW.out.tree; replace hg0 := Lib.hid hg0; replace hrow := Lib.hid hrow; replace u6 := Lib.hid u6; clear h hent; have hll2 : Hid ((acc ++ [c]).length = acc.length + 1) := Lib.hid (by simp)
   by_cases ha : (ent es c).above < 0
   ·have hd : decide ((ent es c).above < 0) = true := decide_eq_true ha
    have hF : Hid (acc ++ [c] = chL es i) := Lib.hid (by rw [← hA.out, chL_top HT.out hc.out.1 hc.out.2 ha]); clear hA; generalize (ent es c).above = ab at *; clear ha; go_wp2_with (at_builtin; refine Kd.R_append (Kd.int .i64) (w0 := w) (W := wr) w.heap.size rfl (.tmp 11) (.tmp 13) 49 3 (.int .i64 0) 8 rfl Tryz.underlying49 info_int rfl (by decide) (by omega) _ acc c [.int .i64 c] (fun _ => True) (fun _ => False) rfl rfl rfl (fun _ h => h.elim) (fun _ _ => trivial) hR.out hbr.out hbr.out.size (by omega) ?_; intro v1 w4 g1 g2 g3 g4; obtain ⟨A12, c12, rfl⟩ := Kd.R_slice g1; rw [hll2.out] at g1; replace g1 := Lib.hid g1; replace g2 := Lib.hid g2; clear g3 g4; have y0 := pw_cell_below g2.out hg0.out; have y1 := pw_cell_below g2.out hrow.out; have y2 := pw_cell_below g2.out u6.out); rw [Exit.noGoto_ret]; go_ret2
    exact ⟨_, rfl, by rw [← hF.out]; exact g1.out, g2.out⟩
   ·have hd : decide ((ent es c).above < 0) = false := decide_eq_false ha
    obtain ⟨e1, e2, e3⟩ := chL_step HT.out hc.out.1 hc.out.2 ha; have hF : Hid ((acc ++ [c]) ++ chL es (ent es c).above = chL es i) := Lib.hid (by rw [← hA.out, e1]; simp); have nr : Hid (0 ≤ (ent es c).above ∧ (ent es c).above < es.length) := Lib.hid ⟨e2, by have := hc.out.2; omega⟩; have nl : Hid ((acc ++ [c]).length + (ent es c).above.toNat ≤ i.toNat) := Lib.hid (by rw [hll2.out]; have := hL.out; omega); clear hA e1; generalize (ent es c).above = ab at *; clear ha; go_wp2_with (at_builtin; refine Kd.R_append (Kd.int .i64) (w0 := w) (W := wr) w.heap.size rfl (.tmp 11) (.tmp 13) 49 3 (.int .i64 0) 8 rfl Tryz.underlying49 info_int rfl (by decide) (by omega) _ acc c [.int .i64 c] (fun _ => True) (fun _ => False) rfl rfl rfl (fun _ h => h.elim) (fun _ _ => trivial) hR.out hbr.out hbr.out.size (by omega) ?_; intro v1 w4 g1 g2 g3 g4; obtain ⟨A12, c12, rfl⟩ := Kd.R_slice g1; rw [hll2.out] at g1; replace g1 := Lib.hid g1; replace g2 := Lib.hid g2; clear g3 g4; have y0 := pw_cell_below g2.out hg0.out; have y1 := pw_cell_below g2.out hrow.out; have y2 := pw_cell_below g2.out u6.out)
    exact ⟨⟨ab, acc ++ [c], rfl, nr, g1, hF, nl, g2⟩, by simp [intOf]; omega⟩
 ·have CA := Lib.hid (at_out hq hi w (Below.refl _ _))
  rw [if_neg hi] at hV; have hz := hV.out; subst hz; clear hq hV; go_enter Tryz.func69, Tryz.ntmps69; go_wp2
  go_step3
  go_wp2_with fail; refine CA.out.mono ?_; rintro e w1 ⟨rfl, hb1⟩; replace hb1 := Lib.hid hb1; clear CA; go_wp2; rw [Exit.noGoto_ret]; go_ret2
  exact ⟨_, rfl, Kd.R_nil _ _ _ _ _, hb1.out⟩
end Go.Proofs.YtaipkdglhfhhiaaGreatDoor.Hi

namespace Go.Proofs.YtaipkdglhfhhiaaGreatDoor.Pt
open Go Go.RowKit Go.Proofs.YtaipkdglhfhhiaaGreatDoor.Nm Go.Proofs.YtaipkdglhfhhiaaGreatDoor.Hi Go.Proofs.YtaipkdglhfhhiaaGreatDoorW.PrintWords Go.Proofs.YtaipkdglhfhhiaaGreatDoorW.PrintLast Go.Proofs.YtaipkdglhfhhiaaGreatDoorW.PrintMore
set_option linter.unusedVariables false
set_option linter.unusedSimpArgs false
def hier_World_Len.f (a0 : List Hi.Ent) : Option Int := some (a0.length : Int)
def hier_World_Super.f (a0 : List Hi.Ent) (a1 : Int) : Option (Int × Int) := some (superF a0 a1)
def hier_World_Depth.f (a0 : List Hi.Ent) (a1 : Int) : Option (Int × Int) := some (depthF a0 a1)
theorem hier_World_Depth.calls (G_ : Nat) (a0 : List Hi.Ent) (a1 : Int) (r1 : Int) (r2 : Int) (w : World) (hq0 : WOK w G_ a0) (h : hier_World_Depth.f a0 a1 = some (r1, r2)) :
  Calls Tryz.prog 75 #[.pointer (some ⟨G_, 0, none⟩), .int .i64 a1] w fun e w' => e = .returned (.tuple #[.int .i64 r1, .int .i64 r2]) ∧ Below w.heap.size w w' := by
 have h := Option.some.inj h
 obtain rfl : (depthF a0 a1).1 = r1 := by rw [h]
 obtain rfl : (depthF a0 a1).2 = r2 := by rw [h]
 exact depth_any w G_ a0 hq0 a1
def hier_World_Closure.f (a0 : List Hi.Ent) (a1 : Int) : Option (List Int × Int) := some (closureF a0 a1)
theorem hier_World_Closure.calls (G_ : Nat) (a0 : List Hi.Ent) (a1 : Int) (r1 : List Int) (r2 : Int) (w : World) (hq0 : WOK w G_ a0) (h : hier_World_Closure.f a0 a1 = some (r1, r2)) :
  Calls Tryz.prog 71 #[.pointer (some ⟨G_, 0, none⟩), .int .i64 a1] w fun e w' => ∃ v0_ : Value, e = .returned (.tuple #[v0_, .int .i64 r2]) ∧ Kd.R (Kd.int .i64) 3 w' w.heap.size (fun _ => True) v0_ r1 ∧ Below w.heap.size w w' := by
 have h := Option.some.inj h
 obtain rfl : (closureF a0 a1).1 = r1 := by rw [h]
 obtain rfl : (closureF a0 a1).2 = r2 := by rw [h]
 exact closure_any w G_ a0 hq0 a1
def hier_World_Chain.f (a0 : List Hi.Ent) (a1 : Int) : Option (List Int × Int) := some (chainF a0 a1)
theorem hier_World_Chain.calls (G_ : Nat) (a0 : List Hi.Ent) (a1 : Int) (r1 : List Int) (r2 : Int) (w : World) (hq0 : WOK w G_ a0) (h : hier_World_Chain.f a0 a1 = some (r1, r2)) :
  Calls Tryz.prog 69 #[.pointer (some ⟨G_, 0, none⟩), .int .i64 a1] w fun e w' => ∃ v0_ : Value, e = .returned (.tuple #[v0_, .int .i64 r2]) ∧ Kd.R (Kd.int .i64) 3 w' w.heap.size (fun _ => True) v0_ r1 ∧ Below w.heap.size w w' := by
 have h := Option.some.inj h
 obtain rfl : (chainF a0 a1).1 = r1 := by rw [h]
 obtain rfl : (chainF a0 a1).2 = r2 := by rw [h]
 exact chain_any w G_ a0 hq0 a1
def slices_Clone_int_int.f (l0 : List Int) : Option (List Int) := if l0.length ≤ 1000000 then some l0 else none
theorem slices_Clone_int_int.calls (A0 : Option Addr) (c0 : Nat) (l0 : List Int) (r : List Int) (w : World) (hr0 : Kd.C (Kd.int .i64) w A0 l0.length l0) (hc0 : l0.length ≤ c0) (h : slices_Clone_int_int.f l0 = some r) :
  Calls Tryz.prog 72 #[.slice A0 l0.length c0] w fun e w' => ∃ v_ : Value, e = .returned v_ ∧ Kd.R (Kd.int .i64) 3 w' w.heap.size (fun _ => True) v_ r ∧ Below w.heap.size w w' := by
 obtain ⟨hl, h⟩ := if_some h; obtain rfl := Option.some.inj h
 exact cloneInt A0 c0 l0 w hr0 (by omega)
end Go.Proofs.YtaipkdglhfhhiaaGreatDoor.Pt

namespace Go.Proofs.YtaipkdglhfhhiaaGreatDoor.Pt
open Go.RowKit Go.Proofs.YtaipkdglhfhhiaaGreatDoorW.PrintWords Go.Proofs.YtaipkdglhfhhiaaGreatDoorW.PrintLast Go.Proofs.YtaipkdglhfhhiaaGreatDoorW.PrintMore
attribute [local go_sem] max2_int min2_int max_two min_two max_three min_three max_four min_four   -- for this text's walks alone
set_option linter.unusedVariables false
set_option linter.unusedSimpArgs false
def display_at.f (l0_0 : List Int) (l0_1 : List Int) (l0_2 : List Int) (a1 : Int) : Option (Int) := if a1 < (l0_0.length : Int) then (if 0 ≤ a1 then (some (rd l0_0 a1)) else (none)) else (if a1 ≥ 8 then (if (wrap64 (a1 - 8)) < (l0_1.length : Int) then (if 0 ≤ (wrap64 (a1 - 8)) then (some (rd l0_1 (wrap64 (a1 - 8)))) else (none)) else (some (-1))) else (some (-1)))
set_option maxHeartbeats 8000000 in
set_option maxRecDepth 100000 in
theorem display_at.calls (A0_0 : Option Addr) (c0_0 : Nat) (l0_0 : List Int) (A0_1 : Option Addr) (c0_1 : Nat) (l0_1 : List Int) (A0_2 : Option Addr) (c0_2 : Nat) (l0_2 : List Int) (a1 : Int) (r : Int) (w : World) (hr0_0 : Kd.C (Kd.int .i64) w A0_0 l0_0.length l0_0) (hc0_0 : l0_0.length ≤ c0_0) (hr0_1 : Kd.C (Kd.int .i64) w A0_1 l0_1.length l0_1) (hc0_1 : l0_1.length ≤ c0_1) (hr0_2 : Kd.C (Kd.int .i64) w A0_2 l0_2.length l0_2) (hc0_2 : l0_2.length ≤ c0_2) (h : display_at.f l0_0 l0_1 l0_2 a1 = some r) :
  Calls Tryz.prog 104 #[.agg #[.slice A0_0 l0_0.length c0_0, .slice A0_1 l0_1.length c0_1, .slice A0_2 l0_2.length c0_2], .int .i64 a1] w fun e w' => e = .returned (.int .i64 r) ∧ Below w.heap.size w w' := by
 have hu51 := Tryz.underlying51; have HR0_0 := Aside0.mk hr0_0; have HC0_0 := Aside0.mk hc0_0; clear hr0_0 hc0_0; have HR0_1 := Aside0.mk hr0_1; have HC0_1 := Aside0.mk hc0_1; clear hr0_1 hc0_1; have HR0_2 := Aside0.mk hr0_2; have HC0_2 := Aside0.mk hc0_2; clear hr0_2 hc0_2; have HB := Aside0.mk (Below.refl w.heap.size w); have H : (if a1 < (l0_0.length : Int) then (if 0 ≤ a1 then (some (rd l0_0 a1)) else (none)) else (if a1 ≥ 8 then (if (wrap64 (a1 - 8)) < (l0_1.length : Int) then (if 0 ≤ (wrap64 (a1 - 8)) then (some (rd l0_1 (wrap64 (a1 - 8)))) else (none)) else (some (-1))) else (some (-1)))) = some r := h; clear h
 by_cases c3 : a1 < (l0_0.length : Int)
 ·rw [if_pos c3] at H
  have c3b0 : decide (a1 < (l0_0.length : Int)) = true := decide_eq_true c3; clear c3
  by_cases c4 : 0 ≤ a1
  ·rw [if_pos c4] at H
   have c4b0 : decide (0 ≤ a1) = true := decide_eq_true c4; clear c4; obtain rfl := Option.some.inj H; go_enter Tryz.func104, Tryz.ntmps104; go_wp2_with (first | ((with_reducible refine gate_dst (N := 2) rfl ?_); (try (refine gate_guard (by rfl) ?_; dsimp only)); refine eX 2 #[.slice A0_0 l0_0.length c0_0, .slice A0_1 l0_1.length c0_1, .slice A0_2 l0_2.length c0_2] 51 ?_; intro gb425 hg w5 hbox hb; have n0_ := Aside0.mk (below_step (bX HB) hb); have n1_ := Aside0.mk (hbox); have n2_ := Aside0.mk ((by rw [hg]; exact (below_size (bX HB)) : w.heap.size ≤ gb425)); have n3_ := Aside0.mk ((by rw [hg]; exact (below_size (bX HB)) : w.heap.size ≤ gb425)); clear HB; have HB := n0_; have BK425 := n1_; have GW425 := n2_; have GE425 := n3_; clear n0_ n1_ n2_ n3_; clear hb hbox hg; obtain ⟨hcz6_0, hcz6_1, hcz6_2, hfz6_0, hfz6_1, hfz6_2⟩ := c3X BK425; have p426 : 0 ≤ (a1 : Int) := qX; have q426 : a1 < (l0_0.length : Int) := qX; obtain ⟨ad426, e426, hx426_0⟩ := Kd.at_int HR0_0.out a1 p426 q426; cases e426; replace hx426_0 := (HB.out.cell (World.block_lt_of_cell? w _ hx426_0)).trans hx426_0; replace p426 := eq_true p426; replace q426 := eq_true q426)); go_ret
   exact ⟨by first | rfl | (simp [errW_none, errW_some] <;> rfl) | (simp [*, errW_none, errW_some] <;> rfl), bX1 HB GE425⟩
  ·rw [if_neg c4] at H
   exact absurd H (by simp)
 ·rw [if_neg c3] at H
  have c3b0 : decide (a1 < (l0_0.length : Int)) = false := decide_eq_false c3; clear c3
  by_cases c7 : a1 ≥ 8
  ·rw [if_pos c7] at H
   have c7b0 : decide (8 ≤ a1) = true := decide_eq_true c7; clear c7
   by_cases c8 : (wrap64 (a1 - 8)) < (l0_1.length : Int)
   ·rw [if_pos c8] at H
    have c8b0 : decide ((wrap64 (a1 - 8)) < (l0_1.length : Int)) = true := decide_eq_true c8; clear c8
    obtain ⟨ji9, hji9⟩ : ∃ j_ : Int, (wrap64 (a1 - 8)) = j_ := ⟨_, rfl⟩
    replace H : (if 0 ≤ (ji9) then (some (rd l0_1 (ji9))) else (none)) = some r := by first | (rw [hji9] at H; exact H) | (simp only [hji9] at H ⊢; exact H)
    (try rw [hji9] at c8b0)
    have hji9w : (IntKind.i64.wrap (a1 - 8)) = ji9 := (i64_w _).trans hji9
    by_cases c10 : 0 ≤ (ji9)
    ·rw [if_pos c10] at H
     have c10b0 : decide (0 ≤ (ji9)) = true := decide_eq_true c10; clear c10; obtain rfl := Option.some.inj H; go_enter Tryz.func104, Tryz.ntmps104; go_wp2_with (first | ((with_reducible refine gate_dst (N := 2) rfl ?_); (try (refine gate_guard (by rfl) ?_; dsimp only)); refine eX 2 #[.slice A0_0 l0_0.length c0_0, .slice A0_1 l0_1.length c0_1, .slice A0_2 l0_2.length c0_2] 51 ?_; intro gb425 hg w11 hbox hb; have n0_ := Aside0.mk (below_step (bX HB) hb); have n1_ := Aside0.mk (hbox); have n2_ := Aside0.mk ((by rw [hg]; exact (below_size (bX HB)) : w.heap.size ≤ gb425)); have n3_ := Aside0.mk ((by rw [hg]; exact (below_size (bX HB)) : w.heap.size ≤ gb425)); clear HB; have HB := n0_; have BK425 := n1_; have GW425 := n2_; have GE425 := n3_; clear n0_ n1_ n2_ n3_; clear hb hbox hg; obtain ⟨hcz12_0, hcz12_1, hcz12_2, hfz12_0, hfz12_1, hfz12_2⟩ := c3X BK425; have p427 : 0 ≤ ((ji9) : Int) := qX; have q427 : (ji9) < (l0_1.length : Int) := qX; obtain ⟨ad427, e427, hx427_0⟩ := Kd.at_int HR0_1.out (ji9) p427 q427; cases e427; replace hx427_0 := (HB.out.cell (World.block_lt_of_cell? w _ hx427_0)).trans hx427_0; replace p427 := eq_true p427; replace q427 := eq_true q427)); go_ret
     exact ⟨by first | rfl | (simp [errW_none, errW_some] <;> rfl) | (simp only [← hji9]; first | rfl | (simp [errW_none, errW_some] <;> rfl)) | (simp [*, errW_none, errW_some] <;> rfl), bX1 HB GE425⟩
    ·rw [if_neg c10] at H
     exact absurd H (by simp)
   ·rw [if_neg c8] at H
    have c8b0 : decide ((wrap64 (a1 - 8)) < (l0_1.length : Int)) = false := decide_eq_false c8; clear c8; obtain rfl := Option.some.inj H; go_enter Tryz.func104, Tryz.ntmps104; go_wp2_with (first | ((with_reducible refine gate_dst (N := 2) rfl ?_); (try (refine gate_guard (by rfl) ?_; dsimp only)); refine eX 2 #[.slice A0_0 l0_0.length c0_0, .slice A0_1 l0_1.length c0_1, .slice A0_2 l0_2.length c0_2] 51 ?_; intro gb425 hg w13 hbox hb; have n0_ := Aside0.mk (below_step (bX HB) hb); have n1_ := Aside0.mk (hbox); have n2_ := Aside0.mk ((by rw [hg]; exact (below_size (bX HB)) : w.heap.size ≤ gb425)); have n3_ := Aside0.mk ((by rw [hg]; exact (below_size (bX HB)) : w.heap.size ≤ gb425)); clear HB; have HB := n0_; have BK425 := n1_; have GW425 := n2_; have GE425 := n3_; clear n0_ n1_ n2_ n3_; clear hb hbox hg; obtain ⟨hcz14_0, hcz14_1, hcz14_2, hfz14_0, hfz14_1, hfz14_2⟩ := c3X BK425)); go_ret
    exact ⟨by first | rfl | (simp [errW_none, errW_some] <;> rfl) | (simp [*, errW_none, errW_some] <;> rfl), bX1 HB GE425⟩
  ·rw [if_neg c7] at H
   have c7b0 : decide (8 ≤ a1) = false := decide_eq_false c7; clear c7; obtain rfl := Option.some.inj H; go_enter Tryz.func104, Tryz.ntmps104; go_wp2_with (first | ((with_reducible refine gate_dst (N := 2) rfl ?_); (try (refine gate_guard (by rfl) ?_; dsimp only)); refine eX 2 #[.slice A0_0 l0_0.length c0_0, .slice A0_1 l0_1.length c0_1, .slice A0_2 l0_2.length c0_2] 51 ?_; intro gb425 hg w15 hbox hb; have n0_ := Aside0.mk (below_step (bX HB) hb); have n1_ := Aside0.mk (hbox); have n2_ := Aside0.mk ((by rw [hg]; exact (below_size (bX HB)) : w.heap.size ≤ gb425)); have n3_ := Aside0.mk ((by rw [hg]; exact (below_size (bX HB)) : w.heap.size ≤ gb425)); clear HB; have HB := n0_; have BK425 := n1_; have GW425 := n2_; have GE425 := n3_; clear n0_ n1_ n2_ n3_; clear hb hbox hg; obtain ⟨hcz16_0, hcz16_1, hcz16_2, hfz16_0, hfz16_1, hfz16_2⟩ := c3X BK425)); go_ret
   exact ⟨by first | rfl | (simp [errW_none, errW_some] <;> rfl) | (simp [*, errW_none, errW_some] <;> rfl), bX1 HB GE425⟩
end Go.Proofs.YtaipkdglhfhhiaaGreatDoor.Pt

namespace Go.Proofs.YtaipkdglhfhhiaaGreatDoor.Pt
open Go.RowKit Go.Proofs.YtaipkdglhfhhiaaGreatDoorW.PrintWords Go.Proofs.YtaipkdglhfhhiaaGreatDoorW.PrintLast Go.Proofs.YtaipkdglhfhhiaaGreatDoorW.PrintMore
attribute [local go_sem] max2_int min2_int max_two min_two max_three min_three max_four min_four   -- for this text's walks alone
set_option linter.unusedVariables false
set_option linter.unusedSimpArgs false
def slices_Reverse_int_int.l0 : Nat → List Int → Int → Int → Option (List Int)
 | 0, _, _, _ => none
 | k + 1, x0, x2, x3 => if x2 < x3 then (if 0 ≤ x3 then (if x3 < (x0.length : Int) then (if 0 ≤ x2 then (if x2 < (x0.length : Int) then (slices_Reverse_int_int.l0 k ((x0.set (x2 : Int).toNat (rd x0 x3)).set (x3 : Int).toNat (rd x0 x2)) (wrap64 (x2 + 1)) (wrap64 (x3 - 1))) else (none)) else (none)) else (none)) else (none)) else (some x0)
def slices_Reverse_int_int.f (k : Nat) (l0 : List Int) : Option (List Int) := slices_Reverse_int_int.l0 k l0 0 (wrap64 ((l0.length : Int) - 1))
def slices_Reverse_int_int.T3 : Bool × List (List Nat × List Nat) := (true, [([], []), ([], []), ([], []), ([], []), ([], []), ([], []), ([4, 5], [4, 5]), ([6], [6]), ([], []), ([], []), ([8, 9], [8, 9]), ([10], [10]), ([0, 1, 0, 1, 4, 5, 6, 7, 11], [0, 1]), ([12, 7, 0, 1, 4, 5, 6, 7, 11], [7, 12]), ([2, 3, 0, 1, 2, 3, 4, 5, 6, 7, 8, 9, 10, 11, 12, 13], [2, 3]), ([14, 11, 13, 0, 1, 2, 3, 4, 5, 6, 7, 8, 9, 10, 11, 12, 13], [11, 14])])
def slices_Reverse_int_int.B3 : List Nat := [0, 0, 0, 0, 0, 0, 48, 112, 0, 0, 768, 1792, 4083, 8179, 16383, 32767]
theorem slices_Reverse_int_int.tab3 : rtab .any (opsOf Tryz.f70 3) = slices_Reverse_int_int.T3 := by kernel_rfl
theorem slices_Reverse_int_int.bits3 : waitsOk slices_Reverse_int_int.T3.2 slices_Reverse_int_int.B3 = true := by kernel_rfl
set_option maxHeartbeats 8000000 in
set_option maxRecDepth 100000 in
theorem slices_Reverse_int_int.calls (k : Nat) (P0_ : Nat → Prop) (u9000_ : Value) (l0 : List Int) (r : List Int) (w0 w : World) (hB : Below w0.heap.size w0 w) (ho0 : Kd.R (Kd.int .i64) 3 w w0.heap.size P0_ u9000_ l0) (h : slices_Reverse_int_int.f k l0 = some r) :
  Calls Tryz.prog 70 #[u9000_] w fun e w' => e = .returned (.tuple #[]) ∧ Kd.R (Kd.int .i64) 3 w' w0.heap.size (fun k_ => (P0_ k_ ∨ w.heap.size ≤ k_)) u9000_ r ∧ Below w0.heap.size w0 w' ∧ Kept w w' (fun k_ => P0_ k_) := by
 have HO0 := Aside0.mk (show Kd.R (Kd.int .i64) 3 w w0.heap.size (fun k_ => (P0_ k_ ∨ w.heap.size ≤ k_)) u9000_ l0 from Kd.R_mono ho0 (fun k_ hk => (.inl hk))); have HK := Aside0.mk (Kept.refl w (fun k_ => P0_ k_)); have HW0 := Aside0.mk hB.size; have HB := Aside0.mk hB; clear hB; have H : (slices_Reverse_int_int.l0 k l0 0 (wrap64 ((l0.length : Int) - 1))) = some r := h; clear h; have H' := Aside0.mk H; clear H; obtain ⟨Ao2, co2, eo2⟩ := Kd.R_slice HO0.out; subst eo2; go_enter Tryz.func70, Tryz.ntmps70; go_wp2
 go_loopg [2, 3] k (fun kq v2 v3 w' => ∃ (x0_1 : List Int) (x2_1 : Int) (x3_1 : Int), v2 = .int .i64 x2_1 ∧ v3 = .int .i64 x3_1 ∧ Aside0 (slices_Reverse_int_int.l0 kq x0_1 x2_1 x3_1 = some r) ∧ Aside0 (kq ≤ k) ∧ Aside0 (Kd.R (Kd.int .i64) 3 w' w0.heap.size (fun k_ => (P0_ k_ ∨ w.heap.size ≤ k_)) (.slice Ao2 l0.length co2) x0_1) ∧ Aside0 (Kept w w' (fun k_ => P0_ k_)) ∧ Aside0 (Below w0.heap.size w0 w'))
 case atStart => exact ⟨(l0), (0), (wrap64 ((l0.length : Int) - 1)), vX, vX, H', ⟨Nat.le_refl _⟩, ⟨rX HO0⟩, ⟨by repeat (first | (with_reducible first | exact HK.out | apply Kept.alloc | apply Kept.drewN | apply Kept.drew) | exact HK.out)⟩, ⟨bX HB⟩⟩
 case round =>
  clear H'
  try clear p2
  obtain ⟨x0_1, x2_1, x3_1, rfl, rfl, HA, HK1, HO_0, HK, HB⟩ := hrel; have hl0_1 := (Kd.R_reads' HO_0.out).1; rw [hl0_1] at HO_0
  (try simp only [hl0_1])
  cases gk with
  | zero => exact absurd HA.out (by simp [slices_Reverse_int_int.l0])
  | succ k1 =>
   have H := HA.out; clear HA; simp only [slices_Reverse_int_int.l0] at H
   by_cases c3 : x2_1 < x3_1
   ·rw [if_pos c3] at H
    have c3b0 : decide (x2_1 < x3_1) = true := decide_eq_true c3; clear c3
    by_cases c4 : 0 ≤ x3_1
    ·rw [if_pos c4] at H
     have c4b0 : decide (0 ≤ x3_1) = true := decide_eq_true c4; clear c4
     by_cases c5 : x3_1 < (x0_1.length : Int)
     ·rw [if_pos c5] at H
      have c5b0 : decide (x3_1 < (x0_1.length : Int)) = true := decide_eq_true c5; clear c5
      by_cases c6 : 0 ≤ x2_1
      ·rw [if_pos c6] at H
       have c6b0 : decide (0 ≤ x2_1) = true := decide_eq_true c6; clear c6
       by_cases c7 : x2_1 < (x0_1.length : Int)
       ·rw [if_pos c7] at H
        have c7b0 : decide (x2_1 < (x0_1.length : Int)) = true := decide_eq_true c7; clear c7
        obtain ⟨y430, hy430⟩ : ∃ y_ : List Int, y_ = (x0_1.set (x2_1 : Int).toNat (rd x0_1 x3_1)) := ⟨_, rfl⟩
        replace H : (slices_Reverse_int_int.l0 k1 (y430.set (x3_1 : Int).toNat (rd x0_1 x2_1)) (wrap64 (x2_1 + 1)) (wrap64 (x3_1 - 1))) = some r := by first | (rw [hy430]; with_reducible exact H) | (have H2_ := (Option.bind_some _ _).symm.trans H; rw [hy430]; with_reducible exact H2_) | (have H2_ := (Option.bind_some _ _).symm.trans H; with_reducible exact H2_) | with_reducible exact H | (rw [hy430]; exact H) | exact H
        have Ny430 := Aside0.mk hy430; clear hy430
        obtain ⟨y431, hy431⟩ : ∃ y_ : List Int, y_ = (y430.set (x3_1 : Int).toNat (rd x0_1 x2_1)) := ⟨_, rfl⟩
        replace H : (slices_Reverse_int_int.l0 k1 y431 (wrap64 (x2_1 + 1)) (wrap64 (x3_1 - 1))) = some r := by first | (rw [hy431]; with_reducible exact H) | (have H2_ := (Option.bind_some _ _).symm.trans H; rw [hy431]; with_reducible exact H2_) | (have H2_ := (Option.bind_some _ _).symm.trans H; with_reducible exact H2_) | with_reducible exact H | (rw [hy431]; exact H) | exact H
        have Ny431 := Aside0.mk hy431; clear hy431; have H' := Aside0.mk H; clear H
        try go_wp2
        have n0_ := Aside0.mk (Kd.R_drew HO_0.out); have n1_ := Aside0.mk (Kept.drew HK.out); have n2_ := Aside0.mk (below_drew1 HB.out); clear HO_0; clear HK; clear HB; have HO_0 := n0_; have HK := n1_; have HB := n2_; clear n0_ n1_ n2_; have p428 : 0 ≤ (x3_1 : Int) := qX; have q428 : x3_1 < (x0_1.length : Int) := qX; obtain ⟨ad428, e428, hx428_0⟩ := Kd.at_int (Kd.R_reads' HO_0.out).2.2 x3_1 p428 q428
        cases e428
        replace p428 := eq_true p428; replace q428 := eq_true q428; have p429 : 0 ≤ (x2_1 : Int) := qX; have q429 : x2_1 < (x0_1.length : Int) := qX; obtain ⟨ad429, e429, hx429_0⟩ := Kd.at_int (Kd.R_reads' HO_0.out).2.2 x2_1 p429 q429
        obtain rfl : ad428 = ad429 := (by injection e429)
        replace p429 := eq_true p429; replace q429 := eq_true q429; have p8 : 0 ≤ (x2_1 : Int) := qX; have q8 : (x2_1 : Int) < ((x0_1.length : Int) : Int) := qX; obtain ⟨go8, co8, eo8, gb8, gl8, cl8, HG8⟩ := Kd.R_form HO_0.out (by omega)
        (first | cases eo8 | (injection eo8 with ea_ en_ ec_; (first | subst ea_ | (injection ea_ with ea_; subst ea_)); subst ec_; clear en_))
        have GB8 := Aside0.mk gb8; have GG8 := Aside0.mk HG8; clear gb8 gl8 HG8; have HMgo8 := Aside0.mk (show (P0_ go8 ∨ w.heap.size ≤ go8) from (HO_0.out.1 _ rfl))
        (first | simp only [add_plain] at hx428_0 | skip)
        (first | simp only [add_plain] at hx429_0 | skip)
        obtain ⟨hx8_0, hf8_0⟩ := Kd.R_celln 0 HO_0.out (x2_1 : Int) p8 q8; replace p8 := eq_true p8; replace q8 := eq_true q8; have HP11 := Kd.R_putn HO_0.out (x2_1 : Int) (rd x0_1 x3_1); rw [← Ny430.out] at HP11; have HQ11 := Aside0.mk HP11; clear HP11; have p9 : 0 ≤ (x3_1 : Int) := qX; have q9 : (x3_1 : Int) < ((x0_1.length : Int) : Int) := qX; obtain ⟨hx9_0, hf9_0⟩ := Kd.R_celln 0 HQ11.out (x3_1 : Int) p9 q9; replace p9 := eq_true p9; replace q9 := eq_true q9; have HP12 := Kd.R_putn HQ11.out (x3_1 : Int) (rd x0_1 x2_1); rw [← Ny431.out] at HP12; have HQ12 := Aside0.mk HP12; clear HP12; refine start_ (n := 16) (S := fun w' => w'.cell? ⟨go8, (x3_1).toNat, none⟩ = some (.int .i64 (rd x0_1 x3_1)) ∧ w'.cell? ⟨go8, (x2_1).toNat, none⟩ = some (.int .i64 (rd x0_1 x2_1))) (ds := [13, 15]) #[false, false, false, false, false, false, false, false, false, false, false, false, false, false, false, false] (by kernel_rfl) rfl rfl ⟨hx428_0, hx429_0⟩ (fun hHeld => ?_); refine with_tabW slices_Reverse_int_int.tab3 slices_Reverse_int_int.bits3 (fun HT_ HW_ => ?_); generalize wr.drew = w10 at HO_0 HK HB GG8 HQ11 HQ12 hf8_0 hf9_0 hx428_0 hx429_0 hx8_0 hx9_0 hHeld ⊢; refine pX HT_ 0 (some 14) ?_; refine pX HT_ 1 (some 15) ?_; refine pX HT_ 2 (some 16) ?_; refine pX HT_ 3 (some 17) ?_; refine pX HT_ 4 (some 18) ?_; refine pX HT_ 5 (some 19) ?_; refine pX HT_ 6 (some 20) ?_; refine pX HT_ 8 (some 22) ?_; refine pX HT_ 9 (some 23) ?_; refine pX HT_ 10 (some 24) ?_; refine tX HT_ HW_ hHeld 7 (some 21) ?_; refine tX HT_ HW_ hHeld 11 (some 25) ?_; refine pX HT_ 12 (some 26) ?_; refine last_ (i := 13) (N := none) #[true, true, true, true, true, true, true, true, true, true, true, true, true, true, false, false] rfl rfl (one_of HT_.out (by kernel_rfl)) (by decide) (fun K hK => ?_); refine skip_ (w1 := ?_) (by rfl) rfl ?_ ?_; rotate_left
        ·go_simp
         rfl
        refine hK.out _ _ ?_; clear hK K; refine pX HT_ 14 (some 27) ?_; refine last_ (i := 15) (N := none) #[true, true, true, true, true, true, true, true, true, true, true, true, true, true, true, true] rfl rfl (one_of HT_.out (by kernel_rfl)) (by decide) (fun K hK => ?_); refine skip_ (w1 := ?_) (by rfl) rfl ?_ ?_; rotate_left
        ·go_simp
         rfl
        refine hK.out _ _ ?_; clear hK K; refine done_ (done_of HT_.out (by kernel_rfl)) ?_
        try go_wp2
        (try simp only [← hl0_1])
        go_roundg k1
        case measure => have := HK1.out; omega
        case rel => exact ⟨(y431), (wrap64 (x2_1 + 1)), (wrap64 (x3_1 - 1)), vX, vX, H', ⟨by have := HK1.out; omega⟩, ⟨by (try simp only [hl0_1]); (with_reducible repeat (first | apply Kd.R_alloc | apply Kd.R_drewN | apply Kd.R_drew)); exact HQ12.out⟩, ⟨by repeat (first | (with_reducible first | exact HK.out | apply Kept.alloc | apply Kept.drewN | apply Kept.drew | refine Kept.setCell ?_ HMgo8.out _ | refine Kept.setCell ?_ HMgo8.out _) | exact HK.out)⟩, ⟨by repeat (first | (with_reducible first | exact HB.out | apply below_alloc | apply pw_below_drewN | apply below_drew1 | refine below_set ?_ GB8.out | refine below_set ?_ GB8.out) | exact HB.out)⟩⟩
       ·rw [if_neg c7] at H
        exact absurd H (by simp)
      ·rw [if_neg c6] at H
       exact absurd H (by simp)
     ·rw [if_neg c5] at H
      exact absurd H (by simp)
    ·rw [if_neg c4] at H
     exact absurd H (by simp)
   ·rw [if_neg c3] at H
    have c3b0 : decide (x2_1 < x3_1) = false := decide_eq_false c3; clear c3; obtain rfl := Option.some.inj H; go_wp2
    first | go_end0 | ((try simp only [Exit.inBlock, Exit.then]); refine bodyPost_ret (results_none rfl _ _ _) rfl ?_)
    exact ⟨by first | rfl | (simp [errW_none, errW_some] <;> rfl) | (simp [*, errW_none, errW_some] <;> rfl), (by first | exact (rX HO_0) | (simp only [hl0_1]; exact (rX HO_0))), bX HB, by repeat (first | (with_reducible first | exact HK.out | apply Kept.alloc | apply Kept.drewN | apply Kept.drew) | exact HK.out)⟩
def display_Build.f (k : Nat) (a0 : List Hi.Ent) (a1 : Int) : Option (List Int × List Int × List Int × Int) := (hier_World_Chain.f a0 a1).bind fun bt433 => (if bt433.2 = 0 then ((slices_Reverse_int_int.f k bt433.1).bind fun t437 => ((hier_World_Closure.f a0 a1).bind fun bt438 => (if 0 ≤ (mn (bt433.1.length : Int) 8) then (if (mn (bt433.1.length : Int) 8) ≤ (bt433.1.length : Int) then ((slices_Clone_int_int.f (t437.take ((mn (bt433.1.length : Int) 8) : Int).toNat)).bind fun t446 => ((slices_Clone_int_int.f (t437.drop ((mn (bt433.1.length : Int) 8) : Int).toNat)).bind fun t453 => (some (t446, t453, bt438.1, 0)))) else (none)) else (none)))) else (some (([] : List Int), ([] : List Int), ([] : List Int), bt433.2)))
def display_Build.T9 : Bool × List (List Nat × List Nat) := (true, [([], []), ([], []), ([0, 1], [0, 1]), ([2], [2]), ([], []), ([], []), ([4, 5], [4, 5]), ([6, 3], [6]), ([], []), ([3, 7, 8], [3, 7, 8]), ([9, 7, 0, 1, 2, 3, 4, 5, 6, 7, 8, 9], [9]), ([10, 0, 1, 2, 3, 4, 5, 6, 7, 8, 9, 10], [])])
def display_Build.B9 : List Nat := [0, 0, 3, 7, 0, 0, 48, 127, 0, 511, 1023, 2047]
theorem display_Build.tab9 : rtab .any (opsOf Tryz.f26 9) = display_Build.T9 := by kernel_rfl
theorem display_Build.bits9 : waitsOk display_Build.T9.2 display_Build.B9 = true := by kernel_rfl
set_option maxHeartbeats 8000000 in
set_option maxRecDepth 100000 in
theorem display_Build.calls (k : Nat) (G_ : Nat) (a0 : List Hi.Ent) (a1 : Int) (r1 : List Int) (r2 : List Int) (r3 : List Int) (r4 : Int) (w : World) (hq0 : WOK w G_ a0) (h : display_Build.f k a0 a1 = some (r1, r2, r3, r4)) :
  Calls Tryz.prog 26 #[.pointer (some ⟨G_, 0, none⟩), .int .i64 a1] w fun e w' => ∃ v0_ v1_ v2_ : Value, e = .returned (.tuple #[.agg #[v0_, v1_, v2_], .int .i64 r4]) ∧ Kd.R (Kd.int .i64) 3 w' w.heap.size (fun k_ => some k_ ≠ (v1_ : Value).ownBlock ∧ some k_ ≠ (v2_ : Value).ownBlock) v0_ r1 ∧ Kd.R (Kd.int .i64) 3 w' w.heap.size (fun k_ => some k_ ≠ (v0_ : Value).ownBlock ∧ some k_ ≠ (v2_ : Value).ownBlock) v1_ r2 ∧ Kd.R (Kd.int .i64) 3 w' w.heap.size (fun k_ => some k_ ≠ (v0_ : Value).ownBlock ∧ some k_ ≠ (v1_ : Value).ownBlock) v2_ r3 ∧ Below w.heap.size w w' := by
 have hu51 := Tryz.underlying51; have HQa0 := Aside0.mk hq0; clear hq0; have HB := Aside0.mk (Below.refl w.heap.size w); have H : ((hier_World_Chain.f a0 a1).bind fun bt433 => (if bt433.2 = 0 then ((slices_Reverse_int_int.f k bt433.1).bind fun t437 => ((hier_World_Closure.f a0 a1).bind fun bt438 => (if 0 ≤ (mn (bt433.1.length : Int) 8) then (if (mn (bt433.1.length : Int) 8) ≤ (bt433.1.length : Int) then ((slices_Clone_int_int.f (t437.take ((mn (bt433.1.length : Int) 8) : Int).toNat)).bind fun t446 => ((slices_Clone_int_int.f (t437.drop ((mn (bt433.1.length : Int) 8) : Int).toNat)).bind fun t453 => (some (t446, t453, bt438.1, 0)))) else (none)) else (none)))) else (some (([] : List Int), ([] : List Int), ([] : List Int), bt433.2)))) = some (r1, r2, r3, r4) := h; clear h; replace H := Option.bind_eq_some_iff.mp H; obtain ⟨⟨t433, t434⟩, A30, H⟩ := H; replace H : (if t434 = 0 then ((slices_Reverse_int_int.f k t433).bind fun t437 => ((hier_World_Closure.f a0 a1).bind fun bt438 => (if 0 ≤ (mn (t433.length : Int) 8) then (if (mn (t433.length : Int) 8) ≤ (t433.length : Int) then ((slices_Clone_int_int.f (t437.take ((mn (t433.length : Int) 8) : Int).toNat)).bind fun t446 => ((slices_Clone_int_int.f (t437.drop ((mn (t433.length : Int) 8) : Int).toNat)).bind fun t453 => (some (t446, t453, bt438.1, 0)))) else (none)) else (none)))) else (some (([] : List Int), ([] : List Int), ([] : List Int), t434))) = some (r1, r2, r3, r4) := H; have A3 := Aside0.mk A30; clear A30
 by_cases c4 : t434 = 0
 ·rw [if_pos c4] at H
  have c4b0 : (t434 == 0) = true := beq_iff_eq.mpr c4; have c4b1 : (t434 != 0) = false := bne_eq_false_iff_eq.mpr c4; clear c4; replace H := Option.bind_eq_some_iff.mp H; obtain ⟨t437, A50, H⟩ := H; replace H : ((hier_World_Closure.f a0 a1).bind fun bt438 => (if 0 ≤ (mn (t433.length : Int) 8) then (if (mn (t433.length : Int) 8) ≤ (t433.length : Int) then ((slices_Clone_int_int.f (t437.take ((mn (t433.length : Int) 8) : Int).toNat)).bind fun t446 => ((slices_Clone_int_int.f (t437.drop ((mn (t433.length : Int) 8) : Int).toNat)).bind fun t453 => (some (t446, t453, bt438.1, 0)))) else (none)) else (none))) = some (r1, r2, r3, r4) := H; have A5 := Aside0.mk A50; clear A50
  obtain ⟨ji6, hji6⟩ : ∃ j_ : Int, (mn (t433.length : Int) 8) = j_ := ⟨_, rfl⟩
  replace H : ((hier_World_Closure.f a0 a1).bind fun bt438 => (if 0 ≤ (ji6) then (if (ji6) ≤ (t433.length : Int) then ((slices_Clone_int_int.f (t437.take ((ji6) : Int).toNat)).bind fun t446 => ((slices_Clone_int_int.f (t437.drop ((ji6) : Int).toNat)).bind fun t453 => (some (t446, t453, bt438.1, 0)))) else (none)) else (none))) = some (r1, r2, r3, r4) := by first | (rw [hji6] at H; exact H) | (simp only [hji6] at H ⊢; exact H)
  (try rw [hji6] at A3)
  (try rw [hji6] at A5)
  (try (have hji6h : ji6 ≤ 8 := by (rw [← hji6]; unfold mn; (repeat' split) <;> omega)))
  (try (have hji6g : ji6 ≤ 64 := by omega))
  (try (have hji6l : 0 ≤ ji6 := by (rw [← hji6]; unfold mn; (repeat' split) <;> omega)))
  (try (have hji6m : 0 ≤ ji6 := by omega))
  have hji6_ : (if 8 < (t433.length : Int) then 8 else (t433.length : Int)) = ji6 := hji6; replace H := Option.bind_eq_some_iff.mp H; obtain ⟨⟨t438, t439⟩, A70, H⟩ := H; replace H : (if 0 ≤ (ji6) then (if (ji6) ≤ (t433.length : Int) then ((slices_Clone_int_int.f (t437.take ((ji6) : Int).toNat)).bind fun t446 => ((slices_Clone_int_int.f (t437.drop ((ji6) : Int).toNat)).bind fun t453 => (some (t446, t453, t438, 0)))) else (none)) else (none)) = some (r1, r2, r3, r4) := H; have A7 := Aside0.mk A70; clear A70
  by_cases c8 : 0 ≤ (ji6)
  ·rw [if_pos c8] at H
   have c8b0 := eq_true c8; have c8b1 : decide (0 ≤ (ji6)) = true := decide_eq_true c8; clear c8
   by_cases c9 : (ji6) ≤ (t433.length : Int)
   ·rw [if_pos c9] at H
    have c9b0 := eq_true c9; have c9b1 : decide ((ji6) ≤ (t433.length : Int)) = true := decide_eq_true c9; clear c9
    obtain ⟨y442, hy442⟩ : ∃ y_ : List Int, y_ = (t437.take ((ji6) : Int).toNat) := ⟨_, rfl⟩
    replace H : ((slices_Clone_int_int.f y442).bind fun t446 => ((slices_Clone_int_int.f (t437.drop ((ji6) : Int).toNat)).bind fun t453 => (some (t446, t453, t438, 0)))) = some (r1, r2, r3, r4) := by first | (rw [hy442]; with_reducible exact H) | (have H2_ := (Option.bind_some _ _).symm.trans H; rw [hy442]; with_reducible exact H2_) | (have H2_ := (Option.bind_some _ _).symm.trans H; with_reducible exact H2_) | with_reducible exact H | (rw [hy442]; exact H) | exact H
    have Ny442 := Aside0.mk hy442; clear hy442; replace H := Option.bind_eq_some_iff.mp H; obtain ⟨t446, A100, H⟩ := H; replace H : ((slices_Clone_int_int.f (t437.drop ((ji6) : Int).toNat)).bind fun t453 => (some (t446, t453, t438, 0))) = some (r1, r2, r3, r4) := H; have A10 := Aside0.mk A100; clear A100; have c11b0 := eq_true (qX : 0 ≤ (ji6)); have c12b0 := eq_true (qX : (ji6) ≤ (t433.length : Int))
    obtain ⟨y449, hy449⟩ : ∃ y_ : List Int, y_ = (t437.drop ((ji6) : Int).toNat) := ⟨_, rfl⟩
    replace H : ((slices_Clone_int_int.f y449).bind fun t453 => (some (t446, t453, t438, 0))) = some (r1, r2, r3, r4) := by first | (rw [hy449]; with_reducible exact H) | (have H2_ := (Option.bind_some _ _).symm.trans H; rw [hy449]; with_reducible exact H2_) | (have H2_ := (Option.bind_some _ _).symm.trans H; with_reducible exact H2_) | with_reducible exact H | (rw [hy449]; exact H) | exact H
    have Ny449 := Aside0.mk hy449; clear hy449; replace H := Option.bind_eq_some_iff.mp H; obtain ⟨t453, A130, H⟩ := H; replace H : (some (t446, t453, t438, 0)) = some (r1, r2, r3, r4) := H; have A13 := Aside0.mk A130; clear A130; simp only [Option.some.injEq, Prod.mk.injEq] at H; obtain ⟨rfl, rfl, rfl, rfl⟩ := H; go_enter Tryz.func26, Tryz.ntmps26
    try go_wp2_with (first | ((with_reducible refine gate_dst (N := 4) rfl ?_); refine eX 4 #[.slice none 0 0, .slice none 0 0, .slice none 0 0] 51 ?_; intro gb432 hg w14 hbox hb; have n0_ := Aside0.mk (below_step (bX HB) hb); have n1_ := Aside0.mk (hbox); have n2_ := Aside0.mk ((by rw [hg]; exact (below_size (bX HB)) : w.heap.size ≤ gb432)); have n3_ := Aside0.mk ((by rw [hg]; exact (below_size (bX HB)) : w.heap.size ≤ gb432)); clear HB; have HB := n0_; have BK432 := n1_; have GW432 := n2_; have GE432 := n3_; clear n0_ n1_ n2_ n3_; clear hb hbox hg) | ((with_reducible refine gate_callee (f := 69) rfl ?_); refine gX (some 17) Tryz.func69 #[.pointer (some ⟨G_, 0, none⟩), .int .i64 a1] ?_; (with_reducible refine (hier_World_Chain.calls G_ a0 a1 t433 t434 _ ?side1 A3.out).mono ?_); (case side1 => repeat (first | (with_reducible exact HQa0.out) | (with_reducible refine WOK.alloc ?_ _) | (with_reducible refine WOK.drewN ?_ _) | (with_reducible refine WOK.drew ?_) | exact WOK.below HQa0.out HB.out | exact WOK.below HQa0.out (bX1 HB GE432))); rintro e w15 ⟨v435, rfl, ho0, hb⟩; refine ⟨_, rfl, ?_⟩; have n0_ := Aside0.mk (Kd.R_lower ho0 (below_size (bX1 HB GE432))); have n1_ := Aside0.mk (blk_below (kX BK432) hb); have n2_ := Aside0.mk (below_step (bX1 HB GE432) hb); clear BK432; clear HB; have HO436 := n0_; have BK432 := n1_; have HB := n2_; clear n0_ n1_ n2_; (try clear hb); (try clear hb2); (try clear hk); (try clear hi); (try clear ho0); obtain ⟨Ao16, co16, eo16⟩ := Kd.R_slice HO436.out; subst eo16) | ((with_reducible refine gate_callee (f := 70) rfl ?_); refine gX (some 25) Tryz.func70 #[.slice Ao16 t433.length co16] ?_; (with_reducible refine (slices_Reverse_int_int.calls k (fun k_ => some k_ = (.slice Ao16 t433.length co16 : Value).ownBlock) (.slice Ao16 t433.length co16) t433 t437 w _ ?side1 ?side2 A5.out).mono ?_); (case side1 => repeat (first | (with_reducible first | exact HB.out | apply below_alloc | apply pw_below_drewN | apply below_drew1 | refine below_set ?_ GE432.out) | exact HB.out)); (case side2 => exact Kd.R_tight rfl HO436.out); rintro e w17 ⟨rfl, hy0, hb, hkp⟩; refine ⟨_, rfl, ?_⟩; have n0_ := Aside0.mk (blk_kept (kX BK432) hkp (fun hs_ => (fun e_ => (Kd.R_ne HO436.out BK432.out (by decide)) e_) hs_)); have n1_ := Aside0.mk (Kd.R_reok rfl hy0 (fun k_ e_ => HO436.out.1 k_ e_)); have n2_ := Aside0.mk (hb); clear BK432; clear HO436; clear HB; have BK432 := n0_; have HO436 := n1_; have HB := n2_; clear n0_ n1_ n2_; (try clear hb); (try clear hkp); (try clear hy0)) | ((with_reducible refine gate_callee (f := 71) rfl ?_); refine gX (some 32) Tryz.func71 #[.pointer (some ⟨G_, 0, none⟩), .int .i64 a1] ?_; (with_reducible refine (hier_World_Closure.calls G_ a0 a1 t438 t439 _ ?side1 A7.out).mono ?_); (case side1 => repeat (first | (with_reducible exact HQa0.out) | (with_reducible refine WOK.alloc ?_ _) | (with_reducible refine WOK.drewN ?_ _) | (with_reducible refine WOK.drew ?_) | exact WOK.below HQa0.out HB.out | exact WOK.below HQa0.out (bX1 HB GE432))); rintro e w18 ⟨v440, rfl, ho0, hb⟩; refine ⟨_, rfl, ?_⟩; have n0_ := Aside0.mk (Kd.R_elder' (rX HO436) (Kd.R_base ho0) hb); have n1_ := Aside0.mk (Kd.R_lower (Kd.R_new' ho0 (Kd.R_lt (rX HO436))) (below_size (bX1 HB GE432))); have n2_ := Aside0.mk (blk_below (kX BK432) hb); have n3_ := Aside0.mk (below_step (bX1 HB GE432) hb); clear HO436; clear BK432; clear HB; have HO436 := n0_; have HO441 := n1_; have BK432 := n2_; have HB := n3_; clear n0_ n1_ n2_ n3_; (try clear hb); (try clear hb2); (try clear hk); (try clear hi); (try clear ho0)))
    have n0_ := Aside0.mk (Kd.R_drew HO436.out); have n1_ := Aside0.mk (Kd.R_drew HO441.out); have n2_ := Aside0.mk (blk_drew BK432.out); have n3_ := Aside0.mk (below_drew1 HB.out); clear HO436; clear HO441; clear BK432; clear HB; have HO436 := n0_; have HO441 := n1_; have BK432 := n2_; have HB := n3_; clear n0_ n1_ n2_ n3_; have hlx20 := (Kd.R_reads' HO436.out).1; have q20 : ((ji6) : Int) ≤ ((t433.length : Int) : Int) := qX; obtain ⟨i020, hi020, _, hsz20, _⟩ := info_parts info3; have hroom20 : t433.length ≤ co16 := (Kd.R_reads' HO436.out).2.1
    have hroomc20 : t437.length ≤ co16 := (by rw [← hlx20]; exact hroom20)
    have hC20 : Kd.C (Kd.int .i64) _ Ao16 t437.length t437 := (Kd.R_reads' HO436.out).2.2; have hcut20 := cut_to (P := Tryz.prog) 49 3 .i64 Tryz.underlying49 hi020 Ao16 t433.length co16 (ji6) (qX) q20 hroom20; have hr20 := Kd.C_take (m := ((ji6) : Int).toNat) hC20 (by omega)
    have hy20 : y442.length = ((ji6) : Int).toNat := (by rw [Ny442.out, List.length_take]; omega)
    rw [← Ny442.out] at hr20; rw [← hy20] at hcut20; have HR445 := Aside0.mk hr20; have HC445 := Aside0.mk (show y442.length ≤ co16 from by omega); clear hr20 hC20 hroom20 hi020 hsz20 hroomc20; have KY20 := Aside0.mk hy20; clear hy20; have KE20 := Aside0.mk hlx20; have KL20 := Aside0.mk (show ((ji6) : Int).toNat ≤ t437.length from by omega); clear hlx20; replace q20 := eq_true q20; have hlx21 := (Kd.R_reads' HO436.out).1; have q21 : ((ji6) : Int) ≤ ((t433.length : Int) : Int) := qX; obtain ⟨i021, hi021, _, hsz21, _⟩ := info_parts info3; have hroom21 : t433.length ≤ co16 := (Kd.R_reads' HO436.out).2.1
    have hroomc21 : t437.length ≤ co16 := (by rw [← hlx21]; exact hroom21)
    have hC21 : Kd.C (Kd.int .i64) _ Ao16 t437.length t437 := (Kd.R_reads' HO436.out).2.2; have q021 : (0 : Int) ≤ ((ji6) : Int) := qX; have hcut21 := cut_from (P := Tryz.prog) 49 3 .i64 Tryz.underlying49 hi021 1 hsz21 Ao16 t433.length co16 (ji6) q021 q21; have hr21 := Kd.C_drop (m := ((ji6) : Int).toNat) (c := co16) hC21 (by omega) hroomc21
    obtain ⟨A21, hA21⟩ : ∃ A1, A1 = (if co16 = ((ji6) : Int).toNat then Ao16 else (Ao16 : Option Addr).map (·.add (((ji6) : Int).toNat * 1))) := ⟨_, rfl⟩
    obtain ⟨c21, hc21⟩ : ∃ c1, c1 = co16 - ((ji6) : Int).toNat := ⟨_, rfl⟩
    have hy21 : y449.length = t433.length - ((ji6) : Int).toNat := (by rw [Ny449.out, List.length_drop] <;> omega)
    rw [show (t437).drop ((ji6) : Int).toNat = y449 from Ny449.out.symm] at hr21
    replace hr21 : Kd.C (Kd.int .i64) _ A21 y449.length y449 := (by rw [hA21]; exact hr21)
    rw [← hy21, ← hA21, ← hc21] at hcut21; have HR452 := Aside0.mk hr21; have HC452 := Aside0.mk (show y449.length ≤ c21 from by rw [hy21, hc21]; exact Nat.sub_le_sub_right hroom21 _); clear hr21 hC21 hroom21 hi021 hsz21 hc21 hroomc21; have KY21 := Aside0.mk hy21; have KA21 := Aside0.mk hA21; clear hy21 hA21; have KE21 := Aside0.mk hlx21; have KL21 := Aside0.mk (show ((ji6) : Int).toNat ≤ t437.length from by omega); clear hlx21; replace q21 := eq_true q21; refine start_ (n := 12) (S := fun w' => True) (ds := []) #[false, false, false, false, false, false, false, false, false, false, false, false] (by kernel_rfl) rfl rfl trivial (fun hHeld => ?_); refine with_tabW display_Build.tab9 display_Build.bits9 (fun HT_ HW_ => ?_); generalize w18.drew = w19 at HO436 HO441 BK432 HB HR445 HR452 hHeld ⊢; refine pX HT_ 0 (some 35) ?_; refine pX HT_ 1 (some 36) ?_; refine pX HT_ 2 (some 37) ?_; refine pX HT_ 4 (some 39) ?_; refine pX HT_ 5 (some 40) ?_; refine pX HT_ 6 (some 41) ?_; refine pX HT_ 8 (some 43) ?_; refine oX HT_ 3 (some 38) (fun K hK => ?_); refine hX Tryz.func72 #[.slice Ao16 y442.length co16] ?_
    with_reducible refine (slices_Clone_int_int.calls _ _ y442 t446 _ ?side1 ?side2 A10.out).mono ?_
    (case side1 => repeat (first | exact (by repeat (first | (with_reducible exact HR445.out) | (with_reducible refine Kd.C_alloc ?_ _) | (with_reducible refine Kd.C_drewN ?_ _) | (with_reducible refine Kd.C_drew ?_) | exact HR445.out)) | (with_reducible refine Kd.C_alloc ?_ _) | (with_reducible refine Kd.C_drewN ?_ _) | (with_reducible refine Kd.C_drew ?_)))
    (case side2 => exact HC445.out)
    rintro e w22 ⟨v447, rfl, ho0, hb⟩; refine ⟨_, rfl, ?_⟩; have n0_ := Aside0.mk (Kd.R_elder' (rX HO436) (Kd.R_base ho0) hb); have n1_ := Aside0.mk (Kd.R_elder' (rX HO441) (Kd.R_base ho0) hb); have n2_ := Aside0.mk (Kd.R_lower (Kd.R_new' (Kd.R_new' ho0 (Kd.R_lt (rX HO436))) (Kd.R_lt (rX HO441))) (below_size (bX1 HB GE432))); have n3_ := Aside0.mk (blk_below (kX BK432) hb); have n4_ := Aside0.mk (Kd.C_below (by repeat (first | (with_reducible exact HR445.out) | (with_reducible refine Kd.C_alloc ?_ _) | (with_reducible refine Kd.C_drewN ?_ _) | (with_reducible refine Kd.C_drew ?_) | exact HR445.out)) hb); have n5_ := Aside0.mk (Kd.C_below (by repeat (first | (with_reducible exact HR452.out) | (with_reducible refine Kd.C_alloc ?_ _) | (with_reducible refine Kd.C_drewN ?_ _) | (with_reducible refine Kd.C_drew ?_) | exact HR452.out)) hb); have n6_ := Aside0.mk (below_step (bX1 HB GE432) hb); clear HO436; clear HO441; clear BK432; clear HR445; clear HR452; clear HB; have HO436 := n0_; have HO441 := n1_; have HO448 := n2_; have BK432 := n3_; have HR445 := n4_; have HR452 := n5_; have HB := n6_; clear n0_ n1_ n2_ n3_ n4_ n5_ n6_
    (try clear hb)
    (try clear hb2)
    (try clear hk)
    (try clear hi)
    (try clear ho0)
    refine hK.out _ _ trivial (fun hHeld => ?_); clear hK K; refine nX (some 38) ?_; refine oX HT_ 7 (some 42) (fun K hK => ?_); refine hX Tryz.func72 #[.slice A21 y449.length c21] ?_
    with_reducible refine (slices_Clone_int_int.calls _ _ y449 t453 _ ?side1 ?side2 A13.out).mono ?_
    (case side1 => repeat (first | exact (by repeat (first | (with_reducible exact HR452.out) | (with_reducible refine Kd.C_alloc ?_ _) | (with_reducible refine Kd.C_drewN ?_ _) | (with_reducible refine Kd.C_drew ?_) | exact HR452.out)) | (with_reducible refine Kd.C_alloc ?_ _) | (with_reducible refine Kd.C_drewN ?_ _) | (with_reducible refine Kd.C_drew ?_)))
    (case side2 => exact HC452.out)
    rintro e w23 ⟨v454, rfl, ho0, hb⟩; refine ⟨_, rfl, ?_⟩; have n0_ := Aside0.mk (Kd.R_elder' (rX HO436) (Kd.R_base ho0) hb); have n1_ := Aside0.mk (Kd.R_elder' (rX HO441) (Kd.R_base ho0) hb); have n2_ := Aside0.mk (Kd.R_elder' (rX HO448) (Kd.R_base ho0) hb); have n3_ := Aside0.mk (Kd.R_lower (Kd.R_new' (Kd.R_new' (Kd.R_new' ho0 (Kd.R_lt (rX HO436))) (Kd.R_lt (rX HO441))) (Kd.R_lt (rX HO448))) (below_size (bX1 HB GE432))); have n4_ := Aside0.mk (blk_below (kX BK432) hb); have n5_ := Aside0.mk (Kd.C_below (by repeat (first | (with_reducible exact HR445.out) | (with_reducible refine Kd.C_alloc ?_ _) | (with_reducible refine Kd.C_drewN ?_ _) | (with_reducible refine Kd.C_drew ?_) | exact HR445.out)) hb); have n6_ := Aside0.mk (Kd.C_below (by repeat (first | (with_reducible exact HR452.out) | (with_reducible refine Kd.C_alloc ?_ _) | (with_reducible refine Kd.C_drewN ?_ _) | (with_reducible refine Kd.C_drew ?_) | exact HR452.out)) hb); have n7_ := Aside0.mk (below_step (bX1 HB GE432) hb); clear HO436; clear HO441; clear HO448; clear BK432; clear HR445; clear HR452; clear HB; have HO436 := n0_; have HO441 := n1_; have HO448 := n2_; have HO455 := n3_; have BK432 := n4_; have HR445 := n5_; have HR452 := n6_; have HB := n7_; clear n0_ n1_ n2_ n3_ n4_ n5_ n6_ n7_
    (try clear hb)
    (try clear hb2)
    (try clear hk)
    (try clear hi)
    (try clear ho0)
    obtain ⟨Ao24, co24, eo24⟩ := Kd.R_slice HO441.out
    (first | subst eo24 | (injection eo24 with f1_ f2_ f3_; have f4_ := f1_.symm; have f5_ := f3_.symm; clear f1_ f2_ f3_; subst f4_; subst f5_))
    obtain ⟨Ao25, co25, eo25⟩ := Kd.R_slice HO455.out
    (first | subst eo25 | (injection eo25 with f1_ f2_ f3_; have f4_ := f1_.symm; have f5_ := f3_.symm; clear f1_ f2_ f3_; subst f4_; subst f5_))
    obtain ⟨Ao26, co26, eo26⟩ := Kd.R_slice HO448.out
    (first | subst eo26 | (injection eo26 with f1_ f2_ f3_; have f4_ := f1_.symm; have f5_ := f3_.symm; clear f1_ f2_ f3_; subst f4_; subst f5_))
    refine hK.out _ _ trivial (fun hHeld => ?_); clear hK K; refine nX (some 42) ?_; refine pX HT_ 9 (some 44) ?_; refine oX HT_ 10 none (fun K hK => ?_); have hs27 : w23.cell? ⟨gb432, 0, none⟩ = some (.slice none 0 0) := (blk_cell BK432.out 0).trans rfl; have hfs27 := blk_frozen BK432.out 0; have hs28 : w23.cell? ⟨gb432, 1, none⟩ = some (.slice none 0 0) := (blk_cell BK432.out 1).trans rfl; have hfs28 := blk_frozen BK432.out 1; have hs29 : w23.cell? ⟨gb432, 2, none⟩ = some (.slice none 0 0) := (blk_cell BK432.out 2).trans rfl; have hfs29 := blk_frozen BK432.out 2; refine skip_ (w1 := ?_) (by rfl) rfl ?_ ?_; rotate_left
    ·go_simp
     rfl
    refine hK.out _ _ trivial (fun hHeld => ?_); clear hK K; refine pX HT_ 11 (some 5) ?_; refine done_ (done_of HT_.out (by kernel_rfl)) ?_
    try go_wp2
    refine bodyPost_ret (results_ct rfl _ _ gb432 51 #[.slice Ao26 t446.length co26, .slice Ao25 t453.length co25, .slice Ao24 t438.length co24] (0, 0) _ rfl (by (with_reducible repeat (first | refine blk_drewN ?_ _ | refine blk_drew ?_ | refine blk_alloc ?_ _)); refine blk_put (cs := #[.slice Ao26 t446.length co26, .slice Ao25 t453.length co25, .slice none 0 0]) ?_ 2 _ rfl; (with_reducible repeat (first | refine blk_drewN ?_ _ | refine blk_drew ?_ | refine blk_alloc ?_ _)); refine blk_put (cs := #[.slice Ao26 t446.length co26, .slice none 0 0, .slice none 0 0]) ?_ 1 _ rfl; (with_reducible repeat (first | refine blk_drewN ?_ _ | refine blk_drew ?_ | refine blk_alloc ?_ _)); refine blk_put (cs := #[.slice none 0 0, .slice none 0 0, .slice none 0 0]) ?_ 0 _ rfl; (with_reducible repeat (first | refine blk_drewN ?_ _ | refine blk_drew ?_ | refine blk_alloc ?_ _)); exact BK432.out) Tryz.underlying51 rfl (by kernel_rfl)) rfl ?_
    exact ⟨_, _, _, by first | rfl | (simp [errW_none, errW_some] <;> rfl) | (simp only [← hji6]; first | rfl | (simp [errW_none, errW_some] <;> rfl)) | (simp [*, errW_none, errW_some] <;> rfl), by (with_reducible repeat (first | apply Kd.R_alloc | apply Kd.R_drewN | apply Kd.R_drew)); exact Kd.R_mono (Kd.R_far (p := ⟨gb432, 2, none⟩) (Kd.R_far (p := ⟨gb432, 1, none⟩) (Kd.R_far (p := ⟨gb432, 0, none⟩) (Kd.R_types HO448.out BK432.out (by decide)) (fun _ hk => hk.2) (.slice Ao26 t446.length co26)) (fun _ hk => hk.2) (.slice Ao25 t453.length co25)) (fun _ hk => hk.2) (.slice Ao24 t438.length co24)) (fun _ hk => ⟨hk.1.2, hk.1.1.2⟩), by (with_reducible repeat (first | apply Kd.R_alloc | apply Kd.R_drewN | apply Kd.R_drew)); exact Kd.R_mono (Kd.R_far (p := ⟨gb432, 2, none⟩) (Kd.R_far (p := ⟨gb432, 1, none⟩) (Kd.R_far (p := ⟨gb432, 0, none⟩) (Kd.R_types HO455.out BK432.out (by decide)) (fun _ hk => hk.2) (.slice Ao26 t446.length co26)) (fun _ hk => hk.2) (.slice Ao25 t453.length co25)) (fun _ hk => hk.2) (.slice Ao24 t438.length co24)) (fun _ hk => ⟨hk.1.2, hk.1.1.2⟩), by (with_reducible repeat (first | apply Kd.R_alloc | apply Kd.R_drewN | apply Kd.R_drew)); exact Kd.R_mono (Kd.R_far (p := ⟨gb432, 2, none⟩) (Kd.R_far (p := ⟨gb432, 1, none⟩) (Kd.R_far (p := ⟨gb432, 0, none⟩) (Kd.R_types HO441.out BK432.out (by decide)) (fun _ hk => hk.2) (.slice Ao26 t446.length co26)) (fun _ hk => hk.2) (.slice Ao25 t453.length co25)) (fun _ hk => hk.2) (.slice Ao24 t438.length co24)) (fun _ hk => ⟨hk.1.1.2, hk.1.2⟩), bX1 HB GE432⟩
   ·rw [if_neg c9] at H
    exact absurd H (by simp)
  ·rw [if_neg c8] at H
   exact absurd H (by simp)
 ·rw [if_neg c4] at H
  have c4b0 : (t434 == 0) = false := beq_eq_false_iff_ne.mpr c4; have c4b1 : (t434 != 0) = true := bne_iff_ne.mpr c4; simp only [Option.some.injEq, Prod.mk.injEq] at H; obtain ⟨rfl, rfl, rfl, rfl⟩ := H; go_enter Tryz.func26, Tryz.ntmps26; go_wp2_with (first | ((with_reducible refine gate_dst (N := 4) rfl ?_); refine eX 4 #[.slice none 0 0, .slice none 0 0, .slice none 0 0] 51 ?_; intro gb432 hg w30 hbox hb; have n0_ := Aside0.mk (below_step (bX HB) hb); have n1_ := Aside0.mk (hbox); have n2_ := Aside0.mk ((by rw [hg]; exact (below_size (bX HB)) : w.heap.size ≤ gb432)); have n3_ := Aside0.mk ((by rw [hg]; exact (below_size (bX HB)) : w.heap.size ≤ gb432)); clear HB; have HB := n0_; have BK432 := n1_; have GW432 := n2_; have GE432 := n3_; clear n0_ n1_ n2_ n3_; clear hb hbox hg) | ((with_reducible refine gate_callee (f := 69) rfl ?_); refine gX (some 17) Tryz.func69 #[.pointer (some ⟨G_, 0, none⟩), .int .i64 a1] ?_; (with_reducible refine (hier_World_Chain.calls G_ a0 a1 t433 t434 _ ?side1 A3.out).mono ?_); (case side1 => repeat (first | (with_reducible exact HQa0.out) | (with_reducible refine WOK.alloc ?_ _) | (with_reducible refine WOK.drewN ?_ _) | (with_reducible refine WOK.drew ?_) | exact WOK.below HQa0.out HB.out | exact WOK.below HQa0.out (bX1 HB GE432))); rintro e w31 ⟨v435, rfl, ho0, hb⟩; refine ⟨_, rfl, ?_⟩; have n0_ := Aside0.mk (Kd.R_lower ho0 (below_size (bX1 HB GE432))); have n1_ := Aside0.mk (blk_below (kX BK432) hb); have n2_ := Aside0.mk (below_step (bX1 HB GE432) hb); clear BK432; clear HB; have HO436 := n0_; have BK432 := n1_; have HB := n2_; clear n0_ n1_ n2_; (try clear hb); (try clear hb2); (try clear hk); (try clear hi); (try clear ho0); obtain ⟨hcz32_0, hcz32_1, hcz32_2, hfz32_0, hfz32_1, hfz32_2⟩ := c3X BK432)); refine bodyPost_ret (results_ct rfl _ _ gb432 51 #[.slice none 0 0, .slice none 0 0, .slice none 0 0] (0, 0) _ rfl (by (with_reducible repeat (first | refine blk_drewN ?_ _ | refine blk_drew ?_ | refine blk_alloc ?_ _)); refine blk_put (cs := #[.slice none 0 0, .slice none 0 0, .slice none 0 0]) ?_ 2 _ rfl; (with_reducible repeat (first | refine blk_drewN ?_ _ | refine blk_drew ?_ | refine blk_alloc ?_ _)); refine blk_put (cs := #[.slice none 0 0, .slice none 0 0, .slice none 0 0]) ?_ 1 _ rfl; (with_reducible repeat (first | refine blk_drewN ?_ _ | refine blk_drew ?_ | refine blk_alloc ?_ _)); refine blk_put (cs := #[.slice none 0 0, .slice none 0 0, .slice none 0 0]) ?_ 0 _ rfl; (with_reducible repeat (first | refine blk_drewN ?_ _ | refine blk_drew ?_ | refine blk_alloc ?_ _)); exact BK432.out) Tryz.underlying51 rfl (by kernel_rfl)) rfl ?_
  exact ⟨_, _, _, by first | rfl | (simp [errW_none, errW_some] <;> rfl) | (simp [*, errW_none, errW_some] <;> rfl), by first | exact Kd.R_nil _ _ _ _ _ | exact Kd.N_nil _ _ _ _ _ | exact Kd.V_nil _ _ _ _ _ | exact Kd.Q_nil _ _ _ _ _ | exact Kd.S_nil _ _ _ _ _, by first | exact Kd.R_nil _ _ _ _ _ | exact Kd.N_nil _ _ _ _ _ | exact Kd.V_nil _ _ _ _ _ | exact Kd.Q_nil _ _ _ _ _ | exact Kd.S_nil _ _ _ _ _, by first | exact Kd.R_nil _ _ _ _ _ | exact Kd.N_nil _ _ _ _ _ | exact Kd.V_nil _ _ _ _ _ | exact Kd.Q_nil _ _ _ _ _ | exact Kd.S_nil _ _ _ _ _, bX1 HB GE432⟩
def display_Deepest.l0 : Nat → List Hi.Ent → Int → Int → Int → Option (Int × Int)
 | 0, _, _, _, _ => none
 | k + 1, x0, x4, x11, x12 => if x12 < x11 then ((hier_World_Depth.f x0 x12).bind fun bt457 => (display_Deepest.l0 k x0 (mx x4 bt457.1) x11 (wrap64 (x12 + 1)))) else (some (x4, 0))
def display_Deepest.f (k : Nat) (a0 : List Hi.Ent) : Option (Int × Int) := (hier_World_Len.f a0).bind fun t456 => (display_Deepest.l0 k a0 0 t456 0)
end Go.Proofs.YtaipkdglhfhhiaaGreatDoor.Pt

namespace Go.Proofs.YtaipkdglhfhhiaaGreatDoor.Pt
open Go Go.RowKit Go.Proofs.YtaipkdglhfhhiaaGreatDoor.Nm Go.Proofs.YtaipkdglhfhhiaaGreatDoor.Hi Go.Proofs.YtaipkdglhfhhiaaGreatDoorW.PrintWords Go.Proofs.YtaipkdglhfhhiaaGreatDoorW.PrintLast Go.Proofs.YtaipkdglhfhhiaaGreatDoorW.PrintMore
set_option linter.unusedVariables false
set_option linter.unusedSimpArgs false
set_option maxHeartbeats 2000000
set_option maxRecDepth 100000
theorem rev_l0 (l : List Int) (hl : l.length ≤ 1000) : ∀ (k i : Nat) (acc : List Int), acc.length = l.length → l.length < k + i → i ≤ l.length →
  (∀ j, j < l.length → acc[j]? = if j < i ∨ l.length ≤ j + i then l[l.length - 1 - j]? else l[j]?) → slices_Reverse_int_int.l0 k acc (i : Int) ((l.length : Int) - 1 - i) = some l.reverse := by
 intro k
 induction k with
 | zero => intro i acc _ h1 h2 _; omega
 | succ k ih =>
  intro i acc ha h1 h2 hp; rw [slices_Reverse_int_int.l0]
  by_cases h : (i : Int) < (l.length : Int) - 1 - i
  ·obtain ⟨q, hq⟩ : ∃ q : Nat, (l.length : Int) - 1 - i = q := ⟨l.length - 1 - i, by omega⟩
   have hr : ∀ j : Nat, j < l.length → rd acc (j : Int) = (acc[j]?).getD 0 := fun j _ => by simp [rd, List.getD_eq_getElem?_getD]
   rw [if_pos h, hq, if_pos (by omega), if_pos (by omega), if_pos (by omega), if_pos (by omega), Int.toNat_natCast, Int.toNat_natCast, hr q (by omega), hr i (by omega), hp q (by omega), hp i (by omega)]; rw [if_neg (by omega), if_neg (by omega), show wrap64 ((i : Int) + 1) = ((i + 1 : Nat) : Int) by unfold wrap64; omega, show wrap64 ((q : Int) - 1) = (l.length : Int) - 1 - ((i + 1 : Nat) : Int) by unfold wrap64; omega]; refine ih (i + 1) _ (by simp [ha]) (by omega) (by omega) fun j hj => ?_
   have hg : ∀ m : Nat, m < l.length → some ((l[m]?).getD 0) = l[m]? := fun m hm => by rw [List.getElem?_eq_getElem hm]; rfl
   rw [List.getElem?_set, List.getElem?_set, List.length_set, ha]
   by_cases c1 : q = j
   ·subst c1
    rw [if_pos rfl, if_pos hj, if_pos (by omega), hg i (by omega)]
    congr 1
    omega
   ·rw [if_neg c1]
    by_cases c2 : i = j
    ·subst c2
     rw [if_pos rfl, if_pos hj, if_pos (by omega), hg q (by omega)]
     congr 1
     omega
    ·rw [if_neg c2, hp j hj]
     by_cases c3 : j < i ∨ l.length ≤ j + i
     ·rw [if_pos c3, if_pos (by omega)]
     ·rw [if_neg c3, if_neg (by omega)]
  ·rw [if_neg h]
   congr 1
   refine List.ext_getElem? fun j => ?_
   by_cases hj : j < l.length
   ·rw [hp j hj, List.getElem?_reverse hj]
    by_cases c3 : j < i ∨ l.length ≤ j + i
    ·rw [if_pos c3]
    ·rw [if_neg c3]
     congr 1
     omega
   ·rw [List.getElem?_eq_none (by omega), List.getElem?_eq_none (by rw [List.length_reverse]; omega)]
theorem rev_tot (l : List Int) (hl : l.length ≤ 1000) (k : Nat) (hk : l.length < k) : slices_Reverse_int_int.f k l = some l.reverse := by
 unfold slices_Reverse_int_int.f
 have := rev_l0 l hl k 0 l rfl (by omega) (by omega) fun j hj => by rw [if_neg (by omega)]
 rw [show wrap64 ((l.length : Int) - 1) = (l.length : Int) - 1 - ((0 : Nat) : Int) by unfold wrap64; omega]
 exact this
theorem build_tot (es : List Ent) (ht : Tree es) (hl : es.length ≤ 1000) (hc : ∀ x ∈ es, x.clo.length ≤ 1000) (k : Nat) (hk : 1000 < k) (i : Int) : display_Build.f k es i = some (buildF es i) := by
 unfold display_Build.f; rw [show hier_World_Chain.f es i = some (chainF es i) from rfl, Option.bind_some, show hier_World_Closure.f es i = some (closureF es i) from rfl]
 by_cases hi : 0 ≤ i ∧ i < es.length
 ·have h1 := chL_len ht hi.1 hi.2
  have h2 := ht.depth_ hi.1 hi.2
  have hcl : (chL es i).length ≤ 1000 := by omega
  rw [show chainF es i = (chL es i, 0) from if_pos hi, show closureF es i = ((ent es i).clo, 0) from if_pos hi, buildF, if_pos hi]
  show (if (0 : Int) = 0 then (slices_Reverse_int_int.f k (chL es i)).bind _ else _) = _
  rw [if_pos rfl, rev_tot _ hcl k (by omega), Option.bind_some, Option.bind_some]
  obtain ⟨m, hm, hm2⟩ : ∃ m : Nat, mn ((chL es i).length : Int) 8 = m ∧ m = min (chL es i).length 8 := ⟨_, by unfold mn; omega, rfl⟩
  show (if 0 ≤ mn ((chL es i).length : Int) 8 then _ else _) = _
  rw [hm, if_pos (by omega), if_pos (show (m : Int) ≤ ((chL es i).length : Int) by omega), Int.toNat_natCast]; unfold slices_Clone_int_int.f; rw [if_pos (by rw [List.length_take, List.length_reverse]; omega), Option.bind_some, if_pos (by rw [List.length_drop, List.length_reverse]; omega), Option.bind_some]
  have e1 : (chL es i).reverse.take m = (rcL es i).take 8 := by
   rw [hm2]; unfold rcL
   by_cases h8 : (chL es i).length ≤ 8
   ·rw [show min (chL es i).length 8 = (chL es i).reverse.length by rw [List.length_reverse]; omega, List.take_length, List.take_of_length_le (by rw [List.length_reverse]; exact h8)]
   ·rw [show min (chL es i).length 8 = 8 by omega]
  have e2 : (chL es i).reverse.drop m = (rcL es i).drop 8 := by
   rw [hm2]; unfold rcL
   by_cases h8 : (chL es i).length ≤ 8
   ·rw [List.drop_eq_nil_of_le (by rw [List.length_reverse]; omega), List.drop_eq_nil_of_le (by rw [List.length_reverse]; omega)]
   ·rw [show min (chL es i).length 8 = 8 by omega]
  rw [e1, e2]
 ·rw [show chainF es i = ([], 3) from if_neg hi, buildF, if_neg hi]
  rfl
theorem at_tot (p q r : List Int) (hp : p.length ≤ 1000) (hq : q.length ≤ 1000) (d : Int) (h0 : 0 ≤ d) (h1 : d ≤ 1000) : display_at.f p q r d = some (atF p q d) := by
 unfold display_at.f atF
 by_cases c1 : d < p.length
 ·rw [if_pos c1, if_pos h0, if_pos c1]
  rfl
 ·rw [if_neg c1, if_neg c1]
  by_cases c2 : d ≥ 8
  ·rw [if_pos c2, show wrap64 (d - 8) = d - 8 by unfold wrap64; omega]
   by_cases c3 : d - 8 < q.length
   ·rw [if_pos c3, if_pos (by omega), if_pos ⟨c2, c3⟩]
    rfl
   ·rw [if_neg c3, if_neg (fun h => c3 h.2)]
  ·rw [if_neg c2, if_neg (fun h => c2 h.1)]
theorem cell_heap {w w' : World} {ad : Addr} {i : Nat} (h : w'.heap[ad.block]? = w.heap[ad.block]?) : w'.cell? (ad.add i) = w.cell? (ad.add i) := by
 unfold World.cell?; rw [add_block, h]
theorem scan_at (l : List Int) (t : Int) (j : Nat) : ((∀ i, i < j → l[i]? ≠ some t) → l[j]? = some t → decide (t ∈ l) = true ∧ scanN t l = (j : Int) + 1) ∧ ((∀ i, i < j → l[i]? ≠ some t) → l.length ≤ j → decide (t ∈ l) = false ∧ scanN t l = (l.length : Int)) := by
 constructor
 ·intro h1 h2
  refine ⟨decide_eq_true (List.mem_of_getElem? h2), ?_⟩
  induction l generalizing j with
  | nil => simp at h2
  | cons x l ih =>
   rw [scanN]
   cases j with
   | zero =>
    rw [if_pos (by simpa using h2)]
    rfl
   | succ j =>
    have h0 := h1 0 (by omega); rw [if_neg (by simpa using h0), ih j (fun i hi => by have := h1 (i + 1) (by omega); simpa using this) (by simpa using h2)]; push_cast
    omega
 ·intro h1 h2
  refine ⟨decide_eq_false (fun hm => ?_), ?_⟩
  ·obtain ⟨i, hi⟩ := List.getElem?_of_mem hm
   have : i < l.length := by
    rcases Nat.lt_or_ge i l.length with h | h
    ·exact h
    ·rw [List.getElem?_eq_none h] at hi; cases hi
   exact h1 i (by omega) hi
  ·induction l generalizing j with
   | nil => rfl
   | cons x l ih =>
    rw [List.length_cons] at h2 ⊢; have h0 := h1 0 (by omega); rw [scanN, if_neg (by simpa using h0), ih (j - 1) (fun i hi => by have := h1 (i + 1) (by omega); simpa using this) (by omega)]; push_cast
    omega
theorem look_any (w wr : World) (g : Nat) (es : List Ent) (hq : WOK w g es) (hb : Below w.heap.size w wr) (br : Nat) (hbr : w.heap.size ≤ br) (n : Int) (h0 : 0 ≤ n) (h1 : n ≤ 1000) (hblk : wr.heap[br]? = some (.cells #[.int .i64 n] 3 (0, 0)))
  (s t : Int) (hs : 0 ≤ s ∧ s < es.length) (ht : 0 ≤ t ∧ t < es.length) :
  Calls Tryz.prog 67 #[.pointer (some ⟨g, 0, none⟩), .int .i64 s, .int .i64 t, .pointer (some ⟨br, 0, none⟩)] wr fun e w' => e = .returned (.bool (lookF es s t).1) ∧ w'.heap[br]? = some (.cells #[.int .i64 (n + (lookF es s t).2)] 3 (0, 0)) ∧ Below w.heap.size w w' := by
 have HW := Lib.hid hq; have IF := Lib.hid (fun (W : World) (hb : Below w.heap.size w W) => hier_World_IsIface.calls g es t (isI (ent es t).c) W (hq.below hb) (by unfold hier_World_IsIface.f; rw [show inB es t = true from decide_eq_true ht]; rfl)); have BD := Lib.hid (fun (W : World) (hb : Below w.heap.size w W) => display_Build.calls 2000 g es s (buildF es s).1 (buildF es s).2.1 (buildF es s).2.2.1 (buildF es s).2.2.2 W (hq.below hb) (build_tot es hq.tree hq.len (fun x hx => (hq.fine x hx).2.2) 2000 (by decide) s)); have DP := Lib.hid (fun (W : World) (hb : Below w.heap.size w W) => hier_World_Depth.calls g es t (ent es t).depth 0 W (hq.below hb) (by unfold hier_World_Depth.f depthF; rw [if_pos ht])); have hdt := hq.tree.depth_ ht.1 ht.2; have hlen := hq.len; have hcl := (hq.fine _ (List.mem_of_getElem? (get_ent hs.1 hs.2))).2.2
 have hbs : (buildF es s).1.length ≤ 1000 ∧ (buildF es s).2.1.length ≤ 1000 ∧ (buildF es s).2.2.1 = (ent es s).clo := by
  have hc := chL_len hq.tree hs.1 hs.2; have hd := hq.tree.depth_ hs.1 hs.2; unfold buildF; rw [if_pos hs]; refine ⟨?_, ?_, rfl⟩
  ·show ((rcL es s).take 8).length ≤ 1000
   rw [List.length_take, rcL, List.length_reverse]; omega
  ·show ((rcL es s).drop 8).length ≤ 1000
   rw [List.length_drop, rcL, List.length_reverse]; omega
 have AT := Lib.hid (at_tot (buildF es s).1 (buildF es s).2.1 (buildF es s).2.2.1 hbs.1 hbs.2.1 (ent es t).depth hdt.1 (by omega)); have hL : Hid (lookF es s t = if isI (ent es t).c = true ∧ s = t then (true, 1) else if isI (ent es t).c = false then (atF (buildF es s).1 (buildF es s).2.1 (ent es t).depth == t, 1) else (decide (t ∈ (buildF es s).2.2.1), 1 + scanN t (buildF es s).2.2.1)) := Lib.hid (by rw [hbs.2.2]; rfl)
 have hclo : (buildF es s).2.2.1.length ≤ 1000 := by rw [hbs.2.2]; exact hcl
 generalize lookF es s t = L at *; generalize buildF es s = B at *; generalize isI (ent es t).c = iI at *; generalize (ent es t).depth = dt at *; obtain ⟨bp, bd, bc, be⟩ := B; have q0 : wr.cell? ⟨br, 0, none⟩ = some (.int .i64 n) := (blk_cell hblk 0).trans rfl; have f0 := blk_frozen hblk 0; have B1 := Lib.hid (blk_put hblk 0 (.int .i64 (n + 1)) rfl); have H1 := Lib.hid (hb.setCell (p := ⟨br, 0, none⟩) hbr (.int .i64 (n + 1))); clear hblk hb hq hbs; go_enter Tryz.func67, Tryz.ntmps67
 go_upto_region 2 with (fail)
 generalize wr.setCell ⟨br, 0, none⟩ (.int .i64 (n + 1)) = w1 at *; have C1 := Lib.hid (IF.out w1 H1.out); clear q0 f0
 cases iI with
 | false =>
  have hL2 : Hid (L = (atF bp bd dt == t, 1)) := Lib.hid (by rw [hL.out, if_neg (fun h => by cases h.1), if_pos rfl]); clear hL; go_wp2_with fail; refine C1.out.mono ?_; rintro e w2 ⟨rfl, hb2⟩; have H2 := Lib.hid (H1.out.trans (hb2.mono H1.out.size)); have B2 := Lib.hid (blk_below B1.out hb2); have CB := Lib.hid (BD.out w2 H2.out); clear C1 hb2 B1 H1; go_wp2_with fail; refine CB.out.mono ?_; rintro e w3 ⟨v0, v1, v2, rfl, R0, R1, R2, hb3⟩; obtain ⟨A0, c0, rfl⟩ := Kd.R_slice R0; obtain ⟨A1, c1, rfl⟩ := Kd.R_slice R1; obtain ⟨A2, c2, rfl⟩ := Kd.R_slice R2; have L0 := Lib.hid (Kd.R_reads' R0).2.1; have L1 := Lib.hid (Kd.R_reads' R1).2.1; have L2 := Lib.hid (Kd.R_reads' R2).2.1; have H3 := Lib.hid (H2.out.trans (hb3.mono H2.out.size)); have B3 := Lib.hid (blk_below B2.out hb3); replace R0 := Lib.hid R0; replace R1 := Lib.hid R1; replace R2 := Lib.hid R2; clear CB hb3 B2 H2; have H4 := Lib.hid (H3.out.alloc H3.out.size (.cells #[.slice A0 bp.length c0, .slice A1 bd.length c1, .slice A2 bc.length c2] 51)); have D4 := Lib.hid (blk_new w3 (.cells #[.slice A0 bp.length c0, .slice A1 bd.length c1, .slice A2 bc.length c2] 51)); have A4 := (Below.refl w3.heap.size w3).alloc (Nat.le_refl _) (.cells #[.slice A0 bp.length c0, .slice A1 bd.length c1, .slice A2 bc.length c2] 51); have B4 := Lib.hid (blk_below B3.out A4); replace R0 := Lib.hid (Kd.C_below (Kd.R_reads' R0.out).2.2 A4); replace R1 := Lib.hid (Kd.C_below (Kd.R_reads' R1.out).2.2 A4); replace R2 := Lib.hid (Kd.C_below (Kd.R_reads' R2.out).2.2 A4); have C4 := Lib.hid (IF.out _ H4.out); clear A4 B3 H3; go_wp2_with fail; refine C4.out.mono ?_; rintro e w5 ⟨rfl, hb5⟩; have H5 := Lib.hid (H4.out.trans (hb5.mono H4.out.size)); have B5 := Lib.hid (blk_below B4.out hb5); have D5 := Lib.hid (blk_below D4.out hb5); replace R0 := Lib.hid (Kd.C_below R0.out hb5); replace R1 := Lib.hid (Kd.C_below R1.out hb5); replace R2 := Lib.hid (Kd.C_below R2.out hb5); have C5 := Lib.hid (DP.out _ H5.out); clear C4 hb5 B4 D4 H4; go_wp2_with fail; refine C5.out.mono ?_; rintro e w6 ⟨rfl, hb6⟩; have H6 := Lib.hid (H5.out.trans (hb6.mono H5.out.size)); have B6 := Lib.hid (blk_below B5.out hb6); have D6 := Lib.hid (blk_below D5.out hb6); replace R0 := Lib.hid (Kd.C_below R0.out hb6); replace R1 := Lib.hid (Kd.C_below R1.out hb6); replace R2 := Lib.hid (Kd.C_below R2.out hb6); clear C5 hb6 B5 D5 H5; have x0 : w6.cell? ⟨w3.heap.size, 0, none⟩ = some (.slice A0 bp.length c0) := (blk_cell D6.out 0).trans rfl; have x1 : w6.cell? ⟨w3.heap.size, 1, none⟩ = some (.slice A1 bd.length c1) := (blk_cell D6.out 1).trans rfl; have x2 : w6.cell? ⟨w3.heap.size, 2, none⟩ = some (.slice A2 bc.length c2) := (blk_cell D6.out 2).trans rfl; have C6 := Lib.hid (display_at.calls A0 c0 bp A1 c1 bd A2 c2 bc dt (atF bp bd dt) w6 R0.out L0.out R1.out L1.out R2.out L2.out AT.out); go_wp2_with fail; refine C6.out.mono ?_; rintro e w7 ⟨rfl, hb7⟩; go_wp2; go_ret
  exact ⟨by rw [hL2.out]; rfl, by rw [hL2.out]; exact blk_below B6.out hb7, H6.out.trans (hb7.mono H6.out.size)⟩
 | true =>
  by_cases hst : s = t
  ·have hst2 : (s == t) = true := beq_iff_eq.2 hst
   have hL2 : Hid (L = (true, 1)) := Lib.hid (by rw [hL.out, if_pos ⟨rfl, hst⟩]); clear hL hst; go_wp2_with fail; refine C1.out.mono ?_; rintro e w2 ⟨rfl, hb2⟩; go_wp2; go_ret
   exact ⟨by rw [hL2.out]; rfl, by rw [hL2.out]; exact blk_below B1.out hb2, H1.out.trans (hb2.mono H1.out.size)⟩
  ·have hst2 : (s == t) = false := beq_eq_false_iff_ne.2 hst
   have hL2 : Hid (L = (decide (t ∈ bc), 1 + scanN t bc)) := Lib.hid (by rw [hL.out, if_neg (fun h => hst h.2), if_neg (by decide)]); clear hL hst; go_wp2_with fail; refine C1.out.mono ?_; rintro e w2 ⟨rfl, hb2⟩; have H2 := Lib.hid (H1.out.trans (hb2.mono H1.out.size)); have B2 := Lib.hid (blk_below B1.out hb2); have CB := Lib.hid (BD.out w2 H2.out); clear C1 hb2 B1 H1; go_wp2_with fail; refine CB.out.mono ?_; rintro e w3 ⟨v0, v1, v2, rfl, R0, R1, R2, hb3⟩; obtain ⟨A0, c0, rfl⟩ := Kd.R_slice R0; obtain ⟨A1, c1, rfl⟩ := Kd.R_slice R1; obtain ⟨A2, c2, rfl⟩ := Kd.R_slice R2
   have hne : Hid (∀ ad, A2 = some ad → ad.block ≠ br) := Lib.hid (by
    rintro ad rfl he; have h1 := ((Kd.R_bound R2).1 ad.block rfl).2.1; have h2 := blk_lt B2.out
    omega)
   have H3 := Lib.hid (H2.out.trans (hb3.mono H2.out.size)); have B3 := Lib.hid (blk_below B2.out hb3); replace R0 := Lib.hid R0; replace R1 := Lib.hid R1; replace R2 := Lib.hid R2; clear CB hb3 B2 H2; have H4 := Lib.hid (H3.out.alloc H3.out.size (.cells #[.slice A0 bp.length c0, .slice A1 bd.length c1, .slice A2 bc.length c2] 51)); have D4 := Lib.hid (blk_new w3 (.cells #[.slice A0 bp.length c0, .slice A1 bd.length c1, .slice A2 bc.length c2] 51)); have A4 := (Below.refl w3.heap.size w3).alloc (Nat.le_refl _) (.cells #[.slice A0 bp.length c0, .slice A1 bd.length c1, .slice A2 bc.length c2] 51); have B4 := Lib.hid (blk_below B3.out A4); replace R0 := Lib.hid (Kd.C_below (Kd.R_reads' R0.out).2.2 A4); replace R1 := Lib.hid (Kd.C_below (Kd.R_reads' R1.out).2.2 A4); replace R2 := Lib.hid (Kd.C_below (Kd.R_reads' R2.out).2.2 A4); have C4 := Lib.hid (IF.out _ H4.out); clear A4 B3 H3; go_wp2_with fail; refine C4.out.mono ?_; rintro e w5 ⟨rfl, hb5⟩; have H5 := Lib.hid (H4.out.trans (hb5.mono H4.out.size)); have B5 := Lib.hid (blk_below B4.out hb5); have D5 := Lib.hid (blk_below D4.out hb5); have M5 := Lib.hid (Kd.C_below R2.out hb5); clear C4 hb5 B4 D4 H4 R0 R1 R2; have x2 : w5.cell? ⟨w3.heap.size, 2, none⟩ = some (.slice A2 bc.length c2) := (blk_cell D5.out 2).trans rfl; go_wp2
   go_loopw [52] (fun v52 wx => ∃ j : Nat, j ≤ bc.length ∧ v52 = .int .i64 j ∧ Hid (∀ i, i < j → bc[i]? ≠ some t) ∧ Hid (wx.heap[br]? = some (.cells #[.int .i64 (n + 1 + j)] 3 (0, 0))) ∧ Hid (∀ ad, A2 = some ad → wx.heap[ad.block]? = w5.heap[ad.block]?) ∧ Hid (Below w.heap.size w wx)) (fun v52 _ => bc.length - (intOf v52).toNat)
   case atStart => exact ⟨0, Nat.zero_le _, rfl, Lib.hid (fun i hi => absurd hi (by omega)), Lib.hid (by simpa using B5.out), Lib.hid (fun _ _ => rfl), H5⟩
   case round =>
    clear B5 D5 H5 x2; obtain ⟨j, hj, rfl, HN, BX, MX, HX⟩ := hrel; have hsc := scan_at bc t j
    by_cases hlt : j < bc.length
    ·have hjd : decide (j < bc.length) = true := decide_eq_true hlt
     obtain ⟨ad, rfl, hcell⟩ := Kd.at_int M5.out (j : Int) (by omega) (by omega)
     have hgj : bc[j]? = some (rd bc (j : Int)) := by simp [rd, List.getD_eq_getElem?_getD, List.getElem?_eq_getElem hlt]
     have hcell : wr.cell? (ad.add (j : Int).toNat) = some (.int .i64 (rd bc (j : Int))) := by rw [cell_heap (MX.out ad rfl)]; exact hcell
     rw [Int.toNat_natCast] at hcell; have q0 : wr.cell? ⟨br, 0, none⟩ = some (.int .i64 (n + 1 + j)) := (blk_cell BX.out 0).trans rfl; have f0 := blk_frozen BX.out 0; have B1 := Lib.hid (blk_put BX.out 0 (.int .i64 (n + 1 + j + 1)) rfl); have H1 := Lib.hid (HX.out.setCell (p := ⟨br, 0, none⟩) hbr (.int .i64 (n + 1 + j + 1)))
     have M1 : Hid (∀ ad', some ad = some ad' → (wr.setCell ⟨br, 0, none⟩ (.int .i64 (n + 1 + j + 1))).heap[ad'.block]? = w5.heap[ad'.block]?) := Lib.hid (by
      intro ad' he
      cases he
      exact (Below.heap_setCell wr ⟨br, 0, none⟩ _ _ (hne.out _ rfl)).trans (MX.out _ rfl))
     generalize hx : rd bc (j : Int) = x at *; clear BX HX MX hx
     by_cases hxt : x = t
     ·have e1 : (x == t) = true := beq_iff_eq.2 hxt
      have hs2 := hsc.1 HN.out (by rw [hgj, hxt]); replace hs2 := Lib.hid hs2; clear hxt hsc; go_wp2; go_ret
      exact ⟨by rw [hL2.out, hs2.out.1]; rfl, by rw [hL2.out]; show _ = some (Obj.cells #[.int .i64 (n + (1 + scanN t bc))] _ _); rw [hs2.out.2, show n + (1 + ((j : Int) + 1)) = n + 1 + j + 1 by omega]; exact B1.out, H1.out⟩
     ·have e1 : (x == t) = false := beq_eq_false_iff_ne.2 hxt
      have hN2 : Hid (∀ i, i < j + 1 → bc[i]? ≠ some t) := Lib.hid (by
       intro i hi
       by_cases hij : i = j
       ·subst hij
        rw [hgj]
        exact fun h => hxt (Option.some.inj h)
       ·exact HN.out i (by omega))
      clear hxt hsc hgj; go_wp2; refine ⟨⟨j + 1, by omega, by push_cast; rfl, hN2, Lib.hid (by rw [show n + 1 + ((j + 1 : Nat) : Int) = n + 1 + j + 1 by omega]; exact B1.out), M1, H1⟩, by simp [intOf]; omega⟩
    ·have hjd : decide (j < bc.length) = false := decide_eq_false hlt
     have hs2 := hsc.2 HN.out (by omega); replace hs2 := Lib.hid hs2
     have hje : j = bc.length := by omega
     replace hje := Lib.hid hje; clear hsc; go_wp2; go_ret
     exact ⟨by rw [hL2.out, hs2.out.1]; rfl, by rw [hL2.out]; show _ = some (Obj.cells #[.int .i64 (n + (1 + scanN t bc))] _ _); rw [hs2.out.2, show n + (1 + (bc.length : Int)) = n + 1 + j by have := hje.out; omega]; exact BX.out, HX.out⟩
theorem index_i0 (s t : Int) (w : World) : (Instr.index 111 (.agg #[.int .i64 s, .int .i64 t]) (.int .i64 0)).run Tryz.prog w = .ok (.int .i64 s) w := by rfl
theorem index_i1 (s t : Int) (w : World) : (Instr.index 111 (.agg #[.int .i64 s, .int .i64 t]) (.int .i64 1)).run Tryz.prog w = .ok (.int .i64 t) w := by rfl
def display_Test.f (a0 : List Hi.Ent) (a1 : Int) (a2 : Int) : Option (Bool × Int × Int) := some (testF a0 a1 a2)
theorem display_Test.calls (G_ : Nat) (a0 : List Hi.Ent) (a1 : Int) (a2 : Int) (r1 : Bool) (r2 : Int) (r3 : Int) (w : World) (hq0 : WOK w G_ a0) (h : display_Test.f a0 a1 a2 = some (r1, r2, r3)) :
  Calls Tryz.prog 23 #[.pointer (some ⟨G_, 0, none⟩), .int .i64 a1, .int .i64 a2] w fun e w' => e = .returned (.tuple #[.bool r1, .int .i64 r2, .int .i64 r3]) ∧ Below w.heap.size w w' := by
 have hF := Lib.hid (Option.some.inj h); have BB := Lib.hid ((Below.refl w.heap.size w).alloc (Nat.le_refl _) (.cells #[.int .i64 0] 3)); have B0 := Lib.hid (blk_new w (.cells #[.int .i64 0] 3)); have CL := Lib.hid (fun (W : World) (hb : Below w.heap.size w W) (i : Int) => hier_World_Class.calls G_ a0 i (classF a0 i).1.f0 (classF a0 i).1.f1 (classF a0 i).1.f2 (classF a0 i).1.f3 (classF a0 i).1.f4 (classF a0 i).1.f5 (classF a0 i).2 W (hq0.below hb) rfl); have LK := Lib.hid (fun (wr : World) (hb : Below w.heap.size w wr) (hblk : wr.heap[w.heap.size]? = some (.cells #[.int .i64 0] 3 (0, 0))) (h1 : 0 ≤ a1 ∧ a1 < a0.length) (h2 : 0 ≤ a2 ∧ a2 < a0.length) => look_any w wr G_ a0 hq0 hb w.heap.size (Nat.le_refl _) 0 (by decide) (by decide) hblk a1 a2 h1 h2); have I0 := fun w => index_i0 a1 a2 w; have I1 := fun w => index_i1 a1 a2 w; have E1 : Hid ((classF a0 a1).2 = if 0 ≤ a1 ∧ a1 < a0.length then 0 else 3) := Lib.hid (by unfold classF; split <;> rfl); have E2 : Hid ((classF a0 a2).2 = if 0 ≤ a2 ∧ a2 < a0.length then 0 else 3) := Lib.hid (by unfold classF; split <;> rfl); have C1 := Lib.hid (CL.out _ BB.out a1); have C2 := Lib.hid (fun W hb => CL.out W hb a2); clear h hq0 CL; unfold testF at hF; generalize classF a0 a1 = K1 at *; generalize classF a0 a2 = K2 at *; obtain ⟨⟨x0, x1, x2, x3, x4, x5⟩, xe⟩ := K1; obtain ⟨⟨y0, y1, y2, y3, y4, y5⟩, ye⟩ := K2; simp only at C1 C2 E1 E2; generalize lookF a0 a1 a2 = L at *; have q0 : (w.alloc (.cells #[.int .i64 0] 3)).cell? ⟨w.heap.size, 0, none⟩ = some (.int .i64 0) := (blk_cell B0.out 0).trans rfl; have f0 := blk_frozen B0.out 0; go_enter Tryz.func23, Tryz.ntmps23; go_wp2_with fail; generalize w.alloc (.cells #[.int .i64 0] 3) = w0 at *; refine wp_loop_rounds 3 ?_; rw [rounds_succ]; go_wp2_with fail; refine C1.out.mono ?_; rintro e w1 ⟨v2, v5, rfl, R2, R5, hb1⟩; obtain ⟨A2, c2, rfl⟩ := Kd.R_slice R2; obtain ⟨A5, c5, rfl⟩ := Kd.R_slice R5; have M1 := Lib.hid ((BB.out.trans (hb1.mono BB.out.size)).alloc (BB.out.trans (hb1.mono BB.out.size)).size (.cells #[.string x0, .string x1, .slice A2 x2.length c2, .int .i64 x3, .int .i64 x4, .slice A5 x5.length c5] 85)); have Z1 := Lib.hid (blk_below (blk_below B0.out hb1) ((Below.refl w1.heap.size w1).alloc (Nat.le_refl _) (.cells #[.string x0, .string x1, .slice A2 x2.length c2, .int .i64 x3, .int .i64 x4, .slice A5 x5.length c5] 85))); have q0 : (w1.alloc (.cells #[.string x0, .string x1, .slice A2 x2.length c2, .int .i64 x3, .int .i64 x4, .slice A5 x5.length c5] 85)).cell? ⟨w.heap.size, 0, none⟩ = some (.int .i64 0) := (blk_cell Z1.out 0).trans rfl; have f0 := blk_frozen Z1.out 0; clear C1 hb1 R2 R5 BB B0
 by_cases h1 : 0 ≤ a1 ∧ a1 < a0.length
 ·have hx : xe = 0 := by rw [E1.out, if_pos h1]
  rw [if_pos h1] at hF; have hk1 := Lib.hid h1; subst hx; clear h1 E1; have L2 := Lib.hid (C2.out _ M1.out); go_wp2_with fail; rw [rounds_succ]; go_wp2_with fail; refine L2.out.mono ?_; rintro e w2 ⟨v2, v5, rfl, R2, R5, hb2⟩; obtain ⟨B2, d2, rfl⟩ := Kd.R_slice R2; obtain ⟨B5, d5, rfl⟩ := Kd.R_slice R5; have M2 := Lib.hid ((M1.out.trans (hb2.mono M1.out.size)).alloc (M1.out.trans (hb2.mono M1.out.size)).size (.cells #[.string y0, .string y1, .slice B2 y2.length d2, .int .i64 y3, .int .i64 y4, .slice B5 y5.length d5] 85)); have Z2 := Lib.hid (blk_below (blk_below Z1.out hb2) ((Below.refl w2.heap.size w2).alloc (Nat.le_refl _) (.cells #[.string y0, .string y1, .slice B2 y2.length d2, .int .i64 y3, .int .i64 y4, .slice B5 y5.length d5] 85))); have q0 : (w2.alloc (.cells #[.string y0, .string y1, .slice B2 y2.length d2, .int .i64 y3, .int .i64 y4, .slice B5 y5.length d5] 85)).cell? ⟨w.heap.size, 0, none⟩ = some (.int .i64 0) := (blk_cell Z2.out 0).trans rfl; have f0 := blk_frozen Z2.out 0; clear L2 hb2 R2 R5 M1 Z1 C2
  by_cases h2 : 0 ≤ a2 ∧ a2 < a0.length
  ·have hy : ye = 0 := by rw [E2.out, if_pos h2]
   rw [if_pos h2] at hF; subst hy; have L3 := Lib.hid (LK.out _ M2.out Z2.out hk1.out h2); clear h2 E2 LK; go_wp2_with fail; rw [rounds_succ]; go_wp2_with fail; refine L3.out.mono ?_; rintro e w3 ⟨rfl, Z3, M3⟩; have q0 : w3.cell? ⟨w.heap.size, 0, none⟩ = some (.int .i64 (0 + L.2)) := (blk_cell Z3 0).trans rfl; rw [Int.zero_add] at q0; have f0 := blk_frozen Z3 0; have Z4 := Lib.hid (blk_put Z3 0 (.int .i64 L.2) rfl); replace M3 := Lib.hid M3; clear L3 Z2 Z3 M2; go_wp2; go_region
   all_goals go_wp2
   have z4 : (w3.setCell ⟨w.heap.size, 0, none⟩ (.int .i64 L.2)).drew.cell? ⟨w.heap.size, 0, none⟩ = some (.int .i64 L.2) := (blk_cell (blk_drew Z4.out) 0).trans rfl; refine bodyPost_ret (v := .tuple #[.bool L.1, .int .i64 L.2, .int .i64 0]) (by simp [results, Tryz.results23, go_sem, z4]) rfl ⟨?_, below_drew1 (Below.setCell (p := ⟨w.heap.size, 0, none⟩) M3.out (Nat.le_refl _) _)⟩; have := hF.out
   cases this
   rfl
  ·have hy : (ye != 0) = true := by rw [E2.out, if_neg h2]; rfl
   have hye : ye = 3 := by rw [E2.out, if_neg h2]
   rw [if_neg h2] at hF; clear h2 E2 LK; go_wp2; have z4 : ((w2.alloc (.cells #[.string y0, .string y1, .slice B2 y2.length d2, .int .i64 y3, .int .i64 y4, .slice B5 y5.length d5] 85)).setCell ⟨w.heap.size, 0, none⟩ (.int .i64 0)).cell? ⟨w.heap.size, 0, none⟩ = some (.int .i64 0) := (blk_cell (blk_put Z2.out 0 (.int .i64 0) rfl) 0).trans rfl; refine bodyPost_ret (v := .tuple #[.bool false, .int .i64 0, .int .i64 3]) (by simp [results, Tryz.results23, go_sem, z4, hye]) rfl ⟨?_, Below.setCell (p := ⟨w.heap.size, 0, none⟩) M2.out (Nat.le_refl _) _⟩; have := hF.out
   cases this
   rfl
 ·have hx : (xe != 0) = true := by rw [E1.out, if_neg h1]; rfl
  have hxe : xe = 3 := by rw [E1.out, if_neg h1]
  rw [if_neg h1] at hF; clear h1 E1 LK; go_wp2; have z4 : ((w1.alloc (.cells #[.string x0, .string x1, .slice A2 x2.length c2, .int .i64 x3, .int .i64 x4, .slice A5 x5.length c5] 85)).setCell ⟨w.heap.size, 0, none⟩ (.int .i64 0)).cell? ⟨w.heap.size, 0, none⟩ = some (.int .i64 0) := (blk_cell (blk_put Z1.out 0 (.int .i64 0) rfl) 0).trans rfl; refine bodyPost_ret (v := .tuple #[.bool false, .int .i64 0, .int .i64 3]) (by simp [results, Tryz.results23, go_sem, z4, hxe]) rfl ⟨?_, Below.setCell (p := ⟨w.heap.size, 0, none⟩) M1.out (Nat.le_refl _) _⟩; have := hF.out
  cases this
  rfl
end Go.Proofs.YtaipkdglhfhhiaaGreatDoor.Pt

namespace Go.Proofs.YtaipkdglhfhhiaaGreatDoor.Pt
open Go Go.RowKit Go.Proofs.YtaipkdglhfhhiaaGreatDoor.Nm Go.Proofs.YtaipkdglhfhhiaaGreatDoor.Hi Go.Proofs.YtaipkdglhfhhiaaGreatDoorW.PrintWords Go.Proofs.YtaipkdglhfhhiaaGreatDoorW.PrintLast Go.Proofs.YtaipkdglhfhhiaaGreatDoorW.PrintMore
set_option linter.unusedVariables false
set_option linter.unusedSimpArgs false
set_option maxHeartbeats 2000000
set_option maxRecDepth 100000
theorem index_two (a : Int) (s : ByteArray) (b : Int) (t : ByteArray) (w : World) : (Instr.index 126 (.agg #[.int .i64 a, .string s, .int .i64 b, .string t]) (.int .i64 0)).run Tryz.prog w = .ok (.agg #[.int .i64 a, .string s]) w := by rfl
theorem index_two1 (a : Int) (s : ByteArray) (b : Int) (t : ByteArray) (w : World) : (Instr.index 126 (.agg #[.int .i64 a, .string s, .int .i64 b, .string t]) (.int .i64 1)).run Tryz.prog w = .ok (.agg #[.int .i64 b, .string t]) w := by rfl
def arrays_Sub.f (a0 : List Hi.Ent) (a1_0 : Int) (a1_1 : ByteArray) (a2_0 : Int) (a2_1 : ByteArray) : Option (Bool × Int) := some (subF a0 a1_0 a1_1 a2_0 a2_1)
theorem arrays_Sub.calls (G_ : Nat) (a0 : List Hi.Ent) (a1_0 : Int) (a1_1 : ByteArray) (a2_0 : Int) (a2_1 : ByteArray) (r1 : Bool) (r2 : Int) (w : World) (hq0 : WOK w G_ a0) (h : arrays_Sub.f a0 a1_0 a1_1 a2_0 a2_1 = some (r1, r2)) :
  Calls Tryz.prog 41 #[.pointer (some ⟨G_, 0, none⟩), .agg #[.int .i64 a1_0, .string a1_1], .agg #[.int .i64 a2_0, .string a2_1]] w fun e w' => e = .returned (.tuple #[.bool r1, .int .i64 r2]) ∧ Below w.heap.size w w' := by
 have hF := Lib.hid (Option.some.inj h); have B0 := heap_alloc2_old w (.cells #[.int .i64 a1_0, .string a1_1] 24) (.cells #[.int .i64 a2_0, .string a2_1] 24); have B1 := heap_alloc2_new w (.cells #[.int .i64 a1_0, .string a1_1] 24) (.cells #[.int .i64 a2_0, .string a2_1] 24); have BB := ((Below.refl w.heap.size w).alloc (Nat.le_refl _) (.cells #[.int .i64 a1_0, .string a1_1] 24)).alloc (by simp) (.cells #[.int .i64 a2_0, .string a2_1] 24); replace B0 := Lib.hid B0; replace B1 := Lib.hid B1; replace BB := Lib.hid BB; have LD := Lib.hid (fun (W : World) (hb : Below w.heap.size w W) (d : Int) (s : ByteArray) => arrays_Loaded.calls G_ a0 d s _ W (hq0.below hb) (load_tot a0 d s)); have BL := Lib.hid (fun (W : World) (hb : Below w.heap.size w W) (h1 : loadF a0 a1_0 a1_1 = 0) (h2 : loadF a0 a2_0 a2_1 = 0) => arrays_below.calls 300 G_ a0 a1_0 a1_1 a2_0 a2_1 _ W (hq0.below hb) (below_all h1 h2)); have I0 := fun w => index_two a1_0 a1_1 a2_0 a2_1 w; have I1 := fun w => index_two1 a1_0 a1_1 a2_0 a2_1 w; clear h hq0; unfold subF at hF; go_enter Tryz.func41, Tryz.ntmps41; go_wp2_with fail; change Code.wp _ _ _ _ ((w.alloc (.cells #[.int .i64 a1_0, .string a1_1] 24)).alloc (.cells #[.int .i64 a2_0, .string a2_1] 24)); generalize (w.alloc (.cells #[.int .i64 a1_0, .string a1_1] 24)).alloc (.cells #[.int .i64 a2_0, .string a2_1] 24) = w0 at *; have Z1 := Lib.hid ((Below.refl w0.heap.size w0).alloc (Nat.le_refl _) (.cells #[.int .i64 a1_0, .string a1_1] 24)); have N1 := Lib.hid (BB.out.alloc BB.out.size (.cells #[.int .i64 a1_0, .string a1_1] 24)); have L1 := Lib.hid (LD.out _ N1.out a1_0 a1_1); refine wp_loop_rounds 3 ?_; rw [rounds_succ]; go_wp2_with fail; refine L1.out.mono ?_; rintro e w1 ⟨rfl, hb1⟩; have M1 := Lib.hid (N1.out.trans (hb1.mono N1.out.size)); have Z2 := Lib.hid (Z1.out.trans (hb1.mono Z1.out.size)); clear L1 hb1 N1 Z1
 by_cases he1 : loadF a0 a1_0 a1_1 = 0
 ·rw [if_neg (fun h => h he1)] at hF
  have hk1 := Lib.hid he1; rw [he1]; clear he1; go_wp2_with fail; rw [rounds_succ]; have N2 := Lib.hid (M1.out.alloc M1.out.size (.cells #[.int .i64 a2_0, .string a2_1] 24)); have Z3 := Lib.hid (Z2.out.alloc Z2.out.size (.cells #[.int .i64 a2_0, .string a2_1] 24)); have L2 := Lib.hid (LD.out _ N2.out a2_0 a2_1); go_wp2_with fail; refine L2.out.mono ?_; rintro e w2 ⟨rfl, hb2⟩; have M2 := Lib.hid (N2.out.trans (hb2.mono N2.out.size)); have Z4 := Lib.hid (Z3.out.trans (hb2.mono Z3.out.size)); clear L2 hb2 N2 M1 Z2 Z3
  by_cases he2 : loadF a0 a2_0 a2_1 = 0
  ·rw [if_neg (fun h => h he2)] at hF
   have hk2 := Lib.hid he2; rw [he2]; clear he2; have C0 := Lib.hid (blk_below B0.out Z4.out); have C1 := Lib.hid (blk_below B1.out Z4.out); have q0 : w2.cell? ⟨w.heap.size, 0, none⟩ = some (.int .i64 a1_0) := (blk_cell C0.out 0).trans rfl; have q1 : w2.cell? ⟨w.heap.size, 1, none⟩ = some (.string a1_1) := (blk_cell C0.out 1).trans rfl; have q2 : w2.cell? ⟨w.heap.size + 1, 0, none⟩ = some (.int .i64 a2_0) := (blk_cell C1.out 0).trans rfl; have q3 : w2.cell? ⟨w.heap.size + 1, 1, none⟩ = some (.string a2_1) := (blk_cell C1.out 1).trans rfl; have L3 := Lib.hid (BL.out _ M2.out hk1.out hk2.out); go_wp2_with fail; rw [rounds_succ]; go_wp2_with fail; refine L3.out.mono ?_; rintro e w3 ⟨rfl, hb3⟩; have M3 := Lib.hid (M2.out.trans (hb3.mono M2.out.size)); clear L3 hb3 M2; go_wp2; go_ret2; have := hF.out
   cases this
   exact ⟨rfl, M3.out⟩
  ·have hne : (loadF a0 a2_0 a2_1 != 0) = true := bne_iff_ne.2 he2
   rw [if_pos he2] at hF; clear he2; go_wp2; go_ret2; have := hF.out
   cases this
   exact ⟨rfl, M2.out⟩
 ·have hne : (loadF a0 a1_0 a1_1 != 0) = true := bne_iff_ne.2 he1
  rw [if_pos he1] at hF; clear he1; go_wp2; go_ret2; have := hF.out
  cases this
  exact ⟨rfl, M1.out⟩
end Go.Proofs.YtaipkdglhfhhiaaGreatDoor.Pt

namespace Go.Proofs.YtaipkdglhfhhiaaGreatDoor.Pt
open Go.RowKit Go.Proofs.YtaipkdglhfhhiaaGreatDoorW.PrintWords Go.Proofs.YtaipkdglhfhhiaaGreatDoorW.PrintLast Go.Proofs.YtaipkdglhfhhiaaGreatDoorW.PrintMore
attribute [local go_sem] max2_int min2_int max_two min_two max_three min_three max_four min_four   -- for this text's walks alone
set_option linter.unusedVariables false
set_option linter.unusedSimpArgs false
def display_TestTypes.j0 : Nat → List Hi.Ent → Bool → Bool → Int → ByteArray → Int → ByteArray → Option (Bool × Int × Int)
 | 0, _, _, _, _, _, _, _ => none
 | k + 1, x0, x6, x56, x460000, x460001, x461000, x461001 => if x56 = true then (some (x6, 1, 0)) else ((hier_World_ByName.f x0 x460001).bind fun bt463 => ((hier_World_ByName.f x0 x461001).bind fun bt465 => ((display_Test.f x0 bt463.1 bt465.1).bind fun bt467 => (some (bt467.1, bt467.2.1, bt467.2.2)))))
def display_TestTypes.f (k : Nat) (a0 : List Hi.Ent) (a1_0 : Int) (a1_1 : ByteArray) (a2_0 : Int) (a2_1 : ByteArray) : Option (Bool × Int × Int) := (arrays_Sub.f a0 a1_0 a1_1 a2_0 a2_1).bind fun bt461 => (if bt461.2 = 0 then (if (wrap64 (a1_0 - (mn a1_0 a2_0))) > 0 then (display_TestTypes.j0 k a0 bt461.1 true (wrap64 (a1_0 - (mn a1_0 a2_0))) a1_1 (wrap64 (a2_0 - (mn a1_0 a2_0))) a2_1) else (if (wrap64 (a2_0 - (mn a1_0 a2_0))) > 0 then (display_TestTypes.j0 k a0 bt461.1 true (wrap64 (a1_0 - (mn a1_0 a2_0))) a1_1 (wrap64 (a2_0 - (mn a1_0 a2_0))) a2_1) else (if a1_1.toList = ([] : List UInt8) then (display_TestTypes.j0 k a0 bt461.1 true (wrap64 (a1_0 - (mn a1_0 a2_0))) a1_1 (wrap64 (a2_0 - (mn a1_0 a2_0))) a2_1) else (display_TestTypes.j0 k a0 bt461.1 (a2_1.toList == ([] : List UInt8)) (wrap64 (a1_0 - (mn a1_0 a2_0))) a1_1 (wrap64 (a2_0 - (mn a1_0 a2_0))) a2_1)))) else (some (false, 0, bt461.2)))
set_option maxHeartbeats 8000000 in
set_option maxRecDepth 100000 in
theorem display_TestTypes.calls (k : Nat) (G_ : Nat) (a0 : List Hi.Ent) (a1_0 : Int) (a1_1 : ByteArray) (a2_0 : Int) (a2_1 : ByteArray) (r1 : Bool) (r2 : Int) (r3 : Int) (w : World) (hq0 : WOK w G_ a0) (h : display_TestTypes.f k a0 a1_0 a1_1 a2_0 a2_1 = some (r1, r2, r3)) :
  Calls Tryz.prog 43 #[.pointer (some ⟨G_, 0, none⟩), .agg #[.int .i64 a1_0, .string a1_1], .agg #[.int .i64 a2_0, .string a2_1]] w fun e w' => e = .returned (.tuple #[.bool r1, .int .i64 r2, .int .i64 r3]) ∧ Below w.heap.size w w' := by
 have hu24 := Tryz.underlying24; have HQa0 := Aside0.mk hq0; clear hq0; have HB := Aside0.mk (Below.refl w.heap.size w); have H : ((arrays_Sub.f a0 a1_0 a1_1 a2_0 a2_1).bind fun bt461 => (if bt461.2 = 0 then (if (wrap64 (a1_0 - (mn a1_0 a2_0))) > 0 then (display_TestTypes.j0 k a0 bt461.1 true (wrap64 (a1_0 - (mn a1_0 a2_0))) a1_1 (wrap64 (a2_0 - (mn a1_0 a2_0))) a2_1) else (if (wrap64 (a2_0 - (mn a1_0 a2_0))) > 0 then (display_TestTypes.j0 k a0 bt461.1 true (wrap64 (a1_0 - (mn a1_0 a2_0))) a1_1 (wrap64 (a2_0 - (mn a1_0 a2_0))) a2_1) else (if a1_1.toList = ([] : List UInt8) then (display_TestTypes.j0 k a0 bt461.1 true (wrap64 (a1_0 - (mn a1_0 a2_0))) a1_1 (wrap64 (a2_0 - (mn a1_0 a2_0))) a2_1) else (display_TestTypes.j0 k a0 bt461.1 (a2_1.toList == ([] : List UInt8)) (wrap64 (a1_0 - (mn a1_0 a2_0))) a1_1 (wrap64 (a2_0 - (mn a1_0 a2_0))) a2_1)))) else (some (false, 0, bt461.2)))) = some (r1, r2, r3) := h; clear h; replace H := Option.bind_eq_some_iff.mp H; obtain ⟨⟨t461, t462⟩, A40, H⟩ := H; replace H : (if t462 = 0 then (if (wrap64 (a1_0 - (mn a1_0 a2_0))) > 0 then (display_TestTypes.j0 k a0 t461 true (wrap64 (a1_0 - (mn a1_0 a2_0))) a1_1 (wrap64 (a2_0 - (mn a1_0 a2_0))) a2_1) else (if (wrap64 (a2_0 - (mn a1_0 a2_0))) > 0 then (display_TestTypes.j0 k a0 t461 true (wrap64 (a1_0 - (mn a1_0 a2_0))) a1_1 (wrap64 (a2_0 - (mn a1_0 a2_0))) a2_1) else (if a1_1.toList = ([] : List UInt8) then (display_TestTypes.j0 k a0 t461 true (wrap64 (a1_0 - (mn a1_0 a2_0))) a1_1 (wrap64 (a2_0 - (mn a1_0 a2_0))) a2_1) else (display_TestTypes.j0 k a0 t461 (a2_1.toList == ([] : List UInt8)) (wrap64 (a1_0 - (mn a1_0 a2_0))) a1_1 (wrap64 (a2_0 - (mn a1_0 a2_0))) a2_1)))) else (some (false, 0, t462))) = some (r1, r2, r3) := H; have A4 := Aside0.mk A40; clear A40
 by_cases c5 : t462 = 0
 ·rw [if_pos c5] at H
  have c5b0 : (t462 == 0) = true := beq_iff_eq.mpr c5; have c5b1 : (t462 != 0) = false := bne_eq_false_iff_eq.mpr c5; clear c5
  obtain ⟨ji6, hji6⟩ : ∃ j_ : Int, (mn a1_0 a2_0) = j_ := ⟨_, rfl⟩
  replace H : (if (wrap64 (a1_0 - (ji6))) > 0 then (display_TestTypes.j0 k a0 t461 true (wrap64 (a1_0 - (ji6))) a1_1 (wrap64 (a2_0 - (ji6))) a2_1) else (if (wrap64 (a2_0 - (ji6))) > 0 then (display_TestTypes.j0 k a0 t461 true (wrap64 (a1_0 - (ji6))) a1_1 (wrap64 (a2_0 - (ji6))) a2_1) else (if a1_1.toList = ([] : List UInt8) then (display_TestTypes.j0 k a0 t461 true (wrap64 (a1_0 - (ji6))) a1_1 (wrap64 (a2_0 - (ji6))) a2_1) else (display_TestTypes.j0 k a0 t461 (a2_1.toList == ([] : List UInt8)) (wrap64 (a1_0 - (ji6))) a1_1 (wrap64 (a2_0 - (ji6))) a2_1)))) = some (r1, r2, r3) := by first | (rw [hji6] at H; exact H) | (simp only [hji6] at H ⊢; exact H)
  (try rw [hji6] at A4)
  have hji6_ : (if a2_0 < a1_0 then a2_0 else a1_0) = ji6 := hji6; have HC7 := Aside0.mk H; clear H; go_enter Tryz.func43, Tryz.ntmps43
  go_upto_region 7 with (first | ((with_reducible refine gate_dst (N := 4) rfl ?_); refine eX 4 #[.int .i64 a1_0, .string a1_1] 24 ?_; intro gb459 hg w8 hbox hb; have n0_ := Aside0.mk (below_step (bX HB) hb); have n1_ := Aside0.mk (hbox); have n2_ := Aside0.mk ((by rw [hg]; exact (below_size (bX HB)) : w.heap.size ≤ gb459)); have n3_ := Aside0.mk ((by rw [hg]; exact (below_size (bX HB)) : w.heap.size ≤ gb459)); clear HB; have HB := n0_; have BK459 := n1_; have GW459 := n2_; have GE459 := n3_; clear n0_ n1_ n2_ n3_; clear hb hbox hg) | ((with_reducible refine gate_dst (N := 5) rfl ?_); refine eX 5 #[.int .i64 a2_0, .string a2_1] 24 ?_; intro gb460 hg w9 hbox hb; have n0_ := Aside0.mk (blk_below (kX BK459) hb); have n1_ := Aside0.mk (below_step (bX1 HB GE459) hb); have n2_ := Aside0.mk (hbox); have n3_ := Aside0.mk ((by rw [hg]; exact (below_size (bX1 HB GE459)) : w.heap.size ≤ gb460)); have n4_ := Aside0.mk ((by rw [hg]; exact (below_size (bX1 HB GE459)) : w.heap.size ≤ gb460)); have n5_ := Aside0.mk ((by rw [hg]; exact Nat.ne_of_lt (blk_lt (kX BK459)) : gb459 ≠ gb460)); have n6_ := Aside0.mk ((by rw [hg]; exact Nat.ne_of_gt (blk_lt (kX BK459)) : gb460 ≠ gb459)); clear BK459; clear HB; have BK459 := n0_; have HB := n1_; have BK460 := n2_; have GW460 := n3_; have GE460 := n4_; have NB459_460 := n5_; have NB460_459 := n6_; clear n0_ n1_ n2_ n3_ n4_ n5_ n6_; clear hb hbox hg; have hnb10 := NB459_460.out; have hnc10 := NB460_459.out; obtain ⟨hcz11_0, hcz11_1, hfz11_0, hfz11_1⟩ := c2X BK459; obtain ⟨hcz12_0, hcz12_1, hfz12_0, hfz12_1⟩ := c2X BK460) | ((with_reducible refine gate_callee (f := 41) rfl ?_); refine gX (some 18) Tryz.func41 #[.pointer (some ⟨G_, 0, none⟩), .agg #[.int .i64 a1_0, .string a1_1], .agg #[.int .i64 a2_0, .string a2_1]] ?_; (with_reducible refine (arrays_Sub.calls G_ a0 a1_0 a1_1 a2_0 a2_1 t461 t462 _ ?side1 A4.out).mono ?_); (case side1 => repeat (first | (with_reducible exact HQa0.out) | (with_reducible refine WOK.alloc ?_ _) | (with_reducible refine WOK.drewN ?_ _) | (with_reducible refine WOK.drew ?_) | exact WOK.below HQa0.out HB.out | exact WOK.below HQa0.out (bX2 HB GE459 GE460))); rintro e w13 ⟨rfl, hb⟩; refine ⟨_, rfl, ?_⟩; have n0_ := Aside0.mk (blk_below (kX BK459) hb); have n1_ := Aside0.mk (blk_below (kX BK460) hb); have n2_ := Aside0.mk (below_step (bX2 HB GE459 GE460) hb); clear BK459; clear BK460; clear HB; have BK459 := n0_; have BK460 := n1_; have HB := n2_; clear n0_ n1_ n2_; (try clear hb); (try clear hb2); (try clear hk); (try clear hi); obtain ⟨hcz14_0, hcz14_1, hfz14_0, hfz14_1⟩ := c2X BK459; obtain ⟨hcz15_0, hcz15_1, hfz15_0, hfz15_1⟩ := c2X BK460))
  (try simp only [Act.put, List.setIfInBounds_toArray, List.set_cons_zero, List.set_cons_succ])
  go_cut [56] (fun v56 wc => ∃ (kq : Nat) (x56_6 : Bool), v56 = .bool x56_6 ∧ Aside0 (display_TestTypes.j0 kq a0 t461 x56_6 (wrap64 (a1_0 - (ji6))) a1_1 (wrap64 (a2_0 - (ji6))) a2_1 = some (r1, r2, r3)) ∧ Aside0 (kq ≤ k) ∧ Aside0 (wc.heap[gb459]? = some (.cells #[.int .i64 (wrap64 (a1_0 - (ji6))), .string a1_1] 24 (0, 0))) ∧ Aside0 (wc.heap[gb460]? = some (.cells #[.int .i64 (wrap64 (a2_0 - (ji6))), .string a2_1] 24 (0, 0))) ∧ Aside0 (Below w.heap.size w wc))
  case first =>
   have H := HC7.out; clear HC7
   by_cases c16 : (wrap64 (a1_0 - (ji6))) > 0
   ·rw [if_pos c16] at H
    have c16b0 : decide (0 < (wrap64 (a1_0 - (ji6)))) = true := decide_eq_true c16; clear c16
    (first | rw [c16b0] | (simp only [i64_w, i32_w]; rw [c16b0]) | skip)
    have H' := Aside0.mk H; clear H; have hnb17 := NB459_460.out; have hnc17 := NB460_459.out; obtain ⟨hcz18_0, hcz18_1, hfz18_0, hfz18_1⟩ := c2X BK459; go_wp2; go_meet
    case rel => exact ⟨_, (true), vX, H', ⟨by first | omega | exact Nat.le_refl _⟩, ⟨by (with_reducible repeat (first | refine blk_drewN ?_ _ | refine blk_drew ?_ | refine blk_alloc ?_ _)); refine blk_far ?_ NB459_460.out _; (with_reducible repeat (first | refine blk_drewN ?_ _ | refine blk_drew ?_ | refine blk_alloc ?_ _)); refine blk_put (cs := #[.int .i64 a1_0, .string a1_1]) ?_ 0 _ rfl; (with_reducible repeat (first | refine blk_drewN ?_ _ | refine blk_drew ?_ | refine blk_alloc ?_ _)); exact BK459.out⟩, ⟨by (with_reducible repeat (first | refine blk_drewN ?_ _ | refine blk_drew ?_ | refine blk_alloc ?_ _)); refine blk_put (cs := #[.int .i64 a2_0, .string a2_1]) ?_ 0 _ rfl; (with_reducible repeat (first | refine blk_drewN ?_ _ | refine blk_drew ?_ | refine blk_alloc ?_ _)); refine blk_far ?_ NB460_459.out _; (with_reducible repeat (first | refine blk_drewN ?_ _ | refine blk_drew ?_ | refine blk_alloc ?_ _)); exact BK460.out⟩, ⟨bX2 HB GE459 GE460⟩⟩
   ·rw [if_neg c16] at H
    have c16b0 : decide (0 < (wrap64 (a1_0 - (ji6)))) = false := decide_eq_false c16; clear c16
    (first | rw [c16b0] | (simp only [i64_w, i32_w]; rw [c16b0]) | skip)
    by_cases c19 : (wrap64 (a2_0 - (ji6))) > 0
    ·rw [if_pos c19] at H
     have c19b0 : decide (0 < (wrap64 (a2_0 - (ji6)))) = true := decide_eq_true c19; clear c19; have H' := Aside0.mk H; clear H; have hnb20 := NB459_460.out; have hnc20 := NB460_459.out; obtain ⟨hcz21_0, hcz21_1, hfz21_0, hfz21_1⟩ := c2X BK459; obtain ⟨hcz22_0, hcz22_1, hfz22_0, hfz22_1⟩ := c2X BK460; go_wp2; go_meet
     case rel => exact ⟨_, (true), vX, H', ⟨by first | omega | exact Nat.le_refl _⟩, ⟨by (with_reducible repeat (first | refine blk_drewN ?_ _ | refine blk_drew ?_ | refine blk_alloc ?_ _)); refine blk_far ?_ NB459_460.out _; (with_reducible repeat (first | refine blk_drewN ?_ _ | refine blk_drew ?_ | refine blk_alloc ?_ _)); refine blk_put (cs := #[.int .i64 a1_0, .string a1_1]) ?_ 0 _ rfl; (with_reducible repeat (first | refine blk_drewN ?_ _ | refine blk_drew ?_ | refine blk_alloc ?_ _)); exact BK459.out⟩, ⟨by (with_reducible repeat (first | refine blk_drewN ?_ _ | refine blk_drew ?_ | refine blk_alloc ?_ _)); refine blk_put (cs := #[.int .i64 a2_0, .string a2_1]) ?_ 0 _ rfl; (with_reducible repeat (first | refine blk_drewN ?_ _ | refine blk_drew ?_ | refine blk_alloc ?_ _)); refine blk_far ?_ NB460_459.out _; (with_reducible repeat (first | refine blk_drewN ?_ _ | refine blk_drew ?_ | refine blk_alloc ?_ _)); exact BK460.out⟩, ⟨bX2 HB GE459 GE460⟩⟩
    ·rw [if_neg c19] at H
     have c19b0 : decide (0 < (wrap64 (a2_0 - (ji6)))) = false := decide_eq_false c19; clear c19
     by_cases c23 : a1_1.toList = ([] : List UInt8)
     ·rw [if_pos c23] at H
      have c23b0 : (a1_1.toList == ([] : List UInt8)) = true := beq_iff_eq.mpr c23; have c23b1 : (a1_1.toList != ([] : List UInt8)) = false := bne_eq_false_iff_eq.mpr c23; clear c23; have H' := Aside0.mk H; clear H; have hnb24 := NB459_460.out; have hnc24 := NB460_459.out; obtain ⟨hcz25_0, hcz25_1, hfz25_0, hfz25_1⟩ := c2X BK459; obtain ⟨hcz26_0, hcz26_1, hfz26_0, hfz26_1⟩ := c2X BK460; go_wp2; go_meet
      case rel => exact ⟨_, (true), vX, H', ⟨by first | omega | exact Nat.le_refl _⟩, ⟨by (with_reducible repeat (first | refine blk_drewN ?_ _ | refine blk_drew ?_ | refine blk_alloc ?_ _)); refine blk_far ?_ NB459_460.out _; (with_reducible repeat (first | refine blk_drewN ?_ _ | refine blk_drew ?_ | refine blk_alloc ?_ _)); refine blk_put (cs := #[.int .i64 a1_0, .string a1_1]) ?_ 0 _ rfl; (with_reducible repeat (first | refine blk_drewN ?_ _ | refine blk_drew ?_ | refine blk_alloc ?_ _)); exact BK459.out⟩, ⟨by (with_reducible repeat (first | refine blk_drewN ?_ _ | refine blk_drew ?_ | refine blk_alloc ?_ _)); refine blk_put (cs := #[.int .i64 a2_0, .string a2_1]) ?_ 0 _ rfl; (with_reducible repeat (first | refine blk_drewN ?_ _ | refine blk_drew ?_ | refine blk_alloc ?_ _)); refine blk_far ?_ NB460_459.out _; (with_reducible repeat (first | refine blk_drewN ?_ _ | refine blk_drew ?_ | refine blk_alloc ?_ _)); exact BK460.out⟩, ⟨bX2 HB GE459 GE460⟩⟩
     ·rw [if_neg c23] at H
      have c23b0 : (a1_1.toList == ([] : List UInt8)) = false := beq_eq_false_iff_ne.mpr c23; have c23b1 : (a1_1.toList != ([] : List UInt8)) = true := bne_iff_ne.mpr c23; have H' := Aside0.mk H; clear H; have hnb27 := NB459_460.out; have hnc27 := NB460_459.out; obtain ⟨hcz28_0, hcz28_1, hfz28_0, hfz28_1⟩ := c2X BK459; obtain ⟨hcz29_0, hcz29_1, hfz29_0, hfz29_1⟩ := c2X BK460; go_wp2; go_meet
      case rel => exact ⟨_, ((a2_1.toList == ([] : List UInt8))), vX, H', ⟨by first | omega | exact Nat.le_refl _⟩, ⟨by (with_reducible repeat (first | refine blk_drewN ?_ _ | refine blk_drew ?_ | refine blk_alloc ?_ _)); refine blk_far ?_ NB459_460.out _; (with_reducible repeat (first | refine blk_drewN ?_ _ | refine blk_drew ?_ | refine blk_alloc ?_ _)); refine blk_put (cs := #[.int .i64 a1_0, .string a1_1]) ?_ 0 _ rfl; (with_reducible repeat (first | refine blk_drewN ?_ _ | refine blk_drew ?_ | refine blk_alloc ?_ _)); exact BK459.out⟩, ⟨by (with_reducible repeat (first | refine blk_drewN ?_ _ | refine blk_drew ?_ | refine blk_alloc ?_ _)); refine blk_put (cs := #[.int .i64 a2_0, .string a2_1]) ?_ 0 _ rfl; (with_reducible repeat (first | refine blk_drewN ?_ _ | refine blk_drew ?_ | refine blk_alloc ?_ _)); refine blk_far ?_ NB460_459.out _; (with_reducible repeat (first | refine blk_drewN ?_ _ | refine blk_drew ?_ | refine blk_alloc ?_ _)); exact BK460.out⟩, ⟨bX2 HB GE459 GE460⟩⟩
  case rest =>
   clear HC7
   try clear c1
   try clear c2
   try clear p2
   try clear c4
   try clear c5
   try clear c5b0
   try clear c5b1
   try clear p6
   try clear c10
   try clear c16
   try clear c16b0
   try clear c17
   try clear c19
   try clear c19b0
   try clear c20
   try clear c23
   try clear c23b0
   try clear c23b1
   try clear c24
   try clear c27
   try clear hcz11_0 hcz11_1
   try clear hcz12_0 hcz12_1
   try clear hcz14_0 hcz14_1
   try clear hcz15_0 hcz15_1
   try clear hcz18_0 hcz18_1
   try clear hcz21_0 hcz21_1
   try clear hcz22_0 hcz22_1
   try clear hcz25_0 hcz25_1
   try clear hcz26_0 hcz26_1
   try clear hcz28_0 hcz28_1
   try clear hcz29_0 hcz29_1
   try clear hfz11_0 hfz11_1
   try clear hfz12_0 hfz12_1
   try clear hfz14_0 hfz14_1
   try clear hfz15_0 hfz15_1
   try clear hfz18_0 hfz18_1
   try clear hfz21_0 hfz21_1
   try clear hfz22_0 hfz22_1
   try clear hfz25_0 hfz25_1
   try clear hfz26_0 hfz26_1
   try clear hfz28_0 hfz28_1
   try clear hfz29_0 hfz29_1
   obtain ⟨kq, x56_6, rfl, HA, HJ6, BK459, BK460, HB⟩ := hcut
   cases kq with
   | zero => exact absurd HA.out (by simp [display_TestTypes.j0])
   | succ kj6 =>
    have H := HA.out; clear HA; simp only [display_TestTypes.j0] at H
    by_cases c30 : x56_6 = true
    ·subst c30
     have H1 : (some (t461, 1, 0)) = some (r1, r2, r3) := by rw [if_pos rfl] at H; exact H
     clear H; have H := H1; clear H1; simp only [Option.some.injEq, Prod.mk.injEq] at H; obtain ⟨rfl, rfl, rfl⟩ := H; go_wp2
     go_ret3
     exact ⟨by first | rfl | (simp [errW_none, errW_some] <;> rfl) | (simp only [← hji6]; first | rfl | (simp [errW_none, errW_some] <;> rfl)) | (simp [*, errW_none, errW_some] <;> rfl), bX2 HB GE459 GE460⟩
    ·replace c30 := Bool.eq_false_iff.mpr c30
     subst c30
     have H1 : ((hier_World_ByName.f a0 a1_1).bind fun bt463 => ((hier_World_ByName.f a0 a2_1).bind fun bt465 => ((display_Test.f a0 bt463.1 bt465.1).bind fun bt467 => (some (bt467.1, bt467.2.1, bt467.2.2))))) = some (r1, r2, r3) := by rw [if_neg (show ¬ (false = true) by decide)] at H; exact H
     clear H; have H := H1; clear H1; replace H := Option.bind_eq_some_iff.mp H; obtain ⟨⟨t463, t464⟩, A310, H⟩ := H; replace H : ((hier_World_ByName.f a0 a2_1).bind fun bt465 => ((display_Test.f a0 t463 bt465.1).bind fun bt467 => (some (bt467.1, bt467.2.1, bt467.2.2)))) = some (r1, r2, r3) := H; have A31 := Aside0.mk A310; clear A310; replace H := Option.bind_eq_some_iff.mp H; obtain ⟨⟨t465, t466⟩, A320, H⟩ := H; replace H : ((display_Test.f a0 t463 t465).bind fun bt467 => (some (bt467.1, bt467.2.1, bt467.2.2))) = some (r1, r2, r3) := H; have A32 := Aside0.mk A320; clear A320; replace H := Option.bind_eq_some_iff.mp H; obtain ⟨⟨t467, t468, t469⟩, A330, H⟩ := H; replace H : (some (t467, t468, t469)) = some (r1, r2, r3) := H; have A33 := Aside0.mk A330; clear A330; simp only [Option.some.injEq, Prod.mk.injEq] at H; obtain ⟨rfl, rfl, rfl⟩ := H; have hnb34 := NB459_460.out; have hnc34 := NB460_459.out; obtain ⟨hcz35_0, hcz35_1, hfz35_0, hfz35_1⟩ := c2X BK459; go_wp2_with (first | ((with_reducible refine gate_callee (f := 55) rfl ?_); refine gX (some 62) Tryz.func55 #[.pointer (some ⟨G_, 0, none⟩), .string a1_1] ?_; (with_reducible refine (hier_World_ByName.calls G_ a0 a1_1 t463 t464 _ ?side1 A31.out).mono ?_); (case side1 => repeat (first | (with_reducible exact HQa0.out) | (with_reducible refine WOK.alloc ?_ _) | (with_reducible refine WOK.drewN ?_ _) | (with_reducible refine WOK.drew ?_) | exact WOK.below HQa0.out HB.out | exact WOK.below HQa0.out (bX2 HB GE459 GE460))); rintro e w36 ⟨rfl, hb⟩; refine ⟨_, rfl, ?_⟩; have n0_ := Aside0.mk (blk_below (kX BK459) hb); have n1_ := Aside0.mk (blk_below (kX BK460) hb); have n2_ := Aside0.mk (below_step (bX2 HB GE459 GE460) hb); clear BK459; clear BK460; clear HB; have BK459 := n0_; have BK460 := n1_; have HB := n2_; clear n0_ n1_ n2_; (try clear hb); (try clear hb2); (try clear hk); (try clear hi); obtain ⟨hcz37_0, hcz37_1, hfz37_0, hfz37_1⟩ := c2X BK460) | ((with_reducible refine gate_callee (f := 55) rfl ?_); refine gX (some 69) Tryz.func55 #[.pointer (some ⟨G_, 0, none⟩), .string a2_1] ?_; (with_reducible refine (hier_World_ByName.calls G_ a0 a2_1 t465 t466 _ ?side1 A32.out).mono ?_); (case side1 => repeat (first | (with_reducible exact HQa0.out) | (with_reducible refine WOK.alloc ?_ _) | (with_reducible refine WOK.drewN ?_ _) | (with_reducible refine WOK.drew ?_) | exact WOK.below HQa0.out HB.out | exact WOK.below HQa0.out (bX2 HB GE459 GE460))); rintro e w38 ⟨rfl, hb⟩; refine ⟨_, rfl, ?_⟩; have n0_ := Aside0.mk (blk_below (kX BK459) hb); have n1_ := Aside0.mk (blk_below (kX BK460) hb); have n2_ := Aside0.mk (below_step (bX2 HB GE459 GE460) hb); clear BK459; clear BK460; clear HB; have BK459 := n0_; have BK460 := n1_; have HB := n2_; clear n0_ n1_ n2_; (try clear hb); (try clear hb2); (try clear hk); (try clear hi)) | ((with_reducible refine gate_callee (f := 23) rfl ?_); refine gX (some 75) Tryz.func23 #[.pointer (some ⟨G_, 0, none⟩), .int .i64 t463, .int .i64 t465] ?_; (with_reducible refine (display_Test.calls G_ a0 t463 t465 t467 t468 t469 _ ?side1 A33.out).mono ?_); (case side1 => repeat (first | (with_reducible exact HQa0.out) | (with_reducible refine WOK.alloc ?_ _) | (with_reducible refine WOK.drewN ?_ _) | (with_reducible refine WOK.drew ?_) | exact WOK.below HQa0.out HB.out | exact WOK.below HQa0.out (bX2 HB GE459 GE460))); rintro e w39 ⟨rfl, hb⟩; refine ⟨_, rfl, ?_⟩; have n0_ := Aside0.mk (blk_below (kX BK459) hb); have n1_ := Aside0.mk (blk_below (kX BK460) hb); have n2_ := Aside0.mk (below_step (bX2 HB GE459 GE460) hb); clear BK459; clear BK460; clear HB; have BK459 := n0_; have BK460 := n1_; have HB := n2_; clear n0_ n1_ n2_; (try clear hb); (try clear hb2); (try clear hk); (try clear hi)))
     go_ret3
     exact ⟨by first | rfl | (simp [errW_none, errW_some] <;> rfl) | (simp only [← hji6]; first | rfl | (simp [errW_none, errW_some] <;> rfl)) | (simp [*, errW_none, errW_some] <;> rfl), bX2 HB GE459 GE460⟩
 ·rw [if_neg c5] at H
  have c5b0 : (t462 == 0) = false := beq_eq_false_iff_ne.mpr c5; have c5b1 : (t462 != 0) = true := bne_iff_ne.mpr c5; simp only [Option.some.injEq, Prod.mk.injEq] at H; obtain ⟨rfl, rfl, rfl⟩ := H; go_enter Tryz.func43, Tryz.ntmps43; go_wp2_with (first | ((with_reducible refine gate_dst (N := 4) rfl ?_); refine eX 4 #[.int .i64 a1_0, .string a1_1] 24 ?_; intro gb459 hg w40 hbox hb; have n0_ := Aside0.mk (below_step (bX HB) hb); have n1_ := Aside0.mk (hbox); have n2_ := Aside0.mk ((by rw [hg]; exact (below_size (bX HB)) : w.heap.size ≤ gb459)); have n3_ := Aside0.mk ((by rw [hg]; exact (below_size (bX HB)) : w.heap.size ≤ gb459)); clear HB; have HB := n0_; have BK459 := n1_; have GW459 := n2_; have GE459 := n3_; clear n0_ n1_ n2_ n3_; clear hb hbox hg) | ((with_reducible refine gate_dst (N := 5) rfl ?_); refine eX 5 #[.int .i64 a2_0, .string a2_1] 24 ?_; intro gb460 hg w41 hbox hb; have n0_ := Aside0.mk (blk_below (kX BK459) hb); have n1_ := Aside0.mk (below_step (bX1 HB GE459) hb); have n2_ := Aside0.mk (hbox); have n3_ := Aside0.mk ((by rw [hg]; exact (below_size (bX1 HB GE459)) : w.heap.size ≤ gb460)); have n4_ := Aside0.mk ((by rw [hg]; exact (below_size (bX1 HB GE459)) : w.heap.size ≤ gb460)); have n5_ := Aside0.mk ((by rw [hg]; exact Nat.ne_of_lt (blk_lt (kX BK459)) : gb459 ≠ gb460)); have n6_ := Aside0.mk ((by rw [hg]; exact Nat.ne_of_gt (blk_lt (kX BK459)) : gb460 ≠ gb459)); clear BK459; clear HB; have BK459 := n0_; have HB := n1_; have BK460 := n2_; have GW460 := n3_; have GE460 := n4_; have NB459_460 := n5_; have NB460_459 := n6_; clear n0_ n1_ n2_ n3_ n4_ n5_ n6_; clear hb hbox hg; have hnb42 := NB459_460.out; have hnc42 := NB460_459.out; obtain ⟨hcz43_0, hcz43_1, hfz43_0, hfz43_1⟩ := c2X BK459; obtain ⟨hcz44_0, hcz44_1, hfz44_0, hfz44_1⟩ := c2X BK460) | ((with_reducible refine gate_callee (f := 41) rfl ?_); refine gX (some 18) Tryz.func41 #[.pointer (some ⟨G_, 0, none⟩), .agg #[.int .i64 a1_0, .string a1_1], .agg #[.int .i64 a2_0, .string a2_1]] ?_; (with_reducible refine (arrays_Sub.calls G_ a0 a1_0 a1_1 a2_0 a2_1 t461 t462 _ ?side1 A4.out).mono ?_); (case side1 => repeat (first | (with_reducible exact HQa0.out) | (with_reducible refine WOK.alloc ?_ _) | (with_reducible refine WOK.drewN ?_ _) | (with_reducible refine WOK.drew ?_) | exact WOK.below HQa0.out HB.out | exact WOK.below HQa0.out (bX2 HB GE459 GE460))); rintro e w45 ⟨rfl, hb⟩; refine ⟨_, rfl, ?_⟩; have n0_ := Aside0.mk (blk_below (kX BK459) hb); have n1_ := Aside0.mk (blk_below (kX BK460) hb); have n2_ := Aside0.mk (below_step (bX2 HB GE459 GE460) hb); clear BK459; clear BK460; clear HB; have BK459 := n0_; have BK460 := n1_; have HB := n2_; clear n0_ n1_ n2_; (try clear hb); (try clear hb2); (try clear hk); (try clear hi)))
  go_ret3
  exact ⟨by first | rfl | (simp [errW_none, errW_some] <;> rfl) | (simp [*, errW_none, errW_some] <;> rfl), bX2 HB GE459 GE460⟩
end Go.Proofs.YtaipkdglhfhhiaaGreatDoor.Pt

namespace Go.Proofs.YtaipkdglhfhhiaaGreatDoor.Pt
open Go Go.RowKit Go.Proofs.YtaipkdglhfhhiaaGreatDoor.Nm Go.Proofs.YtaipkdglhfhhiaaGreatDoor.Ty Go.Proofs.YtaipkdglhfhhiaaGreatDoor.Hi Go.Proofs.YtaipkdglhfhhiaaGreatDoorW.PrintWords
set_option linter.unusedVariables false
set_option linter.unusedSimpArgs false
theorem sub_zero {es : List Ent} {a b : Int} {s t : ByteArray} (he : (subF es a s b t).2 = 0) : loadF es a s = 0 ∧ loadF es b t = 0 ∧ subF es a s b t = (belowF es a s b t, 0) := by
 unfold subF at he ⊢
 by_cases h1 : loadF es a s = 0
 ·rw [if_neg (fun h => h h1)] at he ⊢
  by_cases h2 : loadF es b t = 0
  ·rw [if_neg (fun h => h h2)]
   exact ⟨h1, h2, rfl⟩
  ·rw [if_pos h2] at he
   exact absurd he h2
 ·rw [if_pos h1] at he
  exact absurd he h1
theorem tt_tot {es : List Ent} (a : Int) (s : ByteArray) (b : Int) (t : ByteArray) (k : Nat) (hk : 2 < k) : display_TestTypes.f k es a s b t = some (ttF es a s b t) := by
 obtain ⟨k, rfl⟩ : ∃ m, k = m + 1 := ⟨k - 1, by omega⟩
 unfold display_TestTypes.f; rw [show arrays_Sub.f es a s b t = some (subF es a s b t) from rfl, Option.bind_some]
 by_cases he : (subF es a s b t).2 = 0
 ·rw [if_pos he]
  obtain ⟨h1, h2, h3⟩ := sub_zero he; obtain ⟨s1, s2, s3⟩ := load_size h1; obtain ⟨t1, t2, t3⟩ := load_size h2
  obtain ⟨m, hm, hm2⟩ : ∃ m : Int, mn a b = m ∧ m = min a b := ⟨_, rfl, by unfold mn; omega⟩
  rw [hm, show wrap64 (a - m) = a - m by unfold wrap64; omega, show wrap64 (b - m) = b - m by unfold wrap64; omega]
  have hyes : ∀ c : Bool, c = true → a ≠ b ∨ s.toList = [] ∨ t.toList = [] → display_TestTypes.j0 (k + 1) es (subF es a s b t).1 c (a - m) s (b - m) t = some (ttF es a s b t) := by
   rintro c rfl hc; rw [display_TestTypes.j0, if_pos rfl]; unfold ttF; rw [if_neg (fun h => h he), if_pos hc]
  by_cases c1 : a - m > 0
  ·rw [if_pos c1]
   exact hyes true rfl (.inl (by omega))
  ·rw [if_neg c1]
   by_cases c2 : b - m > 0
   ·rw [if_pos c2]
    exact hyes true rfl (.inl (by omega))
   ·rw [if_neg c2]
    by_cases c3 : s.toList = []
    ·rw [if_pos c3]
     exact hyes true rfl (.inr (.inl c3))
    ·rw [if_neg c3]
     by_cases c4 : t.toList = []
     ·exact hyes _ (by simp [c4]) (.inr (.inr c4))
     ·rw [show (t.toList == ([] : List UInt8)) = false from beq_eq_false_iff_ne.2 c4, display_TestTypes.j0, if_neg (by decide), byName_tot es s s1, Option.bind_some, byName_tot es t t1, Option.bind_some, show display_Test.f es (nameF es s).1 (nameF es t).1 = some (testF es (nameF es s).1 (nameF es t).1) from rfl, Option.bind_some]
      unfold ttF
      rw [if_neg (fun h => h he), if_neg (fun hc => by
       rcases hc with hc | hc | hc
       ·omega
       ·exact c3 hc
       ·exact c4 hc)]
 ·rw [if_neg he]
  unfold ttF; rw [if_pos he]
end Go.Proofs.YtaipkdglhfhhiaaGreatDoor.Pt

namespace Go.Proofs.YtaipkdglhfhhiaaGreatDoor.Pt
open Go.RowKit Go.Proofs.YtaipkdglhfhhiaaGreatDoorW.PrintWords Go.Proofs.YtaipkdglhfhhiaaGreatDoorW.PrintLast Go.Proofs.YtaipkdglhfhhiaaGreatDoorW.PrintMore
attribute [local go_sem] max2_int min2_int max_two min_two max_three min_three max_four min_four   -- for this text's walks alone
set_option linter.unusedVariables false
set_option linter.unusedSimpArgs false
def arbiterref15_Build.l0 : Nat → List S85 → Int → List Int → Int → List Int → List Int → Option (List Int × List Int × List Int × Int)
 | 0, _, _, _, _, _, _ => none
 | k + 1, x0, x1, x6, x9, x480000, x480001 => if x9 ≥ 0 then (if (x480000.length : Int) < 8 then (if 0 ≤ x9 then (if x9 < (x6.length : Int) then (if x480000.length < 17592186044416 then (arbiterref15_Build.l0 k x0 x1 x6 (wrap64 (x9 - 1)) (x480000 ++ [rd x6 x9]) x480001) else (none)) else (none)) else (none)) else (if 0 ≤ x9 then (if x9 < (x6.length : Int) then (if x480001.length < 17592186044416 then (arbiterref15_Build.l0 k x0 x1 x6 (wrap64 (x9 - 1)) x480000 (x480001 ++ [rd x6 x9])) else (none)) else (none)) else (none))) else ((arbiterref06_Closure.f k x0 x1).bind fun bt488 => (some (x480000, x480001, bt488.1, 0)))
def arbiterref15_Build.f (k : Nat) (a0 : List S85) (a1 : Int) : Option (List Int × List Int × List Int × Int) := (arbiterref06_Chain.f k a0 a1).bind fun bt475 => (if bt475.2 = 0 then (arbiterref15_Build.l0 k a0 a1 bt475.1 (wrap64 ((bt475.1.length : Int) - 1)) ([] : List Int) ([] : List Int)) else (some (([] : List Int), ([] : List Int), ([] : List Int), 3)))
end Go.Proofs.YtaipkdglhfhhiaaGreatDoor.Pt

namespace Go.Proofs.YtaipkdglhfhhiaaGreatDoor.Pt
open Go Go.RowKit Go.Proofs.YtaipkdglhfhhiaaGreatDoor.Nm Go.Proofs.YtaipkdglhfhhiaaGreatDoor.Ty Go.Proofs.YtaipkdglhfhhiaaGreatDoor.Hi Go.Proofs.YtaipkdglhfhhiaaGreatDoorW.PrintWords
set_option linter.unusedVariables false
set_option linter.unusedSimpArgs false
theorem rclosure_ok {es : List Ent} (h : Thy es) (hl : es.length ≤ 1000) (i : Int) (k : Nat) (hk : 30 * es.length + 2010 < k) : arbiterref06_Closure.f k (csOf es) i = some (closureF es i) := by
 unfold arbiterref06_Closure.f closureF; rw [in_ok, Option.bind_some]
 by_cases hi : 0 ≤ i ∧ i < es.length
 ·rw [show inB es i = true from decide_eq_true hi, if_pos rfl, if_pos hi, gather_eq h hl i.toNat i [] k hi.1 hi.2 (Nat.le_refl _) (by omega) ⟨Rng.nil _, fun j hj => by cases hj⟩, Option.bind_some, foldI_nil (h.good.clo _ (List.mem_of_getElem? (get_ent hi.1 hi.2))).1.1]
 ·rw [show inB es i = false from decide_eq_false hi, if_neg (by decide), if_neg hi]
theorem rtest_l0 (t : Int) (b : Bool) (l : List Int) (hl : l.length ≤ 1000) : ∀ (d j k : Nat) (c : Int), j + d = l.length → d < k → 0 ≤ c → c ≤ 1000 + j → arbiterref15_Test.l0 k t b c l (j : Int) = some (b, c + scanN t (l.drop j), 0) := by
 intro d
 induction d with
 | zero =>
  intro j k c hj hk h0 h1
  obtain ⟨k, rfl⟩ : ∃ m, k = m + 1 := ⟨k - 1, by omega⟩
  rw [arbiterref15_Test.l0, if_neg (by omega), List.drop_eq_nil_of_le (by omega)]; simp [scanN]
 | succ d ih =>
  intro j k c hj hk h0 h1
  obtain ⟨k, rfl⟩ : ∃ m, k = m + 1 := ⟨k - 1, by omega⟩
  have hlt : j < l.length := by omega
  have he : Go.Proofs.YtaipkdglhfhhiaaGreatDoorW.PrintWords.rd l (j : Int) = l[j] := by simp [Go.Proofs.YtaipkdglhfhhiaaGreatDoorW.PrintWords.rd, List.getD_eq_getElem?_getD, List.getElem?_eq_getElem hlt]
  rw [arbiterref15_Test.l0, if_pos (by omega), if_pos (by omega), he, List.drop_eq_getElem_cons hlt, scanN, show wrap64 (c + 1) = c + 1 by unfold wrap64; omega]
  by_cases hx : l[j] = t
  ·rw [if_pos hx, if_pos hx]
  ·rw [if_neg hx, if_neg hx, show wrap64 ((j : Int) + 1) = ((j + 1 : Nat) : Int) by unfold wrap64; omega, ih (j + 1) k (c + 1) (by omega) (by omega) (by omega) (by omega)]
   congr 2
   rw [Int.add_assoc]
theorem rtest_ok {es : List Ent} (h : Thy es) (hl : es.length ≤ 1000) (s t : Int) (k : Nat) (hk : 40 * es.length + 4000 < k) : arbiterref15_Test.f k (csOf es) s t = some (testF es s t) := by
 obtain ⟨k, rfl⟩ : ∃ m, k = m + 2 := ⟨k - 2, by omega⟩
 unfold arbiterref15_Test.f; rw [in_ok, Option.bind_some]
 by_cases hs : 0 ≤ s ∧ s < es.length
 ·rw [show inB es s = true from decide_eq_true hs, if_pos rfl, in_ok, Option.bind_some]
  by_cases ht : 0 ≤ t ∧ t < es.length
  ·rw [show inB es t = true from decide_eq_true ht, arbiterref15_Test.j0, if_neg (by decide), ext_ok h hl s t (k + 1) (by omega), Option.bind_some, isif_ok, Option.bind_some, test_in h hs ht]
   have hcl := (h.good.fine _ (List.mem_of_getElem? (get_ent hs.1 hs.2))).2.2
   have hj : ∀ c : Bool, (c = true → lookF es s t = ((lookF es s t).1, 1)) → (c = false → isI (ent es t).c = true ∧ s ≠ t) → arbiterref15_Test.j1 (k + 1) (csOf es) s t (extF es s t) c = some (extF es s t, (lookF es s t).2, 0) := by
    intro c h1 h2; rw [arbiterref15_Test.j1]
    cases c with
    | true => rw [if_pos rfl, h1 rfl]
    | false =>
     obtain ⟨h3, h4⟩ := h2 rfl; rw [if_neg (by decide), rclosure_ok h hl s k (by omega), Option.bind_some]; have e : closureF es s = ((ent es s).clo, 0) := if_pos hs
     have e2 : lookF es s t = (decide (t ∈ (ent es s).clo), 1 + scanN t (ent es s).clo) := by
      unfold lookF; rw [if_neg (fun h => h4 h.2), if_neg (by rw [h3]; decide)]
     rw [e, e2]; have := rtest_l0 t (extF es s t) (ent es s).clo (by omega) (ent es s).clo.length 0 k 1 (by omega) (by omega) (by omega) (by omega); rw [List.drop_zero] at this
     exact this
   have hinb : inB es t = true := decide_eq_true ht; rw [hinb, Bool.true_and]
   cases hi : isI (ent es t).c with
   | true =>
    rw [if_pos rfl]; refine hj _ (fun hc => ?_) (fun hc => ⟨hi, by simpa using hc⟩); unfold lookF; rw [if_pos ⟨hi, by simpa using hc⟩]
   | false =>
    rw [if_neg (by decide)]; refine hj _ (fun _ => ?_) (fun hc => by cases hc); unfold lookF; rw [if_neg (fun h => by rw [hi] at h; cases h.1), if_pos hi]
  ·rw [show inB es t = false from decide_eq_false ht, arbiterref15_Test.j0]
   unfold testF; rw [if_pos hs, if_neg ht]
   rfl
 ·rw [show inB es s = false from decide_eq_false hs, if_neg (by decide), arbiterref15_Test.j0]
  unfold testF; rw [if_neg hs]
  rfl
theorem rtt_ok {es : List Ent} (h : Thy es) (hl : es.length ≤ 1000) (a : Int) (s : ByteArray) (b : Int) (t : ByteArray) (k : Nat) (hk : 40 * es.length + 5000 < k) : arbiterref15_TestTypes.f k (csOf es) a s b t = some (ttF es a s b t) := by
 obtain ⟨k, rfl⟩ : ∃ m, k = m + 1 := ⟨k - 1, by omega⟩
 have hsub := tt_sub h a s b t; unfold arbiterref15_TestTypes.f; rw [rsub_ok h hl a b s t (k + 1) (by omega), Option.bind_some]
 by_cases he : (subF es a s b t).2 = 0
 ·rw [if_pos he]
  obtain ⟨h1, h2, h3⟩ := sub_zero he
  have hno : ∀ c : Bool, c = false → a ≠ b ∨ s.toList = [] ∨ t.toList = [] → arbiterref15_TestTypes.j0 (k + 1) (csOf es) (subF es a s b t).1 c a s b t = some (ttF es a s b t) := by
   rintro c rfl hc; rw [arbiterref15_TestTypes.j0, if_neg (by decide)]; unfold ttF; rw [if_neg (fun h => h he), if_pos hc]
  by_cases hab : a = b
  ·rw [if_pos hab]
   by_cases hs : s.toList = []
   ·rw [if_pos hs]
    exact hno false rfl (.inr (.inl hs))
   ·rw [if_neg hs]
    by_cases htt : t.toList = []
    ·exact hno _ (by simp [htt]) (.inr (.inr htt))
    ·rw [show (t.toList != ([] : List UInt8)) = true from bne_iff_ne.2 htt, arbiterref15_TestTypes.j0, if_pos rfl, byname_ok es hl s k (by omega), Option.bind_some, byname_ok es hl t k (by omega), Option.bind_some, rtest_ok h hl _ _ k (by omega), Option.bind_some]
     obtain ⟨s0, s1, _⟩ := name_at h1 hs; obtain ⟨t0, t1, _⟩ := name_at h2 htt
     have e : ttF es a s b t = testF es (nameF es s).1 (nameF es t).1 := by
      unfold ttF
      rw [if_neg (fun h => h he), if_neg (fun hc => by
       rcases hc with hc | hc | hc
       ·exact hc hab
       ·exact hs hc
       ·exact htt hc)]
     have e2 : (testF es (nameF es s).1 (nameF es t).1).1 = (subF es a s b t).1 := by rw [← e]; exact hsub.1
     have e3 : (testF es (nameF es s).1 (nameF es t).1).2.2 = 0 := by rw [test_in h ⟨s0, s1⟩ ⟨t0, t1⟩]
     rw [e, ← e2]
     congr 1
     refine Prod.ext rfl (Prod.ext rfl ?_)
     exact e3.symm
  ·rw [if_neg hab]
   exact hno false rfl (.inl hab)
 ·rw [if_neg he]
  unfold ttF; rw [if_pos he]
end Go.Proofs.YtaipkdglhfhhiaaGreatDoor.Pt

namespace Go.Proofs.YtaipkdglhfhhiaaGreatDoor.Hi
open Go Go.RowKit Go.Proofs.YtaipkdglhfhhiaaGreatDoor.Nm Go.Proofs.YtaipkdglhfhhiaaGreatDoorW.PrintWords Go.Proofs.YtaipkdglhfhhiaaGreatDoorW.PrintLast Go.Proofs.YtaipkdglhfhhiaaGreatDoorW.PrintMore Go.Proofs.YtaipkdglhfhhiaaGreatDoor.Pt
theorem len_made {es : List Ent} (h : Made es) : es.length ≤ 300 := by
 induction h with
 | new => decide
 | step es c _ ih =>
  rcases stepF_cases es c with h | ⟨x, h, ht⟩
  ·rw [h]; exact ih
  ·rw [h, List.length_append]
   have := ht.len; simp
   omega
end Go.Proofs.YtaipkdglhfhhiaaGreatDoor.Hi

namespace Go.Proofs.YtaipkdglhfhhiaaGreatDoor.Pt
open Go Go.RowKit Go.Proofs.YtaipkdglhfhhiaaGreatDoor.Nm Go.Proofs.YtaipkdglhfhhiaaGreatDoor.Ty Go.Proofs.YtaipkdglhfhhiaaGreatDoor.Cd Go.Proofs.YtaipkdglhfhhiaaGreatDoorW.PrintWords Go.Proofs.YtaipkdglhfhhiaaGreatDoorW.PrintLast Go.Proofs.YtaipkdglhfhhiaaGreatDoorW.PrintMore
set_option linter.unusedVariables false
set_option linter.unusedSimpArgs false
set_option maxHeartbeats 2000000
set_option maxRecDepth 100000
theorem rpdesc_any (a0 : ByteArray) (w : World) : Calls Tryz.prog 141 #[.string a0] w fun e w' => ∃ v0_ : Value, e = .returned (.tuple #[.agg #[v0_, .bool (parseD a0.data.toList).1.void, .int .i64 (parseD a0.data.toList).1.rdims, .string (bs (parseD a0.data.toList).1.rname)], .int .i64 (parseD a0.data.toList).2]) ∧
  Kd.R k24 24 w' w.heap.size (fun _ => True) v0_ ((parseD a0.data.toList).1.args.map toS) ∧ Below w.heap.size w w' :=
 arbiterref02_ParseDesc.calls 5000 a0 _ _ _ _ _ w (pdesc_f a0 5000 (Nat.le_refl _))
theorem roper_any (op : Int) (w : World) : Calls Tryz.prog 160 #[.int .i64 op] w fun e w' => e = .returned (.int .i64 (Cd.opnd op)) ∧ w' = w := by
 have ht : ∀ k : Nat, k < 41 → k = 0 ∨ k = 1 ∨ k = 2 ∨ k = 3 ∨ k = 4 ∨ k = 5 ∨ k = 11 ∨ k = 12 ∨ k = 13 ∨ k = 14 ∨ k = 15 ∨ k = 16 ∨ k = 17 ∨ k = 18 ∨ k = 22 ∨ k = 23 ∨ k = 24 ∨ k = 30 ∨ k = 31 ∨ k = 32 ∨ k = 33 ∨ k = 34 ∨ k = 35 ∨ Cd.opTab.getD k 0 = 0 := by decide
 replace ht := Lib.hid ht; go_enter Tryz.func160, Tryz.ntmps160; go_wp2
 all_goals
  go_ret; refine ⟨ret_eq ?_, rfl⟩; simp only [beq_iff_eq, beq_eq_false_iff_ne, ne_eq, decide_eq_true_eq, decide_eq_false_iff_not, Bool.or_eq_true, Bool.or_eq_false_iff] at *
 all_goals first
  | (subst_vars; rfl)
  | (unfold Cd.opnd; rw [if_pos (by omega)])
  | (unfold Cd.opnd; rw [if_neg (by omega)]; have := ht.out op.toNat (by omega); omega)
def noRefB (ri : Bool) (rc rn rd : ByteArray) : Bool := !ri && (rc.toList == [] && (rn.toList == [] && rd.toList == []))
theorem noref_any (ri : Bool) (rc rn rd : ByteArray) (w : World) : Calls Tryz.prog 167 #[.agg #[.bool ri, .string rc, .string rn, .string rd]] w fun e w' => e = .returned (.bool (noRefB ri rc rn rd)) ∧ Below w.heap.size w w' := by
 have AB := Lib.hid ((Below.refl w.heap.size w).alloc (Nat.le_refl _) (.cells #[.bool ri, .string rc, .string rn, .string rd] 141)); generalize hr : noRefB ri rc rn rd = r; replace hr := Lib.hid hr; unfold noRefB at hr
 cases ri
 all_goals
  go_enter Tryz.func167, Tryz.ntmps167; go_wp2
  all_goals
   go_ret; refine ⟨?_, AB.out⟩; rw [← hr.out]
   simp_all
theorem rrefck_any (ri : Bool) (rc rn rd : ByteArray) (w : World) : Calls Tryz.prog 170 #[.agg #[.bool ri, .string rc, .string rn, .string rd]] w fun e w' => e = .returned (.int .i64 (refV rc rn rd)) ∧ Below w.heap.size w w' := by
 have B0 := Lib.hid (blk_new w (.cells #[.bool ri, .string rc, .string rn, .string rd] 141)); have AB := Lib.hid ((Below.refl w.heap.size w).alloc (Nat.le_refl _) (.cells #[.bool ri, .string rc, .string rn, .string rd] 141)); have C1 := Lib.hid (arbiterref02_ParseRef.calls rc _ _ _ (w.alloc (.cells #[.bool ri, .string rc, .string rn, .string rd] 141)) rfl); have C2 := Lib.hid (fun W => rpdesc_any rd W); have C3 := Lib.hid (fun W => arbiterref01_Member.calls rn _ W rfl); generalize hr : refV rc rn rd = r at *; replace hr := Lib.hid hr; unfold refV at hr; generalize parseR rc.data.toList = p1 at *; generalize parseD rd.data.toList = p2 at *; generalize memberB rn = mb at *; obtain ⟨d1, s1, e1⟩ := p1; obtain ⟨d2, e2⟩ := p2; go_enter Tryz.func170, Tryz.ntmps170; go_wp2_with fail; refine C1.out.mono ?_; rintro e w1 ⟨rfl, hb1⟩; have B1 := blk_below B0.out hb1; have q2 : w1.cell? ⟨w.heap.size, 2, none⟩ = some (.string rn) := (blk_cell B1 2).trans rfl; have q2 := cell_allocs q2; have H1 := Lib.hid (AB.out.trans (hb1.mono AB.out.size)); replace B1 := Lib.hid B1; clear B0 AB C1 hb1
 by_cases h1 : e1 = 0
 ·subst h1
  go_wp2_with fail; refine (C3.out _).mono ?_; rintro e w2 ⟨rfl, hb2⟩; have q3 : w2.cell? ⟨w.heap.size, 3, none⟩ = some (.string rd) := pw_cell_below hb2 (cell_allocs ((blk_cell B1.out 3).trans rfl) _); have H2 := Lib.hid ((H1.out.alloc H1.out.size _).trans (hb2.mono (H1.out.alloc H1.out.size _).size)); clear hb2 C3 H1 B1 q2
  cases mb with
  | false =>
   go_wp2; go_ret; have := hr.out; simp at this; subst this
   exact ⟨rfl, H2.out⟩
  | true =>
   go_wp2_with fail; refine (C2.out _).mono ?_; rintro e w3 ⟨v0, rfl, R0, hb3⟩; obtain ⟨A0, c0, rfl⟩ := Kd.R_slice R0; have H3 := Lib.hid (H2.out.trans (hb3.mono H2.out.size)); clear hb3 H2 C2 q3 R0
   by_cases h2 : e2 = 0
   ·subst h2
    go_wp2; go_ret; have := hr.out; simp at this; subst this
    exact ⟨rfl, H3.out.alloc H3.out.size _⟩
   ·have hne : (e2 != 0) = true := bne_iff_ne.2 h2
    go_wp2; go_ret; have := hr.out; simp [h2] at this; subst this
    exact ⟨rfl, H3.out.alloc H3.out.size _⟩
 ·have hne : (e1 != 0) = true := bne_iff_ne.2 h1
  go_wp2; go_ret; have := hr.out; simp [h1] at this; subst this
  exact ⟨rfl, H1.out.alloc H1.out.size _⟩
def rbare (k n : Int) (ty : ByteArray) (nr : Bool) : Bool := decide (0 ≤ k) && ((k == 8 || nr) && ((!(k == 0 || k == 4 || k == 5 || k == 6 || k == 8) || n == 0) && (!(decide (k < 4) || k == 8) || ty.toList == [])))
theorem toList_nil (s : ByteArray) : ((⟨#[]⟩ : ByteArray).toList == s.toList) = (s.toList == []) := by
 rw [show (⟨#[]⟩ : ByteArray).toList = [] from by rw [ByteArray.toList_eq]]
 cases s.toList <;> rfl
theorem rins_eq (op n : Int) (ty : ByteArray) (ri : Bool) (rc rn rd : ByteArray) : insV ⟨op, n, ty, ⟨ri, rc, rn, rd⟩⟩ = if (rbare (Cd.opnd op) n ty (noRefB ri rc rn rd) && opB op n ty rc rn rd) = true then 0 else 1 := by
 have hs : ∀ s : ByteArray, (s.toList == s.toList) = true := fun s => beq_self_eq_true _
 have hb : (bareOk op n ty ri rc rn rd && opB op n ty rc rn rd) = (rbare (Cd.opnd op) n ty (noRefB ri rc rn rd) && opB op n ty rc rn rd) := by
  unfold bareOk rbare sameI noRefB opB; have hn : (0 == n) = (n == 0) := Bool.beq_comm
  rcases opnd_cases op with h | h | h | h | h | h | h | h | h | h
  all_goals
   rw [h]; simp only [bareN, bareT, bareS, bareB]; simp [hs, toList_nil, hn, Bool.and_assoc, Bool.and_left_comm, Bool.and_comm]
 unfold insV; simp only; rw [← hb]
 cases bareOk op n ty ri rc rn rd <;> cases opB op n ty rc rn rd <;> rfl
theorem rcdck_any (op n : Int) (ty : ByteArray) (ri : Bool) (rc rn rd : ByteArray) (w : World) :
  Calls Tryz.prog 161 #[.agg #[.int .i64 op, .int .i64 n, .string ty, .bool ri, .string rc, .string rn, .string rd]] w fun e w' => e = .returned (.int .i64 (insV ⟨op, n, ty, ⟨ri, rc, rn, rd⟩⟩)) ∧ Below w.heap.size w w' := by
 have B0 := Lib.hid (blk_new w (.cells #[.int .i64 op, .int .i64 n, .string ty, .bool ri, .string rc, .string rn, .string rd] 143)); have AB := Lib.hid ((Below.refl w.heap.size w).alloc (Nat.le_refl _) (.cells #[.int .i64 op, .int .i64 n, .string ty, .bool ri, .string rc, .string rn, .string rd] 143)); have OP := Lib.hid (fun W => roper_any op W); have CN := Lib.hid (fun W => noref_any ri rc rn rd W); have CV := Lib.hid (fun W => arbiterref01_Valid.calls ty _ W rfl); have CR := Lib.hid (fun W => arbiterref02_ParseRef.calls ty _ _ _ W rfl); have CP := Lib.hid (fun W => arbiterref02_Parse.calls ty _ _ _ W rfl); have CF := Lib.hid (fun W => rrefck_any ri rc rn rd W); have K := opnd_cases op; generalize hr : insV ⟨op, n, ty, ⟨ri, rc, rn, rd⟩⟩ = r; rw [rins_eq] at hr; unfold opB rbare wthB at hr; generalize noRefB ri rc rn rd = nr at *; generalize Cd.opnd op = k at *; generalize parseR ty.data.toList = p1 at *; generalize parseT ty.data.toList = p2 at *; generalize refV rc rn rd = fv at *; generalize validB ty = vb at *; obtain ⟨d1, s1, e1⟩ := p1; obtain ⟨d2, s2, e2⟩ := p2; replace hr := Lib.hid hr; go_enter Tryz.func161, Tryz.ntmps161; go_wp2_with fail; refine (OP.out _).mono ?_; rintro e w1 ⟨rfl, rfl⟩
 by_cases h8 : k = 8
 ·subst h8
  clear CN CV CR CP K; go_wp2_with (go_at_call 170; refine (CF.out _).mono ?_; rintro e w2 ⟨rfl, hb2⟩; replace hb2 := Lib.hid (AB.out.trans (hb2.mono AB.out.size)))
  all_goals
   go_ret
  all_goals first
   | exact ⟨by rw [← hr.out]; first | (simp_all; done) | (simp_all; omega), hb2.out⟩
   | exact ⟨by rw [← hr.out]; first | (simp_all; done) | (simp_all; omega), AB.out⟩
 ·have h8b : (k != 8) = true := bne_iff_ne.2 h8
  go_wp2_with fail; refine (CN.out _).mono ?_; rintro e w2 ⟨rfl, hb2⟩; have B2 := Lib.hid (blk_below B0.out hb2); have H2 := Lib.hid (AB.out.trans (hb2.mono AB.out.size)); have q1 : w2.cell? ⟨w.heap.size, 1, none⟩ = some (.int .i64 n) := (blk_cell B2.out 1).trans rfl; have q2 : w2.cell? ⟨w.heap.size, 2, none⟩ = some (.string ty) := (blk_cell B2.out 2).trans rfl; clear CN AB hb2 OP CF
  rcases K with rfl | rfl | rfl | rfl | rfl | rfl | rfl | rfl | rfl | rfl
  case inr.inr.inr.inr.inr.inr.inr.inr.inr => exact absurd rfl h8
  case inr.inr.inr.inr.inr.inl =>
   go_wp2_with (go_at_call 116; refine (CV.out _).mono ?_; rintro e w3 ⟨rfl, hb3⟩; replace hb3 := Lib.hid (H2.out.trans (hb3.mono H2.out.size)))
   all_goals
    go_ret
   all_goals first
    | exact ⟨by rw [← hr.out]; first | (simp_all; done) | (simp_all; omega), hb3.out⟩
    | exact ⟨by rw [← hr.out]; first | (simp_all; done) | (simp_all; omega), H2.out⟩
  case inr.inr.inr.inr.inr.inr.inl =>
   go_wp2_with (go_at_call 168; refine (CR.out _).mono ?_; rintro e w3 ⟨rfl, hb3⟩; replace hb3 := Lib.hid (H2.out.trans (hb3.mono H2.out.size)))
   all_goals
    go_ret
   all_goals first
    | exact ⟨by rw [← hr.out]; first | (simp_all; done) | (simp_all; omega), hb3.out.alloc hb3.out.size _⟩
    | exact ⟨by rw [← hr.out]; first | (simp_all; done) | (simp_all; omega), H2.out⟩
  case inr.inr.inr.inr.inr.inr.inr.inl =>
   go_wp2_with (go_at_call 169; refine (CP.out _).mono ?_; rintro e w3 ⟨rfl, hb3⟩; replace hb3 := Lib.hid (H2.out.trans (hb3.mono H2.out.size)))
   all_goals
    go_ret
   all_goals first
    | exact ⟨by rw [← hr.out]; first | (simp_all; done) | (simp_all; omega), hb3.out.alloc hb3.out.size _⟩
    | exact ⟨by rw [← hr.out]; first | (simp_all; done) | (simp_all; omega), H2.out⟩
  case inr.inr.inr.inr.inr.inr.inr.inr.inl =>
   go_wp2_with (go_at_call 168; refine (CR.out _).mono ?_; rintro e w3 ⟨rfl, hb3⟩; have r1 := cell_allocs (pw_cell_below hb3 q1); replace hb3 := Lib.hid (H2.out.trans (hb3.mono H2.out.size)))
   all_goals
    go_ret
   all_goals first
    | exact ⟨by rw [← hr.out]; first | (simp_all; done) | (simp_all; omega), hb3.out.alloc hb3.out.size _⟩
    | exact ⟨by rw [← hr.out]; first | (simp_all; done) | (simp_all; omega), H2.out⟩
  all_goals
   go_wp2
   all_goals
    go_ret
    exact ⟨by rw [← hr.out]; first | (simp_all; done) | (simp_all; omega), H2.out⟩
end Go.Proofs.YtaipkdglhfhhiaaGreatDoor.Pt

namespace Go.Proofs.YtaipkdglhfhhiaaGreatDoor.Pt
open Go.RowKit Go.Proofs.YtaipkdglhfhhiaaGreatDoorW.PrintWords Go.Proofs.YtaipkdglhfhhiaaGreatDoorW.PrintLast Go.Proofs.YtaipkdglhfhhiaaGreatDoorW.PrintMore
attribute [local go_sem] max2_int min2_int max_two min_two max_three min_three max_four min_four   -- for this text's walks alone
set_option linter.unusedVariables false
set_option linter.unusedSimpArgs false
def arbiterref02_Args.f (k : Nat) (a0 : ByteArray) : Option (Int × Int) := (arbiterref02_ParseDesc.f k a0).bind fun bt117 => (some ((bt117.1.length : Int), bt117.2.2.2.2))
set_option maxHeartbeats 8000000 in
set_option maxRecDepth 100000 in
theorem arbiterref02_Args.calls (k : Nat) (a0 : ByteArray) (r1 : Int) (r2 : Int) (w : World) (h : arbiterref02_Args.f k a0 = some (r1, r2)) :
  Calls Tryz.prog 159 #[.string a0] w fun e w' => e = .returned (.tuple #[.int .i64 r1, .int .i64 r2]) ∧ Below w.heap.size w w' := by
 have hu172 := Tryz.underlying172; have HB := Aside0.mk (Below.refl w.heap.size w); have H : ((arbiterref02_ParseDesc.f k a0).bind fun bt117 => (some ((bt117.1.length : Int), bt117.2.2.2.2))) = some (r1, r2) := h; clear h; replace H := Option.bind_eq_some_iff.mp H; obtain ⟨⟨t117, t120, t121, t122, t123⟩, A20, H⟩ := H; replace H : (some ((t117.length : Int), t123)) = some (r1, r2) := H; have A2 := Aside0.mk A20; clear A20; simp only [Option.some.injEq, Prod.mk.injEq] at H; obtain ⟨rfl, rfl⟩ := H; go_enter Tryz.func159, Tryz.ntmps159; go_wp2_with (first | ((with_reducible refine gate_callee (f := 141) rfl ?_); refine gX (some 8) Tryz.func141 #[.string a0] ?_; (with_reducible refine (arbiterref02_ParseDesc.calls k a0 t117 t120 t121 t122 t123 _ A2.out).mono ?_); rintro e w3 ⟨v118, rfl, ho0, hb⟩; refine ⟨_, rfl, ?_⟩; have n0_ := Aside0.mk (Kd.R_lower ho0 (below_size (bX HB))); have n1_ := Aside0.mk (below_step (bX HB) hb); clear HB; have HO119 := n0_; have HB := n1_; clear n0_ n1_; (try clear hb); (try clear hb2); (try clear hk); (try clear hi); (try clear ho0)) | ((with_reducible refine gate_dst (N := 4) rfl ?_); refine eX 4 #[.slice none 0 0, .bool false, .int .i64 0, .string (⟨#[]⟩ : ByteArray)] 172 ?_; intro gb124 hg w4 hbox hb; have n0_ := Aside0.mk (Kd.R_below (rX HO119) hb); have n1_ := Aside0.mk (below_step (bX HB) hb); have n2_ := Aside0.mk (hbox); have n3_ := Aside0.mk ((by rw [hg]; exact (below_size (bX HB)) : w.heap.size ≤ gb124)); have n4_ := Aside0.mk ((by rw [hg]; exact (below_size (bX HB)) : w.heap.size ≤ gb124)); clear HO119; clear HB; have HO119 := n0_; have HB := n1_; have BK124 := n2_; have GW124 := n3_; have GE124 := n4_; clear n0_ n1_ n2_ n3_ n4_; clear hb hbox hg; obtain ⟨Ao5, co5, eo5⟩ := Kd.R_slice HO119.out; subst eo5; obtain ⟨hcz6_0, hcz6_1, hcz6_2, hcz6_3, hfz6_0, hfz6_1, hfz6_2, hfz6_3⟩ := c4X BK124)); go_ret2
 exact ⟨by first | rfl | (simp [errW_none, errW_some] <;> rfl) | (simp [*, errW_none, errW_some] <;> rfl), bX1 HB GE124⟩
end Go.Proofs.YtaipkdglhfhhiaaGreatDoor.Pt
