/- Lemmas and contracts for the statement of PwArraysSteps: joined by program out of this session's texts. -/
import Derived.Test.YtmlifggklaeieaaDoorBdPwArraysSteps3
import Derived.Deep.Slices
import Derived.WideShapes
-- laid by a program of this session's own (a variant of the kit's print)
namespace Go.Proofs.YtmlifggklaeieaaDoor.Pt
open Go.RowKit Go.Proofs.YtmlifggklaeieaaDoorW.PrintWords Go.Proofs.YtmlifggklaeieaaDoorW.PrintLast Go.Proofs.YtmlifggklaeieaaDoorW.PrintMore
attribute [local go_sem] max2_int min2_int max_two min_two max_three min_three max_four min_four   -- for this text's walks alone
set_option linter.unusedVariables false
set_option linter.unusedSimpArgs false

/-! ### arbiterlaw07_ArraysSteps: function 7 -/
mutual
def arbiterlaw07_ArraysSteps.j0 : Nat → List Hi.Ent → Bool → Int → ByteArray → Int → ByteArray → Option (Bool)
  | 0, _, _, _, _, _, _ => none
  | k + 1, x7, x29, x303000, x303001, x304000, x304001 => if x29 = true then (some true) else ((arrays_Above.f x7 x303000 x303001).bind fun bt308 => ((arrays_Sub.f x7 x303000 x303001 x304000 x304001).bind fun bt312 => (if bt308.2 = 0 then (arbiterlaw07_ArraysSteps.j1 k x7 bt308.1 bt312.1 (bt312.2 != 0) x303000 x303001 x304000 x304001) else (arbiterlaw07_ArraysSteps.j1 k x7 bt308.1 bt312.1 true x303000 x303001 x304000 x304001))))
def arbiterlaw07_ArraysSteps.j1 : Nat → List Hi.Ent → List (S28) → Bool → Bool → Int → ByteArray → Int → ByteArray → Option (Bool)
  | 0, _, _, _, _, _, _, _, _ => none
  | k + 1, x7, x8, x10, x48, x303000, x303001, x304000, x304001 => if x48 = true then (some false) else ((arbiterref02_Same.f x303000 x303001 x304000 x304001).bind fun t314 => (arbiterlaw07_ArraysSteps.l0 k x7 x8 x10 t314 0 x303000 x303001 x304000 x304001))
def arbiterlaw07_ArraysSteps.l0 : Nat → List Hi.Ent → List (S28) → Bool → Bool → Int → Int → ByteArray → Int → ByteArray → Option (Bool)
  | 0, _, _, _, _, _, _, _, _, _ => none
  | k + 1, x7, x8, x10, x12, x13, x303000, x303001, x304000, x304001 => if x13 < (x8.length : Int) then (if 0 ≤ x13 then ((arrays_Sub.f x7 x303000 x303001 ((rd_T28 x8 x13).f0) ((rd_T28 x8 x13).f1)).bind fun bt316 => (if bt316.2 = 0 then (if bt316.1 = true then ((arbiterref02_Same.f x303000 x303001 ((rd_T28 x8 x13).f0) ((rd_T28 x8 x13).f1)).bind fun t319 => (arbiterlaw07_ArraysSteps.j3 k x7 x8 x10 x12 x13 t319 x303000 x303001 x304000 x304001)) else (arbiterlaw07_ArraysSteps.j3 k x7 x8 x10 x12 x13 true x303000 x303001 x304000 x304001)) else (arbiterlaw07_ArraysSteps.j3 k x7 x8 x10 x12 x13 true x303000 x303001 x304000 x304001))) else (none)) else (some (x12 == x10))
def arbiterlaw07_ArraysSteps.j3 : Nat → List Hi.Ent → List (S28) → Bool → Bool → Int → Bool → Int → ByteArray → Int → ByteArray → Option (Bool)
  | 0, _, _, _, _, _, _, _, _, _, _ => none
  | k + 1, x7, x8, x10, x12, x13, x81, x303000, x303001, x304000, x304001 => if x81 = true then (some false) else (if 0 ≤ x13 then (if x13 < (x8.length : Int) then ((arrays_Sub.f x7 ((rd_T28 x8 x13).f0) ((rd_T28 x8 x13).f1) x304000 x304001).bind fun bt321 => (if bt321.2 = 0 then (if x12 = true then (arbiterlaw07_ArraysSteps.l0 k x7 x8 x10 true (wrap64 (x13 + 1)) x303000 x303001 x304000 x304001) else (arbiterlaw07_ArraysSteps.l0 k x7 x8 x10 bt321.1 (wrap64 (x13 + 1)) x303000 x303001 x304000 x304001)) else (some false))) else (none)) else (none))
end
def arbiterlaw07_ArraysSteps.f (k : Nat) (l0 : List (S44)) (a1_0 : Int) (a1_1 : ByteArray) (a2_0 : Int) (a2_1 : ByteArray) : Option (Bool) := (arbiterlaw07_awake.f).bind fun t304 => (if t304 = true then ((arbiterlaw07_built.f l0).bind fun t305 => ((arrays_Loaded.f t305 a1_0 a1_1).bind fun t306 => (if t306 = 0 then ((arrays_Loaded.f t305 a2_0 a2_1).bind fun t307 => (arbiterlaw07_ArraysSteps.j0 k t305 (t307 != 0) a1_0 a1_1 a2_0 a2_1)) else (arbiterlaw07_ArraysSteps.j0 k t305 true a1_0 a1_1 a2_0 a2_1)))) else (some false))
theorem arbiterlaw07_ArraysSteps.mono_l : ∀ k, (∀ y0 y1 y2 y3 y4 y5, LeO (arbiterlaw07_ArraysSteps.j0 k y0 y1 y2 y3 y4 y5) (arbiterlaw07_ArraysSteps.j0 (k + 1) y0 y1 y2 y3 y4 y5)) ∧ (∀ y0 y1 y2 y3 y4 y5 y6 y7, LeO (arbiterlaw07_ArraysSteps.j1 k y0 y1 y2 y3 y4 y5 y6 y7) (arbiterlaw07_ArraysSteps.j1 (k + 1) y0 y1 y2 y3 y4 y5 y6 y7)) ∧ (∀ y0 y1 y2 y3 y4 y5 y6 y7 y8, LeO (arbiterlaw07_ArraysSteps.l0 k y0 y1 y2 y3 y4 y5 y6 y7 y8) (arbiterlaw07_ArraysSteps.l0 (k + 1) y0 y1 y2 y3 y4 y5 y6 y7 y8)) ∧ (∀ y0 y1 y2 y3 y4 y5 y6 y7 y8 y9, LeO (arbiterlaw07_ArraysSteps.j3 k y0 y1 y2 y3 y4 y5 y6 y7 y8 y9) (arbiterlaw07_ArraysSteps.j3 (k + 1) y0 y1 y2 y3 y4 y5 y6 y7 y8 y9))
  | 0 => ⟨fun _ _ _ _ _ _ r h => by simp [arbiterlaw07_ArraysSteps.j0] at h, fun _ _ _ _ _ _ _ _ r h => by simp [arbiterlaw07_ArraysSteps.j1] at h, fun _ _ _ _ _ _ _ _ _ r h => by simp [arbiterlaw07_ArraysSteps.l0] at h, fun _ _ _ _ _ _ _ _ _ _ r h => by simp [arbiterlaw07_ArraysSteps.j3] at h⟩
  | k + 1 => by
    obtain ⟨ih0, ih1, ih2, ih3⟩ := arbiterlaw07_ArraysSteps.mono_l k
    refine ⟨?_, ?_, ?_, ?_⟩
    · intro y0 y1 y2 y3 y4 y5
      unfold arbiterlaw07_ArraysSteps.j0
      repeat' first
      | (with_reducible exact ih0 _ _ _ _ _ _)
      | (with_reducible exact ih1 _ _ _ _ _ _ _ _)
      | (with_reducible exact ih2 _ _ _ _ _ _ _ _ _)
      | (with_reducible exact ih3 _ _ _ _ _ _ _ _ _ _)
      | (with_reducible exact LeO.refl _)
      | (with_reducible exact LeO.none _)
      | (with_reducible refine LeO.ite ?_ ?_)
      | (with_reducible refine LeO.bind ?_ (fun _ => ?_))
      | exact ih0 _ _ _ _ _ _
      | exact ih1 _ _ _ _ _ _ _ _
      | exact ih2 _ _ _ _ _ _ _ _ _
      | exact ih3 _ _ _ _ _ _ _ _ _ _
      | exact LeO.none _
      | refine LeO.ite ?_ ?_
      | refine LeO.bind ?_ (fun _ => ?_)
    · intro y0 y1 y2 y3 y4 y5 y6 y7
      unfold arbiterlaw07_ArraysSteps.j1
      repeat' first
      | (with_reducible exact ih0 _ _ _ _ _ _)
      | (with_reducible exact ih1 _ _ _ _ _ _ _ _)
      | (with_reducible exact ih2 _ _ _ _ _ _ _ _ _)
      | (with_reducible exact ih3 _ _ _ _ _ _ _ _ _ _)
      | (with_reducible exact LeO.refl _)
      | (with_reducible exact LeO.none _)
      | (with_reducible refine LeO.ite ?_ ?_)
      | (with_reducible refine LeO.bind ?_ (fun _ => ?_))
      | exact ih0 _ _ _ _ _ _
      | exact ih1 _ _ _ _ _ _ _ _
      | exact ih2 _ _ _ _ _ _ _ _ _
      | exact ih3 _ _ _ _ _ _ _ _ _ _
      | exact LeO.none _
      | refine LeO.ite ?_ ?_
      | refine LeO.bind ?_ (fun _ => ?_)
    · intro y0 y1 y2 y3 y4 y5 y6 y7 y8
      unfold arbiterlaw07_ArraysSteps.l0
      repeat' first
      | (with_reducible exact ih0 _ _ _ _ _ _)
      | (with_reducible exact ih1 _ _ _ _ _ _ _ _)
      | (with_reducible exact ih2 _ _ _ _ _ _ _ _ _)
      | (with_reducible exact ih3 _ _ _ _ _ _ _ _ _ _)
      | (with_reducible exact LeO.refl _)
      | (with_reducible exact LeO.none _)
      | (with_reducible refine LeO.ite ?_ ?_)
      | (with_reducible refine LeO.bind ?_ (fun _ => ?_))
      | exact ih0 _ _ _ _ _ _
      | exact ih1 _ _ _ _ _ _ _ _
      | exact ih2 _ _ _ _ _ _ _ _ _
      | exact ih3 _ _ _ _ _ _ _ _ _ _
      | exact LeO.none _
      | refine LeO.ite ?_ ?_
      | refine LeO.bind ?_ (fun _ => ?_)
    · intro y0 y1 y2 y3 y4 y5 y6 y7 y8 y9
      unfold arbiterlaw07_ArraysSteps.j3
      repeat' first
      | (with_reducible exact ih0 _ _ _ _ _ _)
      | (with_reducible exact ih1 _ _ _ _ _ _ _ _)
      | (with_reducible exact ih2 _ _ _ _ _ _ _ _ _)
      | (with_reducible exact ih3 _ _ _ _ _ _ _ _ _ _)
      | (with_reducible exact LeO.refl _)
      | (with_reducible exact LeO.none _)
      | (with_reducible refine LeO.ite ?_ ?_)
      | (with_reducible refine LeO.bind ?_ (fun _ => ?_))
      | exact ih0 _ _ _ _ _ _
      | exact ih1 _ _ _ _ _ _ _ _
      | exact ih2 _ _ _ _ _ _ _ _ _
      | exact ih3 _ _ _ _ _ _ _ _ _ _
      | exact LeO.none _
      | refine LeO.ite ?_ ?_
      | refine LeO.bind ?_ (fun _ => ?_)
theorem arbiterlaw07_ArraysSteps.mono : ∀ a0 a1 a2 a3 a4 k, LeO (arbiterlaw07_ArraysSteps.f k a0 a1 a2 a3 a4) (arbiterlaw07_ArraysSteps.f (k + 1) a0 a1 a2 a3 a4) := by
  intro a0 a1 a2 a3 a4 k
  obtain ⟨ih0, ih1, ih2, ih3⟩ := arbiterlaw07_ArraysSteps.mono_l k
  unfold arbiterlaw07_ArraysSteps.f
  repeat' first
      | (with_reducible exact ih0 _ _ _ _ _ _)
      | (with_reducible exact ih1 _ _ _ _ _ _ _ _)
      | (with_reducible exact ih2 _ _ _ _ _ _ _ _ _)
      | (with_reducible exact ih3 _ _ _ _ _ _ _ _ _ _)
      | (with_reducible exact LeO.refl _)
      | (with_reducible exact LeO.none _)
      | (with_reducible refine LeO.ite ?_ ?_)
      | (with_reducible refine LeO.bind ?_ (fun _ => ?_))
      | exact ih0 _ _ _ _ _ _
      | exact ih1 _ _ _ _ _ _ _ _
      | exact ih2 _ _ _ _ _ _ _ _ _
      | exact ih3 _ _ _ _ _ _ _ _ _ _
      | exact LeO.none _
      | refine LeO.ite ?_ ?_
      | refine LeO.bind ?_ (fun _ => ?_)
def arbiterlaw07_ArraysSteps.T14 : Bool × List (List Nat × List Nat) := (true, [([], []), ([], []), ([], []), ([], []), ([2, 3], [2, 3]), ([4], [4]), ([0, 1, 5], [0, 1, 5]), ([6], [6]), ([7], [7]), ([7], [7]), ([8, 6, 0, 1, 2, 3, 4, 5, 6, 7, 8], [8]), ([9, 10, 0, 1, 2, 3, 4, 5, 6, 7, 8, 9, 10], [9])])
def arbiterlaw07_ArraysSteps.B14 : List Nat := [0, 0, 0, 0, 12, 28, 63, 127, 255, 255, 511, 2047]
theorem arbiterlaw07_ArraysSteps.tab14 : rtab .any (opsOf Tryd.f7 14) = arbiterlaw07_ArraysSteps.T14 := by kernel_rfl
theorem arbiterlaw07_ArraysSteps.bits14 : waitsOk arbiterlaw07_ArraysSteps.T14.2 arbiterlaw07_ArraysSteps.B14 = true := by kernel_rfl
def arbiterlaw07_ArraysSteps.T15 : Bool × List (List Nat × List Nat) := (true, [([], []), ([0], [0]), ([1], [1]), ([2], [2]), ([3, 2], [2, 3]), ([2, 4], [2, 4]), ([5, 2], [5]), ([6], [6]), ([6], [6]), ([6], [6]), ([8, 9, 6], [6, 8, 9]), ([10, 6], [6, 10]), ([7, 11, 6, 6], [6, 7, 11]), ([6, 12], [6, 12])])
def arbiterlaw07_ArraysSteps.B15 : List Nat := [0, 1, 3, 7, 15, 31, 63, 127, 127, 127, 895, 1919, 4095, 8191]
theorem arbiterlaw07_ArraysSteps.tab15 : rtab .any (opsOf Tryd.f7 15) = arbiterlaw07_ArraysSteps.T15 := by kernel_rfl
theorem arbiterlaw07_ArraysSteps.bits15 : waitsOk arbiterlaw07_ArraysSteps.T15.2 arbiterlaw07_ArraysSteps.B15 = true := by kernel_rfl
def arbiterlaw07_ArraysSteps.T17 : Bool × List (List Nat × List Nat) := (true, [([], []), ([], []), ([], []), ([1, 2], [1, 2]), ([3], [3]), ([], []), ([0, 4, 5], [0, 4, 5]), ([6], [6]), ([7], [7]), ([7], [7]), ([8, 6, 0, 1, 2, 3, 4, 5, 6, 7, 8], [8]), ([9, 10, 0, 1, 2, 3, 4, 5, 6, 7, 8, 9, 10], [9])])
def arbiterlaw07_ArraysSteps.B17 : List Nat := [0, 0, 0, 6, 14, 0, 63, 127, 255, 255, 511, 2047]
theorem arbiterlaw07_ArraysSteps.tab17 : rtab .any (opsOf Tryd.f7 17) = arbiterlaw07_ArraysSteps.T17 := by kernel_rfl
theorem arbiterlaw07_ArraysSteps.bits17 : waitsOk arbiterlaw07_ArraysSteps.T17.2 arbiterlaw07_ArraysSteps.B17 = true := by kernel_rfl
set_option maxHeartbeats 8000000 in
set_option maxRecDepth 100000 in
theorem arbiterlaw07_ArraysSteps.calls (k : Nat) (A0 : Option Addr) (c0 : Nat) (l0 : List (S44)) (a1_0 : Int) (a1_1 : ByteArray) (a2_0 : Int) (a2_1 : ByteArray) (r : Bool) (w : World) (hr0 : Kd.C k44 w A0 l0.length l0) (hc0 : l0.length ≤ c0) (h : arbiterlaw07_ArraysSteps.f k l0 a1_0 a1_1 a2_0 a2_1 = some r) :
    Calls Tryd.prog 7 #[.slice A0 l0.length c0, .agg #[.int .i64 a1_0, .string a1_1], .agg #[.int .i64 a2_0, .string a2_1]] w fun e w' => e = .returned (.bool r) ∧ Below w.heap.size w w' := by
  have hu28 := Tryd.underlying28
  have HR0 := Aside0.mk hr0
  have HC0 := Aside0.mk hc0
  clear hr0 hc0
  have HB := Aside0.mk (Below.refl w.heap.size w)
  have H : ((arbiterlaw07_awake.f).bind fun t304 => (if t304 = true then ((arbiterlaw07_built.f l0).bind fun t305 => ((arrays_Loaded.f t305 a1_0 a1_1).bind fun t306 => (if t306 = 0 then ((arrays_Loaded.f t305 a2_0 a2_1).bind fun t307 => (arbiterlaw07_ArraysSteps.j0 k t305 (t307 != 0) a1_0 a1_1 a2_0 a2_1)) else (arbiterlaw07_ArraysSteps.j0 k t305 true a1_0 a1_1 a2_0 a2_1)))) else (some false))) = some r := h
  clear h
  replace H := Option.bind_eq_some_iff.mp H
  obtain ⟨t304, A40, H⟩ := H
  replace H : (if t304 = true then ((arbiterlaw07_built.f l0).bind fun t305 => ((arrays_Loaded.f t305 a1_0 a1_1).bind fun t306 => (if t306 = 0 then ((arrays_Loaded.f t305 a2_0 a2_1).bind fun t307 => (arbiterlaw07_ArraysSteps.j0 k t305 (t307 != 0) a1_0 a1_1 a2_0 a2_1)) else (arbiterlaw07_ArraysSteps.j0 k t305 true a1_0 a1_1 a2_0 a2_1)))) else (some false)) = some r := H
  have A4 := Aside0.mk A40
  clear A40
  by_cases c5 : t304 = true
  · subst c5
    have H1 : ((arbiterlaw07_built.f l0).bind fun t305 => ((arrays_Loaded.f t305 a1_0 a1_1).bind fun t306 => (if t306 = 0 then ((arrays_Loaded.f t305 a2_0 a2_1).bind fun t307 => (arbiterlaw07_ArraysSteps.j0 k t305 (t307 != 0) a1_0 a1_1 a2_0 a2_1)) else (arbiterlaw07_ArraysSteps.j0 k t305 true a1_0 a1_1 a2_0 a2_1)))) = some r := by rw [if_pos rfl] at H; exact H
    clear H
    have H := H1
    clear H1
    replace H := Option.bind_eq_some_iff.mp H
    obtain ⟨t305, A60, H⟩ := H
    replace H : ((arrays_Loaded.f t305 a1_0 a1_1).bind fun t306 => (if t306 = 0 then ((arrays_Loaded.f t305 a2_0 a2_1).bind fun t307 => (arbiterlaw07_ArraysSteps.j0 k t305 (t307 != 0) a1_0 a1_1 a2_0 a2_1)) else (arbiterlaw07_ArraysSteps.j0 k t305 true a1_0 a1_1 a2_0 a2_1))) = some r := H
    have A6 := Aside0.mk A60
    clear A60
    have HC7 := Aside0.mk H
    clear H
    go_enter Tryd.func7, Tryd.ntmps7
    go_upto_region 4 with (first | ((with_reducible refine gate_dst (N := 4) rfl ?_); refine box_event ?hg (N := 4) ?hd (cs := #[.int .i64 a1_0, .string a1_1]) (t := 28) ?hr ?_; (case hd => rfl); (case hg => rfl); (case hr => first | (go_simp; done) | (go_simp; rfl)); intro gb302 hg w8 hbox hb; have n0_ := Aside0.mk (below_step (by repeat (first | (with_reducible first | exact HB.out | apply below_alloc | apply pw_below_drewN | apply below_drew1) | exact HB.out)) hb); have n1_ := Aside0.mk (hbox); have n2_ := Aside0.mk ((by rw [hg]; exact (below_size (by repeat (first | (with_reducible first | exact HB.out | apply below_alloc | apply pw_below_drewN | apply below_drew1) | exact HB.out))) : w.heap.size ≤ gb302)); have n3_ := Aside0.mk ((by rw [hg]; exact (below_size (by repeat (first | (with_reducible first | exact HB.out | apply below_alloc | apply pw_below_drewN | apply below_drew1) | exact HB.out))) : w.heap.size ≤ gb302)); clear HB; have HB := n0_; have BK302 := n1_; have GW302 := n2_; have GE302 := n3_; clear n0_ n1_ n2_ n3_; clear hb hbox hg) | ((with_reducible refine gate_dst (N := 5) rfl ?_); refine box_event ?hg (N := 5) ?hd (cs := #[.int .i64 a2_0, .string a2_1]) (t := 28) ?hr ?_; (case hd => rfl); (case hg => rfl); (case hr => first | (go_simp; done) | (go_simp; rfl)); intro gb303 hg w9 hbox hb; have n0_ := Aside0.mk (blk_below (g := gb302) (o := .cells #[.int .i64 a1_0, .string a1_1] 28 (0, 0)) (by (with_reducible repeat (first | refine blk_drewN ?_ _ | refine blk_drew ?_ | refine blk_alloc ?_ _)); exact BK302.out) hb); have n1_ := Aside0.mk (below_step (by repeat (first | (with_reducible first | exact HB.out | apply below_alloc | apply pw_below_drewN | apply below_drew1 | refine below_set ?_ GE302.out) | exact HB.out)) hb); have n2_ := Aside0.mk (hbox); have n3_ := Aside0.mk ((by rw [hg]; exact (below_size (by repeat (first | (with_reducible first | exact HB.out | apply below_alloc | apply pw_below_drewN | apply below_drew1 | refine below_set ?_ GE302.out) | exact HB.out))) : w.heap.size ≤ gb303)); have n4_ := Aside0.mk ((by rw [hg]; exact (below_size (by repeat (first | (with_reducible first | exact HB.out | apply below_alloc | apply pw_below_drewN | apply below_drew1 | refine below_set ?_ GE302.out) | exact HB.out))) : w.heap.size ≤ gb303)); have n5_ := Aside0.mk ((by rw [hg]; exact Nat.ne_of_lt (blk_lt (g := gb302) (o := .cells #[.int .i64 a1_0, .string a1_1] 28 (0, 0)) (by (with_reducible repeat (first | refine blk_drewN ?_ _ | refine blk_drew ?_ | refine blk_alloc ?_ _)); exact BK302.out)) : gb302 ≠ gb303)); have n6_ := Aside0.mk ((by rw [hg]; exact Nat.ne_of_gt (blk_lt (g := gb302) (o := .cells #[.int .i64 a1_0, .string a1_1] 28 (0, 0)) (by (with_reducible repeat (first | refine blk_drewN ?_ _ | refine blk_drew ?_ | refine blk_alloc ?_ _)); exact BK302.out)) : gb303 ≠ gb302)); clear BK302; clear HB; have BK302 := n0_; have HB := n1_; have BK303 := n2_; have GW303 := n3_; have GE303 := n4_; have NB302_303 := n5_; have NB303_302 := n6_; clear n0_ n1_ n2_ n3_ n4_ n5_ n6_; clear hb hbox hg) | ((with_reducible refine gate_callee (f := 13) rfl ?_); refine goesL_ (some 16) rfl rfl Tryd.func13 (by kernel_rfl) rfl #[] rfl (by (try simp only [List.map_toArray, List.map_cons, List.map_nil]); first | done | rfl | (simp only [List.length_drop, List.length_take]; rfl)) ?_; (with_reducible refine (arbiterlaw07_awake.calls  true _ A4.out).mono ?_); rintro e w10 ⟨rfl, hb⟩; refine ⟨_, rfl, ?_⟩; have n0_ := Aside0.mk (blk_below (g := gb302) (o := .cells #[.int .i64 a1_0, .string a1_1] 28 (0, 0)) (by (with_reducible repeat (first | refine blk_drewN ?_ _ | refine blk_drew ?_ | refine blk_alloc ?_ _)); exact BK302.out) hb); have n1_ := Aside0.mk (blk_below (g := gb303) (o := .cells #[.int .i64 a2_0, .string a2_1] 28 (0, 0)) (by (with_reducible repeat (first | refine blk_drewN ?_ _ | refine blk_drew ?_ | refine blk_alloc ?_ _)); exact BK303.out) hb); have n2_ := Aside0.mk (below_step (by repeat (first | (with_reducible first | exact HB.out | apply below_alloc | apply pw_below_drewN | apply below_drew1 | refine below_set ?_ GE302.out | refine below_set ?_ GE303.out) | exact HB.out)) hb); clear BK302; clear BK303; clear HB; have BK302 := n0_; have BK303 := n1_; have HB := n2_; clear n0_ n1_ n2_; (try clear hb); (try clear hb2); (try clear hk); (try clear hi)) | ((with_reducible refine gate_callee (f := 14) rfl ?_); refine goesL_ (some 19) rfl rfl Tryd.func14 (by kernel_rfl) rfl #[.slice A0 l0.length c0] rfl (by (try simp only [List.map_toArray, List.map_cons, List.map_nil]); first | done | rfl | (simp only [List.length_drop, List.length_take]; rfl)) ?_; (with_reducible refine (arbiterlaw07_built.calls _ _ l0 t305 _ ?side1 ?side2 A6.out).mono ?_); (case side1 => repeat (first | exact (Kd.C_below HR0.out HB.out) | (with_reducible refine Kd.C_alloc ?_ _) | (with_reducible refine Kd.C_drewN ?_ _) | (with_reducible refine Kd.C_drew ?_))); (case side2 => exact HC0.out); rintro e w11 ⟨G_t305, rfl, hqt305, hb⟩; refine ⟨_, rfl, ?_⟩; have n0_ := Aside0.mk (blk_below (g := gb302) (o := .cells #[.int .i64 a1_0, .string a1_1] 28 (0, 0)) (by (with_reducible repeat (first | refine blk_drewN ?_ _ | refine blk_drew ?_ | refine blk_alloc ?_ _)); exact BK302.out) hb); have n1_ := Aside0.mk (blk_below (g := gb303) (o := .cells #[.int .i64 a2_0, .string a2_1] 28 (0, 0)) (by (with_reducible repeat (first | refine blk_drewN ?_ _ | refine blk_drew ?_ | refine blk_alloc ?_ _)); exact BK303.out) hb); have n2_ := Aside0.mk (hqt305); have n3_ := Aside0.mk (below_step (by repeat (first | (with_reducible first | exact HB.out | apply below_alloc | apply pw_below_drewN | apply below_drew1 | refine below_set ?_ GE302.out | refine below_set ?_ GE303.out) | exact HB.out)) hb); clear BK302; clear BK303; clear HB; have BK302 := n0_; have BK303 := n1_; have HQt305 := n2_; have HB := n3_; clear n0_ n1_ n2_ n3_; (try clear hb); (try clear hb2); (try clear hk); (try clear hi)))
    (try simp only [Act.put, List.setIfInBounds_toArray, List.set_cons_zero, List.set_cons_succ])
    go_cut [29] (fun v29 wc => ∃ (kq : Nat) (x29_6 : Bool), v29 = .bool x29_6 ∧ Aside0 (arbiterlaw07_ArraysSteps.j0 kq t305 x29_6 a1_0 a1_1 a2_0 a2_1 = some r) ∧ Aside0 (kq ≤ k) ∧ Aside0 (wc.heap[gb302]? = some (.cells #[.int .i64 a1_0, .string a1_1] 28 (0, 0))) ∧ Aside0 (wc.heap[gb303]? = some (.cells #[.int .i64 a2_0, .string a2_1] 28 (0, 0))) ∧ Aside0 (WOK wc G_t305 t305) ∧ Aside0 (Below w.heap.size w wc))
    case first =>
      have H := HC7.out
      clear HC7
      replace H := Option.bind_eq_some_iff.mp H
      obtain ⟨t306, A120, H⟩ := H
      replace H : (if t306 = 0 then ((arrays_Loaded.f t305 a2_0 a2_1).bind fun t307 => (arbiterlaw07_ArraysSteps.j0 k t305 (t307 != 0) a1_0 a1_1 a2_0 a2_1)) else (arbiterlaw07_ArraysSteps.j0 k t305 true a1_0 a1_1 a2_0 a2_1)) = some r := H
      have A12 := Aside0.mk A120
      clear A120
      by_cases c13 : t306 = 0
      · rw [if_pos c13] at H
        have c13b0 : (t306 == 0) = true := beq_iff_eq.mpr c13
        have c13b1 : (t306 != 0) = false := bne_eq_false_iff_eq.mpr c13
        clear c13
        (first | rw [c13b0] | (simp only [i64_w, i32_w]; rw [c13b0]) | skip)
        replace H := Option.bind_eq_some_iff.mp H
        obtain ⟨t307, A140, H⟩ := H
        replace H : (arbiterlaw07_ArraysSteps.j0 k t305 (t307 != 0) a1_0 a1_1 a2_0 a2_1) = some r := H
        have A14 := Aside0.mk A140
        clear A140
        have H' := Aside0.mk H
        clear H
        have hnb15 := NB302_303.out
        have hnc15 := NB303_302.out
        have hcz16_0 : w11.cell? ⟨gb302, 0, none⟩ = some (.int .i64 a1_0) := (blk_cell BK302.out 0).trans rfl
        have hcz16_1 : w11.cell? ⟨gb302, 1, none⟩ = some (.string a1_1) := (blk_cell BK302.out 1).trans rfl
        have hfz16_0 := blk_frozen BK302.out 0
        have hfz16_1 := blk_frozen BK302.out 1
        go_wp2_with (first | ((with_reducible refine gate_callee (f := 15) rfl ?_); refine goesL_ (some 22) rfl rfl Tryd.func15 (by kernel_rfl) rfl #[.pointer (some ⟨G_t305, 0, none⟩), .agg #[.int .i64 a1_0, .string a1_1]] rfl (by (try simp only [List.map_toArray, List.map_cons, List.map_nil]); first | done | rfl | (simp only [List.length_drop, List.length_take]; rfl)) ?_; (with_reducible refine (arrays_Loaded.calls G_t305 t305 a1_0 a1_1 t306 _ ?side1 A12.out).mono ?_); (case side1 => repeat (first | (with_reducible exact HQt305.out) | (with_reducible refine WOK.alloc ?_ _) | (with_reducible refine WOK.drewN ?_ _) | (with_reducible refine WOK.drew ?_))); rintro e w17 ⟨rfl, hb⟩; refine ⟨_, rfl, ?_⟩; have n0_ := Aside0.mk (blk_below (g := gb302) (o := .cells #[.int .i64 a1_0, .string a1_1] 28 (0, 0)) (by (with_reducible repeat (first | refine blk_drewN ?_ _ | refine blk_drew ?_ | refine blk_alloc ?_ _)); exact BK302.out) hb); have n1_ := Aside0.mk (blk_below (g := gb303) (o := .cells #[.int .i64 a2_0, .string a2_1] 28 (0, 0)) (by (with_reducible repeat (first | refine blk_drewN ?_ _ | refine blk_drew ?_ | refine blk_alloc ?_ _)); exact BK303.out) hb); have n2_ := Aside0.mk (WOK.below (g := G_t305) (es := t305) (by repeat (first | (with_reducible exact HQt305.out) | (with_reducible refine WOK.alloc ?_ _) | (with_reducible refine WOK.drewN ?_ _) | (with_reducible refine WOK.drew ?_))) hb); have n3_ := Aside0.mk (below_step (by repeat (first | (with_reducible first | exact HB.out | apply below_alloc | apply pw_below_drewN | apply below_drew1 | refine below_set ?_ GE302.out | refine below_set ?_ GE303.out) | exact HB.out)) hb); clear BK302; clear BK303; clear HQt305; clear HB; have BK302 := n0_; have BK303 := n1_; have HQt305 := n2_; have HB := n3_; clear n0_ n1_ n2_ n3_; (try clear hb); (try clear hb2); (try clear hk); (try clear hi); have hcz18_0 : w17.cell? ⟨gb303, 0, none⟩ = some (.int .i64 a2_0) := (blk_cell BK303.out 0).trans rfl; have hcz18_1 : w17.cell? ⟨gb303, 1, none⟩ = some (.string a2_1) := (blk_cell BK303.out 1).trans rfl; have hfz18_0 := blk_frozen BK303.out 0; have hfz18_1 := blk_frozen BK303.out 1) | (go_at_call 15; (with_reducible refine (arrays_Loaded.calls G_t305 t305 a2_0 a2_1 t307 _ ?side1 A14.out).mono ?_); (case side1 => repeat (first | (with_reducible exact HQt305.out) | (with_reducible refine WOK.alloc ?_ _) | (with_reducible refine WOK.drewN ?_ _) | (with_reducible refine WOK.drew ?_))); rintro e w19 ⟨rfl, hb⟩; have n0_ := Aside0.mk (blk_below (g := gb302) (o := .cells #[.int .i64 a1_0, .string a1_1] 28 (0, 0)) (by (with_reducible repeat (first | refine blk_drewN ?_ _ | refine blk_drew ?_ | refine blk_alloc ?_ _)); exact BK302.out) hb); have n1_ := Aside0.mk (blk_below (g := gb303) (o := .cells #[.int .i64 a2_0, .string a2_1] 28 (0, 0)) (by (with_reducible repeat (first | refine blk_drewN ?_ _ | refine blk_drew ?_ | refine blk_alloc ?_ _)); exact BK303.out) hb); have n2_ := Aside0.mk (WOK.below (g := G_t305) (es := t305) (by repeat (first | (with_reducible exact HQt305.out) | (with_reducible refine WOK.alloc ?_ _) | (with_reducible refine WOK.drewN ?_ _) | (with_reducible refine WOK.drew ?_))) hb); have n3_ := Aside0.mk (below_step (by repeat (first | (with_reducible first | exact HB.out | apply below_alloc | apply pw_below_drewN | apply below_drew1 | refine below_set ?_ GE302.out | refine below_set ?_ GE303.out) | exact HB.out)) hb); clear BK302; clear BK303; clear HQt305; clear HB; have BK302 := n0_; have BK303 := n1_; have HQt305 := n2_; have HB := n3_; clear n0_ n1_ n2_ n3_; (try clear hb); (try clear hb2); (try clear hk); (try clear hi)))
        go_meet
        case rel => exact ⟨_, ((t307 != 0)), (by first | rfl | (simp; done) | (simp [*]; done)), H', ⟨by first | omega | exact Nat.le_refl _⟩, ⟨by (with_reducible repeat (first | refine blk_drewN ?_ _ | refine blk_drew ?_ | refine blk_alloc ?_ _)); exact BK302.out⟩, ⟨by (with_reducible repeat (first | refine blk_drewN ?_ _ | refine blk_drew ?_ | refine blk_alloc ?_ _)); exact BK303.out⟩, ⟨by repeat (first | (with_reducible exact HQt305.out) | (with_reducible refine WOK.alloc ?_ _) | (with_reducible refine WOK.drewN ?_ _) | (with_reducible refine WOK.drew ?_))⟩, ⟨by repeat (first | (with_reducible first | exact HB.out | apply below_alloc | apply pw_below_drewN | apply below_drew1 | refine below_set ?_ GE302.out | refine below_set ?_ GE303.out) | exact HB.out)⟩⟩
      · rw [if_neg c13] at H
        have c13b0 : (t306 == 0) = false := beq_eq_false_iff_ne.mpr c13
        have c13b1 : (t306 != 0) = true := bne_iff_ne.mpr c13
        (first | rw [c13b0] | (simp only [i64_w, i32_w]; rw [c13b0]) | skip)
        have H' := Aside0.mk H
        clear H
        have hnb20 := NB302_303.out
        have hnc20 := NB303_302.out
        have hcz21_0 : w11.cell? ⟨gb302, 0, none⟩ = some (.int .i64 a1_0) := (blk_cell BK302.out 0).trans rfl
        have hcz21_1 : w11.cell? ⟨gb302, 1, none⟩ = some (.string a1_1) := (blk_cell BK302.out 1).trans rfl
        have hfz21_0 := blk_frozen BK302.out 0
        have hfz21_1 := blk_frozen BK302.out 1
        go_wp2_with (first | ((with_reducible refine gate_callee (f := 15) rfl ?_); refine goesL_ (some 22) rfl rfl Tryd.func15 (by kernel_rfl) rfl #[.pointer (some ⟨G_t305, 0, none⟩), .agg #[.int .i64 a1_0, .string a1_1]] rfl (by (try simp only [List.map_toArray, List.map_cons, List.map_nil]); first | done | rfl | (simp only [List.length_drop, List.length_take]; rfl)) ?_; (with_reducible refine (arrays_Loaded.calls G_t305 t305 a1_0 a1_1 t306 _ ?side1 A12.out).mono ?_); (case side1 => repeat (first | (with_reducible exact HQt305.out) | (with_reducible refine WOK.alloc ?_ _) | (with_reducible refine WOK.drewN ?_ _) | (with_reducible refine WOK.drew ?_))); rintro e w22 ⟨rfl, hb⟩; refine ⟨_, rfl, ?_⟩; have n0_ := Aside0.mk (blk_below (g := gb302) (o := .cells #[.int .i64 a1_0, .string a1_1] 28 (0, 0)) (by (with_reducible repeat (first | refine blk_drewN ?_ _ | refine blk_drew ?_ | refine blk_alloc ?_ _)); exact BK302.out) hb); have n1_ := Aside0.mk (blk_below (g := gb303) (o := .cells #[.int .i64 a2_0, .string a2_1] 28 (0, 0)) (by (with_reducible repeat (first | refine blk_drewN ?_ _ | refine blk_drew ?_ | refine blk_alloc ?_ _)); exact BK303.out) hb); have n2_ := Aside0.mk (WOK.below (g := G_t305) (es := t305) (by repeat (first | (with_reducible exact HQt305.out) | (with_reducible refine WOK.alloc ?_ _) | (with_reducible refine WOK.drewN ?_ _) | (with_reducible refine WOK.drew ?_))) hb); have n3_ := Aside0.mk (below_step (by repeat (first | (with_reducible first | exact HB.out | apply below_alloc | apply pw_below_drewN | apply below_drew1 | refine below_set ?_ GE302.out | refine below_set ?_ GE303.out) | exact HB.out)) hb); clear BK302; clear BK303; clear HQt305; clear HB; have BK302 := n0_; have BK303 := n1_; have HQt305 := n2_; have HB := n3_; clear n0_ n1_ n2_ n3_; (try clear hb); (try clear hb2); (try clear hk); (try clear hi)))
        go_meet
        case rel => exact ⟨_, (true), (by first | rfl | (simp; done) | (simp [*]; done)), H', ⟨by first | omega | exact Nat.le_refl _⟩, ⟨by (with_reducible repeat (first | refine blk_drewN ?_ _ | refine blk_drew ?_ | refine blk_alloc ?_ _)); exact BK302.out⟩, ⟨by (with_reducible repeat (first | refine blk_drewN ?_ _ | refine blk_drew ?_ | refine blk_alloc ?_ _)); exact BK303.out⟩, ⟨by repeat (first | (with_reducible exact HQt305.out) | (with_reducible refine WOK.alloc ?_ _) | (with_reducible refine WOK.drewN ?_ _) | (with_reducible refine WOK.drew ?_))⟩, ⟨by repeat (first | (with_reducible first | exact HB.out | apply below_alloc | apply pw_below_drewN | apply below_drew1 | refine below_set ?_ GE302.out | refine below_set ?_ GE303.out) | exact HB.out)⟩⟩
    case rest =>
      clear HC7
      try clear c1
      try clear c2
      try clear p2
      try clear c5
      try clear c7
      try clear c13
      try clear c13b0
      try clear c13b1
      try clear c14
      try clear c15
      try clear c20
      try clear hcz16_0
      try clear hcz16_1
      try clear hcz18_0
      try clear hcz18_1
      try clear hcz21_0
      try clear hcz21_1
      try clear hfz16_0
      try clear hfz16_1
      try clear hfz18_0
      try clear hfz18_1
      try clear hfz21_0
      try clear hfz21_1
      obtain ⟨kq, x29_6, rfl, HA, HJ6, BK302, BK303, HQt305, HB⟩ := hcut
      cases kq with
      | zero => exact absurd HA.out (by simp [arbiterlaw07_ArraysSteps.j0])
      | succ kj6 =>
        have H := HA.out
        clear HA
        simp only [arbiterlaw07_ArraysSteps.j0] at H
        by_cases c23 : x29_6 = true
        · subst c23
          have H1 : (some true) = some r := by rw [if_pos rfl] at H; exact H
          clear H
          have H := H1
          clear H1
          obtain rfl := Option.some.inj H
          go_wp2
          go_ret
          exact ⟨by first | rfl | (simp [errW_none, errW_some] <;> rfl) | (simp [*, errW_none, errW_some] <;> rfl), by repeat (first | (with_reducible first | exact HB.out | apply below_alloc | apply pw_below_drewN | apply below_drew1 | refine below_set ?_ GE302.out | refine below_set ?_ GE303.out) | exact HB.out)⟩
        · replace c23 := Bool.eq_false_iff.mpr c23
          subst c23
          have H1 : ((arrays_Above.f t305 a1_0 a1_1).bind fun bt308 => ((arrays_Sub.f t305 a1_0 a1_1 a2_0 a2_1).bind fun bt312 => (if bt308.2 = 0 then (arbiterlaw07_ArraysSteps.j1 kj6 t305 bt308.1 bt312.1 (bt312.2 != 0) a1_0 a1_1 a2_0 a2_1) else (arbiterlaw07_ArraysSteps.j1 kj6 t305 bt308.1 bt312.1 true a1_0 a1_1 a2_0 a2_1)))) = some r := by rw [if_neg (show ¬ (false = true) by decide)] at H; exact H
          clear H
          have H := H1
          clear H1
          replace H := Option.bind_eq_some_iff.mp H
          obtain ⟨⟨t308, t311⟩, A240, H⟩ := H
          replace H : ((arrays_Sub.f t305 a1_0 a1_1 a2_0 a2_1).bind fun bt312 => (if t311 = 0 then (arbiterlaw07_ArraysSteps.j1 kj6 t305 t308 bt312.1 (bt312.2 != 0) a1_0 a1_1 a2_0 a2_1) else (arbiterlaw07_ArraysSteps.j1 kj6 t305 t308 bt312.1 true a1_0 a1_1 a2_0 a2_1))) = some r := H
          have A24 := Aside0.mk A240
          clear A240
          replace H := Option.bind_eq_some_iff.mp H
          obtain ⟨⟨t312, t313⟩, A250, H⟩ := H
          replace H : (if t311 = 0 then (arbiterlaw07_ArraysSteps.j1 kj6 t305 t308 t312 (t313 != 0) a1_0 a1_1 a2_0 a2_1) else (arbiterlaw07_ArraysSteps.j1 kj6 t305 t308 t312 true a1_0 a1_1 a2_0 a2_1)) = some r := H
          have A25 := Aside0.mk A250
          clear A250
          have HC26 := Aside0.mk H
          clear H
          have hnb27 := NB302_303.out
          have hnc27 := NB303_302.out
          have hcz28_0 : wc.cell? ⟨gb302, 0, none⟩ = some (.int .i64 a1_0) := (blk_cell BK302.out 0).trans rfl
          have hcz28_1 : wc.cell? ⟨gb302, 1, none⟩ = some (.string a1_1) := (blk_cell BK302.out 1).trans rfl
          have hfz28_0 := blk_frozen BK302.out 0
          have hfz28_1 := blk_frozen BK302.out 1
          go_upto_region 8 with (first | ((with_reducible refine gate_callee (f := 22) rfl ?_); refine goesL_ (some 33) rfl rfl Tryd.func22 (by kernel_rfl) rfl #[.pointer (some ⟨G_t305, 0, none⟩), .agg #[.int .i64 a1_0, .string a1_1]] rfl (by (try simp only [List.map_toArray, List.map_cons, List.map_nil]); first | done | rfl | (simp only [List.length_drop, List.length_take]; rfl)) ?_; (with_reducible refine (arrays_Above.calls G_t305 t305 a1_0 a1_1 t308 t311 _ ?side1 A24.out).mono ?_); (case side1 => repeat (first | (with_reducible exact HQt305.out) | (with_reducible refine WOK.alloc ?_ _) | (with_reducible refine WOK.drewN ?_ _) | (with_reducible refine WOK.drew ?_))); rintro e w29 ⟨v309, rfl, ho0, hb⟩; refine ⟨_, rfl, ?_⟩; have n0_ := Aside0.mk (Kd.R_lower (Kd.R_newB (Kd.R_newB ho0 (g := gb302) (o := .cells #[.int .i64 a1_0, .string a1_1] 28 (0, 0)) (by (with_reducible repeat (first | refine blk_drewN ?_ _ | refine blk_drew ?_ | refine blk_alloc ?_ _)); exact BK302.out)) (g := gb303) (o := .cells #[.int .i64 a2_0, .string a2_1] 28 (0, 0)) (by (with_reducible repeat (first | refine blk_drewN ?_ _ | refine blk_drew ?_ | refine blk_alloc ?_ _)); exact BK303.out)) (below_size (by repeat (first | (with_reducible first | exact HB.out | apply below_alloc | apply pw_below_drewN | apply below_drew1 | refine below_set ?_ GE302.out | refine below_set ?_ GE303.out) | exact HB.out)))); have n1_ := Aside0.mk (blk_below (g := gb302) (o := .cells #[.int .i64 a1_0, .string a1_1] 28 (0, 0)) (by (with_reducible repeat (first | refine blk_drewN ?_ _ | refine blk_drew ?_ | refine blk_alloc ?_ _)); exact BK302.out) hb); have n2_ := Aside0.mk (blk_below (g := gb303) (o := .cells #[.int .i64 a2_0, .string a2_1] 28 (0, 0)) (by (with_reducible repeat (first | refine blk_drewN ?_ _ | refine blk_drew ?_ | refine blk_alloc ?_ _)); exact BK303.out) hb); have n3_ := Aside0.mk (WOK.below (g := G_t305) (es := t305) (by repeat (first | (with_reducible exact HQt305.out) | (with_reducible refine WOK.alloc ?_ _) | (with_reducible refine WOK.drewN ?_ _) | (with_reducible refine WOK.drew ?_))) hb); have n4_ := Aside0.mk (below_step (by repeat (first | (with_reducible first | exact HB.out | apply below_alloc | apply pw_below_drewN | apply below_drew1 | refine below_set ?_ GE302.out | refine below_set ?_ GE303.out) | exact HB.out)) hb); clear BK302; clear BK303; clear HQt305; clear HB; have HO310 := n0_; have BK302 := n1_; have BK303 := n2_; have HQt305 := n3_; have HB := n4_; clear n0_ n1_ n2_ n3_ n4_; (try clear hb); (try clear hb2); (try clear hk); (try clear hi); (try clear ho0); have hcz30_0 : w29.cell? ⟨gb302, 0, none⟩ = some (.int .i64 a1_0) := (blk_cell BK302.out 0).trans rfl; have hcz30_1 : w29.cell? ⟨gb302, 1, none⟩ = some (.string a1_1) := (blk_cell BK302.out 1).trans rfl; have hfz30_0 := blk_frozen BK302.out 0; have hfz30_1 := blk_frozen BK302.out 1; have hcz31_0 : w29.cell? ⟨gb303, 0, none⟩ = some (.int .i64 a2_0) := (blk_cell BK303.out 0).trans rfl; have hcz31_1 : w29.cell? ⟨gb303, 1, none⟩ = some (.string a2_1) := (blk_cell BK303.out 1).trans rfl; have hfz31_0 := blk_frozen BK303.out 0; have hfz31_1 := blk_frozen BK303.out 1) | ((with_reducible refine gate_callee (f := 16) rfl ?_); refine goesL_ (some 40) rfl rfl Tryd.func16 (by kernel_rfl) rfl #[.pointer (some ⟨G_t305, 0, none⟩), .agg #[.int .i64 a1_0, .string a1_1], .agg #[.int .i64 a2_0, .string a2_1]] rfl (by (try simp only [List.map_toArray, List.map_cons, List.map_nil]); first | done | rfl | (simp only [List.length_drop, List.length_take]; rfl)) ?_; (with_reducible refine (arrays_Sub.calls G_t305 t305 a1_0 a1_1 a2_0 a2_1 t312 t313 _ ?side1 A25.out).mono ?_); (case side1 => repeat (first | (with_reducible exact HQt305.out) | (with_reducible refine WOK.alloc ?_ _) | (with_reducible refine WOK.drewN ?_ _) | (with_reducible refine WOK.drew ?_))); rintro e w32 ⟨rfl, hb⟩; refine ⟨_, rfl, ?_⟩; have n0_ := Aside0.mk (Kd.R_below (by (with_reducible repeat (first | apply Kd.R_alloc | apply Kd.R_drewN | apply Kd.R_drew)); exact HO310.out) hb); have n1_ := Aside0.mk (blk_below (g := gb302) (o := .cells #[.int .i64 a1_0, .string a1_1] 28 (0, 0)) (by (with_reducible repeat (first | refine blk_drewN ?_ _ | refine blk_drew ?_ | refine blk_alloc ?_ _)); exact BK302.out) hb); have n2_ := Aside0.mk (blk_below (g := gb303) (o := .cells #[.int .i64 a2_0, .string a2_1] 28 (0, 0)) (by (with_reducible repeat (first | refine blk_drewN ?_ _ | refine blk_drew ?_ | refine blk_alloc ?_ _)); exact BK303.out) hb); have n3_ := Aside0.mk (WOK.below (g := G_t305) (es := t305) (by repeat (first | (with_reducible exact HQt305.out) | (with_reducible refine WOK.alloc ?_ _) | (with_reducible refine WOK.drewN ?_ _) | (with_reducible refine WOK.drew ?_))) hb); have n4_ := Aside0.mk (below_step (by repeat (first | (with_reducible first | exact HB.out | apply below_alloc | apply pw_below_drewN | apply below_drew1 | refine below_set ?_ GE302.out | refine below_set ?_ GE303.out) | exact HB.out)) hb); clear HO310; clear BK302; clear BK303; clear HQt305; clear HB; have HO310 := n0_; have BK302 := n1_; have BK303 := n2_; have HQt305 := n3_; have HB := n4_; clear n0_ n1_ n2_ n3_ n4_; (try clear hb); (try clear hb2); (try clear hk); (try clear hi)))
          (try simp only [Act.put, List.setIfInBounds_toArray, List.set_cons_zero, List.set_cons_succ])
          go_cut [48] (fun v48 wc => ∃ (kq : Nat) (x48_25 : Bool), v48 = .bool x48_25 ∧ Aside0 (arbiterlaw07_ArraysSteps.j1 kq t305 t308 t312 x48_25 a1_0 a1_1 a2_0 a2_1 = some r) ∧ Aside0 (kq ≤ kj6) ∧ Aside0 (Kd.R k28 28 wc w.heap.size (fun k_ => k_ ≠ gb302 ∧ k_ ≠ gb303) v309 t308) ∧ Aside0 (wc.heap[gb302]? = some (.cells #[.int .i64 a1_0, .string a1_1] 28 (0, 0))) ∧ Aside0 (wc.heap[gb303]? = some (.cells #[.int .i64 a2_0, .string a2_1] 28 (0, 0))) ∧ Aside0 (WOK wc G_t305 t305) ∧ Aside0 (Below w.heap.size w wc))
          case first =>
            have H := HC26.out
            clear HC26
            by_cases c33 : t311 = 0
            · rw [if_pos c33] at H
              have c33b0 : (t311 == 0) = true := beq_iff_eq.mpr c33
              have c33b1 : (t311 != 0) = false := bne_eq_false_iff_eq.mpr c33
              clear c33
              (first | rw [c33b0] | (simp only [i64_w, i32_w]; rw [c33b0]) | skip)
              have H' := Aside0.mk H
              clear H
              go_wp2
              go_meet
              case rel => exact ⟨_, ((t313 != 0)), (by first | rfl | (simp; done) | (simp [*]; done)), H', ⟨by have := HJ6.out; first | omega | exact Nat.le_refl _⟩, ⟨by (with_reducible repeat (first | apply Kd.R_alloc | apply Kd.R_drewN | apply Kd.R_drew)); exact Kd.R_mono HO310.out (fun _ hk => ⟨hk.1.2, hk.2⟩)⟩, ⟨by (with_reducible repeat (first | refine blk_drewN ?_ _ | refine blk_drew ?_ | refine blk_alloc ?_ _)); exact BK302.out⟩, ⟨by (with_reducible repeat (first | refine blk_drewN ?_ _ | refine blk_drew ?_ | refine blk_alloc ?_ _)); exact BK303.out⟩, ⟨by repeat (first | (with_reducible exact HQt305.out) | (with_reducible refine WOK.alloc ?_ _) | (with_reducible refine WOK.drewN ?_ _) | (with_reducible refine WOK.drew ?_))⟩, ⟨by repeat (first | (with_reducible first | exact HB.out | apply below_alloc | apply pw_below_drewN | apply below_drew1 | refine below_set ?_ GE302.out | refine below_set ?_ GE303.out) | exact HB.out)⟩⟩
            · rw [if_neg c33] at H
              have c33b0 : (t311 == 0) = false := beq_eq_false_iff_ne.mpr c33
              have c33b1 : (t311 != 0) = true := bne_iff_ne.mpr c33
              (first | rw [c33b0] | (simp only [i64_w, i32_w]; rw [c33b0]) | skip)
              have H' := Aside0.mk H
              clear H
              go_wp2
              go_meet
              case rel => exact ⟨_, (true), (by first | rfl | (simp; done) | (simp [*]; done)), H', ⟨by have := HJ6.out; first | omega | exact Nat.le_refl _⟩, ⟨by (with_reducible repeat (first | apply Kd.R_alloc | apply Kd.R_drewN | apply Kd.R_drew)); exact Kd.R_mono HO310.out (fun _ hk => ⟨hk.1.2, hk.2⟩)⟩, ⟨by (with_reducible repeat (first | refine blk_drewN ?_ _ | refine blk_drew ?_ | refine blk_alloc ?_ _)); exact BK302.out⟩, ⟨by (with_reducible repeat (first | refine blk_drewN ?_ _ | refine blk_drew ?_ | refine blk_alloc ?_ _)); exact BK303.out⟩, ⟨by repeat (first | (with_reducible exact HQt305.out) | (with_reducible refine WOK.alloc ?_ _) | (with_reducible refine WOK.drewN ?_ _) | (with_reducible refine WOK.drew ?_))⟩, ⟨by repeat (first | (with_reducible first | exact HB.out | apply below_alloc | apply pw_below_drewN | apply below_drew1 | refine below_set ?_ GE302.out | refine below_set ?_ GE303.out) | exact HB.out)⟩⟩
          case rest =>
            clear HC26
            try clear c1
            try clear c2
            try clear p2
            try clear c3
            try clear c5
            try clear c7
            try clear c13
            try clear c13b0
            try clear c13b1
            try clear c14
            try clear c15
            try clear c16
            try clear c20
            try clear c22
            try clear c23
            try clear c27
            try clear c33
            try clear c33b0
            try clear c33b1
            try clear hcz16_0
            try clear hcz16_1
            try clear hcz18_0
            try clear hcz18_1
            try clear hcz21_0
            try clear hcz21_1
            try clear hcz28_0
            try clear hcz28_1
            try clear hcz30_0
            try clear hcz30_1
            try clear hcz31_0
            try clear hcz31_1
            try clear hfz16_0
            try clear hfz16_1
            try clear hfz18_0
            try clear hfz18_1
            try clear hfz21_0
            try clear hfz21_1
            try clear hfz28_0
            try clear hfz28_1
            try clear hfz30_0
            try clear hfz30_1
            try clear hfz31_0
            try clear hfz31_1
            try clear p2
            obtain ⟨kq, x48_25, rfl, HA, HJ25, HO_8, BK302, BK303, HQt305, HB⟩ := hcut
            cases kq with
            | zero => exact absurd HA.out (by simp [arbiterlaw07_ArraysSteps.j1])
            | succ kj25 =>
              have H := HA.out
              clear HA
              simp only [arbiterlaw07_ArraysSteps.j1] at H
              by_cases c34 : x48_25 = true
              · subst c34
                have H1 : (some false) = some r := by rw [if_pos rfl] at H; exact H
                clear H
                have H := H1
                clear H1
                obtain rfl := Option.some.inj H
                go_wp2
                go_ret
                exact ⟨by first | rfl | (simp [errW_none, errW_some] <;> rfl) | (simp [*, errW_none, errW_some] <;> rfl), by repeat (first | (with_reducible first | exact HB.out | apply below_alloc | apply pw_below_drewN | apply below_drew1 | refine below_set ?_ GE302.out | refine below_set ?_ GE303.out) | exact HB.out)⟩
              · replace c34 := Bool.eq_false_iff.mpr c34
                subst c34
                have H1 : ((arbiterref02_Same.f a1_0 a1_1 a2_0 a2_1).bind fun t314 => (arbiterlaw07_ArraysSteps.l0 kj25 t305 t308 t312 t314 0 a1_0 a1_1 a2_0 a2_1)) = some r := by rw [if_neg (show ¬ (false = true) by decide)] at H; exact H
                clear H
                have H := H1
                clear H1
                replace H := Option.bind_eq_some_iff.mp H
                obtain ⟨t314, A350, H⟩ := H
                replace H : (arbiterlaw07_ArraysSteps.l0 kj25 t305 t308 t312 t314 0 a1_0 a1_1 a2_0 a2_1) = some r := H
                have A35 := Aside0.mk A350
                clear A350
                have H' := Aside0.mk H
                clear H
                have hnb36 := NB302_303.out
                have hnc36 := NB303_302.out
                have hcz37_0 : wc.cell? ⟨gb302, 0, none⟩ = some (.int .i64 a1_0) := (blk_cell BK302.out 0).trans rfl
                have hcz37_1 : wc.cell? ⟨gb302, 1, none⟩ = some (.string a1_1) := (blk_cell BK302.out 1).trans rfl
                have hfz37_0 := blk_frozen BK302.out 0
                have hfz37_1 := blk_frozen BK302.out 1
                have hcz38_0 : wc.cell? ⟨gb303, 0, none⟩ = some (.int .i64 a2_0) := (blk_cell BK303.out 0).trans rfl
                have hcz38_1 : wc.cell? ⟨gb303, 1, none⟩ = some (.string a2_1) := (blk_cell BK303.out 1).trans rfl
                have hfz38_0 := blk_frozen BK303.out 0
                have hfz38_1 := blk_frozen BK303.out 1
                go_wp2_with (first | ((with_reducible refine gate_callee (f := 17) rfl ?_); refine goesL_ (some 51) rfl rfl Tryd.func17 (by kernel_rfl) rfl #[.agg #[.int .i64 a1_0, .string a1_1], .agg #[.int .i64 a2_0, .string a2_1]] rfl (by (try simp only [List.map_toArray, List.map_cons, List.map_nil]); first | done | rfl | (simp only [List.length_drop, List.length_take]; rfl)) ?_; (with_reducible refine (arbiterref02_Same.calls a1_0 a1_1 a2_0 a2_1 t314 _ A35.out).mono ?_); rintro e w39 ⟨rfl, hb⟩; refine ⟨_, rfl, ?_⟩; have n0_ := Aside0.mk (Kd.R_below (by (with_reducible repeat (first | apply Kd.R_alloc | apply Kd.R_drewN | apply Kd.R_drew)); exact HO_8.out) hb); have n1_ := Aside0.mk (blk_below (g := gb302) (o := .cells #[.int .i64 a1_0, .string a1_1] 28 (0, 0)) (by (with_reducible repeat (first | refine blk_drewN ?_ _ | refine blk_drew ?_ | refine blk_alloc ?_ _)); exact BK302.out) hb); have n2_ := Aside0.mk (blk_below (g := gb303) (o := .cells #[.int .i64 a2_0, .string a2_1] 28 (0, 0)) (by (with_reducible repeat (first | refine blk_drewN ?_ _ | refine blk_drew ?_ | refine blk_alloc ?_ _)); exact BK303.out) hb); have n3_ := Aside0.mk (WOK.below (g := G_t305) (es := t305) (by repeat (first | (with_reducible exact HQt305.out) | (with_reducible refine WOK.alloc ?_ _) | (with_reducible refine WOK.drewN ?_ _) | (with_reducible refine WOK.drew ?_))) hb); have n4_ := Aside0.mk (below_step (by repeat (first | (with_reducible first | exact HB.out | apply below_alloc | apply pw_below_drewN | apply below_drew1 | refine below_set ?_ GE302.out | refine below_set ?_ GE303.out) | exact HB.out)) hb); clear HO_8; clear BK302; clear BK303; clear HQt305; clear HB; have HO_8 := n0_; have BK302 := n1_; have BK303 := n2_; have HQt305 := n3_; have HB := n4_; clear n0_ n1_ n2_ n3_ n4_; (try clear hb); (try clear hb2); (try clear hk); (try clear hi)))
                go_loopg [12, 13] kj25 (fun kq v12 v13 w' => ∃ (x12_3 : Bool) (x13_3 : Int), v12 = .bool x12_3 ∧ v13 = .int .i64 x13_3 ∧ Aside0 (arbiterlaw07_ArraysSteps.l0 kq t305 t308 t312 x12_3 x13_3 a1_0 a1_1 a2_0 a2_1 = some r) ∧ Aside0 (kq ≤ kj25) ∧ Aside0 (Kd.R k28 28 w' w.heap.size (fun k_ => k_ ≠ gb302 ∧ k_ ≠ gb303) v309 t308) ∧ Aside0 (w'.heap[gb302]? = some (.cells #[.int .i64 a1_0, .string a1_1] 28 (0, 0))) ∧ Aside0 (w'.heap[gb303]? = some (.cells #[.int .i64 a2_0, .string a2_1] 28 (0, 0))) ∧ Aside0 (WOK w' G_t305 t305) ∧ Aside0 (Below w.heap.size w w'))
                case atStart => exact ⟨(t314), (0), (by first | rfl | (simp; done) | (simp [*]; done)), (by first | rfl | (simp; done) | (simp [*]; done)), H', ⟨Nat.le_refl _⟩, ⟨by (with_reducible repeat (first | apply Kd.R_alloc | apply Kd.R_drewN | apply Kd.R_drew)); exact HO_8.out⟩, ⟨by (with_reducible repeat (first | refine blk_drewN ?_ _ | refine blk_drew ?_ | refine blk_alloc ?_ _)); exact BK302.out⟩, ⟨by (with_reducible repeat (first | refine blk_drewN ?_ _ | refine blk_drew ?_ | refine blk_alloc ?_ _)); exact BK303.out⟩, ⟨by repeat (first | (with_reducible exact HQt305.out) | (with_reducible refine WOK.alloc ?_ _) | (with_reducible refine WOK.drewN ?_ _) | (with_reducible refine WOK.drew ?_))⟩, ⟨by repeat (first | (with_reducible first | exact HB.out | apply below_alloc | apply pw_below_drewN | apply below_drew1 | refine below_set ?_ GE302.out | refine below_set ?_ GE303.out) | exact HB.out)⟩⟩
                case round =>
                  clear H'
                  try clear c1
                  try clear c2
                  try clear p2
                  try clear c3
                  try clear c5
                  try clear c7
                  try clear c13
                  try clear c13b0
                  try clear c13b1
                  try clear c14
                  try clear c15
                  try clear c16
                  try clear c17
                  try clear c20
                  try clear c22
                  try clear c23
                  try clear c27
                  try clear c33
                  try clear c33b0
                  try clear c33b1
                  try clear c34
                  try clear c36
                  try clear hcz16_0
                  try clear hcz16_1
                  try clear hcz18_0
                  try clear hcz18_1
                  try clear hcz21_0
                  try clear hcz21_1
                  try clear hcz28_0
                  try clear hcz28_1
                  try clear hcz30_0
                  try clear hcz30_1
                  try clear hcz31_0
                  try clear hcz31_1
                  try clear hcz37_0
                  try clear hcz37_1
                  try clear hcz38_0
                  try clear hcz38_1
                  try clear hfz16_0
                  try clear hfz16_1
                  try clear hfz18_0
                  try clear hfz18_1
                  try clear hfz21_0
                  try clear hfz21_1
                  try clear hfz28_0
                  try clear hfz28_1
                  try clear hfz30_0
                  try clear hfz30_1
                  try clear hfz31_0
                  try clear hfz31_1
                  try clear hfz37_0
                  try clear hfz37_1
                  try clear hfz38_0
                  try clear hfz38_1
                  try clear p2
                  obtain ⟨x12_3, x13_3, rfl, rfl, HA, HK3, HO_8, BK302, BK303, HQt305, HB⟩ := hrel
                  cases gk with
                  | zero => exact absurd HA.out (by simp [arbiterlaw07_ArraysSteps.l0])
                  | succ k3 =>
                    have H := HA.out
                    clear HA
                    simp only [arbiterlaw07_ArraysSteps.l0] at H
                    by_cases c40 : x13_3 < (t308.length : Int)
                    · rw [if_pos c40] at H
                      have c40b0 : decide (x13_3 < (t308.length : Int)) = true := decide_eq_true c40
                      clear c40
                      by_cases c41 : 0 ≤ x13_3
                      · rw [if_pos c41] at H
                        have c41b0 : decide (0 ≤ x13_3) = true := decide_eq_true c41
                        clear c41
                        replace H := Option.bind_eq_some_iff.mp H
                        obtain ⟨⟨t316, t317⟩, A420, H⟩ := H
                        replace H : (if t317 = 0 then (if t316 = true then ((arbiterref02_Same.f a1_0 a1_1 ((rd_T28 t308 x13_3).f0) ((rd_T28 t308 x13_3).f1)).bind fun t319 => (arbiterlaw07_ArraysSteps.j3 k3 t305 t308 t312 x12_3 x13_3 t319 a1_0 a1_1 a2_0 a2_1)) else (arbiterlaw07_ArraysSteps.j3 k3 t305 t308 t312 x12_3 x13_3 true a1_0 a1_1 a2_0 a2_1)) else (arbiterlaw07_ArraysSteps.j3 k3 t305 t308 t312 x12_3 x13_3 true a1_0 a1_1 a2_0 a2_1)) = some r := H
                        have A42 := Aside0.mk A420
                        clear A420
                        have HC43 := Aside0.mk H
                        clear H
                        obtain ⟨Ao44, co44, eo44⟩ := Kd.R_slice HO_8.out
                        subst eo44
                        try go_wp2
                        have n0_ := Aside0.mk (Kd.R_drew HO_8.out)
                        have n1_ := Aside0.mk (blk_drew BK302.out)
                        have n2_ := Aside0.mk (blk_drew BK303.out)
                        have n3_ := Aside0.mk (WOK.drew HQt305.out)
                        have n4_ := Aside0.mk (below_drew1 HB.out)
                        clear HO_8
                        clear BK302
                        clear BK303
                        clear HQt305
                        clear HB
                        have HO_8 := n0_
                        have BK302 := n1_
                        have BK303 := n2_
                        have HQt305 := n3_
                        have HB := n4_
                        clear n0_ n1_ n2_ n3_ n4_
                        have p315 : 0 ≤ (x13_3 : Int) := of_decide_eq_true (by first | (with_reducible assumption) | assumption)
                        have q315 : x13_3 < (t308.length : Int) := of_decide_eq_true (by first | (with_reducible assumption) | assumption)
                        obtain ⟨ad315, e315, hx315_0, hx315_1⟩ := at_T28 (Kd.R_reads' HO_8.out).2.2 x13_3 p315 q315
                        cases e315
                        replace p315 := eq_true p315
                        replace q315 := eq_true q315
                        refine start_ (n := 12) (S := fun w' => w'.cell? ⟨gb302, 0, none⟩ = some (.int .i64 a1_0) ∧ w'.cell? ⟨gb302, 1, none⟩ = some (.string a1_1) ∧ w'.cell? (ad315.add ((x13_3).toNat * 2)) = some (.int .i64 ((rd_T28 t308 x13_3).f0)) ∧ w'.cell? ⟨(ad315.add ((x13_3).toNat * 2)).block, (ad315.add ((x13_3).toNat * 2)).off + 1, none⟩ = some (.string ((rd_T28 t308 x13_3).f1))) (ds := []) #[false, false, false, false, false, false, false, false, false, false, false, false] (by kernel_rfl) rfl rfl ⟨(blk_cell BK302.out 0).trans rfl, (blk_cell BK302.out 1).trans rfl, hx315_0, hx315_1⟩ (fun hHeld => ?_); refine with_tabW arbiterlaw07_ArraysSteps.tab14 arbiterlaw07_ArraysSteps.bits14 (fun HT_ HW_ => ?_)
                        generalize wr.drew = w45 at HO_8 BK302 BK303 HQt305 HB hx315_0 hx315_1 hHeld ⊢
                        refine pure_ (i := 0) (N := some 59) (v := ?_) (a' := ?_) #[true, false, false, false, false, false, false, false, false, false, false, false] rfl rfl (any_of HT_.out (by kernel_rfl)) (fun _ _ _ h => h) (Or.inl ⟨by rfl, ?_⟩) ?_ ?_
                        rotate_left
                        · intro w'
                          go_simp
                          with_reducible rfl
                        rotate_left
                        · simp only [Act.put, List.setIfInBounds_toArray, List.set_cons_zero, List.set_cons_succ, i64_w, i32_w]
                          rfl
                        refine pure_ (i := 2) (N := some 61) (v := ?_) (a' := ?_) #[true, false, true, false, false, false, false, false, false, false, false, false] rfl rfl (any_of HT_.out (by kernel_rfl)) (fun _ _ _ h => h) (Or.inl ⟨by rfl, ?_⟩) ?_ ?_
                        rotate_left
                        · intro w'
                          go_simp
                          with_reducible rfl
                        rotate_left
                        · simp only [Act.put, List.setIfInBounds_toArray, List.set_cons_zero, List.set_cons_succ, i64_w, i32_w]
                          rfl
                        refine pure_ (i := 3) (N := some 62) (v := ?_) (a' := ?_) #[true, false, true, true, false, false, false, false, false, false, false, false] rfl rfl (any_of HT_.out (by kernel_rfl)) (fun _ _ _ h => h) (Or.inl ⟨by rfl, ?_⟩) ?_ ?_
                        rotate_left
                        · intro w'
                          go_simp
                          with_reducible rfl
                        rotate_left
                        · simp only [Act.put, List.setIfInBounds_toArray, List.set_cons_zero, List.set_cons_succ, i64_w, i32_w]
                          rfl
                        refine pure_ (i := 4) (N := some 63) (v := ?_) (a' := ?_) #[true, false, true, true, true, false, false, false, false, false, false, false] rfl rfl (any_of HT_.out (by kernel_rfl)) (fun _ _ _ h => h) (Or.inl ⟨by rfl, ?_⟩) ?_ ?_
                        rotate_left
                        · intro w'
                          go_simp
                          with_reducible rfl
                        rotate_left
                        · simp only [Act.put, List.setIfInBounds_toArray, List.set_cons_zero, List.set_cons_succ, i64_w, i32_w]
                          rfl
                        refine take_ (i := 1) (N := some 60) (v := ?_) (a' := ?_) #[true, true, true, true, true, false, false, false, false, false, false, false] rfl rfl (take_ofW HT_.out HW_.out (by kernel_rfl)) (fun _ _ _ h => h) (Or.inl ⟨by rfl, ?_⟩) hHeld ?_ ?_
                        rotate_left
                        · rintro w' ⟨s0, s1, s2, s3⟩
                          go_simp
                          with_reducible rfl
                        rotate_left
                        · simp only [Act.put, List.setIfInBounds_toArray, List.set_cons_zero, List.set_cons_succ, i64_w, i32_w]
                          rfl
                        refine take_ (i := 5) (N := some 64) (v := ?_) (a' := ?_) #[true, true, true, true, true, true, false, false, false, false, false, false] rfl rfl (take_ofW HT_.out HW_.out (by kernel_rfl)) (fun _ _ _ h => h) (Or.inl ⟨by rfl, ?_⟩) hHeld ?_ ?_
                        rotate_left
                        · rintro w' ⟨s0, s1, s2, s3⟩
                          go_simp
                          with_reducible rfl
                        rotate_left
                        · simp only [Act.put, List.setIfInBounds_toArray, List.set_cons_zero, List.set_cons_succ, i64_w, i32_w]
                          rfl
                        refine one_ (i := 6) (N := some 65) #[true, true, true, true, true, true, true, false, false, false, false, false] rfl rfl (one_of HT_.out (by kernel_rfl)) (by decide) (fun K hK => ?_)
                        refine goes_ Tryd.func16 (by kernel_rfl) rfl #[.pointer (some ⟨G_t305, 0, none⟩), .agg #[.int .i64 a1_0, .string a1_1], .agg #[.int .i64 ((rd_T28 t308 x13_3).f0), .string ((rd_T28 t308 x13_3).f1)]] (by rfl) rfl rfl (by (try simp only [List.map_toArray, List.map_cons, List.map_nil]); first | done | rfl | (simp only [List.length_drop, List.length_take]; rfl)) ?_
                        with_reducible refine (arrays_Sub.calls G_t305 t305 a1_0 a1_1 ((rd_T28 t308 x13_3).f0) ((rd_T28 t308 x13_3).f1) t316 t317 _ ?side1 A42.out).mono ?_
                        (case side1 => repeat (first | (with_reducible exact HQt305.out) | (with_reducible refine WOK.alloc ?_ _) | (with_reducible refine WOK.drewN ?_ _) | (with_reducible refine WOK.drew ?_)))
                        rintro e w46 ⟨rfl, hb⟩
                        have HS2_ := (hb.cell (World.block_lt_of_cell? _ _ (hHeld.2.2.1))).trans (hHeld.2.2.1)
                        have HS3_ := (hb.cell (World.block_lt_of_cell? _ _ (hHeld.2.2.2))).trans (hHeld.2.2.2)
                        refine ⟨_, rfl, ?_⟩
                        have n0_ := Aside0.mk (Kd.R_below (by (with_reducible repeat (first | apply Kd.R_alloc | apply Kd.R_drewN | apply Kd.R_drew)); exact HO_8.out) hb)
                        have n1_ := Aside0.mk (blk_below (g := gb302) (o := .cells #[.int .i64 a1_0, .string a1_1] 28 (0, 0)) (by (with_reducible repeat (first | refine blk_drewN ?_ _ | refine blk_drew ?_ | refine blk_alloc ?_ _)); exact BK302.out) hb)
                        have n2_ := Aside0.mk (blk_below (g := gb303) (o := .cells #[.int .i64 a2_0, .string a2_1] 28 (0, 0)) (by (with_reducible repeat (first | refine blk_drewN ?_ _ | refine blk_drew ?_ | refine blk_alloc ?_ _)); exact BK303.out) hb)
                        have n3_ := Aside0.mk (WOK.below (g := G_t305) (es := t305) (by repeat (first | (with_reducible exact HQt305.out) | (with_reducible refine WOK.alloc ?_ _) | (with_reducible refine WOK.drewN ?_ _) | (with_reducible refine WOK.drew ?_))) hb)
                        have n4_ := Aside0.mk (below_step (by repeat (first | (with_reducible first | exact HB.out | apply below_alloc | apply pw_below_drewN | apply below_drew1 | refine below_set ?_ GE302.out | refine below_set ?_ GE303.out) | exact HB.out)) hb)
                        clear HO_8
                        clear BK302
                        clear BK303
                        clear HQt305
                        clear HB
                        have HO_8 := n0_
                        have BK302 := n1_
                        have BK303 := n2_
                        have HQt305 := n3_
                        have HB := n4_
                        clear n0_ n1_ n2_ n3_ n4_
                        (try clear hb)
                        (try clear hb2)
                        (try clear hk)
                        (try clear hi)
                        refine hK.out _ _ ⟨(blk_cell BK302.out 0).trans rfl, (blk_cell BK302.out 1).trans rfl, HS2_, HS3_⟩ (fun hHeld => ?_)
                        clear hK K
                        refine norm_ (a' := ?_) ?_ ?_
                        rotate_left
                        · show Act.put _ (some 65) _ = _
                          simp only [Act.put, List.setIfInBounds_toArray, List.set_cons_zero, List.set_cons_succ, i64_w, i32_w]
                          rfl
                        refine pure_ (i := 7) (N := some 58) (v := ?_) (a' := ?_) #[true, true, true, true, true, true, true, true, false, false, false, false] rfl rfl (any_of HT_.out (by kernel_rfl)) (fun _ _ _ h => h) (Or.inl ⟨by rfl, ?_⟩) ?_ ?_
                        rotate_left
                        · intro w'
                          go_simp
                          with_reducible rfl
                        rotate_left
                        · simp only [Act.put, List.setIfInBounds_toArray, List.set_cons_zero, List.set_cons_succ, i64_w, i32_w]
                          rfl
                        refine pure_ (i := 8) (N := some 66) (v := ?_) (a' := ?_) #[true, true, true, true, true, true, true, true, true, false, false, false] rfl rfl (any_of HT_.out (by kernel_rfl)) (fun _ _ _ h => h) (Or.inl ⟨by rfl, ?_⟩) ?_ ?_
                        rotate_left
                        · intro w'
                          go_simp
                          with_reducible rfl
                        rotate_left
                        · simp only [Act.put, List.setIfInBounds_toArray, List.set_cons_zero, List.set_cons_succ, i64_w, i32_w]
                          rfl
                        refine pure_ (i := 9) (N := some 67) (v := ?_) (a' := ?_) #[true, true, true, true, true, true, true, true, true, true, false, false] rfl rfl (any_of HT_.out (by kernel_rfl)) (fun _ _ _ h => h) (Or.inl ⟨by rfl, ?_⟩) ?_ ?_
                        rotate_left
                        · intro w'
                          go_simp
                          with_reducible rfl
                        rotate_left
                        · simp only [Act.put, List.setIfInBounds_toArray, List.set_cons_zero, List.set_cons_succ, i64_w, i32_w]
                          rfl
                        refine pure_ (i := 10) (N := some 14) (v := ?_) (a' := ?_) #[true, true, true, true, true, true, true, true, true, true, true, false] rfl rfl (any_of HT_.out (by kernel_rfl)) (fun _ _ _ h => h) (Or.inl ⟨by rfl, ?_⟩) ?_ ?_
                        rotate_left
                        · intro w'
                          go_simp
                          with_reducible rfl
                        rotate_left
                        · simp only [Act.put, List.setIfInBounds_toArray, List.set_cons_zero, List.set_cons_succ, i64_w, i32_w]
                          rfl
                        refine pure_ (i := 11) (N := some 15) (v := ?_) (a' := ?_) #[true, true, true, true, true, true, true, true, true, true, true, true] rfl rfl (any_of HT_.out (by kernel_rfl)) (fun _ _ _ h => h) (Or.inl ⟨by rfl, ?_⟩) ?_ ?_
                        rotate_left
                        · intro w'
                          go_simp
                          with_reducible rfl
                        rotate_left
                        · simp only [Act.put, List.setIfInBounds_toArray, List.set_cons_zero, List.set_cons_succ, i64_w, i32_w]
                          rfl
                        refine done_ (done_of HT_.out (by kernel_rfl)) ?_
                        go_upto_region 15 with (fail)
                        go_cut [81] (fun v81 wc => ∃ (kq : Nat) (x81_42 : Bool), v81 = .bool x81_42 ∧ Aside0 (arbiterlaw07_ArraysSteps.j3 kq t305 t308 t312 x12_3 x13_3 x81_42 a1_0 a1_1 a2_0 a2_1 = some r) ∧ Aside0 (kq ≤ k3) ∧ Aside0 (Kd.R k28 28 wc w.heap.size (fun k_ => k_ ≠ gb302 ∧ k_ ≠ gb303) (.slice (some ad315) t308.length co44) t308) ∧ Aside0 (wc.heap[gb302]? = some (.cells #[.int .i64 a1_0, .string a1_1] 28 (0, 0))) ∧ Aside0 (wc.heap[gb303]? = some (.cells #[.int .i64 a2_0, .string a2_1] 28 (0, 0))) ∧ Aside0 (WOK wc G_t305 t305) ∧ Aside0 (Below w.heap.size w wc))
                        case first =>
                          have H := HC43.out
                          clear HC43
                          by_cases c47 : t317 = 0
                          · rw [if_pos c47] at H
                            have c47b0 : (t317 == 0) = true := beq_iff_eq.mpr c47
                            have c47b1 : (t317 != 0) = false := bne_eq_false_iff_eq.mpr c47
                            clear c47
                            (first | rw [c47b0] | (simp only [i64_w, i32_w]; rw [c47b0]) | skip)
                            by_cases c48 : t316 = true
                            · subst c48
                              have H1 : ((arbiterref02_Same.f a1_0 a1_1 ((rd_T28 t308 x13_3).f0) ((rd_T28 t308 x13_3).f1)).bind fun t319 => (arbiterlaw07_ArraysSteps.j3 k3 t305 t308 t312 x12_3 x13_3 t319 a1_0 a1_1 a2_0 a2_1)) = some r := by rw [if_pos rfl] at H; exact H
                              clear H
                              have H := H1
                              clear H1
                              replace H := Option.bind_eq_some_iff.mp H
                              obtain ⟨t319, A490, H⟩ := H
                              replace H : (arbiterlaw07_ArraysSteps.j3 k3 t305 t308 t312 x12_3 x13_3 t319 a1_0 a1_1 a2_0 a2_1) = some r := H
                              have A49 := Aside0.mk A490
                              clear A490
                              have H' := Aside0.mk H
                              clear H
                              try go_wp2
                              have n0_ := Aside0.mk (Kd.R_drew HO_8.out)
                              have n1_ := Aside0.mk (blk_drew BK302.out)
                              have n2_ := Aside0.mk (blk_drew BK303.out)
                              have n3_ := Aside0.mk (WOK.drew HQt305.out)
                              have n4_ := Aside0.mk (below_drew1 HB.out)
                              clear HO_8
                              clear BK302
                              clear BK303
                              clear HQt305
                              clear HB
                              have HO_8 := n0_
                              have BK302 := n1_
                              have BK303 := n2_
                              have HQt305 := n3_
                              have HB := n4_
                              clear n0_ n1_ n2_ n3_ n4_
                              have p318 : 0 ≤ (x13_3 : Int) := of_decide_eq_true (by first | (with_reducible assumption) | assumption)
                              have q318 : x13_3 < (t308.length : Int) := of_decide_eq_true (by first | (with_reducible assumption) | assumption)
                              obtain ⟨ad318, e318, hx318_0, hx318_1⟩ := at_T28 (Kd.R_reads' HO_8.out).2.2 x13_3 p318 q318
                              obtain rfl : ad315 = ad318 := (by injection e318)
                              replace p318 := eq_true p318
                              replace q318 := eq_true q318
                              refine start_ (n := 14) (S := fun w' => w'.cell? ⟨gb302, 0, none⟩ = some (.int .i64 a1_0) ∧ w'.cell? ⟨gb302, 1, none⟩ = some (.string a1_1) ∧ w'.cell? (ad315.add ((x13_3).toNat * 2)) = some (.int .i64 ((rd_T28 t308 x13_3).f0)) ∧ w'.cell? ⟨(ad315.add ((x13_3).toNat * 2)).block, (ad315.add ((x13_3).toNat * 2)).off + 1, none⟩ = some (.string ((rd_T28 t308 x13_3).f1))) (ds := []) #[false, false, false, false, false, false, false, false, false, false, false, false, false, false] (by kernel_rfl) rfl rfl ⟨(blk_cell BK302.out 0).trans rfl, (blk_cell BK302.out 1).trans rfl, hx318_0, hx318_1⟩ (fun hHeld => ?_); refine with_tabW arbiterlaw07_ArraysSteps.tab15 arbiterlaw07_ArraysSteps.bits15 (fun HT_ HW_ => ?_)
                              generalize w46.drew = w50 at HO_8 BK302 BK303 HQt305 HB hx318_0 hx318_1 hHeld ⊢
                              refine pure_ (i := 0) (N := some 68) (v := ?_) (a' := ?_) #[true, false, false, false, false, false, false, false, false, false, false, false, false, false] rfl rfl (any_of HT_.out (by kernel_rfl)) (fun _ _ _ h => h) (Or.inl ⟨by rfl, ?_⟩) ?_ ?_
                              rotate_left
                              · intro w'
                                go_simp
                                with_reducible rfl
                              rotate_left
                              · simp only [Act.put, List.setIfInBounds_toArray, List.set_cons_zero, List.set_cons_succ, i64_w, i32_w]
                                rfl
                              refine pure_ (i := 1) (N := some 69) (v := ?_) (a' := ?_) #[true, true, false, false, false, false, false, false, false, false, false, false, false, false] rfl rfl (any_of HT_.out (by kernel_rfl)) (fun _ _ _ h => h) (Or.inl ⟨by rfl, ?_⟩) ?_ ?_
                              rotate_left
                              · intro w'
                                go_simp
                                with_reducible rfl
                              rotate_left
                              · simp only [Act.put, List.setIfInBounds_toArray, List.set_cons_zero, List.set_cons_succ, i64_w, i32_w]
                                rfl
                              refine pure_ (i := 2) (N := some 70) (v := ?_) (a' := ?_) #[true, true, true, false, false, false, false, false, false, false, false, false, false, false] rfl rfl (any_of HT_.out (by kernel_rfl)) (fun _ _ _ h => h) (Or.inl ⟨by rfl, ?_⟩) ?_ ?_
                              rotate_left
                              · intro w'
                                go_simp
                                with_reducible rfl
                              rotate_left
                              · simp only [Act.put, List.setIfInBounds_toArray, List.set_cons_zero, List.set_cons_succ, i64_w, i32_w]
                                rfl
                              refine pure_ (i := 3) (N := some 71) (v := ?_) (a' := ?_) #[true, true, true, true, false, false, false, false, false, false, false, false, false, false] rfl rfl (any_of HT_.out (by kernel_rfl)) (fun _ _ _ h => h) (Or.inl ⟨by rfl, ?_⟩) ?_ ?_
                              rotate_left
                              · intro w'
                                go_simp
                                with_reducible rfl
                              rotate_left
                              · simp only [Act.put, List.setIfInBounds_toArray, List.set_cons_zero, List.set_cons_succ, i64_w, i32_w]
                                rfl
                              refine pure_ (i := 4) (N := some 72) (v := ?_) (a' := ?_) #[true, true, true, true, true, false, false, false, false, false, false, false, false, false] rfl rfl (any_of HT_.out (by kernel_rfl)) (fun _ _ _ h => h) (Or.inl ⟨by rfl, ?_⟩) ?_ ?_
                              rotate_left
                              · intro w'
                                go_simp
                                with_reducible rfl
                              rotate_left
                              · simp only [Act.put, List.setIfInBounds_toArray, List.set_cons_zero, List.set_cons_succ, i64_w, i32_w]
                                rfl
                              refine pure_ (i := 5) (N := some 73) (v := ?_) (a' := ?_) #[true, true, true, true, true, true, false, false, false, false, false, false, false, false] rfl rfl (any_of HT_.out (by kernel_rfl)) (fun _ _ _ h => h) (Or.inl ⟨by rfl, ?_⟩) ?_ ?_
                              rotate_left
                              · intro w'
                                go_simp
                                with_reducible rfl
                              rotate_left
                              · simp only [Act.put, List.setIfInBounds_toArray, List.set_cons_zero, List.set_cons_succ, i64_w, i32_w]
                                rfl
                              refine pure_ (i := 6) (N := some 74) (v := ?_) (a' := ?_) #[true, true, true, true, true, true, true, false, false, false, false, false, false, false] rfl rfl (any_of HT_.out (by kernel_rfl)) (fun _ _ _ h => h) (Or.inl ⟨by rfl, ?_⟩) ?_ ?_
                              rotate_left
                              · intro w'
                                go_simp
                                with_reducible rfl
                              rotate_left
                              · simp only [Act.put, List.setIfInBounds_toArray, List.set_cons_zero, List.set_cons_succ, i64_w, i32_w]
                                rfl
                              refine pure_ (i := 8) (N := some 76) (v := ?_) (a' := ?_) #[true, true, true, true, true, true, true, false, true, false, false, false, false, false] rfl rfl (any_of HT_.out (by kernel_rfl)) (fun _ _ _ h => h) (Or.inl ⟨by rfl, ?_⟩) ?_ ?_
                              rotate_left
                              · intro w'
                                go_simp
                                with_reducible rfl
                              rotate_left
                              · simp only [Act.put, List.setIfInBounds_toArray, List.set_cons_zero, List.set_cons_succ, i64_w, i32_w]
                                rfl
                              refine pure_ (i := 9) (N := some 77) (v := ?_) (a' := ?_) #[true, true, true, true, true, true, true, false, true, true, false, false, false, false] rfl rfl (any_of HT_.out (by kernel_rfl)) (fun _ _ _ h => h) (Or.inl ⟨by rfl, ?_⟩) ?_ ?_
                              rotate_left
                              · intro w'
                                go_simp
                                with_reducible rfl
                              rotate_left
                              · simp only [Act.put, List.setIfInBounds_toArray, List.set_cons_zero, List.set_cons_succ, i64_w, i32_w]
                                rfl
                              refine pure_ (i := 10) (N := some 78) (v := ?_) (a' := ?_) #[true, true, true, true, true, true, true, false, true, true, true, false, false, false] rfl rfl (any_of HT_.out (by kernel_rfl)) (fun _ _ _ h => h) (Or.inl ⟨by rfl, ?_⟩) ?_ ?_
                              rotate_left
                              · intro w'
                                go_simp
                                with_reducible rfl
                              rotate_left
                              · simp only [Act.put, List.setIfInBounds_toArray, List.set_cons_zero, List.set_cons_succ, i64_w, i32_w]
                                rfl
                              refine take_ (i := 7) (N := some 75) (v := ?_) (a' := ?_) #[true, true, true, true, true, true, true, true, true, true, true, false, false, false] rfl rfl (take_ofW HT_.out HW_.out (by kernel_rfl)) (fun _ _ _ h => h) (Or.inl ⟨by rfl, ?_⟩) hHeld ?_ ?_
                              rotate_left
                              · rintro w' ⟨s0, s1, s2, s3⟩
                                go_simp
                                with_reducible rfl
                              rotate_left
                              · simp only [Act.put, List.setIfInBounds_toArray, List.set_cons_zero, List.set_cons_succ, i64_w, i32_w]
                                rfl
                              refine take_ (i := 11) (N := some 79) (v := ?_) (a' := ?_) #[true, true, true, true, true, true, true, true, true, true, true, true, false, false] rfl rfl (take_ofW HT_.out HW_.out (by kernel_rfl)) (fun _ _ _ h => h) (Or.inl ⟨by rfl, ?_⟩) hHeld ?_ ?_
                              rotate_left
                              · rintro w' ⟨s0, s1, s2, s3⟩
                                go_simp
                                with_reducible rfl
                              rotate_left
                              · simp only [Act.put, List.setIfInBounds_toArray, List.set_cons_zero, List.set_cons_succ, i64_w, i32_w]
                                rfl
                              refine one_ (i := 12) (N := some 80) #[true, true, true, true, true, true, true, true, true, true, true, true, true, false] rfl rfl (one_of HT_.out (by kernel_rfl)) (by decide) (fun K hK => ?_)
                              refine goes_ Tryd.func17 (by kernel_rfl) rfl #[.agg #[.int .i64 a1_0, .string a1_1], .agg #[.int .i64 ((rd_T28 t308 x13_3).f0), .string ((rd_T28 t308 x13_3).f1)]] (by rfl) rfl rfl (by (try simp only [List.map_toArray, List.map_cons, List.map_nil]); first | done | rfl | (simp only [List.length_drop, List.length_take]; rfl)) ?_
                              with_reducible refine (arbiterref02_Same.calls a1_0 a1_1 ((rd_T28 t308 x13_3).f0) ((rd_T28 t308 x13_3).f1) t319 _ A49.out).mono ?_
                              rintro e w51 ⟨rfl, hb⟩
                              have HS2_ := (hb.cell (World.block_lt_of_cell? _ _ (hHeld.2.2.1))).trans (hHeld.2.2.1)
                              have HS3_ := (hb.cell (World.block_lt_of_cell? _ _ (hHeld.2.2.2))).trans (hHeld.2.2.2)
                              refine ⟨_, rfl, ?_⟩
                              have n0_ := Aside0.mk (Kd.R_below (by (with_reducible repeat (first | apply Kd.R_alloc | apply Kd.R_drewN | apply Kd.R_drew)); exact HO_8.out) hb)
                              have n1_ := Aside0.mk (blk_below (g := gb302) (o := .cells #[.int .i64 a1_0, .string a1_1] 28 (0, 0)) (by (with_reducible repeat (first | refine blk_drewN ?_ _ | refine blk_drew ?_ | refine blk_alloc ?_ _)); exact BK302.out) hb)
                              have n2_ := Aside0.mk (blk_below (g := gb303) (o := .cells #[.int .i64 a2_0, .string a2_1] 28 (0, 0)) (by (with_reducible repeat (first | refine blk_drewN ?_ _ | refine blk_drew ?_ | refine blk_alloc ?_ _)); exact BK303.out) hb)
                              have n3_ := Aside0.mk (WOK.below (g := G_t305) (es := t305) (by repeat (first | (with_reducible exact HQt305.out) | (with_reducible refine WOK.alloc ?_ _) | (with_reducible refine WOK.drewN ?_ _) | (with_reducible refine WOK.drew ?_))) hb)
                              have n4_ := Aside0.mk (below_step (by repeat (first | (with_reducible first | exact HB.out | apply below_alloc | apply pw_below_drewN | apply below_drew1 | refine below_set ?_ GE302.out | refine below_set ?_ GE303.out) | exact HB.out)) hb)
                              clear HO_8
                              clear BK302
                              clear BK303
                              clear HQt305
                              clear HB
                              have HO_8 := n0_
                              have BK302 := n1_
                              have BK303 := n2_
                              have HQt305 := n3_
                              have HB := n4_
                              clear n0_ n1_ n2_ n3_ n4_
                              (try clear hb)
                              (try clear hb2)
                              (try clear hk)
                              (try clear hi)
                              refine hK.out _ _ ⟨(blk_cell BK302.out 0).trans rfl, (blk_cell BK302.out 1).trans rfl, HS2_, HS3_⟩ (fun hHeld => ?_)
                              clear hK K
                              refine norm_ (a' := ?_) ?_ ?_
                              rotate_left
                              · show Act.put _ (some 80) _ = _
                                simp only [Act.put, List.setIfInBounds_toArray, List.set_cons_zero, List.set_cons_succ, i64_w, i32_w]
                                rfl
                              refine pure_ (i := 13) (N := some 81) (v := ?_) (a' := ?_) #[true, true, true, true, true, true, true, true, true, true, true, true, true, true] rfl rfl (any_of HT_.out (by kernel_rfl)) (fun _ _ _ h => h) (Or.inl ⟨by rfl, ?_⟩) ?_ ?_
                              rotate_left
                              · intro w'
                                go_simp
                                with_reducible rfl
                              rotate_left
                              · simp only [Act.put, List.setIfInBounds_toArray, List.set_cons_zero, List.set_cons_succ, i64_w, i32_w]
                                rfl
                              refine done_ (done_of HT_.out (by kernel_rfl)) ?_
                              try go_wp2
                              go_meet
                              case rel => exact ⟨_, (t319), (by first | rfl | (simp; done) | (simp [*]; done)), H', ⟨by have := HJ6.out; have := HJ25.out; have := HK3.out; first | omega | exact Nat.le_refl _⟩, ⟨by (with_reducible repeat (first | apply Kd.R_alloc | apply Kd.R_drewN | apply Kd.R_drew)); exact HO_8.out⟩, ⟨by (with_reducible repeat (first | refine blk_drewN ?_ _ | refine blk_drew ?_ | refine blk_alloc ?_ _)); exact BK302.out⟩, ⟨by (with_reducible repeat (first | refine blk_drewN ?_ _ | refine blk_drew ?_ | refine blk_alloc ?_ _)); exact BK303.out⟩, ⟨by repeat (first | (with_reducible exact HQt305.out) | (with_reducible refine WOK.alloc ?_ _) | (with_reducible refine WOK.drewN ?_ _) | (with_reducible refine WOK.drew ?_))⟩, ⟨by repeat (first | (with_reducible first | exact HB.out | apply below_alloc | apply pw_below_drewN | apply below_drew1 | refine below_set ?_ GE302.out | refine below_set ?_ GE303.out) | exact HB.out)⟩⟩
                            · replace c48 := Bool.eq_false_iff.mpr c48
                              subst c48
                              have H1 : (arbiterlaw07_ArraysSteps.j3 k3 t305 t308 t312 x12_3 x13_3 true a1_0 a1_1 a2_0 a2_1) = some r := by rw [if_neg (show ¬ (false = true) by decide)] at H; exact H
                              clear H
                              have H := H1
                              clear H1
                              have H' := Aside0.mk H
                              clear H
                              try go_wp2
                              have n0_ := Aside0.mk (Kd.R_drew HO_8.out)
                              have n1_ := Aside0.mk (blk_drew BK302.out)
                              have n2_ := Aside0.mk (blk_drew BK303.out)
                              have n3_ := Aside0.mk (WOK.drew HQt305.out)
                              have n4_ := Aside0.mk (below_drew1 HB.out)
                              clear HO_8
                              clear BK302
                              clear BK303
                              clear HQt305
                              clear HB
                              have HO_8 := n0_
                              have BK302 := n1_
                              have BK303 := n2_
                              have HQt305 := n3_
                              have HB := n4_
                              clear n0_ n1_ n2_ n3_ n4_
                              refine start_ (n := 14) (S := fun w' => True) (ds := []) #[false, false, false, false, false, false, false, false, false, false, false, false, false, false] (by kernel_rfl) rfl rfl trivial (fun hHeld => ?_); refine with_tabW arbiterlaw07_ArraysSteps.tab15 arbiterlaw07_ArraysSteps.bits15 (fun HT_ HW_ => ?_)
                              generalize w46.drew = w52 at HO_8 BK302 BK303 HQt305 HB hHeld ⊢
                              refine pure_ (i := 0) (N := some 68) (v := ?_) (a' := ?_) #[true, false, false, false, false, false, false, false, false, false, false, false, false, false] rfl rfl (any_of HT_.out (by kernel_rfl)) (fun _ _ _ h => h) (Or.inl ⟨by rfl, ?_⟩) ?_ ?_
                              rotate_left
                              · intro w'
                                go_simp
                                with_reducible rfl
                              rotate_left
                              · simp only [Act.put, List.setIfInBounds_toArray, List.set_cons_zero, List.set_cons_succ, i64_w, i32_w]
                                rfl
                              refine pure_ (i := 1) (N := some 69) (v := ?_) (a' := ?_) #[true, true, false, false, false, false, false, false, false, false, false, false, false, false] rfl rfl (any_of HT_.out (by kernel_rfl)) (fun _ _ _ h => h) (Or.inl ⟨by rfl, ?_⟩) ?_ ?_
                              rotate_left
                              · intro w'
                                go_simp
                                with_reducible rfl
                              rotate_left
                              · simp only [Act.put, List.setIfInBounds_toArray, List.set_cons_zero, List.set_cons_succ, i64_w, i32_w]
                                rfl
                              refine pure_ (i := 2) (N := some 70) (v := ?_) (a' := ?_) #[true, true, true, false, false, false, false, false, false, false, false, false, false, false] rfl rfl (any_of HT_.out (by kernel_rfl)) (fun _ _ _ h => h) (Or.inl ⟨by rfl, ?_⟩) ?_ ?_
                              rotate_left
                              · intro w'
                                go_simp
                                with_reducible rfl
                              rotate_left
                              · simp only [Act.put, List.setIfInBounds_toArray, List.set_cons_zero, List.set_cons_succ, i64_w, i32_w]
                                rfl
                              refine pure_ (i := 3) (N := some 71) (v := ?_) (a' := ?_) #[true, true, true, true, false, false, false, false, false, false, false, false, false, false] rfl rfl (any_of HT_.out (by kernel_rfl)) (fun _ _ _ h => h) (Or.inl ⟨by rfl, ?_⟩) ?_ ?_
                              rotate_left
                              · intro w'
                                go_simp
                                with_reducible rfl
                              rotate_left
                              · simp only [Act.put, List.setIfInBounds_toArray, List.set_cons_zero, List.set_cons_succ, i64_w, i32_w]
                                rfl
                              refine pure_ (i := 4) (N := some 72) (v := ?_) (a' := ?_) #[true, true, true, true, true, false, false, false, false, false, false, false, false, false] rfl rfl (any_of HT_.out (by kernel_rfl)) (fun _ _ _ h => h) (Or.inl ⟨by rfl, ?_⟩) ?_ ?_
                              rotate_left
                              · intro w'
                                go_simp
                                with_reducible rfl
                              rotate_left
                              · simp only [Act.put, List.setIfInBounds_toArray, List.set_cons_zero, List.set_cons_succ, i64_w, i32_w]
                                rfl
                              refine pure_ (i := 5) (N := some 73) (v := ?_) (a' := ?_) #[true, true, true, true, true, true, false, false, false, false, false, false, false, false] rfl rfl (any_of HT_.out (by kernel_rfl)) (fun _ _ _ h => h) (Or.inl ⟨by rfl, ?_⟩) ?_ ?_
                              rotate_left
                              · intro w'
                                go_simp
                                with_reducible rfl
                              rotate_left
                              · simp only [Act.put, List.setIfInBounds_toArray, List.set_cons_zero, List.set_cons_succ, i64_w, i32_w]
                                rfl
                              refine pure_ (i := 6) (N := some 74) (v := ?_) (a' := ?_) #[true, true, true, true, true, true, true, false, false, false, false, false, false, false] rfl rfl (any_of HT_.out (by kernel_rfl)) (fun _ _ _ h => h) (Or.inl ⟨by rfl, ?_⟩) ?_ ?_
                              rotate_left
                              · intro w'
                                go_simp
                                with_reducible rfl
                              rotate_left
                              · simp only [Act.put, List.setIfInBounds_toArray, List.set_cons_zero, List.set_cons_succ, i64_w, i32_w]
                                rfl
                              refine pure_ (i := 7) (N := some 75) (v := undef) (a' := ?_) #[true, true, true, true, true, true, true, true, false, false, false, false, false, false] rfl rfl (any_of HT_.out (by kernel_rfl)) (fun _ _ _ h => h) (Or.inr ⟨by rfl, rfl⟩) ?_ ?_
                              rotate_left
                              · simp only [Act.put, List.setIfInBounds_toArray, List.set_cons_zero, List.set_cons_succ, i64_w, i32_w]
                                rfl
                              refine pure_ (i := 8) (N := some 76) (v := undef) (a' := ?_) #[true, true, true, true, true, true, true, true, true, false, false, false, false, false] rfl rfl (any_of HT_.out (by kernel_rfl)) (fun _ _ _ h => h) (Or.inr ⟨by rfl, rfl⟩) ?_ ?_
                              rotate_left
                              · simp only [Act.put, List.setIfInBounds_toArray, List.set_cons_zero, List.set_cons_succ, i64_w, i32_w]
                                rfl
                              refine pure_ (i := 9) (N := some 77) (v := undef) (a' := ?_) #[true, true, true, true, true, true, true, true, true, true, false, false, false, false] rfl rfl (any_of HT_.out (by kernel_rfl)) (fun _ _ _ h => h) (Or.inr ⟨by rfl, rfl⟩) ?_ ?_
                              rotate_left
                              · simp only [Act.put, List.setIfInBounds_toArray, List.set_cons_zero, List.set_cons_succ, i64_w, i32_w]
                                rfl
                              refine pure_ (i := 10) (N := some 78) (v := undef) (a' := ?_) #[true, true, true, true, true, true, true, true, true, true, true, false, false, false] rfl rfl (any_of HT_.out (by kernel_rfl)) (fun _ _ _ h => h) (Or.inr ⟨by rfl, rfl⟩) ?_ ?_
                              rotate_left
                              · simp only [Act.put, List.setIfInBounds_toArray, List.set_cons_zero, List.set_cons_succ, i64_w, i32_w]
                                rfl
                              refine pure_ (i := 11) (N := some 79) (v := undef) (a' := ?_) #[true, true, true, true, true, true, true, true, true, true, true, true, false, false] rfl rfl (any_of HT_.out (by kernel_rfl)) (fun _ _ _ h => h) (Or.inr ⟨by rfl, rfl⟩) ?_ ?_
                              rotate_left
                              · simp only [Act.put, List.setIfInBounds_toArray, List.set_cons_zero, List.set_cons_succ, i64_w, i32_w]
                                rfl
                              refine pure_ (i := 12) (N := some 80) (v := undef) (a' := ?_) #[true, true, true, true, true, true, true, true, true, true, true, true, true, false] rfl rfl (any_of HT_.out (by kernel_rfl)) (fun _ _ _ h => h) (Or.inr ⟨by rfl, rfl⟩) ?_ ?_
                              rotate_left
                              · simp only [Act.put, List.setIfInBounds_toArray, List.set_cons_zero, List.set_cons_succ, i64_w, i32_w]
                                rfl
                              refine pure_ (i := 13) (N := some 81) (v := ?_) (a' := ?_) #[true, true, true, true, true, true, true, true, true, true, true, true, true, true] rfl rfl (any_of HT_.out (by kernel_rfl)) (fun _ _ _ h => h) (Or.inl ⟨by rfl, ?_⟩) ?_ ?_
                              rotate_left
                              · intro w'
                                go_simp
                                with_reducible rfl
                              rotate_left
                              · simp only [Act.put, List.setIfInBounds_toArray, List.set_cons_zero, List.set_cons_succ, i64_w, i32_w]
                                rfl
                              refine done_ (done_of HT_.out (by kernel_rfl)) ?_
                              try go_wp2
                              go_meet
                              case rel => exact ⟨_, (true), (by first | rfl | (simp; done) | (simp [*]; done)), H', ⟨by have := HJ6.out; have := HJ25.out; have := HK3.out; first | omega | exact Nat.le_refl _⟩, ⟨by (with_reducible repeat (first | apply Kd.R_alloc | apply Kd.R_drewN | apply Kd.R_drew)); exact HO_8.out⟩, ⟨by (with_reducible repeat (first | refine blk_drewN ?_ _ | refine blk_drew ?_ | refine blk_alloc ?_ _)); exact BK302.out⟩, ⟨by (with_reducible repeat (first | refine blk_drewN ?_ _ | refine blk_drew ?_ | refine blk_alloc ?_ _)); exact BK303.out⟩, ⟨by repeat (first | (with_reducible exact HQt305.out) | (with_reducible refine WOK.alloc ?_ _) | (with_reducible refine WOK.drewN ?_ _) | (with_reducible refine WOK.drew ?_))⟩, ⟨by repeat (first | (with_reducible first | exact HB.out | apply below_alloc | apply pw_below_drewN | apply below_drew1 | refine below_set ?_ GE302.out | refine below_set ?_ GE303.out) | exact HB.out)⟩⟩
                          · rw [if_neg c47] at H
                            have c47b0 : (t317 == 0) = false := beq_eq_false_iff_ne.mpr c47
                            have c47b1 : (t317 != 0) = true := bne_iff_ne.mpr c47
                            (first | rw [c47b0] | (simp only [i64_w, i32_w]; rw [c47b0]) | skip)
                            have H' := Aside0.mk H
                            clear H
                            try go_wp2
                            have n0_ := Aside0.mk (Kd.R_drew HO_8.out)
                            have n1_ := Aside0.mk (blk_drew BK302.out)
                            have n2_ := Aside0.mk (blk_drew BK303.out)
                            have n3_ := Aside0.mk (WOK.drew HQt305.out)
                            have n4_ := Aside0.mk (below_drew1 HB.out)
                            clear HO_8
                            clear BK302
                            clear BK303
                            clear HQt305
                            clear HB
                            have HO_8 := n0_
                            have BK302 := n1_
                            have BK303 := n2_
                            have HQt305 := n3_
                            have HB := n4_
                            clear n0_ n1_ n2_ n3_ n4_
                            refine start_ (n := 14) (S := fun w' => True) (ds := []) #[false, false, false, false, false, false, false, false, false, false, false, false, false, false] (by kernel_rfl) rfl rfl trivial (fun hHeld => ?_); refine with_tabW arbiterlaw07_ArraysSteps.tab15 arbiterlaw07_ArraysSteps.bits15 (fun HT_ HW_ => ?_)
                            generalize w46.drew = w53 at HO_8 BK302 BK303 HQt305 HB hHeld ⊢
                            refine pure_ (i := 0) (N := some 68) (v := ?_) (a' := ?_) #[true, false, false, false, false, false, false, false, false, false, false, false, false, false] rfl rfl (any_of HT_.out (by kernel_rfl)) (fun _ _ _ h => h) (Or.inl ⟨by rfl, ?_⟩) ?_ ?_
                            rotate_left
                            · intro w'
                              go_simp
                              with_reducible rfl
                            rotate_left
                            · simp only [Act.put, List.setIfInBounds_toArray, List.set_cons_zero, List.set_cons_succ, i64_w, i32_w]
                              rfl
                            refine pure_ (i := 1) (N := some 69) (v := ?_) (a' := ?_) #[true, true, false, false, false, false, false, false, false, false, false, false, false, false] rfl rfl (any_of HT_.out (by kernel_rfl)) (fun _ _ _ h => h) (Or.inl ⟨by rfl, ?_⟩) ?_ ?_
                            rotate_left
                            · intro w'
                              go_simp
                              with_reducible rfl
                            rotate_left
                            · simp only [Act.put, List.setIfInBounds_toArray, List.set_cons_zero, List.set_cons_succ, i64_w, i32_w]
                              rfl
                            refine pure_ (i := 2) (N := some 70) (v := ?_) (a' := ?_) #[true, true, true, false, false, false, false, false, false, false, false, false, false, false] rfl rfl (any_of HT_.out (by kernel_rfl)) (fun _ _ _ h => h) (Or.inl ⟨by rfl, ?_⟩) ?_ ?_
                            rotate_left
                            · intro w'
                              go_simp
                              with_reducible rfl
                            rotate_left
                            · simp only [Act.put, List.setIfInBounds_toArray, List.set_cons_zero, List.set_cons_succ, i64_w, i32_w]
                              rfl
                            refine pure_ (i := 3) (N := some 71) (v := undef) (a' := ?_) #[true, true, true, true, false, false, false, false, false, false, false, false, false, false] rfl rfl (any_of HT_.out (by kernel_rfl)) (fun _ _ _ h => h) (Or.inr ⟨by rfl, rfl⟩) ?_ ?_
                            rotate_left
                            · simp only [Act.put, List.setIfInBounds_toArray, List.set_cons_zero, List.set_cons_succ, i64_w, i32_w]
                              rfl
                            refine pure_ (i := 4) (N := some 72) (v := undef) (a' := ?_) #[true, true, true, true, true, false, false, false, false, false, false, false, false, false] rfl rfl (any_of HT_.out (by kernel_rfl)) (fun _ _ _ h => h) (Or.inr ⟨by rfl, rfl⟩) ?_ ?_
                            rotate_left
                            · simp only [Act.put, List.setIfInBounds_toArray, List.set_cons_zero, List.set_cons_succ, i64_w, i32_w]
                              rfl
                            refine pure_ (i := 5) (N := some 73) (v := ?_) (a' := ?_) #[true, true, true, true, true, true, false, false, false, false, false, false, false, false] rfl rfl (any_of HT_.out (by kernel_rfl)) (fun _ _ _ h => h) (Or.inl ⟨by rfl, ?_⟩) ?_ ?_
                            rotate_left
                            · intro w'
                              go_simp
                              with_reducible rfl
                            rotate_left
                            · simp only [Act.put, List.setIfInBounds_toArray, List.set_cons_zero, List.set_cons_succ, i64_w, i32_w]
                              rfl
                            refine pure_ (i := 6) (N := some 74) (v := ?_) (a' := ?_) #[true, true, true, true, true, true, true, false, false, false, false, false, false, false] rfl rfl (any_of HT_.out (by kernel_rfl)) (fun _ _ _ h => h) (Or.inl ⟨by rfl, ?_⟩) ?_ ?_
                            rotate_left
                            · intro w'
                              go_simp
                              with_reducible rfl
                            rotate_left
                            · simp only [Act.put, List.setIfInBounds_toArray, List.set_cons_zero, List.set_cons_succ, i64_w, i32_w]
                              rfl
                            refine pure_ (i := 7) (N := some 75) (v := undef) (a' := ?_) #[true, true, true, true, true, true, true, true, false, false, false, false, false, false] rfl rfl (any_of HT_.out (by kernel_rfl)) (fun _ _ _ h => h) (Or.inr ⟨by rfl, rfl⟩) ?_ ?_
                            rotate_left
                            · simp only [Act.put, List.setIfInBounds_toArray, List.set_cons_zero, List.set_cons_succ, i64_w, i32_w]
                              rfl
                            refine pure_ (i := 8) (N := some 76) (v := undef) (a' := ?_) #[true, true, true, true, true, true, true, true, true, false, false, false, false, false] rfl rfl (any_of HT_.out (by kernel_rfl)) (fun _ _ _ h => h) (Or.inr ⟨by rfl, rfl⟩) ?_ ?_
                            rotate_left
                            · simp only [Act.put, List.setIfInBounds_toArray, List.set_cons_zero, List.set_cons_succ, i64_w, i32_w]
                              rfl
                            refine pure_ (i := 9) (N := some 77) (v := undef) (a' := ?_) #[true, true, true, true, true, true, true, true, true, true, false, false, false, false] rfl rfl (any_of HT_.out (by kernel_rfl)) (fun _ _ _ h => h) (Or.inr ⟨by rfl, rfl⟩) ?_ ?_
                            rotate_left
                            · simp only [Act.put, List.setIfInBounds_toArray, List.set_cons_zero, List.set_cons_succ, i64_w, i32_w]
                              rfl
                            refine pure_ (i := 10) (N := some 78) (v := undef) (a' := ?_) #[true, true, true, true, true, true, true, true, true, true, true, false, false, false] rfl rfl (any_of HT_.out (by kernel_rfl)) (fun _ _ _ h => h) (Or.inr ⟨by rfl, rfl⟩) ?_ ?_
                            rotate_left
                            · simp only [Act.put, List.setIfInBounds_toArray, List.set_cons_zero, List.set_cons_succ, i64_w, i32_w]
                              rfl
                            refine pure_ (i := 11) (N := some 79) (v := undef) (a' := ?_) #[true, true, true, true, true, true, true, true, true, true, true, true, false, false] rfl rfl (any_of HT_.out (by kernel_rfl)) (fun _ _ _ h => h) (Or.inr ⟨by rfl, rfl⟩) ?_ ?_
                            rotate_left
                            · simp only [Act.put, List.setIfInBounds_toArray, List.set_cons_zero, List.set_cons_succ, i64_w, i32_w]
                              rfl
                            refine pure_ (i := 12) (N := some 80) (v := undef) (a' := ?_) #[true, true, true, true, true, true, true, true, true, true, true, true, true, false] rfl rfl (any_of HT_.out (by kernel_rfl)) (fun _ _ _ h => h) (Or.inr ⟨by rfl, rfl⟩) ?_ ?_
                            rotate_left
                            · simp only [Act.put, List.setIfInBounds_toArray, List.set_cons_zero, List.set_cons_succ, i64_w, i32_w]
                              rfl
                            refine pure_ (i := 13) (N := some 81) (v := ?_) (a' := ?_) #[true, true, true, true, true, true, true, true, true, true, true, true, true, true] rfl rfl (any_of HT_.out (by kernel_rfl)) (fun _ _ _ h => h) (Or.inl ⟨by rfl, ?_⟩) ?_ ?_
                            rotate_left
                            · intro w'
                              go_simp
                              with_reducible rfl
                            rotate_left
                            · simp only [Act.put, List.setIfInBounds_toArray, List.set_cons_zero, List.set_cons_succ, i64_w, i32_w]
                              rfl
                            refine done_ (done_of HT_.out (by kernel_rfl)) ?_
                            try go_wp2
                            go_meet
                            case rel => exact ⟨_, (true), (by first | rfl | (simp; done) | (simp [*]; done)), H', ⟨by have := HJ6.out; have := HJ25.out; have := HK3.out; first | omega | exact Nat.le_refl _⟩, ⟨by (with_reducible repeat (first | apply Kd.R_alloc | apply Kd.R_drewN | apply Kd.R_drew)); exact HO_8.out⟩, ⟨by (with_reducible repeat (first | refine blk_drewN ?_ _ | refine blk_drew ?_ | refine blk_alloc ?_ _)); exact BK302.out⟩, ⟨by (with_reducible repeat (first | refine blk_drewN ?_ _ | refine blk_drew ?_ | refine blk_alloc ?_ _)); exact BK303.out⟩, ⟨by repeat (first | (with_reducible exact HQt305.out) | (with_reducible refine WOK.alloc ?_ _) | (with_reducible refine WOK.drewN ?_ _) | (with_reducible refine WOK.drew ?_))⟩, ⟨by repeat (first | (with_reducible first | exact HB.out | apply below_alloc | apply pw_below_drewN | apply below_drew1 | refine below_set ?_ GE302.out | refine below_set ?_ GE303.out) | exact HB.out)⟩⟩
                        case rest =>
                          clear HC43
                          try clear c1
                          try clear p2
                          try clear p3
                          try clear q3
                          try clear hx3
                          try clear c4
                          try clear c16
                          try clear c17
                          try clear p31
                          try clear q31
                          try clear hx31
                          try clear c40
                          try clear c40b0
                          try clear c41
                          try clear c41b0
                          try clear c47
                          try clear c47b0
                          try clear c47b1
                          try clear c48
                          try clear hfz31_1
                          try clear hfz37_0
                          try clear hfz37_1
                          try clear hfz38_0
                          try clear hfz38_1
                          try clear hx315_0
                          try clear hx315_1
                          try clear hx318_0
                          try clear hx318_1
                          try clear p2
                          try clear p315
                          try clear p318
                          try clear q315
                          try clear q318
                          obtain ⟨kq, x81_42, rfl, HA, HJ42, HO_8, BK302, BK303, HQt305, HB⟩ := hcut
                          cases kq with
                          | zero => exact absurd HA.out (by simp [arbiterlaw07_ArraysSteps.j3])
                          | succ kj42 =>
                            have H := HA.out
                            clear HA
                            simp only [arbiterlaw07_ArraysSteps.j3] at H
                            by_cases c54 : x81_42 = true
                            · subst c54
                              have H1 : (some false) = some r := by rw [if_pos rfl] at H; exact H
                              clear H
                              have H := H1
                              clear H1
                              obtain rfl := Option.some.inj H
                              go_wp2
                              go_ret
                              exact ⟨by first | rfl | (simp [errW_none, errW_some] <;> rfl) | (simp [*, errW_none, errW_some] <;> rfl), by repeat (first | (with_reducible first | exact HB.out | apply below_alloc | apply pw_below_drewN | apply below_drew1 | refine below_set ?_ GE302.out | refine below_set ?_ GE303.out) | exact HB.out)⟩
                            · replace c54 := Bool.eq_false_iff.mpr c54
                              subst c54
                              have H1 : (if 0 ≤ x13_3 then (if x13_3 < (t308.length : Int) then ((arrays_Sub.f t305 ((rd_T28 t308 x13_3).f0) ((rd_T28 t308 x13_3).f1) a2_0 a2_1).bind fun bt321 => (if bt321.2 = 0 then (if x12_3 = true then (arbiterlaw07_ArraysSteps.l0 kj42 t305 t308 t312 true (wrap64 (x13_3 + 1)) a1_0 a1_1 a2_0 a2_1) else (arbiterlaw07_ArraysSteps.l0 kj42 t305 t308 t312 bt321.1 (wrap64 (x13_3 + 1)) a1_0 a1_1 a2_0 a2_1)) else (some false))) else (none)) else (none)) = some r := by rw [if_neg (show ¬ (false = true) by decide)] at H; exact H
                              clear H
                              have H := H1
                              clear H1
                              by_cases c55 : 0 ≤ x13_3
                              · rw [if_pos c55] at H
                                have c55b0 : decide (0 ≤ x13_3) = true := decide_eq_true c55
                                clear c55
                                by_cases c56 : x13_3 < (t308.length : Int)
                                · rw [if_pos c56] at H
                                  have c56b0 : decide (x13_3 < (t308.length : Int)) = true := decide_eq_true c56
                                  clear c56
                                  replace H := Option.bind_eq_some_iff.mp H
                                  obtain ⟨⟨t321, t322⟩, A570, H⟩ := H
                                  replace H : (if t322 = 0 then (if x12_3 = true then (arbiterlaw07_ArraysSteps.l0 kj42 t305 t308 t312 true (wrap64 (x13_3 + 1)) a1_0 a1_1 a2_0 a2_1) else (arbiterlaw07_ArraysSteps.l0 kj42 t305 t308 t312 t321 (wrap64 (x13_3 + 1)) a1_0 a1_1 a2_0 a2_1)) else (some false)) = some r := H
                                  have A57 := Aside0.mk A570
                                  clear A570
                                  by_cases c58 : t322 = 0
                                  · rw [if_pos c58] at H
                                    have c58b0 : (t322 == 0) = true := beq_iff_eq.mpr c58
                                    have c58b1 : (t322 != 0) = false := bne_eq_false_iff_eq.mpr c58
                                    clear c58
                                    by_cases c59 : x12_3 = true
                                    · subst c59
                                      have H1 : (arbiterlaw07_ArraysSteps.l0 kj42 t305 t308 t312 true (wrap64 (x13_3 + 1)) a1_0 a1_1 a2_0 a2_1) = some r := by rw [if_pos rfl] at H; exact H
                                      clear H
                                      have H := H1
                                      clear H1
                                      have H' := Aside0.mk H
                                      clear H
                                      try go_wp2
                                      have n0_ := Aside0.mk (Kd.R_drew HO_8.out)
                                      have n1_ := Aside0.mk (blk_drew BK302.out)
                                      have n2_ := Aside0.mk (blk_drew BK303.out)
                                      have n3_ := Aside0.mk (WOK.drew HQt305.out)
                                      have n4_ := Aside0.mk (below_drew1 HB.out)
                                      clear HO_8
                                      clear BK302
                                      clear BK303
                                      clear HQt305
                                      clear HB
                                      have HO_8 := n0_
                                      have BK302 := n1_
                                      have BK303 := n2_
                                      have HQt305 := n3_
                                      have HB := n4_
                                      clear n0_ n1_ n2_ n3_ n4_
                                      have p320 : 0 ≤ (x13_3 : Int) := of_decide_eq_true (by first | (with_reducible assumption) | assumption)
                                      have q320 : x13_3 < (t308.length : Int) := of_decide_eq_true (by first | (with_reducible assumption) | assumption)
                                      obtain ⟨ad320, e320, hx320_0, hx320_1⟩ := at_T28 (Kd.R_reads' HO_8.out).2.2 x13_3 p320 q320
                                      obtain rfl : ad315 = ad320 := (by injection e320)
                                      replace p320 := eq_true p320
                                      replace q320 := eq_true q320
                                      refine start_ (n := 12) (S := fun w' => w'.cell? ⟨gb303, 0, none⟩ = some (.int .i64 a2_0) ∧ w'.cell? ⟨gb303, 1, none⟩ = some (.string a2_1) ∧ w'.cell? (ad315.add ((x13_3).toNat * 2)) = some (.int .i64 ((rd_T28 t308 x13_3).f0)) ∧ w'.cell? ⟨(ad315.add ((x13_3).toNat * 2)).block, (ad315.add ((x13_3).toNat * 2)).off + 1, none⟩ = some (.string ((rd_T28 t308 x13_3).f1))) (ds := []) #[false, false, false, false, false, false, false, false, false, false, false, false] (by kernel_rfl) rfl rfl ⟨(blk_cell BK303.out 0).trans rfl, (blk_cell BK303.out 1).trans rfl, hx320_0, hx320_1⟩ (fun hHeld => ?_); refine with_tabW arbiterlaw07_ArraysSteps.tab17 arbiterlaw07_ArraysSteps.bits17 (fun HT_ HW_ => ?_)
                                      generalize wc.drew = w60 at HO_8 BK302 BK303 HQt305 HB hx320_0 hx320_1 hHeld ⊢
                                      refine pure_ (i := 0) (N := some 83) (v := ?_) (a' := ?_) #[true, false, false, false, false, false, false, false, false, false, false, false] rfl rfl (any_of HT_.out (by kernel_rfl)) (fun _ _ _ h => h) (Or.inl ⟨by rfl, ?_⟩) ?_ ?_
                                      rotate_left
                                      · intro w'
                                        go_simp
                                        with_reducible rfl
                                      rotate_left
                                      · simp only [Act.put, List.setIfInBounds_toArray, List.set_cons_zero, List.set_cons_succ, i64_w, i32_w]
                                        rfl
                                      refine pure_ (i := 1) (N := some 84) (v := ?_) (a' := ?_) #[true, true, false, false, false, false, false, false, false, false, false, false] rfl rfl (any_of HT_.out (by kernel_rfl)) (fun _ _ _ h => h) (Or.inl ⟨by rfl, ?_⟩) ?_ ?_
                                      rotate_left
                                      · intro w'
                                        go_simp
                                        with_reducible rfl
                                      rotate_left
                                      · simp only [Act.put, List.setIfInBounds_toArray, List.set_cons_zero, List.set_cons_succ, i64_w, i32_w]
                                        rfl
                                      refine pure_ (i := 2) (N := some 85) (v := ?_) (a' := ?_) #[true, true, true, false, false, false, false, false, false, false, false, false] rfl rfl (any_of HT_.out (by kernel_rfl)) (fun _ _ _ h => h) (Or.inl ⟨by rfl, ?_⟩) ?_ ?_
                                      rotate_left
                                      · intro w'
                                        go_simp
                                        with_reducible rfl
                                      rotate_left
                                      · simp only [Act.put, List.setIfInBounds_toArray, List.set_cons_zero, List.set_cons_succ, i64_w, i32_w]
                                        rfl
                                      refine pure_ (i := 3) (N := some 86) (v := ?_) (a' := ?_) #[true, true, true, true, false, false, false, false, false, false, false, false] rfl rfl (any_of HT_.out (by kernel_rfl)) (fun _ _ _ h => h) (Or.inl ⟨by rfl, ?_⟩) ?_ ?_
                                      rotate_left
                                      · intro w'
                                        go_simp
                                        with_reducible rfl
                                      rotate_left
                                      · simp only [Act.put, List.setIfInBounds_toArray, List.set_cons_zero, List.set_cons_succ, i64_w, i32_w]
                                        rfl
                                      refine take_ (i := 4) (N := some 87) (v := ?_) (a' := ?_) #[true, true, true, true, true, false, false, false, false, false, false, false] rfl rfl (take_ofW HT_.out HW_.out (by kernel_rfl)) (fun _ _ _ h => h) (Or.inl ⟨by rfl, ?_⟩) hHeld ?_ ?_
                                      rotate_left
                                      · rintro w' ⟨s0, s1, s2, s3⟩
                                        go_simp
                                        with_reducible rfl
                                      rotate_left
                                      · simp only [Act.put, List.setIfInBounds_toArray, List.set_cons_zero, List.set_cons_succ, i64_w, i32_w]
                                        rfl
                                      refine take_ (i := 5) (N := some 88) (v := ?_) (a' := ?_) #[true, true, true, true, true, true, false, false, false, false, false, false] rfl rfl (take_ofW HT_.out HW_.out (by kernel_rfl)) (fun _ _ _ h => h) (Or.inl ⟨by rfl, ?_⟩) hHeld ?_ ?_
                                      rotate_left
                                      · rintro w' ⟨s0, s1, s2, s3⟩
                                        go_simp
                                        with_reducible rfl
                                      rotate_left
                                      · simp only [Act.put, List.setIfInBounds_toArray, List.set_cons_zero, List.set_cons_succ, i64_w, i32_w]
                                        rfl
                                      refine one_ (i := 6) (N := some 89) #[true, true, true, true, true, true, true, false, false, false, false, false] rfl rfl (one_of HT_.out (by kernel_rfl)) (by decide) (fun K hK => ?_)
                                      refine goes_ Tryd.func16 (by kernel_rfl) rfl #[.pointer (some ⟨G_t305, 0, none⟩), .agg #[.int .i64 ((rd_T28 t308 x13_3).f0), .string ((rd_T28 t308 x13_3).f1)], .agg #[.int .i64 a2_0, .string a2_1]] (by rfl) rfl rfl (by (try simp only [List.map_toArray, List.map_cons, List.map_nil]); first | done | rfl | (simp only [List.length_drop, List.length_take]; rfl)) ?_
                                      with_reducible refine (arrays_Sub.calls G_t305 t305 ((rd_T28 t308 x13_3).f0) ((rd_T28 t308 x13_3).f1) a2_0 a2_1 t321 t322 _ ?side1 A57.out).mono ?_
                                      (case side1 => repeat (first | (with_reducible exact HQt305.out) | (with_reducible refine WOK.alloc ?_ _) | (with_reducible refine WOK.drewN ?_ _) | (with_reducible refine WOK.drew ?_)))
                                      rintro e w61 ⟨rfl, hb⟩
                                      have HS2_ := (hb.cell (World.block_lt_of_cell? _ _ (hHeld.2.2.1))).trans (hHeld.2.2.1)
                                      have HS3_ := (hb.cell (World.block_lt_of_cell? _ _ (hHeld.2.2.2))).trans (hHeld.2.2.2)
                                      refine ⟨_, rfl, ?_⟩
                                      have n0_ := Aside0.mk (Kd.R_below (by (with_reducible repeat (first | apply Kd.R_alloc | apply Kd.R_drewN | apply Kd.R_drew)); exact HO_8.out) hb)
                                      have n1_ := Aside0.mk (blk_below (g := gb302) (o := .cells #[.int .i64 a1_0, .string a1_1] 28 (0, 0)) (by (with_reducible repeat (first | refine blk_drewN ?_ _ | refine blk_drew ?_ | refine blk_alloc ?_ _)); exact BK302.out) hb)
                                      have n2_ := Aside0.mk (blk_below (g := gb303) (o := .cells #[.int .i64 a2_0, .string a2_1] 28 (0, 0)) (by (with_reducible repeat (first | refine blk_drewN ?_ _ | refine blk_drew ?_ | refine blk_alloc ?_ _)); exact BK303.out) hb)
                                      have n3_ := Aside0.mk (WOK.below (g := G_t305) (es := t305) (by repeat (first | (with_reducible exact HQt305.out) | (with_reducible refine WOK.alloc ?_ _) | (with_reducible refine WOK.drewN ?_ _) | (with_reducible refine WOK.drew ?_))) hb)
                                      have n4_ := Aside0.mk (below_step (by repeat (first | (with_reducible first | exact HB.out | apply below_alloc | apply pw_below_drewN | apply below_drew1 | refine below_set ?_ GE302.out | refine below_set ?_ GE303.out) | exact HB.out)) hb)
                                      clear HO_8
                                      clear BK302
                                      clear BK303
                                      clear HQt305
                                      clear HB
                                      have HO_8 := n0_
                                      have BK302 := n1_
                                      have BK303 := n2_
                                      have HQt305 := n3_
                                      have HB := n4_
                                      clear n0_ n1_ n2_ n3_ n4_
                                      (try clear hb)
                                      (try clear hb2)
                                      (try clear hk)
                                      (try clear hi)
                                      refine hK.out _ _ ⟨(blk_cell BK303.out 0).trans rfl, (blk_cell BK303.out 1).trans rfl, HS2_, HS3_⟩ (fun hHeld => ?_)
                                      clear hK K
                                      refine norm_ (a' := ?_) ?_ ?_
                                      rotate_left
                                      · show Act.put _ (some 89) _ = _
                                        simp only [Act.put, List.setIfInBounds_toArray, List.set_cons_zero, List.set_cons_succ, i64_w, i32_w]
                                        rfl
                                      refine pure_ (i := 7) (N := some 82) (v := ?_) (a' := ?_) #[true, true, true, true, true, true, true, true, false, false, false, false] rfl rfl (any_of HT_.out (by kernel_rfl)) (fun _ _ _ h => h) (Or.inl ⟨by rfl, ?_⟩) ?_ ?_
                                      rotate_left
                                      · intro w'
                                        go_simp
                                        with_reducible rfl
                                      rotate_left
                                      · simp only [Act.put, List.setIfInBounds_toArray, List.set_cons_zero, List.set_cons_succ, i64_w, i32_w]
                                        rfl
                                      refine pure_ (i := 8) (N := some 90) (v := ?_) (a' := ?_) #[true, true, true, true, true, true, true, true, true, false, false, false] rfl rfl (any_of HT_.out (by kernel_rfl)) (fun _ _ _ h => h) (Or.inl ⟨by rfl, ?_⟩) ?_ ?_
                                      rotate_left
                                      · intro w'
                                        go_simp
                                        with_reducible rfl
                                      rotate_left
                                      · simp only [Act.put, List.setIfInBounds_toArray, List.set_cons_zero, List.set_cons_succ, i64_w, i32_w]
                                        rfl
                                      refine pure_ (i := 9) (N := some 91) (v := ?_) (a' := ?_) #[true, true, true, true, true, true, true, true, true, true, false, false] rfl rfl (any_of HT_.out (by kernel_rfl)) (fun _ _ _ h => h) (Or.inl ⟨by rfl, ?_⟩) ?_ ?_
                                      rotate_left
                                      · intro w'
                                        go_simp
                                        with_reducible rfl
                                      rotate_left
                                      · simp only [Act.put, List.setIfInBounds_toArray, List.set_cons_zero, List.set_cons_succ, i64_w, i32_w]
                                        rfl
                                      refine pure_ (i := 10) (N := some 14) (v := ?_) (a' := ?_) #[true, true, true, true, true, true, true, true, true, true, true, false] rfl rfl (any_of HT_.out (by kernel_rfl)) (fun _ _ _ h => h) (Or.inl ⟨by rfl, ?_⟩) ?_ ?_
                                      rotate_left
                                      · intro w'
                                        go_simp
                                        with_reducible rfl
                                      rotate_left
                                      · simp only [Act.put, List.setIfInBounds_toArray, List.set_cons_zero, List.set_cons_succ, i64_w, i32_w]
                                        rfl
                                      refine pure_ (i := 11) (N := some 15) (v := ?_) (a' := ?_) #[true, true, true, true, true, true, true, true, true, true, true, true] rfl rfl (any_of HT_.out (by kernel_rfl)) (fun _ _ _ h => h) (Or.inl ⟨by rfl, ?_⟩) ?_ ?_
                                      rotate_left
                                      · intro w'
                                        go_simp
                                        with_reducible rfl
                                      rotate_left
                                      · simp only [Act.put, List.setIfInBounds_toArray, List.set_cons_zero, List.set_cons_succ, i64_w, i32_w]
                                        rfl
                                      refine done_ (done_of HT_.out (by kernel_rfl)) ?_
                                      try go_wp2
                                      go_roundg kj42
                                      case measure => have := HJ6.out; have := HJ25.out; have := HK3.out; have := HJ42.out; omega
                                      case rel => exact ⟨(true), (wrap64 (x13_3 + 1)), (by first | rfl | (simp; done) | (simp [*]; done)), (by first | rfl | (simp; done) | (simp [*]; done)), H', ⟨by have := HJ6.out; have := HJ25.out; have := HK3.out; have := HJ42.out; omega⟩, ⟨by (with_reducible repeat (first | apply Kd.R_alloc | apply Kd.R_drewN | apply Kd.R_drew)); exact HO_8.out⟩, ⟨by (with_reducible repeat (first | refine blk_drewN ?_ _ | refine blk_drew ?_ | refine blk_alloc ?_ _)); exact BK302.out⟩, ⟨by (with_reducible repeat (first | refine blk_drewN ?_ _ | refine blk_drew ?_ | refine blk_alloc ?_ _)); exact BK303.out⟩, ⟨by repeat (first | (with_reducible exact HQt305.out) | (with_reducible refine WOK.alloc ?_ _) | (with_reducible refine WOK.drewN ?_ _) | (with_reducible refine WOK.drew ?_))⟩, ⟨by repeat (first | (with_reducible first | exact HB.out | apply below_alloc | apply pw_below_drewN | apply below_drew1 | refine below_set ?_ GE302.out | refine below_set ?_ GE303.out) | exact HB.out)⟩⟩
                                    · replace c59 := Bool.eq_false_iff.mpr c59
                                      subst c59
                                      have H1 : (arbiterlaw07_ArraysSteps.l0 kj42 t305 t308 t312 t321 (wrap64 (x13_3 + 1)) a1_0 a1_1 a2_0 a2_1) = some r := by rw [if_neg (show ¬ (false = true) by decide)] at H; exact H
                                      clear H
                                      have H := H1
                                      clear H1
                                      have H' := Aside0.mk H
                                      clear H
                                      try go_wp2
                                      have n0_ := Aside0.mk (Kd.R_drew HO_8.out)
                                      have n1_ := Aside0.mk (blk_drew BK302.out)
                                      have n2_ := Aside0.mk (blk_drew BK303.out)
                                      have n3_ := Aside0.mk (WOK.drew HQt305.out)
                                      have n4_ := Aside0.mk (below_drew1 HB.out)
                                      clear HO_8
                                      clear BK302
                                      clear BK303
                                      clear HQt305
                                      clear HB
                                      have HO_8 := n0_
                                      have BK302 := n1_
                                      have BK303 := n2_
                                      have HQt305 := n3_
                                      have HB := n4_
                                      clear n0_ n1_ n2_ n3_ n4_
                                      have p320 : 0 ≤ (x13_3 : Int) := of_decide_eq_true (by first | (with_reducible assumption) | assumption)
                                      have q320 : x13_3 < (t308.length : Int) := of_decide_eq_true (by first | (with_reducible assumption) | assumption)
                                      obtain ⟨ad320, e320, hx320_0, hx320_1⟩ := at_T28 (Kd.R_reads' HO_8.out).2.2 x13_3 p320 q320
                                      obtain rfl : ad315 = ad320 := (by injection e320)
                                      replace p320 := eq_true p320
                                      replace q320 := eq_true q320
                                      refine start_ (n := 12) (S := fun w' => w'.cell? ⟨gb303, 0, none⟩ = some (.int .i64 a2_0) ∧ w'.cell? ⟨gb303, 1, none⟩ = some (.string a2_1) ∧ w'.cell? (ad315.add ((x13_3).toNat * 2)) = some (.int .i64 ((rd_T28 t308 x13_3).f0)) ∧ w'.cell? ⟨(ad315.add ((x13_3).toNat * 2)).block, (ad315.add ((x13_3).toNat * 2)).off + 1, none⟩ = some (.string ((rd_T28 t308 x13_3).f1))) (ds := []) #[false, false, false, false, false, false, false, false, false, false, false, false] (by kernel_rfl) rfl rfl ⟨(blk_cell BK303.out 0).trans rfl, (blk_cell BK303.out 1).trans rfl, hx320_0, hx320_1⟩ (fun hHeld => ?_); refine with_tabW arbiterlaw07_ArraysSteps.tab17 arbiterlaw07_ArraysSteps.bits17 (fun HT_ HW_ => ?_)
                                      generalize wc.drew = w62 at HO_8 BK302 BK303 HQt305 HB hx320_0 hx320_1 hHeld ⊢
                                      refine pure_ (i := 0) (N := some 83) (v := ?_) (a' := ?_) #[true, false, false, false, false, false, false, false, false, false, false, false] rfl rfl (any_of HT_.out (by kernel_rfl)) (fun _ _ _ h => h) (Or.inl ⟨by rfl, ?_⟩) ?_ ?_
                                      rotate_left
                                      · intro w'
                                        go_simp
                                        with_reducible rfl
                                      rotate_left
                                      · simp only [Act.put, List.setIfInBounds_toArray, List.set_cons_zero, List.set_cons_succ, i64_w, i32_w]
                                        rfl
                                      refine pure_ (i := 1) (N := some 84) (v := ?_) (a' := ?_) #[true, true, false, false, false, false, false, false, false, false, false, false] rfl rfl (any_of HT_.out (by kernel_rfl)) (fun _ _ _ h => h) (Or.inl ⟨by rfl, ?_⟩) ?_ ?_
                                      rotate_left
                                      · intro w'
                                        go_simp
                                        with_reducible rfl
                                      rotate_left
                                      · simp only [Act.put, List.setIfInBounds_toArray, List.set_cons_zero, List.set_cons_succ, i64_w, i32_w]
                                        rfl
                                      refine pure_ (i := 2) (N := some 85) (v := ?_) (a' := ?_) #[true, true, true, false, false, false, false, false, false, false, false, false] rfl rfl (any_of HT_.out (by kernel_rfl)) (fun _ _ _ h => h) (Or.inl ⟨by rfl, ?_⟩) ?_ ?_
                                      rotate_left
                                      · intro w'
                                        go_simp
                                        with_reducible rfl
                                      rotate_left
                                      · simp only [Act.put, List.setIfInBounds_toArray, List.set_cons_zero, List.set_cons_succ, i64_w, i32_w]
                                        rfl
                                      refine pure_ (i := 3) (N := some 86) (v := ?_) (a' := ?_) #[true, true, true, true, false, false, false, false, false, false, false, false] rfl rfl (any_of HT_.out (by kernel_rfl)) (fun _ _ _ h => h) (Or.inl ⟨by rfl, ?_⟩) ?_ ?_
                                      rotate_left
                                      · intro w'
                                        go_simp
                                        with_reducible rfl
                                      rotate_left
                                      · simp only [Act.put, List.setIfInBounds_toArray, List.set_cons_zero, List.set_cons_succ, i64_w, i32_w]
                                        rfl
                                      refine take_ (i := 4) (N := some 87) (v := ?_) (a' := ?_) #[true, true, true, true, true, false, false, false, false, false, false, false] rfl rfl (take_ofW HT_.out HW_.out (by kernel_rfl)) (fun _ _ _ h => h) (Or.inl ⟨by rfl, ?_⟩) hHeld ?_ ?_
                                      rotate_left
                                      · rintro w' ⟨s0, s1, s2, s3⟩
                                        go_simp
                                        with_reducible rfl
                                      rotate_left
                                      · simp only [Act.put, List.setIfInBounds_toArray, List.set_cons_zero, List.set_cons_succ, i64_w, i32_w]
                                        rfl
                                      refine take_ (i := 5) (N := some 88) (v := ?_) (a' := ?_) #[true, true, true, true, true, true, false, false, false, false, false, false] rfl rfl (take_ofW HT_.out HW_.out (by kernel_rfl)) (fun _ _ _ h => h) (Or.inl ⟨by rfl, ?_⟩) hHeld ?_ ?_
                                      rotate_left
                                      · rintro w' ⟨s0, s1, s2, s3⟩
                                        go_simp
                                        with_reducible rfl
                                      rotate_left
                                      · simp only [Act.put, List.setIfInBounds_toArray, List.set_cons_zero, List.set_cons_succ, i64_w, i32_w]
                                        rfl
                                      refine one_ (i := 6) (N := some 89) #[true, true, true, true, true, true, true, false, false, false, false, false] rfl rfl (one_of HT_.out (by kernel_rfl)) (by decide) (fun K hK => ?_)
                                      refine goes_ Tryd.func16 (by kernel_rfl) rfl #[.pointer (some ⟨G_t305, 0, none⟩), .agg #[.int .i64 ((rd_T28 t308 x13_3).f0), .string ((rd_T28 t308 x13_3).f1)], .agg #[.int .i64 a2_0, .string a2_1]] (by rfl) rfl rfl (by (try simp only [List.map_toArray, List.map_cons, List.map_nil]); first | done | rfl | (simp only [List.length_drop, List.length_take]; rfl)) ?_
                                      with_reducible refine (arrays_Sub.calls G_t305 t305 ((rd_T28 t308 x13_3).f0) ((rd_T28 t308 x13_3).f1) a2_0 a2_1 t321 t322 _ ?side1 A57.out).mono ?_
                                      (case side1 => repeat (first | (with_reducible exact HQt305.out) | (with_reducible refine WOK.alloc ?_ _) | (with_reducible refine WOK.drewN ?_ _) | (with_reducible refine WOK.drew ?_)))
                                      rintro e w63 ⟨rfl, hb⟩
                                      have HS2_ := (hb.cell (World.block_lt_of_cell? _ _ (hHeld.2.2.1))).trans (hHeld.2.2.1)
                                      have HS3_ := (hb.cell (World.block_lt_of_cell? _ _ (hHeld.2.2.2))).trans (hHeld.2.2.2)
                                      refine ⟨_, rfl, ?_⟩
                                      have n0_ := Aside0.mk (Kd.R_below (by (with_reducible repeat (first | apply Kd.R_alloc | apply Kd.R_drewN | apply Kd.R_drew)); exact HO_8.out) hb)
                                      have n1_ := Aside0.mk (blk_below (g := gb302) (o := .cells #[.int .i64 a1_0, .string a1_1] 28 (0, 0)) (by (with_reducible repeat (first | refine blk_drewN ?_ _ | refine blk_drew ?_ | refine blk_alloc ?_ _)); exact BK302.out) hb)
                                      have n2_ := Aside0.mk (blk_below (g := gb303) (o := .cells #[.int .i64 a2_0, .string a2_1] 28 (0, 0)) (by (with_reducible repeat (first | refine blk_drewN ?_ _ | refine blk_drew ?_ | refine blk_alloc ?_ _)); exact BK303.out) hb)
                                      have n3_ := Aside0.mk (WOK.below (g := G_t305) (es := t305) (by repeat (first | (with_reducible exact HQt305.out) | (with_reducible refine WOK.alloc ?_ _) | (with_reducible refine WOK.drewN ?_ _) | (with_reducible refine WOK.drew ?_))) hb)
                                      have n4_ := Aside0.mk (below_step (by repeat (first | (with_reducible first | exact HB.out | apply below_alloc | apply pw_below_drewN | apply below_drew1 | refine below_set ?_ GE302.out | refine below_set ?_ GE303.out) | exact HB.out)) hb)
                                      clear HO_8
                                      clear BK302
                                      clear BK303
                                      clear HQt305
                                      clear HB
                                      have HO_8 := n0_
                                      have BK302 := n1_
                                      have BK303 := n2_
                                      have HQt305 := n3_
                                      have HB := n4_
                                      clear n0_ n1_ n2_ n3_ n4_
                                      (try clear hb)
                                      (try clear hb2)
                                      (try clear hk)
                                      (try clear hi)
                                      refine hK.out _ _ ⟨(blk_cell BK303.out 0).trans rfl, (blk_cell BK303.out 1).trans rfl, HS2_, HS3_⟩ (fun hHeld => ?_)
                                      clear hK K
                                      refine norm_ (a' := ?_) ?_ ?_
                                      rotate_left
                                      · show Act.put _ (some 89) _ = _
                                        simp only [Act.put, List.setIfInBounds_toArray, List.set_cons_zero, List.set_cons_succ, i64_w, i32_w]
                                        rfl
                                      refine pure_ (i := 7) (N := some 82) (v := ?_) (a' := ?_) #[true, true, true, true, true, true, true, true, false, false, false, false] rfl rfl (any_of HT_.out (by kernel_rfl)) (fun _ _ _ h => h) (Or.inl ⟨by rfl, ?_⟩) ?_ ?_
                                      rotate_left
                                      · intro w'
                                        go_simp
                                        with_reducible rfl
                                      rotate_left
                                      · simp only [Act.put, List.setIfInBounds_toArray, List.set_cons_zero, List.set_cons_succ, i64_w, i32_w]
                                        rfl
                                      refine pure_ (i := 8) (N := some 90) (v := ?_) (a' := ?_) #[true, true, true, true, true, true, true, true, true, false, false, false] rfl rfl (any_of HT_.out (by kernel_rfl)) (fun _ _ _ h => h) (Or.inl ⟨by rfl, ?_⟩) ?_ ?_
                                      rotate_left
                                      · intro w'
                                        go_simp
                                        with_reducible rfl
                                      rotate_left
                                      · simp only [Act.put, List.setIfInBounds_toArray, List.set_cons_zero, List.set_cons_succ, i64_w, i32_w]
                                        rfl
                                      refine pure_ (i := 9) (N := some 91) (v := ?_) (a' := ?_) #[true, true, true, true, true, true, true, true, true, true, false, false] rfl rfl (any_of HT_.out (by kernel_rfl)) (fun _ _ _ h => h) (Or.inl ⟨by rfl, ?_⟩) ?_ ?_
                                      rotate_left
                                      · intro w'
                                        go_simp
                                        with_reducible rfl
                                      rotate_left
                                      · simp only [Act.put, List.setIfInBounds_toArray, List.set_cons_zero, List.set_cons_succ, i64_w, i32_w]
                                        rfl
                                      refine pure_ (i := 10) (N := some 14) (v := ?_) (a' := ?_) #[true, true, true, true, true, true, true, true, true, true, true, false] rfl rfl (any_of HT_.out (by kernel_rfl)) (fun _ _ _ h => h) (Or.inl ⟨by rfl, ?_⟩) ?_ ?_
                                      rotate_left
                                      · intro w'
                                        go_simp
                                        with_reducible rfl
                                      rotate_left
                                      · simp only [Act.put, List.setIfInBounds_toArray, List.set_cons_zero, List.set_cons_succ, i64_w, i32_w]
                                        rfl
                                      refine pure_ (i := 11) (N := some 15) (v := ?_) (a' := ?_) #[true, true, true, true, true, true, true, true, true, true, true, true] rfl rfl (any_of HT_.out (by kernel_rfl)) (fun _ _ _ h => h) (Or.inl ⟨by rfl, ?_⟩) ?_ ?_
                                      rotate_left
                                      · intro w'
                                        go_simp
                                        with_reducible rfl
                                      rotate_left
                                      · simp only [Act.put, List.setIfInBounds_toArray, List.set_cons_zero, List.set_cons_succ, i64_w, i32_w]
                                        rfl
                                      refine done_ (done_of HT_.out (by kernel_rfl)) ?_
                                      try go_wp2
                                      go_roundg kj42
                                      case measure => have := HJ6.out; have := HJ25.out; have := HK3.out; have := HJ42.out; omega
                                      case rel => exact ⟨(t321), (wrap64 (x13_3 + 1)), (by first | rfl | (simp; done) | (simp [*]; done)), (by first | rfl | (simp; done) | (simp [*]; done)), H', ⟨by have := HJ6.out; have := HJ25.out; have := HK3.out; have := HJ42.out; omega⟩, ⟨by (with_reducible repeat (first | apply Kd.R_alloc | apply Kd.R_drewN | apply Kd.R_drew)); exact HO_8.out⟩, ⟨by (with_reducible repeat (first | refine blk_drewN ?_ _ | refine blk_drew ?_ | refine blk_alloc ?_ _)); exact BK302.out⟩, ⟨by (with_reducible repeat (first | refine blk_drewN ?_ _ | refine blk_drew ?_ | refine blk_alloc ?_ _)); exact BK303.out⟩, ⟨by repeat (first | (with_reducible exact HQt305.out) | (with_reducible refine WOK.alloc ?_ _) | (with_reducible refine WOK.drewN ?_ _) | (with_reducible refine WOK.drew ?_))⟩, ⟨by repeat (first | (with_reducible first | exact HB.out | apply below_alloc | apply pw_below_drewN | apply below_drew1 | refine below_set ?_ GE302.out | refine below_set ?_ GE303.out) | exact HB.out)⟩⟩
                                  · rw [if_neg c58] at H
                                    have c58b0 : (t322 == 0) = false := beq_eq_false_iff_ne.mpr c58
                                    have c58b1 : (t322 != 0) = true := bne_iff_ne.mpr c58
                                    obtain rfl := Option.some.inj H
                                    try go_wp2
                                    have n0_ := Aside0.mk (Kd.R_drew HO_8.out)
                                    have n1_ := Aside0.mk (blk_drew BK302.out)
                                    have n2_ := Aside0.mk (blk_drew BK303.out)
                                    have n3_ := Aside0.mk (WOK.drew HQt305.out)
                                    have n4_ := Aside0.mk (below_drew1 HB.out)
                                    clear HO_8
                                    clear BK302
                                    clear BK303
                                    clear HQt305
                                    clear HB
                                    have HO_8 := n0_
                                    have BK302 := n1_
                                    have BK303 := n2_
                                    have HQt305 := n3_
                                    have HB := n4_
                                    clear n0_ n1_ n2_ n3_ n4_
                                    have p320 : 0 ≤ (x13_3 : Int) := of_decide_eq_true (by first | (with_reducible assumption) | assumption)
                                    have q320 : x13_3 < (t308.length : Int) := of_decide_eq_true (by first | (with_reducible assumption) | assumption)
                                    obtain ⟨ad320, e320, hx320_0, hx320_1⟩ := at_T28 (Kd.R_reads' HO_8.out).2.2 x13_3 p320 q320
                                    obtain rfl : ad315 = ad320 := (by injection e320)
                                    replace p320 := eq_true p320
                                    replace q320 := eq_true q320
                                    refine start_ (n := 12) (S := fun w' => w'.cell? ⟨gb303, 0, none⟩ = some (.int .i64 a2_0) ∧ w'.cell? ⟨gb303, 1, none⟩ = some (.string a2_1) ∧ w'.cell? (ad315.add ((x13_3).toNat * 2)) = some (.int .i64 ((rd_T28 t308 x13_3).f0)) ∧ w'.cell? ⟨(ad315.add ((x13_3).toNat * 2)).block, (ad315.add ((x13_3).toNat * 2)).off + 1, none⟩ = some (.string ((rd_T28 t308 x13_3).f1))) (ds := []) #[false, false, false, false, false, false, false, false, false, false, false, false] (by kernel_rfl) rfl rfl ⟨(blk_cell BK303.out 0).trans rfl, (blk_cell BK303.out 1).trans rfl, hx320_0, hx320_1⟩ (fun hHeld => ?_); refine with_tabW arbiterlaw07_ArraysSteps.tab17 arbiterlaw07_ArraysSteps.bits17 (fun HT_ HW_ => ?_)
                                    generalize wc.drew = w64 at HO_8 BK302 BK303 HQt305 HB hx320_0 hx320_1 hHeld ⊢
                                    refine pure_ (i := 0) (N := some 83) (v := ?_) (a' := ?_) #[true, false, false, false, false, false, false, false, false, false, false, false] rfl rfl (any_of HT_.out (by kernel_rfl)) (fun _ _ _ h => h) (Or.inl ⟨by rfl, ?_⟩) ?_ ?_
                                    rotate_left
                                    · intro w'
                                      go_simp
                                      with_reducible rfl
                                    rotate_left
                                    · simp only [Act.put, List.setIfInBounds_toArray, List.set_cons_zero, List.set_cons_succ, i64_w, i32_w]
                                      rfl
                                    refine pure_ (i := 1) (N := some 84) (v := ?_) (a' := ?_) #[true, true, false, false, false, false, false, false, false, false, false, false] rfl rfl (any_of HT_.out (by kernel_rfl)) (fun _ _ _ h => h) (Or.inl ⟨by rfl, ?_⟩) ?_ ?_
                                    rotate_left
                                    · intro w'
                                      go_simp
                                      with_reducible rfl
                                    rotate_left
                                    · simp only [Act.put, List.setIfInBounds_toArray, List.set_cons_zero, List.set_cons_succ, i64_w, i32_w]
                                      rfl
                                    refine pure_ (i := 2) (N := some 85) (v := ?_) (a' := ?_) #[true, true, true, false, false, false, false, false, false, false, false, false] rfl rfl (any_of HT_.out (by kernel_rfl)) (fun _ _ _ h => h) (Or.inl ⟨by rfl, ?_⟩) ?_ ?_
                                    rotate_left
                                    · intro w'
                                      go_simp
                                      with_reducible rfl
                                    rotate_left
                                    · simp only [Act.put, List.setIfInBounds_toArray, List.set_cons_zero, List.set_cons_succ, i64_w, i32_w]
                                      rfl
                                    refine pure_ (i := 3) (N := some 86) (v := ?_) (a' := ?_) #[true, true, true, true, false, false, false, false, false, false, false, false] rfl rfl (any_of HT_.out (by kernel_rfl)) (fun _ _ _ h => h) (Or.inl ⟨by rfl, ?_⟩) ?_ ?_
                                    rotate_left
                                    · intro w'
                                      go_simp
                                      with_reducible rfl
                                    rotate_left
                                    · simp only [Act.put, List.setIfInBounds_toArray, List.set_cons_zero, List.set_cons_succ, i64_w, i32_w]
                                      rfl
                                    refine take_ (i := 4) (N := some 87) (v := ?_) (a' := ?_) #[true, true, true, true, true, false, false, false, false, false, false, false] rfl rfl (take_ofW HT_.out HW_.out (by kernel_rfl)) (fun _ _ _ h => h) (Or.inl ⟨by rfl, ?_⟩) hHeld ?_ ?_
                                    rotate_left
                                    · rintro w' ⟨s0, s1, s2, s3⟩
                                      go_simp
                                      with_reducible rfl
                                    rotate_left
                                    · simp only [Act.put, List.setIfInBounds_toArray, List.set_cons_zero, List.set_cons_succ, i64_w, i32_w]
                                      rfl
                                    refine take_ (i := 5) (N := some 88) (v := ?_) (a' := ?_) #[true, true, true, true, true, true, false, false, false, false, false, false] rfl rfl (take_ofW HT_.out HW_.out (by kernel_rfl)) (fun _ _ _ h => h) (Or.inl ⟨by rfl, ?_⟩) hHeld ?_ ?_
                                    rotate_left
                                    · rintro w' ⟨s0, s1, s2, s3⟩
                                      go_simp
                                      with_reducible rfl
                                    rotate_left
                                    · simp only [Act.put, List.setIfInBounds_toArray, List.set_cons_zero, List.set_cons_succ, i64_w, i32_w]
                                      rfl
                                    refine one_ (i := 6) (N := some 89) #[true, true, true, true, true, true, true, false, false, false, false, false] rfl rfl (one_of HT_.out (by kernel_rfl)) (by decide) (fun K hK => ?_)
                                    refine goes_ Tryd.func16 (by kernel_rfl) rfl #[.pointer (some ⟨G_t305, 0, none⟩), .agg #[.int .i64 ((rd_T28 t308 x13_3).f0), .string ((rd_T28 t308 x13_3).f1)], .agg #[.int .i64 a2_0, .string a2_1]] (by rfl) rfl rfl (by (try simp only [List.map_toArray, List.map_cons, List.map_nil]); first | done | rfl | (simp only [List.length_drop, List.length_take]; rfl)) ?_
                                    with_reducible refine (arrays_Sub.calls G_t305 t305 ((rd_T28 t308 x13_3).f0) ((rd_T28 t308 x13_3).f1) a2_0 a2_1 t321 t322 _ ?side1 A57.out).mono ?_
                                    (case side1 => repeat (first | (with_reducible exact HQt305.out) | (with_reducible refine WOK.alloc ?_ _) | (with_reducible refine WOK.drewN ?_ _) | (with_reducible refine WOK.drew ?_)))
                                    rintro e w65 ⟨rfl, hb⟩
                                    have HS2_ := (hb.cell (World.block_lt_of_cell? _ _ (hHeld.2.2.1))).trans (hHeld.2.2.1)
                                    have HS3_ := (hb.cell (World.block_lt_of_cell? _ _ (hHeld.2.2.2))).trans (hHeld.2.2.2)
                                    refine ⟨_, rfl, ?_⟩
                                    have n0_ := Aside0.mk (Kd.R_below (by (with_reducible repeat (first | apply Kd.R_alloc | apply Kd.R_drewN | apply Kd.R_drew)); exact HO_8.out) hb)
                                    have n1_ := Aside0.mk (blk_below (g := gb302) (o := .cells #[.int .i64 a1_0, .string a1_1] 28 (0, 0)) (by (with_reducible repeat (first | refine blk_drewN ?_ _ | refine blk_drew ?_ | refine blk_alloc ?_ _)); exact BK302.out) hb)
                                    have n2_ := Aside0.mk (blk_below (g := gb303) (o := .cells #[.int .i64 a2_0, .string a2_1] 28 (0, 0)) (by (with_reducible repeat (first | refine blk_drewN ?_ _ | refine blk_drew ?_ | refine blk_alloc ?_ _)); exact BK303.out) hb)
                                    have n3_ := Aside0.mk (WOK.below (g := G_t305) (es := t305) (by repeat (first | (with_reducible exact HQt305.out) | (with_reducible refine WOK.alloc ?_ _) | (with_reducible refine WOK.drewN ?_ _) | (with_reducible refine WOK.drew ?_))) hb)
                                    have n4_ := Aside0.mk (below_step (by repeat (first | (with_reducible first | exact HB.out | apply below_alloc | apply pw_below_drewN | apply below_drew1 | refine below_set ?_ GE302.out | refine below_set ?_ GE303.out) | exact HB.out)) hb)
                                    clear HO_8
                                    clear BK302
                                    clear BK303
                                    clear HQt305
                                    clear HB
                                    have HO_8 := n0_
                                    have BK302 := n1_
                                    have BK303 := n2_
                                    have HQt305 := n3_
                                    have HB := n4_
                                    clear n0_ n1_ n2_ n3_ n4_
                                    (try clear hb)
                                    (try clear hb2)
                                    (try clear hk)
                                    (try clear hi)
                                    refine hK.out _ _ ⟨(blk_cell BK303.out 0).trans rfl, (blk_cell BK303.out 1).trans rfl, HS2_, HS3_⟩ (fun hHeld => ?_)
                                    clear hK K
                                    refine norm_ (a' := ?_) ?_ ?_
                                    rotate_left
                                    · show Act.put _ (some 89) _ = _
                                      simp only [Act.put, List.setIfInBounds_toArray, List.set_cons_zero, List.set_cons_succ, i64_w, i32_w]
                                      rfl
                                    refine pure_ (i := 7) (N := some 82) (v := ?_) (a' := ?_) #[true, true, true, true, true, true, true, true, false, false, false, false] rfl rfl (any_of HT_.out (by kernel_rfl)) (fun _ _ _ h => h) (Or.inl ⟨by rfl, ?_⟩) ?_ ?_
                                    rotate_left
                                    · intro w'
                                      go_simp
                                      with_reducible rfl
                                    rotate_left
                                    · simp only [Act.put, List.setIfInBounds_toArray, List.set_cons_zero, List.set_cons_succ, i64_w, i32_w]
                                      rfl
                                    refine pure_ (i := 8) (N := some 90) (v := ?_) (a' := ?_) #[true, true, true, true, true, true, true, true, true, false, false, false] rfl rfl (any_of HT_.out (by kernel_rfl)) (fun _ _ _ h => h) (Or.inl ⟨by rfl, ?_⟩) ?_ ?_
                                    rotate_left
                                    · intro w'
                                      go_simp
                                      with_reducible rfl
                                    rotate_left
                                    · simp only [Act.put, List.setIfInBounds_toArray, List.set_cons_zero, List.set_cons_succ, i64_w, i32_w]
                                      rfl
                                    refine pure_ (i := 9) (N := some 91) (v := ?_) (a' := ?_) #[true, true, true, true, true, true, true, true, true, true, false, false] rfl rfl (any_of HT_.out (by kernel_rfl)) (fun _ _ _ h => h) (Or.inl ⟨by rfl, ?_⟩) ?_ ?_
                                    rotate_left
                                    · intro w'
                                      go_simp
                                      with_reducible rfl
                                    rotate_left
                                    · simp only [Act.put, List.setIfInBounds_toArray, List.set_cons_zero, List.set_cons_succ, i64_w, i32_w]
                                      rfl
                                    refine pure_ (i := 10) (N := some 14) (v := ?_) (a' := ?_) #[true, true, true, true, true, true, true, true, true, true, true, false] rfl rfl (any_of HT_.out (by kernel_rfl)) (fun _ _ _ h => h) (Or.inl ⟨by rfl, ?_⟩) ?_ ?_
                                    rotate_left
                                    · intro w'
                                      go_simp
                                      with_reducible rfl
                                    rotate_left
                                    · simp only [Act.put, List.setIfInBounds_toArray, List.set_cons_zero, List.set_cons_succ, i64_w, i32_w]
                                      rfl
                                    refine pure_ (i := 11) (N := some 15) (v := ?_) (a' := ?_) #[true, true, true, true, true, true, true, true, true, true, true, true] rfl rfl (any_of HT_.out (by kernel_rfl)) (fun _ _ _ h => h) (Or.inl ⟨by rfl, ?_⟩) ?_ ?_
                                    rotate_left
                                    · intro w'
                                      go_simp
                                      with_reducible rfl
                                    rotate_left
                                    · simp only [Act.put, List.setIfInBounds_toArray, List.set_cons_zero, List.set_cons_succ, i64_w, i32_w]
                                      rfl
                                    refine done_ (done_of HT_.out (by kernel_rfl)) ?_
                                    try go_wp2
                                    go_ret
                                    exact ⟨by first | rfl | (simp [errW_none, errW_some] <;> rfl) | (simp [*, errW_none, errW_some] <;> rfl), by repeat (first | (with_reducible first | exact HB.out | apply below_alloc | apply pw_below_drewN | apply below_drew1 | refine below_set ?_ GE302.out | refine below_set ?_ GE303.out) | exact HB.out)⟩
                                · rw [if_neg c56] at H
                                  exact absurd H (by simp)
                              · rw [if_neg c55] at H
                                exact absurd H (by simp)
                      · rw [if_neg c41] at H
                        exact absurd H (by simp)
                    · rw [if_neg c40] at H
                      have c40b0 : decide (x13_3 < (t308.length : Int)) = false := decide_eq_false c40
                      clear c40
                      obtain rfl := Option.some.inj H
                      obtain ⟨Ao66, co66, eo66⟩ := Kd.R_slice HO_8.out
                      subst eo66
                      go_wp2
                      go_ret
                      exact ⟨by first | rfl | (simp [errW_none, errW_some] <;> rfl) | (simp [*, errW_none, errW_some] <;> rfl), by repeat (first | (with_reducible first | exact HB.out | apply below_alloc | apply pw_below_drewN | apply below_drew1 | refine below_set ?_ GE302.out | refine below_set ?_ GE303.out) | exact HB.out)⟩
  · replace c5 := Bool.eq_false_iff.mpr c5
    subst c5
    have H1 : (some false) = some r := by rw [if_neg (show ¬ (false = true) by decide)] at H; exact H
    clear H
    have H := H1
    clear H1
    obtain rfl := Option.some.inj H
    go_enter Tryd.func7, Tryd.ntmps7
    go_wp2_with (first | ((with_reducible refine gate_dst (N := 4) rfl ?_); refine box_event ?hg (N := 4) ?hd (cs := #[.int .i64 a1_0, .string a1_1]) (t := 28) ?hr ?_; (case hd => rfl); (case hg => rfl); (case hr => first | (go_simp; done) | (go_simp; rfl)); intro gb302 hg w67 hbox hb; have n0_ := Aside0.mk (below_step (by repeat (first | (with_reducible first | exact HB.out | apply below_alloc | apply pw_below_drewN | apply below_drew1) | exact HB.out)) hb); have n1_ := Aside0.mk (hbox); have n2_ := Aside0.mk ((by rw [hg]; exact (below_size (by repeat (first | (with_reducible first | exact HB.out | apply below_alloc | apply pw_below_drewN | apply below_drew1) | exact HB.out))) : w.heap.size ≤ gb302)); have n3_ := Aside0.mk ((by rw [hg]; exact (below_size (by repeat (first | (with_reducible first | exact HB.out | apply below_alloc | apply pw_below_drewN | apply below_drew1) | exact HB.out))) : w.heap.size ≤ gb302)); clear HB; have HB := n0_; have BK302 := n1_; have GW302 := n2_; have GE302 := n3_; clear n0_ n1_ n2_ n3_; clear hb hbox hg) | ((with_reducible refine gate_dst (N := 5) rfl ?_); refine box_event ?hg (N := 5) ?hd (cs := #[.int .i64 a2_0, .string a2_1]) (t := 28) ?hr ?_; (case hd => rfl); (case hg => rfl); (case hr => first | (go_simp; done) | (go_simp; rfl)); intro gb303 hg w68 hbox hb; have n0_ := Aside0.mk (blk_below (g := gb302) (o := .cells #[.int .i64 a1_0, .string a1_1] 28 (0, 0)) (by (with_reducible repeat (first | refine blk_drewN ?_ _ | refine blk_drew ?_ | refine blk_alloc ?_ _)); exact BK302.out) hb); have n1_ := Aside0.mk (below_step (by repeat (first | (with_reducible first | exact HB.out | apply below_alloc | apply pw_below_drewN | apply below_drew1 | refine below_set ?_ GE302.out) | exact HB.out)) hb); have n2_ := Aside0.mk (hbox); have n3_ := Aside0.mk ((by rw [hg]; exact (below_size (by repeat (first | (with_reducible first | exact HB.out | apply below_alloc | apply pw_below_drewN | apply below_drew1 | refine below_set ?_ GE302.out) | exact HB.out))) : w.heap.size ≤ gb303)); have n4_ := Aside0.mk ((by rw [hg]; exact (below_size (by repeat (first | (with_reducible first | exact HB.out | apply below_alloc | apply pw_below_drewN | apply below_drew1 | refine below_set ?_ GE302.out) | exact HB.out))) : w.heap.size ≤ gb303)); have n5_ := Aside0.mk ((by rw [hg]; exact Nat.ne_of_lt (blk_lt (g := gb302) (o := .cells #[.int .i64 a1_0, .string a1_1] 28 (0, 0)) (by (with_reducible repeat (first | refine blk_drewN ?_ _ | refine blk_drew ?_ | refine blk_alloc ?_ _)); exact BK302.out)) : gb302 ≠ gb303)); have n6_ := Aside0.mk ((by rw [hg]; exact Nat.ne_of_gt (blk_lt (g := gb302) (o := .cells #[.int .i64 a1_0, .string a1_1] 28 (0, 0)) (by (with_reducible repeat (first | refine blk_drewN ?_ _ | refine blk_drew ?_ | refine blk_alloc ?_ _)); exact BK302.out)) : gb303 ≠ gb302)); clear BK302; clear HB; have BK302 := n0_; have HB := n1_; have BK303 := n2_; have GW303 := n3_; have GE303 := n4_; have NB302_303 := n5_; have NB303_302 := n6_; clear n0_ n1_ n2_ n3_ n4_ n5_ n6_; clear hb hbox hg) | ((with_reducible refine gate_callee (f := 13) rfl ?_); refine goesL_ (some 16) rfl rfl Tryd.func13 (by kernel_rfl) rfl #[] rfl (by (try simp only [List.map_toArray, List.map_cons, List.map_nil]); first | done | rfl | (simp only [List.length_drop, List.length_take]; rfl)) ?_; (with_reducible refine (arbiterlaw07_awake.calls  false _ A4.out).mono ?_); rintro e w69 ⟨rfl, hb⟩; refine ⟨_, rfl, ?_⟩; have n0_ := Aside0.mk (blk_below (g := gb302) (o := .cells #[.int .i64 a1_0, .string a1_1] 28 (0, 0)) (by (with_reducible repeat (first | refine blk_drewN ?_ _ | refine blk_drew ?_ | refine blk_alloc ?_ _)); exact BK302.out) hb); have n1_ := Aside0.mk (blk_below (g := gb303) (o := .cells #[.int .i64 a2_0, .string a2_1] 28 (0, 0)) (by (with_reducible repeat (first | refine blk_drewN ?_ _ | refine blk_drew ?_ | refine blk_alloc ?_ _)); exact BK303.out) hb); have n2_ := Aside0.mk (below_step (by repeat (first | (with_reducible first | exact HB.out | apply below_alloc | apply pw_below_drewN | apply below_drew1 | refine below_set ?_ GE302.out | refine below_set ?_ GE303.out) | exact HB.out)) hb); clear BK302; clear BK303; clear HB; have BK302 := n0_; have BK303 := n1_; have HB := n2_; clear n0_ n1_ n2_; (try clear hb); (try clear hb2); (try clear hk); (try clear hi)))
    go_ret
    exact ⟨by first | rfl | (simp [errW_none, errW_some] <;> rfl) | (simp [*, errW_none, errW_some] <;> rfl), by repeat (first | (with_reducible first | exact HB.out | apply below_alloc | apply pw_below_drewN | apply below_drew1 | refine below_set ?_ GE302.out | refine below_set ?_ GE303.out) | exact HB.out)⟩

end Go.Proofs.YtmlifggklaeieaaDoor.Pt

/- ArraysSteps: what a type is below is met by steps up. -/
namespace Go.Proofs.YtmlifggklaeieaaDoor.Pt
open Go Go.RowKit Go.Proofs.YtmlifggklaeieaaDoor.Nm Go.Proofs.YtmlifggklaeieaaDoor.Ty Go.Proofs.YtmlifggklaeieaaDoor.Hi Go.Proofs.YtmlifggklaeieaaDoorW.PrintWords Go.Proofs.YtmlifggklaeieaaDoorW.PrintLast Go.Proofs.YtmlifggklaeieaaDoorW.PrintMore
set_option linter.unusedVariables false
set_option linter.unusedSimpArgs false
set_option maxRecDepth 100000

theorem sub_ok {es : List Ent} {a b : Int} {s t : ByteArray} (hs : loadF es a s = 0) (ht : loadF es b t = 0) : arrays_Sub.f es a s b t = some (belowF es a s b t, 0) := by
  unfold arrays_Sub.f subF
  rw [if_neg (fun h => h hs), if_neg (fun h => h ht)]
/-- A direct step up is loaded, above, and another. -/
def StepOk (es : List Ent) (a : Int) (s : ByteArray) (u : S28) : Prop := loadF es u.f0 u.f1 = 0 ∧ BelP es a s u.f0 u.f1 ∧ ¬ (a = u.f0 ∧ s.data.toList = u.f1.data.toList)
theorem at_name {es : List Ent} (h : Thy es) {i : Int} (h0 : 0 ≤ i) (h1 : i < es.length) {d : Int} (hd : 0 ≤ d) (hd2 : d ≤ 255) {s : ByteArray} (hs : (ent es i).c.f0 = s) : loadF es d s = 0 ∧ (nameF es s).1 = i ∧ s.toList ≠ [] := by
  subst hs
  exact ⟨load_at h ⟨h0, h1⟩ hd hd2, by rw [nameF_of h h0 h1], valid_ne (h.valid ⟨h0, h1⟩)⟩
theorem cond_iff {a : Int} {s : ByteArray} : aCond a s = true ↔ 0 < a ∧ (s.toList = [] ∨ s.toList = [79, 98, 106, 101, 99, 116]) := by
  unfold aCond
  simp
theorem up_tops {es : List Ent} (h : Thy es) {a : Int} {s : ByteArray} (hs : loadF es a s = 0) (ha : 0 < a) {i : Int} (h0 : 0 ≤ i) (h2 : i ≤ 2) {n : ByteArray} (hn : (ent es i).c.f0 = n) : StepOk es a s ⟨a - 1, n⟩ := by
  have h3 := len_base h.base
  have hd := (load_size hs).2
  have h4 := at_name h h0 (by omega) (d := a - 1) (by omega) (by omega) hn
  refine ⟨h4.1, .inr ⟨by show a - 1 < a; omega, ?_⟩, fun e => by have : a = a - 1 := e.1; omega⟩
  have := h.le_top h0 h2
  rw [hn] at this
  exact this
theorem up_class {es : List Ent} (h : Thy es) {a : Int} {s : ByteArray} (hs : loadF es a s = 0) (hne : s.toList ≠ []) {k : Int} (k0 : 0 ≤ k) (k1 : k < (nameF es s).1) (hx : Ext es (nameF es s).1 k) {n : ByteArray} (hn : (ent es k).c.f0 = n) : StepOk es a s ⟨a, n⟩ := by
  have hd := (load_size hs).2
  have hi := name_at hs hne
  have h4 := at_name h k0 (by omega) (d := a) hd.1 hd.2 hn
  refine ⟨h4.1, .inl ⟨rfl, .inr ⟨hne, h4.2.2, ?_⟩⟩, fun e => ?_⟩
  · rw [h4.2.1]
    exact hx
  · have e2 : s = n := ByteArray.ext (Array.toList_inj.1 e.2)
    have := h4.2.1
    rw [← e2] at this
    omega
theorem above_ok {es : List Ent} (h : Thy es) {a : Int} {s : ByteArray} (hs : loadF es a s = 0) : ∀ u ∈ (aboveTF es a s).1, StepOk es a s u := by
  obtain ⟨o0, o1, o2⟩ := h.obj
  have h3 := len_base h.base
  unfold aboveTF
  rw [if_neg (fun hh => hh hs)]
  by_cases hc : aCond a s = true
  · rw [if_pos hc]
    have ha := (cond_iff.1 hc).1
    intro u hu
    simp only [List.mem_cons, List.not_mem_nil, or_false] at hu
    rcases hu with rfl | rfl | rfl
    · exact up_tops h hs ha (i := 0) (by omega) (by omega) (by rw [o0]; rfl)
    · exact up_tops h hs ha (i := 1) (by omega) (by omega) (by rw [o1]; rfl)
    · exact up_tops h hs ha (i := 2) (by omega) (by omega) (by rw [o2]; rfl)
  · rw [if_neg hc]
    by_cases he : s.toList = []
    · rw [if_pos he]
      intro u hu
      cases hu
    · rw [if_neg he]
      have hi := name_at hs he
      have hsr := h.src_ hi.1 hi.2.1
      rw [classF_in ⟨hi.1, hi.2.1⟩]
      intro u hu
      rcases List.mem_append.1 hu with hu | hu
      · split at hu
        · cases hu
        · rename_i hf
          rw [List.mem_singleton.1 hu]
          have h1 : 1 ≤ (nameF es s).1 := by
            apply Classical.byContradiction
            intro hn
            have h0 : (nameF es s).1 = 0 := by omega
            rw [h0, o0] at hf
            exact hf (by decide +kernel)
          have hsp := h.sup _ _ (get_ent hi.1 hi.2.1) (by omega)
          exact up_class h hs he hsp.1 (by omega) (.inr ⟨hsp.2.2.1, .up _ _ hsp.1 (.refl _)⟩) (hsr.sup h1)
      · obtain ⟨n, hn, rfl⟩ := List.mem_map.1 hu
        obtain ⟨k, k0, k1, k2, k3, k4⟩ := hsr.ifs n hn
        exact up_class h hs he k0 k1 (.inl ⟨k3, .inr k4⟩) k2
theorem above_err {es : List Ent} {a : Int} {s : ByteArray} (hs : loadF es a s = 0) : (aboveTF es a s).2 = 0 := by
  unfold aboveTF
  rw [if_neg (fun hh => hh hs)]
  split
  · rfl
  · split <;> rfl
theorem above_meets {es : List Ent} (h : Thy es) {a b : Int} {s t : ByteArray} (hs : loadF es a s = 0) (ht : loadF es b t = 0) (hb : BelP es a s b t) (hne : ¬ (a = b ∧ s.data.toList = t.data.toList)) : ∃ u ∈ (aboveTF es a s).1, BelP es u.f0 u.f1 b t := by
  obtain ⟨o0, o1, o2⟩ := h.obj
  have h3 := len_base h.base
  have hd := (load_size hs).2
  have hd2 := (load_size ht).2
  have hse : ∀ {x y : ByteArray}, x = y → x.data.toList = y.data.toList := fun e => by rw [e]
  unfold aboveTF
  rw [if_neg (fun hh => hh hs)]
  by_cases hc : aCond a s = true
  · rw [if_pos hc]
    have hc2 := cond_iff.1 hc
    -- an array over int, or over Object
    have htop : b < a → topB t = true → ∃ u ∈ ([⟨a - 1, sObject⟩, ⟨a - 1, sCloneable⟩, ⟨a - 1, sSerializable⟩] : List S28), BelP es u.f0 u.f1 b t := by
      intro hba htp
      have hk : ∀ n : ByteArray, t = n → BelP es (a - 1) n b t := by
        intro n hn
        subst hn
        by_cases hb1 : a - 1 = b
        · exact .inl ⟨hb1, .inr ⟨top_ne htp, top_ne htp, h.ext_refl _⟩⟩
        · exact .inr ⟨by omega, htp⟩
      rcases top_cases htp with e | e | e
      · exact ⟨⟨a - 1, sObject⟩, by simp, hk _ e⟩
      · exact ⟨⟨a - 1, sCloneable⟩, by simp, hk _ e⟩
      · exact ⟨⟨a - 1, sSerializable⟩, by simp, hk _ e⟩
    rcases hb with ⟨rfl, hb⟩ | ⟨hba, hb⟩
    · exfalso
      rcases hb with ⟨e1, e2⟩ | ⟨e1, e2, hx⟩
      · exact hne ⟨rfl, hse (tl_eq (e1.trans e2.symm))⟩
      · have ho := hc2.2.resolve_left e1
        have hso : s = objC.f0 := tl_eq (ho.trans (by decide +kernel))
        have n1 := name_at hs e1
        have n2 := name_at ht e2
        have hn0 : (nameF es s).1 = 0 := by
          have := nameF_of h (i := 0) (by omega) (by omega)
          rw [o0] at this
          rw [hso]
          exact congrArg Prod.fst this
        rw [hn0] at hx
        have hle := h.ext_le (a := 0) (by omega) (by omega) hx
        have hj : (nameF es t).1 = 0 := by omega
        refine hne ⟨rfl, hse ?_⟩
        rw [← n1.2.2, ← n2.2.2, hn0, hj]
    · exact htop hba hb
  · rw [if_neg hc]
    by_cases he : s.toList = []
    · exfalso
      rcases hb with ⟨rfl, hb⟩ | ⟨hba, hb⟩
      · rcases hb with ⟨e1, e2⟩ | ⟨e1, e2, hx⟩
        · exact hne ⟨rfl, hse (tl_eq (e1.trans e2.symm))⟩
        · exact e1 he
      · exact hc (cond_iff.2 ⟨by omega, .inl he⟩)
    · rw [if_neg he]
      have hi := name_at hs he
      have hsr := h.src_ hi.1 hi.2.1
      rw [classF_in ⟨hi.1, hi.2.1⟩]
      have hsup : 1 ≤ (nameF es s).1 → (ent es (nameF es s).1).c.f1.toList ≠ [] ∧ (nameF es (ent es (nameF es s).1).c.f1).1 = (ent es (nameF es s).1).above := by
        intro h1
        have hsp := h.sup _ _ (get_ent hi.1 hi.2.1) (by omega)
        have := at_name h hsp.1 (by omega) (d := 0) (by omega) (by omega) (hsr.sup h1)
        exact ⟨this.2.2, this.2.1⟩
      rcases hb with ⟨rfl, hb⟩ | ⟨hba, hb⟩
      · rcases hb with ⟨e1, e2⟩ | ⟨e1, e2, hx⟩
        · exact absurd e1 he
        · have n2 := name_at ht e2
          have hij : (nameF es s).1 ≠ (nameF es t).1 := by
            intro e
            refine hne ⟨rfl, hse ?_⟩
            rw [← hi.2.2, ← n2.2.2, e]
          obtain ⟨h1, hst⟩ := h.ext_step hi.1 hi.2.1 hx hij
          rcases hst with hst | ⟨n, hn, k, k0, k1, k2, hst⟩
          · refine ⟨⟨a, (ent es (nameF es s).1).c.f1⟩, ?_, .inl ⟨rfl, .inr ⟨(hsup h1).1, e2, ?_⟩⟩⟩
            · rw [if_neg (hsup h1).1]
              simp
            · show Ext es (nameF es (ent es (nameF es s).1).c.f1).1 _
              rw [(hsup h1).2]
              exact hst
          · have hk := at_name h k0 (by omega) (d := 0) (by omega) (by omega) k2
            refine ⟨⟨a, n⟩, List.mem_append.2 (.inr (List.mem_map_of_mem hn)), .inl ⟨rfl, .inr ⟨hk.2.2, e2, ?_⟩⟩⟩
            show Ext es (nameF es n).1 _
            rw [hk.2.1]
            exact hst
      · have h1 : 1 ≤ (nameF es s).1 := by
          apply Classical.byContradiction
          intro hn
          have h0 : (nameF es s).1 = 0 := by omega
          have hn2 := hi.2.2
          rw [h0, o0] at hn2
          exact hc (cond_iff.2 ⟨by omega, .inr (by rw [← hn2]; decide +kernel)⟩)
        refine ⟨⟨a, (ent es (nameF es s).1).c.f1⟩, ?_, .inr ⟨hba, hb⟩⟩
        rw [if_neg (hsup h1).1]
        simp
theorem above_some {es : List Ent} (h : Thy es) {a : Int} {s : ByteArray} (hs : loadF es a s = 0) : arrays_Above.f es a s = some ((aboveTF es a s).1, 0) := by
  have h3 := len_base h.base
  have hr : 0 ≤ (nameF es s).1 ∧ (nameF es s).1 < es.length := by
    by_cases h2 : (nameF es s).2 = 0
    · have := nameF_in h2
      exact ⟨this.1, this.2.1⟩
    · rw [(nameF_not h2).1]
      exact ⟨by decide, by show (0 : Int) < _; omega⟩
  unfold arrays_Above.f
  rw [classF_in hr, if_pos (show (ent es (nameF es s).1).c.f2.length ≤ 900 by have := (h.src_ hr.1 hr.2).len; omega), ← above_err hs]
theorem above_len {es : List Ent} (h : Thy es) {a : Int} {s : ByteArray} (hs : loadF es a s = 0) : (aboveTF es a s).1.length ≤ 1000 := by
  unfold aboveTF
  rw [if_neg (fun hh => hh hs)]
  split
  · simp
  · by_cases he : s.toList = []
    · rw [if_pos he]; simp
    · rw [if_neg he]
      have hi := name_at hs he
      have := (h.src_ hi.1 hi.2.1).len
      rw [classF_in ⟨hi.1, hi.2.1⟩]
      rw [List.length_append, List.length_map]
      split
      · simp; omega
      · simp; omega
theorem rd28 {l : List S28} {i : Nat} (h : i < l.length) : l[i]? = some (rd_T28 l (i : Int)) := by
  simp [rd_T28, List.getD_eq_getElem?_getD, List.getElem?_eq_getElem h]
theorem steps_loop {es : List Ent} (h : Thy es) {a b : Int} {s t : ByteArray} (hs : loadF es a s = 0) (ht : loadF es b t = 0) (up : List S28) (hup : ∀ u ∈ up, StepOk es a s u) (hl : up.length ≤ 1000) (B : Bool) :
    ∀ (d i k : Nat) (met : Bool), i + d = up.length → 2 * d + 1 ≤ k → arbiterlaw07_ArraysSteps.l0 k es up B met (i : Int) a s b t = some ((met || (up.drop i).any (fun u => belowF es u.f0 u.f1 b t)) == B) := by
  intro d
  induction d with
  | zero =>
    intro i k met hi hk
    obtain ⟨k, rfl⟩ : ∃ m, k = m + 1 := ⟨k - 1, by omega⟩
    rw [arbiterlaw07_ArraysSteps.l0, if_neg (by omega), List.drop_eq_nil_of_le (by omega)]
    simp
  | succ d ih =>
    intro i k met hi hk
    obtain ⟨k, rfl⟩ : ∃ m, k = m + 2 := ⟨k - 2, by omega⟩
    have hx := rd28 (l := up) (i := i) (by omega)
    have hd : up.drop i = rd_T28 up (i : Int) :: up.drop (i + 1) := by
      rw [List.drop_eq_getElem_cons (by omega)]
      rw [List.getElem?_eq_getElem (by omega)] at hx
      rw [Option.some.inj hx]
    have hu := hup _ (List.mem_of_getElem? hx)
    rw [arbiterlaw07_ArraysSteps.l0, if_pos (by omega), if_pos (by omega), hd]
    obtain ⟨u1, u2, u3⟩ := hu
    rw [sub_ok hs u1, (bel_iff h hs u1).2 u2]
    simp only [Option.bind_some, if_true]
    rw [show arbiterref02_Same.f a s (rd_T28 up (i : Int)).f0 (rd_T28 up (i : Int)).f1 = some (decide (a = (rd_T28 up (i : Int)).f0 ∧ s.data.toList = (rd_T28 up (i : Int)).f1.data.toList)) from rfl, decide_eq_false u3]
    simp only [Option.bind_some]
    rw [arbiterlaw07_ArraysSteps.j3, if_neg (by simp), if_pos (by omega), if_pos (by omega), sub_ok u1 ht]
    simp only [Option.bind_some, if_true]
    rw [show wrap64 ((i : Int) + 1) = ((i + 1 : Nat) : Int) by unfold wrap64; omega]
    cases met with
    | true =>
      rw [if_pos rfl, ih (i + 1) k true (by omega) (by omega)]
      simp
    | false =>
      rw [if_neg (by simp), ih (i + 1) k _ (by omega) (by omega)]
      simp
theorem steps_pure (l : List S44) (a : Int) (s : ByteArray) (b : Int) (t : ByteArray) : ∃ k, arbiterlaw07_ArraysSteps.f k l a s b t = some true := by
  have hT := thy_made (made_built l)
  refine ⟨2003, ?_⟩
  have hj : ∀ es, arbiterlaw07_ArraysSteps.j0 2003 es true a s b t = some true := fun es => rfl
  unfold arbiterlaw07_ArraysSteps.f
  rw [show arbiterlaw07_awake.f = some true from rfl, Option.bind_some, if_pos rfl, show arbiterlaw07_built.f l = some (builtF l) from rfl, Option.bind_some]
  generalize builtF l = es at *
  rw [load_tot, Option.bind_some, load_tot, Option.bind_some]
  by_cases hs : loadF es a s = 0
  · rw [if_pos hs]
    by_cases ht : loadF es b t = 0
    · rw [show (loadF es b t != 0) = false from bne_eq_false_iff_eq.2 ht]
      rw [arbiterlaw07_ArraysSteps.j0, if_neg (by simp), above_some hT hs, sub_ok hs ht]
      simp only [Option.bind_some, if_true, bne_self_eq_false]
      rw [arbiterlaw07_ArraysSteps.j1, if_neg (by simp), show arbiterref02_Same.f a s b t = some (decide (a = b ∧ s.data.toList = t.data.toList)) from rfl, Option.bind_some]
      have hlen := above_len hT hs
      have := steps_loop hT hs ht (aboveTF es a s).1 (above_ok hT hs) hlen (belowF es a s b t) (aboveTF es a s).1.length 0 2001 (decide (a = b ∧ s.data.toList = t.data.toList)) (by omega) (by omega)
      rw [show ((0 : Nat) : Int) = 0 from rfl] at this
      rw [this, List.drop_zero]
      congr 1
      rw [beq_iff_eq, Bool.eq_iff_iff, Bool.or_eq_true, decide_eq_true_eq, bel_iff hT hs ht, List.any_eq_true]
      constructor
      · rintro (⟨rfl, he⟩ | ⟨u, hu, hb⟩)
        · obtain rfl : s = t := ByteArray.ext (Array.toList_inj.1 he)
          exact bel_refl hT a s
        · obtain ⟨u1, u2, _⟩ := above_ok hT hs u hu
          exact bel_trans hT hs u1 ht u2 ((bel_iff hT u1 ht).1 hb)
      · intro hb
        by_cases he : a = b ∧ s.data.toList = t.data.toList
        · exact .inl he
        · obtain ⟨u, hu, hb2⟩ := above_meets hT hs ht hb he
          exact .inr ⟨u, hu, (bel_iff hT (above_ok hT hs u hu).1 ht).2 hb2⟩
    · rw [show (loadF es b t != 0) = true from bne_iff_ne.2 ht]
      exact hj es
  · rw [if_neg hs]
    exact hj es
theorem steps_any {W : World} {A : Option Addr} {n : Nat} {l : List S44} (hk : Kd.C k44 W A l.length l) (hc : l.length ≤ n) (a : Int) (s : ByteArray) (b : Int) (t : ByteArray) :
    Calls Tryd.prog 7 #[.slice A l.length n, .agg #[.int .i64 a, .string s], .agg #[.int .i64 b, .string t]] W fun e W' => e = .returned (.bool true) ∧ Below W.heap.size W W' := by
  obtain ⟨k, hk2⟩ := steps_pure l a s b t
  exact arbiterlaw07_ArraysSteps.calls k _ _ l a s b t true W hk hc hk2
end Go.Proofs.YtmlifggklaeieaaDoor.Pt

/- What a row's reading of a list of classes comes to: kinds. -/
namespace Go.Proofs.YtmlifggklaeieaaDoor.RowC
open Go Go.RowKit Go.WideShapes Go.Deep Go.Proofs.YtmlifggklaeieaaDoorW.PrintWords Go.Proofs.YtmlifggklaeieaaDoorW.PrintLast Go.Proofs.YtmlifggklaeieaaDoorW.PrintMore Go.Proofs.YtmlifggklaeieaaDoor.Pt
set_option linter.unusedVariables false
set_option linter.unusedSimpArgs false
set_option maxRecDepth 100000

variable {H : Type} {enc : TypeId × Value → H} {w : World}
/-- Whatever is read at this type is of this kind. -/
def Opens {H : Type} (enc : TypeId × Value → H) (w : World) (t : TypeId) {α : Type} (d : Kd α) : Prop :=
  ∀ (fuel : Nat) (cs : List Value) (x : DataW H × List MemPlace), DataW.trod enc Tryd.prog w 0 (fun _ => true) true fuel t cs = some x → ∃ a : α, d.K w a cs
theorem opens_int : Opens enc w 3 (Kd.int .i64) := fun fuel cs x h => by
  obtain ⟨n, rfl, _⟩ := DataW.trod_int Tryd.underlying3 h
  exact ⟨n, rfl⟩
theorem opens_bool : Opens enc w 4 Kd.bool := fun fuel cs x h => by
  obtain ⟨n, rfl, _⟩ := DataW.trod_bool Tryd.underlying4 h
  exact ⟨n, rfl⟩
theorem opens_string : Opens enc w 9 Kd.string := fun fuel cs x h => by
  obtain ⟨n, rfl, _⟩ := DataW.trod_string Tryd.underlying9 h
  exact ⟨n, rfl⟩
theorem opens_slice {α : Type} {d : Kd α} {t e : TypeId} (tag : Nat) (ht : Tryd.prog.underlying t = some (.slice e)) (he : Tryd.prog.cellsOf e = d.sz) (ho : Opens enc w e d) : Opens enc w t (Kd.slice tag d) := fun fuel cs x h => by
  rcases open_slice ht h with ⟨rfl, _⟩ | ⟨a, len, cap, m, n, D, Pl, rfl, _, hl, hm, hmm, _, hx⟩
  · exact ⟨[], none, 0, rfl, Nat.le_refl _, Kd.C_nil _ _⟩
  · have hmm : m = cap := by simpa using hmm
    have hel : ∀ i : Fin len, ∃ p : α, ∃ c : List Value, c.length = d.sz ∧ d.K w p c ∧ ∀ j u, c[j]? = some u → w.cell? (a.add (i.val * d.sz + j)) = some u := by
      intro i
      obtain ⟨cs', h1, h2⟩ := hx i.val (by omega)
      obtain ⟨p, hp⟩ := ho _ _ _ h2
      obtain ⟨_, h3, h4⟩ := World.cells?_some h1
      rw [he] at h3 h4
      refine ⟨p, cs', h3, hp, fun j u hj => ?_⟩
      have hjl : j < d.sz := by
        rcases Nat.lt_or_ge j d.sz with h | h
        · exact h
        · rw [List.getElem?_eq_none (by omega)] at hj; cases hj
      have h5 := h4 j hjl
      rw [hj] at h5
      rw [← h5]
      rw [Addr.add_add]
    let f : Fin len → α := fun i => Classical.choose (hel i)
    have hf : ∀ i : Fin len, ∃ c : List Value, c.length = d.sz ∧ d.K w (f i) c ∧ ∀ j u, c[j]? = some u → w.cell? (a.add (i.val * d.sz + j)) = some u := fun i => Classical.choose_spec (hel i)
    have hlen : (List.ofFn f).length = len := List.length_ofFn
    refine ⟨List.ofFn f, some a, cap, by rw [hlen], by omega, ?_⟩
    rw [hlen]
    refine ⟨hlen, by unfold maxLen at hm; omega, fun h0 => ⟨a, rfl, fun j p hj => ?_⟩⟩
    have hjl : j < len := by
      rcases Nat.lt_or_ge j len with h | h
      · exact h
      · rw [List.getElem?_eq_none (by omega)] at hj; cases hj
    rw [List.getElem?_eq_getElem (by omega), List.getElem_ofFn] at hj
    obtain rfl := Option.some.inj hj
    exact hf ⟨j, hjl⟩
theorem cut (cs : List Value) (o n : Nat) : cs.drop o = (cs.drop o).take n ++ cs.drop (o + n) := by
  rw [← List.drop_drop, List.take_append_drop]
/-- A field's own reading. -/
theorem field {n : Nat} {fs : Array Field} {cs : List Value} {xs : List (DataW H × List MemPlace)} (hlen : xs.length = fs.size)
    (hf : ∀ (i : Nat) (f : Field), fs[i]? = some f → DataW.trod enc Tryd.prog w 0 (fun _ => true) true n f.type ((cs.drop f.offset).take (Tryd.prog.cellsOf f.type)) = xs[i]?) {α : Type} {d : Kd α} (i : Nat) (f : Field) (hi : fs[i]? = some f) (ho : Opens enc w f.type d) (k : Nat) (hk : Tryd.prog.cellsOf f.type = k) :
    ∃ a : α, d.K w a ((cs.drop f.offset).take k) := by
  have hl : i < fs.size := by
    rcases Nat.lt_or_ge i fs.size with h | h
    · exact h
    · rw [Array.getElem?_eq_none h] at hi; cases hi
  have h := hf i f hi
  rw [hk, List.getElem?_eq_getElem (by omega)] at h
  exact ho _ _ _ h
theorem opens_Type : Opens enc w 28 k28 := fun fuel cs x h => by
  obtain ⟨xs, n, _, _, hl, hlen, hf⟩ := DataW.trod_struct Tryd.underlying28 h
  rw [show Tryd.prog.cellsOf 28 = 2 by kernel_rfl] at hl
  obtain ⟨a0, e0⟩ := field hlen hf 0 _ rfl opens_int 1 (by kernel_rfl)
  obtain ⟨a1, e1⟩ := field hlen hf 1 _ rfl opens_string 1 (by kernel_rfl)
  refine ⟨⟨a0, a1⟩, _, _, cut cs 0 1, e0, ?_⟩
  rw [List.take_of_length_le (by simp; omega)] at e1
  exact e1
theorem opens_Ref : Opens enc w 81 k81 := fun fuel cs x h => by
  obtain ⟨xs, n, _, _, hl, hlen, hf⟩ := DataW.trod_struct Tryd.underlying81 h
  rw [show Tryd.prog.cellsOf 81 = 4 by kernel_rfl] at hl
  obtain ⟨a0, e0⟩ := field hlen hf 0 _ rfl opens_bool 1 (by kernel_rfl)
  obtain ⟨a1, e1⟩ := field hlen hf 1 _ rfl opens_string 1 (by kernel_rfl)
  obtain ⟨a2, e2⟩ := field hlen hf 2 _ rfl opens_string 1 (by kernel_rfl)
  obtain ⟨a3, e3⟩ := field hlen hf 3 _ rfl opens_string 1 (by kernel_rfl)
  refine ⟨⟨a0, a1, a2, a3⟩, _, _, cut cs 0 1, e0, _, _, cut cs 1 1, e1, _, _, cut cs 2 1, e2, ?_⟩
  rw [List.take_of_length_le (by simp; omega)] at e3
  exact e3
theorem opens_Inst : Opens enc w 83 k83 := fun fuel cs x h => by
  obtain ⟨xs, n, _, _, hl, hlen, hf⟩ := DataW.trod_struct Tryd.underlying83 h
  rw [show Tryd.prog.cellsOf 83 = 7 by kernel_rfl] at hl
  obtain ⟨a0, e0⟩ := field hlen hf 0 _ rfl opens_int 1 (by kernel_rfl)
  obtain ⟨a1, e1⟩ := field hlen hf 1 _ rfl opens_int 1 (by kernel_rfl)
  obtain ⟨a2, e2⟩ := field hlen hf 2 _ rfl opens_string 1 (by kernel_rfl)
  obtain ⟨a3, e3⟩ := field hlen hf 3 _ rfl opens_Ref 4 (by kernel_rfl)
  refine ⟨⟨a0, a1, a2, a3⟩, _, _, cut cs 0 1, e0, _, _, cut cs 1 1, e1, _, _, cut cs 2 1, e2, ?_⟩
  rw [List.take_of_length_le (by simp; omega)] at e3
  exact e3
theorem opens_Method : Opens enc w 51 k51 := fun fuel cs x h => by
  obtain ⟨xs, n, _, _, hl, hlen, hf⟩ := DataW.trod_struct Tryd.underlying51 h
  rw [show Tryd.prog.cellsOf 51 = 6 by kernel_rfl] at hl
  obtain ⟨a0, e0⟩ := field hlen hf 0 _ rfl opens_string 1 (by kernel_rfl)
  obtain ⟨a1, e1⟩ := field hlen hf 1 _ rfl opens_string 1 (by kernel_rfl)
  obtain ⟨a2, e2⟩ := field hlen hf 2 _ rfl opens_int 1 (by kernel_rfl)
  obtain ⟨a3, e3⟩ := field hlen hf 3 _ rfl opens_int 1 (by kernel_rfl)
  obtain ⟨a4, e4⟩ := field hlen hf 4 _ rfl opens_int 1 (by kernel_rfl)
  obtain ⟨a5, e5⟩ := field hlen hf 5 _ rfl (opens_slice 83 Tryd.underlying49 (by kernel_rfl) opens_Inst) 1 (by kernel_rfl)
  refine ⟨⟨a0, a1, a2, a3, a4, a5⟩, _, _, cut cs 0 1, e0, _, _, cut cs 1 1, e1, _, _, cut cs 2 1, e2, _, _, cut cs 3 1, e3, _, _, cut cs 4 1, e4, ?_⟩
  rw [List.take_of_length_le (by simp; omega)] at e5
  exact e5
theorem opens_Class : Opens enc w 44 k44 := fun fuel cs x h => by
  obtain ⟨xs, n, _, _, hl, hlen, hf⟩ := DataW.trod_struct Tryd.underlying44 h
  rw [show Tryd.prog.cellsOf 44 = 6 by kernel_rfl] at hl
  obtain ⟨a0, e0⟩ := field hlen hf 0 _ rfl opens_string 1 (by kernel_rfl)
  obtain ⟨a1, e1⟩ := field hlen hf 1 _ rfl opens_string 1 (by kernel_rfl)
  obtain ⟨a2, e2⟩ := field hlen hf 2 _ rfl (opens_slice 9 Tryd.underlying41 (by kernel_rfl) opens_string) 1 (by kernel_rfl)
  obtain ⟨a3, e3⟩ := field hlen hf 3 _ rfl opens_int 1 (by kernel_rfl)
  obtain ⟨a4, e4⟩ := field hlen hf 4 _ rfl opens_int 1 (by kernel_rfl)
  obtain ⟨a5, e5⟩ := field hlen hf 5 _ rfl (opens_slice 51 Tryd.underlying42 (by kernel_rfl) opens_Method) 1 (by kernel_rfl)
  refine ⟨⟨a0, a1, a2, a3, a4, a5⟩, _, _, cut cs 0 1, e0, _, _, cut cs 1 1, e1, _, _, cut cs 2 1, e2, _, _, cut cs 3 1, e3, _, _, cut cs 4 1, e4, ?_⟩
  rw [List.take_of_length_le (by simp; omega)] at e5
  exact e5
/-- A list of classes that is handed in. -/
theorem open_list {base : Nat} {R : Reach} {v : Value} {d : DataW H} {p : List MemPlace} (hv : Value.okWide Tryd.prog w R base 34 v) (h : DataW.Trod enc Tryd.prog w 0 (fun _ => true) true 34 v d p) :
    ∃ (A : Option Addr) (c : Nat) (l : List S44), v = .slice A l.length c ∧ l.length ≤ c ∧ Kd.C k44 w A l.length l := by
  obtain ⟨a, len, cap, rfl⟩ := okWide_slice Tryd.underlying34 hv
  obtain ⟨fuel, hf⟩ := h
  obtain ⟨l, A, c, e, hc, hk⟩ := opens_slice 44 Tryd.underlying34 (by kernel_rfl) opens_Class _ _ _ hf
  have e : [Value.slice a len cap] = [.slice A l.length c] := e
  obtain ⟨rfl, rfl, rfl⟩ : a = A ∧ len = l.length ∧ cap = c := by simpa using e
  exact ⟨_, _, l, rfl, hc, hk⟩
end Go.Proofs.YtmlifggklaeieaaDoor.RowC
