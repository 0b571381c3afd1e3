/- Lemmas and contracts for the statement of PwWholeSubtypes: joined by program out of this session's texts. -/
import Derived.Test.YtaipkdglhfhhiaaDoorBdPwWholeSubtypes2
import Derived.Outline
import Derived.Laws.StructEq
import Derived.Laws.Rows
import Derived.RegionTactic
import Derived.ChangeAlike
namespace Go.Proofs.YtaipkdglhfhhiaaDoor.Pt
open Go Go.RowKit Go.Proofs.YtaipkdglhfhhiaaDoor.Nm Go.Proofs.YtaipkdglhfhhiaaDoor.Hi Go.Proofs.YtaipkdglhfhhiaaDoorW.PrintWords Go.Proofs.YtaipkdglhfhhiaaDoorW.PrintLast Go.Proofs.YtaipkdglhfhhiaaDoorW.PrintMore
set_option linter.unusedVariables false
set_option linter.unusedSimpArgs false
def hier_World_Class.f (a0 : List Hi.Ent) (a1 : Int) : Option (ByteArray × ByteArray × (List ByteArray) × Int × Int × (List (S94)) × Int) :=
 some ((classF a0 a1).1.f0, (classF a0 a1).1.f1, (classF a0 a1).1.f2, (classF a0 a1).1.f3, (classF a0 a1).1.f4, (classF a0 a1).1.f5, (classF a0 a1).2)
theorem hier_World_Class.calls (G_ : Nat) (a0 : List Hi.Ent) (a1 : Int) (r1 : ByteArray) (r2 : ByteArray) (r3 : List ByteArray) (r4 : Int) (r5 : Int) (r6 : List (S94)) (r7 : Int) (w : World) (hq0 : WOK w G_ a0) (h : hier_World_Class.f a0 a1 = some (r1, r2, r3, r4, r5, r6, r7)) :
  Calls Tryd.prog 21 #[.pointer (some ⟨G_, 0, none⟩), .int .i64 a1] w fun e w' => ∃ v2_ v5_ : Value, e = .returned (.tuple #[.agg #[.string r1, .string r2, v2_, .int .i64 r4, .int .i64 r5, v5_], .int .i64 r7]) ∧ Kd.R Kd.string 9 w' w.heap.size (fun _ => True) v2_ r3 ∧ Kd.R k94 94 w' w.heap.size (fun _ => True) v5_ r6 ∧ Below w.heap.size w w' := by
 unfold hier_World_Class.f at h; simp only [Option.some.injEq, Prod.mk.injEq] at h; obtain ⟨rfl, rfl, rfl, rfl, rfl, rfl, rfl⟩ := h; obtain ⟨base, v, mb, ps, hi⟩ := hq0.inn; refine (class_any w base G_ v mb ps a0 hi hq0.small a1).mono ?_; rintro e w' ⟨vc, rfl, ⟨v2, v5, rfl, R2, R5⟩, hb⟩
 exact ⟨v2, v5, rfl, R2, R5, hb⟩
def access_homeOf.f (a0 : List Hi.Ent) (a1 : Int) : Option (Int × ByteArray × ByteArray × ByteArray × (List ByteArray) × Int × Int × (List (S94)) × Int) :=
 some ((homeF a0 a1).1, (homeF a0 a1).2.1, (homeF a0 a1).2.2.1.f0, (homeF a0 a1).2.2.1.f1, (homeF a0 a1).2.2.1.f2, (homeF a0 a1).2.2.1.f3, (homeF a0 a1).2.2.1.f4, (homeF a0 a1).2.2.1.f5, (homeF a0 a1).2.2.2)
def hier_World_ByName.f (a0 : List Hi.Ent) (a1 : ByteArray) : Option (Int × Int) := if a1.size ≤ 9223372036854775807 then some (nameF a0 a1) else none
theorem hier_World_ByName.calls (G_ : Nat) (a0 : List Hi.Ent) (a1 : ByteArray) (r1 : Int) (r2 : Int) (w : World) (hq0 : WOK w G_ a0) (h : hier_World_ByName.f a0 a1 = some (r1, r2)) :
  Calls Tryd.prog 27 #[.pointer (some ⟨G_, 0, none⟩), .string a1] w fun e w' => e = .returned (.tuple #[.int .i64 r1, .int .i64 r2]) ∧ Below w.heap.size w w' := by
 unfold hier_World_ByName.f at h; obtain ⟨hs, h⟩ := if_some h; have h := Option.some.inj h
 obtain rfl : (nameF a0 a1).1 = r1 := by rw [h]
 obtain rfl : (nameF a0 a1).2 = r2 := by rw [h]
 exact byName_any w G_ a0 hq0 a1 hs
def hier_World_IsIface.f (a0 : List Hi.Ent) (a1 : Int) : Option Bool := some (inB a0 a1 && isI (ent a0 a1).c)
theorem hier_World_IsIface.calls (G_ : Nat) (a0 : List Hi.Ent) (a1 : Int) (r : Bool) (w : World) (hq0 : WOK w G_ a0) (h : hier_World_IsIface.f a0 a1 = some r) :
  Calls Tryd.prog 23 #[.pointer (some ⟨G_, 0, none⟩), .int .i64 a1] w fun e w' => e = .returned (.bool r) ∧ Below w.heap.size w w' := by
 obtain rfl := Option.some.inj h
 exact isIface_any w G_ a0 hq0 a1
def hier_World_SamePackage.f (a0 : List Hi.Ent) (a1 : Int) (a2 : Int) : Option Bool := some (inB a0 a1 && inB a0 a2 && tog (ent a0 a1).c (ent a0 a2).c)
def hier_World_Extends.f (a0 : List Hi.Ent) (a1 : Int) (a2 : Int) : Option Bool := some (extF a0 a1 a2)
theorem hier_World_Extends.calls (G_ : Nat) (a0 : List Hi.Ent) (a1 : Int) (a2 : Int) (r : Bool) (w : World) (hq0 : WOK w G_ a0) (h : hier_World_Extends.f a0 a1 a2 = some r) :
  Calls Tryd.prog 22 #[.pointer (some ⟨G_, 0, none⟩), .int .i64 a1, .int .i64 a2] w fun e w' => e = .returned (.bool r) ∧ Below w.heap.size w w' := by
 obtain rfl := Option.some.inj h
 exact extends_any w G_ a0 hq0 a1 a2
def hier_World_Method.f (a0 : List Hi.Ent) (a1_0 : Int) (a1_1 : Int) : Option (ByteArray × ByteArray × Int × Int × Int × (List (S91)) × Int) :=
 some ((methF a0 a1_0 a1_1).1.f0, (methF a0 a1_0 a1_1).1.f1, (methF a0 a1_0 a1_1).1.f2, (methF a0 a1_0 a1_1).1.f3, (methF a0 a1_0 a1_1).1.f4, (methF a0 a1_0 a1_1).1.f5, (methF a0 a1_0 a1_1).2)
def names_Package.f (a0 : ByteArray) : Option ByteArray := if a0.size < 4611686018427387904 then some (pkgB a0) else none
def access_Package_nil.f (a1 : Int) : Option (Int × ByteArray × Int) := some (0, ⟨#[]⟩, 2)
def access_ClassOpen_nil.f (a1 : Int) (a2 : Int) : Option (Bool × Int) := some (false, 2)
def access_TypeOpen_nil.f (a1 : Int) (a2_0 : Int) (a2_1 : ByteArray) : Option (Bool × Int) := some (false, 2)
def access_MethodOpen_nil.f (a1 : Int) (a2_0 : Int) (a2_1 : Int) (a3 : Int) : Option (Bool × Int) := some (false, 2)
end Go.Proofs.YtaipkdglhfhhiaaDoor.Pt

namespace Go.Proofs.YtaipkdglhfhhiaaDoor.Pt
open Go.RowKit Go.Proofs.YtaipkdglhfhhiaaDoorW.PrintWords Go.Proofs.YtaipkdglhfhhiaaDoorW.PrintLast Go.Proofs.YtaipkdglhfhhiaaDoorW.PrintMore
attribute [local go_sem] max2_int min2_int max_two min_two max_three min_three max_four min_four   -- for this text's walks alone
set_option linter.unusedVariables false
set_option linter.unusedSimpArgs false
def arrays_Loaded.f (a0 : List Hi.Ent) (a1_0 : Int) (a1_1 : ByteArray) : Option (Int) := (types_Check.f a1_0 a1_1).bind fun t102 => (if t102 = 0 then ((hier_World_ByName.f a0 a1_1).bind fun bt103 => (if a1_1.toList = ([] : List UInt8) then (some 0) else (if bt103.2 = 0 then (some 0) else (some 20)))) else (some t102))
set_option maxHeartbeats 8000000 in
set_option maxRecDepth 100000 in
theorem arrays_Loaded.calls (G_ : Nat) (a0 : List Hi.Ent) (a1_0 : Int) (a1_1 : ByteArray) (r : Int) (w : World) (hq0 : WOK w G_ a0) (h : arrays_Loaded.f a0 a1_0 a1_1 = some r) :
  Calls Tryd.prog 28 #[.pointer (some ⟨G_, 0, none⟩), .agg #[.int .i64 a1_0, .string a1_1]] w fun e w' => e = .returned (.int .i64 r) ∧ Below w.heap.size w w' := by
 have hu31 := Tryd.underlying31; have HQa0 := Aside0.mk hq0; clear hq0; have HB := Aside0.mk (Below.refl w.heap.size w); have H : ((types_Check.f a1_0 a1_1).bind fun t102 => (if t102 = 0 then ((hier_World_ByName.f a0 a1_1).bind fun bt103 => (if a1_1.toList = ([] : List UInt8) then (some 0) else (if bt103.2 = 0 then (some 0) else (some 20)))) else (some t102))) = some r := h; clear h; replace H := Option.bind_eq_some_iff.mp H; obtain ⟨t102, A30, H⟩ := H; replace H : (if t102 = 0 then ((hier_World_ByName.f a0 a1_1).bind fun bt103 => (if a1_1.toList = ([] : List UInt8) then (some 0) else (if bt103.2 = 0 then (some 0) else (some 20)))) else (some t102)) = some r := H; have A3 := Aside0.mk A30; clear A30
 by_cases c4 : t102 = 0
 ·rw [if_pos c4] at H
  have c4b0 : (t102 == 0) = true := beq_iff_eq.mpr c4; have c4b1 : (t102 != 0) = false := bne_eq_false_iff_eq.mpr c4; clear c4; replace H := Option.bind_eq_some_iff.mp H; obtain ⟨⟨t103, t104⟩, A50, H⟩ := H; replace H : (if a1_1.toList = ([] : List UInt8) then (some 0) else (if t104 = 0 then (some 0) else (some 20))) = some r := H; have A5 := Aside0.mk A50; clear A50
  by_cases c6 : a1_1.toList = ([] : List UInt8)
  ·rw [if_pos c6] at H
   have c6b0 : (a1_1.toList == ([] : List UInt8)) = true := beq_iff_eq.mpr c6; have c6b1 : (a1_1.toList != ([] : List UInt8)) = false := bne_eq_false_iff_eq.mpr c6; clear c6; obtain rfl := Option.some.inj H; go_enter Tryd.func28, Tryd.ntmps28; go_wp2_with (first | ((with_reducible refine gate_dst (N := 3) rfl ?_); refine eX 3 #[.int .i64 a1_0, .string a1_1] 31 ?_; intro gb101 hg w7 hbox hb; have n0_ := Aside0.mk (below_step (bX HB) hb); have n1_ := Aside0.mk (hbox); have n2_ := Aside0.mk ((by rw [hg]; exact (below_size (bX HB)) : w.heap.size ≤ gb101)); have n3_ := Aside0.mk ((by rw [hg]; exact (below_size (bX HB)) : w.heap.size ≤ gb101)); clear HB; have HB := n0_; have BK101 := n1_; have GW101 := n2_; have GE101 := n3_; clear n0_ n1_ n2_ n3_; clear hb hbox hg; obtain ⟨hcz8_0, hcz8_1, hfz8_0, hfz8_1⟩ := c2X BK101) | ((with_reducible refine gate_callee (f := 42) rfl ?_); refine gX (some 11) Tryd.func42 #[.agg #[.int .i64 a1_0, .string a1_1]] ?_; (with_reducible refine (types_Check.calls a1_0 a1_1 t102 _ A3.out).mono ?_); rintro e w9 ⟨rfl, hb⟩; refine ⟨_, rfl, ?_⟩; have n0_ := Aside0.mk (blk_below (kX BK101) hb); have n1_ := Aside0.mk (below_step (bX1 HB GE101) hb); clear BK101; clear HB; have BK101 := n0_; have HB := n1_; clear n0_ n1_; (try clear hb); (try clear hb2); (try clear hk); (try clear hi); obtain ⟨hcz10_0, hcz10_1, hfz10_0, hfz10_1⟩ := c2X BK101) | ((with_reducible refine gate_callee (f := 27) rfl ?_); refine gX (some 19) Tryd.func27 #[.pointer (some ⟨G_, 0, none⟩), .string a1_1] ?_; (with_reducible refine (hier_World_ByName.calls G_ a0 a1_1 t103 t104 _ ?side1 A5.out).mono ?_); (case side1 => repeat (first | (with_reducible exact HQa0.out) | (with_reducible refine WOK.alloc ?_ _) | (with_reducible refine WOK.drewN ?_ _) | (with_reducible refine WOK.drew ?_) | exact WOK.below HQa0.out HB.out | exact WOK.below HQa0.out (bX1 HB GE101))); rintro e w11 ⟨rfl, hb⟩; refine ⟨_, rfl, ?_⟩; have n0_ := Aside0.mk (blk_below (kX BK101) hb); have n1_ := Aside0.mk (below_step (bX1 HB GE101) hb); clear BK101; clear HB; have BK101 := n0_; have HB := n1_; clear n0_ n1_; (try clear hb); (try clear hb2); (try clear hk); (try clear hi); obtain ⟨hcz12_0, hcz12_1, hfz12_0, hfz12_1⟩ := c2X BK101)); go_ret
   exact ⟨by first | rfl | (simp [errW_none, errW_some] <;> rfl) | (simp [*, errW_none, errW_some] <;> rfl), bX1 HB GE101⟩
  ·rw [if_neg c6] at H
   have c6b0 : (a1_1.toList == ([] : List UInt8)) = false := beq_eq_false_iff_ne.mpr c6; have c6b1 : (a1_1.toList != ([] : List UInt8)) = true := bne_iff_ne.mpr c6
   by_cases c13 : t104 = 0
   ·rw [if_pos c13] at H
    have c13b0 : (t104 == 0) = true := beq_iff_eq.mpr c13; have c13b1 : (t104 != 0) = false := bne_eq_false_iff_eq.mpr c13; clear c13; obtain rfl := Option.some.inj H; go_enter Tryd.func28, Tryd.ntmps28; go_wp2_with (first | ((with_reducible refine gate_dst (N := 3) rfl ?_); refine eX 3 #[.int .i64 a1_0, .string a1_1] 31 ?_; intro gb101 hg w14 hbox hb; have n0_ := Aside0.mk (below_step (bX HB) hb); have n1_ := Aside0.mk (hbox); have n2_ := Aside0.mk ((by rw [hg]; exact (below_size (bX HB)) : w.heap.size ≤ gb101)); have n3_ := Aside0.mk ((by rw [hg]; exact (below_size (bX HB)) : w.heap.size ≤ gb101)); clear HB; have HB := n0_; have BK101 := n1_; have GW101 := n2_; have GE101 := n3_; clear n0_ n1_ n2_ n3_; clear hb hbox hg; obtain ⟨hcz15_0, hcz15_1, hfz15_0, hfz15_1⟩ := c2X BK101) | ((with_reducible refine gate_callee (f := 42) rfl ?_); refine gX (some 11) Tryd.func42 #[.agg #[.int .i64 a1_0, .string a1_1]] ?_; (with_reducible refine (types_Check.calls a1_0 a1_1 t102 _ A3.out).mono ?_); rintro e w16 ⟨rfl, hb⟩; refine ⟨_, rfl, ?_⟩; have n0_ := Aside0.mk (blk_below (kX BK101) hb); have n1_ := Aside0.mk (below_step (bX1 HB GE101) hb); clear BK101; clear HB; have BK101 := n0_; have HB := n1_; clear n0_ n1_; (try clear hb); (try clear hb2); (try clear hk); (try clear hi); obtain ⟨hcz17_0, hcz17_1, hfz17_0, hfz17_1⟩ := c2X BK101) | ((with_reducible refine gate_callee (f := 27) rfl ?_); refine gX (some 19) Tryd.func27 #[.pointer (some ⟨G_, 0, none⟩), .string a1_1] ?_; (with_reducible refine (hier_World_ByName.calls G_ a0 a1_1 t103 t104 _ ?side1 A5.out).mono ?_); (case side1 => repeat (first | (with_reducible exact HQa0.out) | (with_reducible refine WOK.alloc ?_ _) | (with_reducible refine WOK.drewN ?_ _) | (with_reducible refine WOK.drew ?_) | exact WOK.below HQa0.out HB.out | exact WOK.below HQa0.out (bX1 HB GE101))); rintro e w18 ⟨rfl, hb⟩; refine ⟨_, rfl, ?_⟩; have n0_ := Aside0.mk (blk_below (kX BK101) hb); have n1_ := Aside0.mk (below_step (bX1 HB GE101) hb); clear BK101; clear HB; have BK101 := n0_; have HB := n1_; clear n0_ n1_; (try clear hb); (try clear hb2); (try clear hk); (try clear hi); obtain ⟨hcz19_0, hcz19_1, hfz19_0, hfz19_1⟩ := c2X BK101)); go_ret
    exact ⟨by first | rfl | (simp [errW_none, errW_some] <;> rfl) | (simp [*, errW_none, errW_some] <;> rfl), bX1 HB GE101⟩
   ·rw [if_neg c13] at H
    have c13b0 : (t104 == 0) = false := beq_eq_false_iff_ne.mpr c13; have c13b1 : (t104 != 0) = true := bne_iff_ne.mpr c13; obtain rfl := Option.some.inj H; go_enter Tryd.func28, Tryd.ntmps28; go_wp2_with (first | ((with_reducible refine gate_dst (N := 3) rfl ?_); refine eX 3 #[.int .i64 a1_0, .string a1_1] 31 ?_; intro gb101 hg w20 hbox hb; have n0_ := Aside0.mk (below_step (bX HB) hb); have n1_ := Aside0.mk (hbox); have n2_ := Aside0.mk ((by rw [hg]; exact (below_size (bX HB)) : w.heap.size ≤ gb101)); have n3_ := Aside0.mk ((by rw [hg]; exact (below_size (bX HB)) : w.heap.size ≤ gb101)); clear HB; have HB := n0_; have BK101 := n1_; have GW101 := n2_; have GE101 := n3_; clear n0_ n1_ n2_ n3_; clear hb hbox hg; obtain ⟨hcz21_0, hcz21_1, hfz21_0, hfz21_1⟩ := c2X BK101) | ((with_reducible refine gate_callee (f := 42) rfl ?_); refine gX (some 11) Tryd.func42 #[.agg #[.int .i64 a1_0, .string a1_1]] ?_; (with_reducible refine (types_Check.calls a1_0 a1_1 t102 _ A3.out).mono ?_); rintro e w22 ⟨rfl, hb⟩; refine ⟨_, rfl, ?_⟩; have n0_ := Aside0.mk (blk_below (kX BK101) hb); have n1_ := Aside0.mk (below_step (bX1 HB GE101) hb); clear BK101; clear HB; have BK101 := n0_; have HB := n1_; clear n0_ n1_; (try clear hb); (try clear hb2); (try clear hk); (try clear hi); obtain ⟨hcz23_0, hcz23_1, hfz23_0, hfz23_1⟩ := c2X BK101) | ((with_reducible refine gate_callee (f := 27) rfl ?_); refine gX (some 19) Tryd.func27 #[.pointer (some ⟨G_, 0, none⟩), .string a1_1] ?_; (with_reducible refine (hier_World_ByName.calls G_ a0 a1_1 t103 t104 _ ?side1 A5.out).mono ?_); (case side1 => repeat (first | (with_reducible exact HQa0.out) | (with_reducible refine WOK.alloc ?_ _) | (with_reducible refine WOK.drewN ?_ _) | (with_reducible refine WOK.drew ?_) | exact WOK.below HQa0.out HB.out | exact WOK.below HQa0.out (bX1 HB GE101))); rintro e w24 ⟨rfl, hb⟩; refine ⟨_, rfl, ?_⟩; have n0_ := Aside0.mk (blk_below (kX BK101) hb); have n1_ := Aside0.mk (below_step (bX1 HB GE101) hb); clear BK101; clear HB; have BK101 := n0_; have HB := n1_; clear n0_ n1_; (try clear hb); (try clear hb2); (try clear hk); (try clear hi); obtain ⟨hcz25_0, hcz25_1, hfz25_0, hfz25_1⟩ := c2X BK101)); go_ret
    exact ⟨by first | rfl | (simp [errW_none, errW_some] <;> rfl) | (simp [*, errW_none, errW_some] <;> rfl), bX1 HB GE101⟩
 ·rw [if_neg c4] at H
  have c4b0 : (t102 == 0) = false := beq_eq_false_iff_ne.mpr c4; have c4b1 : (t102 != 0) = true := bne_iff_ne.mpr c4; obtain rfl := Option.some.inj H; go_enter Tryd.func28, Tryd.ntmps28; go_wp2_with (first | ((with_reducible refine gate_dst (N := 3) rfl ?_); refine eX 3 #[.int .i64 a1_0, .string a1_1] 31 ?_; intro gb101 hg w26 hbox hb; have n0_ := Aside0.mk (below_step (bX HB) hb); have n1_ := Aside0.mk (hbox); have n2_ := Aside0.mk ((by rw [hg]; exact (below_size (bX HB)) : w.heap.size ≤ gb101)); have n3_ := Aside0.mk ((by rw [hg]; exact (below_size (bX HB)) : w.heap.size ≤ gb101)); clear HB; have HB := n0_; have BK101 := n1_; have GW101 := n2_; have GE101 := n3_; clear n0_ n1_ n2_ n3_; clear hb hbox hg; obtain ⟨hcz27_0, hcz27_1, hfz27_0, hfz27_1⟩ := c2X BK101) | ((with_reducible refine gate_callee (f := 42) rfl ?_); refine gX (some 11) Tryd.func42 #[.agg #[.int .i64 a1_0, .string a1_1]] ?_; (with_reducible refine (types_Check.calls a1_0 a1_1 t102 _ A3.out).mono ?_); rintro e w28 ⟨rfl, hb⟩; refine ⟨_, rfl, ?_⟩; have n0_ := Aside0.mk (blk_below (kX BK101) hb); have n1_ := Aside0.mk (below_step (bX1 HB GE101) hb); clear BK101; clear HB; have BK101 := n0_; have HB := n1_; clear n0_ n1_; (try clear hb); (try clear hb2); (try clear hk); (try clear hi))); go_ret
  exact ⟨by first | rfl | (simp [errW_none, errW_some] <;> rfl) | (simp [*, errW_none, errW_some] <;> rfl), bX1 HB GE101⟩
def hier_iface.f (a0_0 : ByteArray) (a0_1 : ByteArray) (l0_2 : List ByteArray) (a0_3 : Int) (a0_4 : Int) (l0_5 : List (S94)) : Option (Bool) := some ((Go.bits .and .i64 a0_3 512) != 0)
end Go.Proofs.YtaipkdglhfhhiaaDoor.Pt

namespace Go.Proofs.YtaipkdglhfhhiaaDoor.Pt
open Go.RowKit Go.Proofs.YtaipkdglhfhhiaaDoorW.PrintWords Go.Proofs.YtaipkdglhfhhiaaDoorW.PrintLast Go.Proofs.YtaipkdglhfhhiaaDoorW.PrintMore
attribute [local go_sem] max2_int min2_int max_two min_two max_three min_three max_four min_four   -- for this text's walks alone
set_option linter.unusedVariables false
set_option linter.unusedSimpArgs false
theorem eqA31 (d : Nat) (w : World) (x0 y0 : Int) (x1 y1 : ByteArray) :
  (Op.equalIn (d + 2) 31 (.agg #[.int .i64 x0, .string x1]) (.agg #[.int .i64 y0, .string y1])).run Tryd.prog w = .ok (x0 == y0 && (x1.toList == y1.toList)) w := by
 refine eqA_of Tryd.underlying31 (by kernel_rfl) ?_; refine eqf_cons (by rfl) (by go_simp; rfl) (by go_simp; rfl) (by go_simp) ?_
 exact eqf_last (by rfl) (by go_simp; rfl) (by go_simp; rfl) (by go_simp)
end Go.Proofs.YtaipkdglhfhhiaaDoor.Pt

namespace Go.Proofs.YtaipkdglhfhhiaaDoor.Pt
open Go.RowKit Go.Proofs.YtaipkdglhfhhiaaDoorW.PrintWords Go.Proofs.YtaipkdglhfhhiaaDoorW.PrintLast Go.Proofs.YtaipkdglhfhhiaaDoorW.PrintMore
attribute [local go_sem] max2_int min2_int max_two min_two max_three min_three max_four min_four   -- for this text's walks alone
set_option linter.unusedVariables false
set_option linter.unusedSimpArgs false
attribute [local go_sem high] eqA31
def arrays_isInt.f (a0_0 : Int) (a0_1 : ByteArray) : Option (Bool) := some (a0_0 == 0 && (a0_1.toList == ([] : List UInt8)))
set_option maxHeartbeats 8000000 in
set_option maxRecDepth 100000 in
theorem arrays_isInt.calls (a0_0 : Int) (a0_1 : ByteArray) (r : Bool) (w : World) (h : arrays_isInt.f a0_0 a0_1 = some r) :
  Calls Tryd.prog 43 #[.agg #[.int .i64 a0_0, .string a0_1]] w fun e w' => e = .returned (.bool r) ∧ Below w.heap.size w w' := by
 have hu31 := Tryd.underlying31; have HB := Aside0.mk (Below.refl w.heap.size w); have H : (some (a0_0 == 0 && (a0_1.toList == ([] : List UInt8)))) = some r := h; clear h; obtain rfl := Option.some.inj H; go_enter Tryd.func43, Tryd.ntmps43; go_wp2_with (first | ((with_reducible refine gate_dst (N := 1) rfl ?_); refine eX 1 #[.int .i64 a0_0, .string a0_1] 31 ?_; intro gb106 hg w2 hbox hb; have n0_ := Aside0.mk (below_step (bX HB) hb); have n1_ := Aside0.mk (hbox); have n2_ := Aside0.mk ((by rw [hg]; exact (below_size (bX HB)) : w.heap.size ≤ gb106)); have n3_ := Aside0.mk ((by rw [hg]; exact (below_size (bX HB)) : w.heap.size ≤ gb106)); clear HB; have HB := n0_; have BK106 := n1_; have GW106 := n2_; have GE106 := n3_; clear n0_ n1_ n2_ n3_; clear hb hbox hg; obtain ⟨hcz3_0, hcz3_1, hfz3_0, hfz3_1⟩ := c2X BK106)); go_ret
 exact ⟨by first | rfl | (simp [errW_none, errW_some] <;> rfl) | (simp [*, errW_none, errW_some] <;> rfl), bX1 HB GE106⟩
def arrays_top.f (a0 : ByteArray) : Option (Bool) := if a0.toList = ([79, 98, 106, 101, 99, 116] : List UInt8) then (some true) else (if a0.toList = ([67, 108, 111, 110, 101, 97, 98, 108, 101] : List UInt8) then (some true) else (some (a0.toList == ([83, 101, 114, 105, 97, 108, 105, 122, 97, 98, 108, 101] : List UInt8))))
set_option maxHeartbeats 8000000 in
set_option maxRecDepth 100000 in
theorem arrays_top.calls (a0 : ByteArray) (r : Bool) (w : World) (h : arrays_top.f a0 = some r) :
  Calls Tryd.prog 44 #[.string a0] w fun e w' => e = .returned (.bool r) ∧ Drawn0 w w' := by
 have H : (if a0.toList = ([79, 98, 106, 101, 99, 116] : List UInt8) then (some true) else (if a0.toList = ([67, 108, 111, 110, 101, 97, 98, 108, 101] : List UInt8) then (some true) else (some (a0.toList == ([83, 101, 114, 105, 97, 108, 105, 122, 97, 98, 108, 101] : List UInt8))))) = some r := h; clear h
 by_cases c2 : a0.toList = ([79, 98, 106, 101, 99, 116] : List UInt8)
 ·rw [if_pos c2] at H
  have c2b0 : (a0.toList == ([79, 98, 106, 101, 99, 116] : List UInt8)) = true := beq_iff_eq.mpr c2; have c2b1 : (a0.toList != ([79, 98, 106, 101, 99, 116] : List UInt8)) = false := bne_eq_false_iff_eq.mpr c2; clear c2; obtain rfl := Option.some.inj H; go_enter Tryd.func44, Tryd.ntmps44; go_wp2; go_ret
  exact ⟨by first | rfl | (simp; done) | (simp [*]; done), by repeat (first | exact Drawn0.refl _ | apply Drawn0.step)⟩
 ·rw [if_neg c2] at H
  have c2b0 : (a0.toList == ([79, 98, 106, 101, 99, 116] : List UInt8)) = false := beq_eq_false_iff_ne.mpr c2; have c2b1 : (a0.toList != ([79, 98, 106, 101, 99, 116] : List UInt8)) = true := bne_iff_ne.mpr c2
  by_cases c3 : a0.toList = ([67, 108, 111, 110, 101, 97, 98, 108, 101] : List UInt8)
  ·rw [if_pos c3] at H
   have c3b0 : (a0.toList == ([67, 108, 111, 110, 101, 97, 98, 108, 101] : List UInt8)) = true := beq_iff_eq.mpr c3; have c3b1 : (a0.toList != ([67, 108, 111, 110, 101, 97, 98, 108, 101] : List UInt8)) = false := bne_eq_false_iff_eq.mpr c3; clear c3; obtain rfl := Option.some.inj H; go_enter Tryd.func44, Tryd.ntmps44; go_wp2; go_ret
   exact ⟨by first | rfl | (simp; done) | (simp [*]; done), by repeat (first | exact Drawn0.refl _ | apply Drawn0.step)⟩
  ·rw [if_neg c3] at H
   have c3b0 : (a0.toList == ([67, 108, 111, 110, 101, 97, 98, 108, 101] : List UInt8)) = false := beq_eq_false_iff_ne.mpr c3; have c3b1 : (a0.toList != ([67, 108, 111, 110, 101, 97, 98, 108, 101] : List UInt8)) = true := bne_iff_ne.mpr c3; obtain rfl := Option.some.inj H; go_enter Tryd.func44, Tryd.ntmps44; go_wp2; go_ret
   exact ⟨by first | rfl | (simp; done) | (simp [*]; done), by repeat (first | exact Drawn0.refl _ | apply Drawn0.step)⟩
end Go.Proofs.YtaipkdglhfhhiaaDoor.Pt

namespace Go.Proofs.YtaipkdglhfhhiaaDoor.Pt
open Go.RowKit Go.Proofs.YtaipkdglhfhhiaaDoorW.PrintWords Go.Proofs.YtaipkdglhfhhiaaDoorW.PrintLast Go.Proofs.YtaipkdglhfhhiaaDoorW.PrintMore
attribute [local go_sem] max2_int min2_int max_two min_two max_three min_three max_four min_four   -- for this text's walks alone
set_option linter.unusedVariables false
set_option linter.unusedSimpArgs false
attribute [local go_sem high] eqA31
mutual
def arrays_below.j1 : Nat → List Hi.Ent → Int → ByteArray → Int → ByteArray → Option (Bool)
 | 0, _, _, _, _, _ => none
 | k + 1, x0, x108000, x108001, x109000, x109001 => (arrays_isInt.f x108000 x108001).bind fun t109 => (if t109 = true then (arrays_below.j2 k x0 true x108000 x108001 x109000 x109001) else ((arrays_isInt.f x109000 x109001).bind fun t110 => (arrays_below.j2 k x0 t110 x108000 x108001 x109000 x109001)))
def arrays_below.j2 : Nat → List Hi.Ent → Bool → Int → ByteArray → Int → ByteArray → Option (Bool)
 | 0, _, _, _, _, _, _ => none
 | k + 1, x0, x27, x108000, x108001, x109000, x109001 => if x27 = true then (some (x108000 == x109000 && (x108001.toList == x109001.toList))) else (if x108000 > 0 then ((arrays_top.f x109001).bind fun t111 => (some t111)) else (if x109000 > 0 then (some false) else ((hier_World_ByName.f x0 x108001).bind fun bt112 => ((hier_World_ByName.f x0 x109001).bind fun bt114 => ((hier_World_Extends.f x0 bt112.1 bt114.1).bind fun t116 => (some t116))))))
def arrays_below.l0 : Nat → List Hi.Ent → Int → ByteArray → Int → ByteArray → Option (Bool)
 | 0, _, _, _, _, _ => none
 | k + 1, x0, x108000, x108001, x109000, x109001 => if x108000 > 0 then (if x109000 > 0 then (arrays_below.l0 k x0 (wrap64 (x108000 - 1)) x108001 (wrap64 (x109000 - 1)) x109001) else (arrays_below.j1 k x0 x108000 x108001 x109000 x109001)) else (arrays_below.j1 k x0 x108000 x108001 x109000 x109001)
end
def arrays_below.f (k : Nat) (a0 : List Hi.Ent) (a1_0 : Int) (a1_1 : ByteArray) (a2_0 : Int) (a2_1 : ByteArray) : Option (Bool) := arrays_below.l0 k a0 a1_0 a1_1 a2_0 a2_1
set_option maxHeartbeats 8000000 in
set_option maxRecDepth 100000 in
theorem arrays_below.calls (k : Nat) (G_ : Nat) (a0 : List Hi.Ent) (a1_0 : Int) (a1_1 : ByteArray) (a2_0 : Int) (a2_1 : ByteArray) (r : Bool) (w : World) (hq0 : WOK w G_ a0) (h : arrays_below.f k a0 a1_0 a1_1 a2_0 a2_1 = some r) :
  Calls Tryd.prog 29 #[.pointer (some ⟨G_, 0, none⟩), .agg #[.int .i64 a1_0, .string a1_1], .agg #[.int .i64 a2_0, .string a2_1]] w fun e w' => e = .returned (.bool r) ∧ Below w.heap.size w w' := by
 have hu31 := Tryd.underlying31; have HQa0 := Aside0.mk hq0; clear hq0; have HB := Aside0.mk (Below.refl w.heap.size w); have H : (arrays_below.l0 k a0 a1_0 a1_1 a2_0 a2_1) = some r := h; clear h; have HC4 := Aside0.mk H; clear H; go_enter Tryd.func29, Tryd.ntmps29
 go_upto_block 0 with (first | ((with_reducible refine gate_dst (N := 4) rfl ?_); refine eX 4 #[.int .i64 a1_0, .string a1_1] 31 ?_; intro gb107 hg w5 hbox hb; have n0_ := Aside0.mk (below_step (bX HB) hb); have n1_ := Aside0.mk (hbox); have n2_ := Aside0.mk ((by rw [hg]; exact (below_size (bX HB)) : w.heap.size ≤ gb107)); have n3_ := Aside0.mk ((by rw [hg]; exact (below_size (bX HB)) : w.heap.size ≤ gb107)); clear HB; have HB := n0_; have BK107 := n1_; have GW107 := n2_; have GE107 := n3_; clear n0_ n1_ n2_ n3_; clear hb hbox hg) | ((with_reducible refine gate_dst (N := 5) rfl ?_); refine eX 5 #[.int .i64 a2_0, .string a2_1] 31 ?_; intro gb108 hg w6 hbox hb; have n0_ := Aside0.mk (blk_below (kX BK107) hb); have n1_ := Aside0.mk (below_step (bX1 HB GE107) hb); have n2_ := Aside0.mk (hbox); have n3_ := Aside0.mk ((by rw [hg]; exact (below_size (bX1 HB GE107)) : w.heap.size ≤ gb108)); have n4_ := Aside0.mk ((by rw [hg]; exact (below_size (bX1 HB GE107)) : w.heap.size ≤ gb108)); have n5_ := Aside0.mk ((by rw [hg]; exact Nat.ne_of_lt (blk_lt (kX BK107)) : gb107 ≠ gb108)); have n6_ := Aside0.mk ((by rw [hg]; exact Nat.ne_of_gt (blk_lt (kX BK107)) : gb108 ≠ gb107)); clear BK107; clear HB; have BK107 := n0_; have HB := n1_; have BK108 := n2_; have GW108 := n3_; have GE108 := n4_; have NB107_108 := n5_; have NB108_107 := n6_; clear n0_ n1_ n2_ n3_ n4_ n5_ n6_; clear hb hbox hg))
 (try simp only [Act.put, List.setIfInBounds_toArray, List.set_cons_zero, List.set_cons_succ])
 go_cut [] (fun wc => ∃ (kq : Nat) (x108000_3 : Int) (x109000_3 : Int), Aside0 (arrays_below.j1 kq a0 x108000_3 a1_1 x109000_3 a2_1 = some r) ∧ Aside0 (kq ≤ k) ∧ Aside0 (wc.heap[gb107]? = some (.cells #[.int .i64 x108000_3, .string a1_1] 31 (0, 0))) ∧ Aside0 (wc.heap[gb108]? = some (.cells #[.int .i64 x109000_3, .string a2_1] 31 (0, 0))) ∧ Aside0 (Below w.heap.size w wc))
 case first =>
  have H := HC4.out; clear HC4; have H' := Aside0.mk H; clear H; go_wp2
  go_loopg [] k (fun kq w' => ∃ (x108000_1 : Int) (x109000_1 : Int), Aside0 (arrays_below.l0 kq a0 x108000_1 a1_1 x109000_1 a2_1 = some r) ∧ Aside0 (kq ≤ k) ∧ Aside0 (w'.heap[gb107]? = some (.cells #[.int .i64 x108000_1, .string a1_1] 31 (0, 0))) ∧ Aside0 (w'.heap[gb108]? = some (.cells #[.int .i64 x109000_1, .string a2_1] 31 (0, 0))) ∧ Aside0 (Below w.heap.size w w'))
  case atStart => exact ⟨(a1_0), (a2_0), H', ⟨Nat.le_refl _⟩, ⟨by (with_reducible repeat (first | refine blk_drewN ?_ _ | refine blk_drew ?_ | refine blk_alloc ?_ _)); exact BK107.out⟩, ⟨by (with_reducible repeat (first | refine blk_drewN ?_ _ | refine blk_drew ?_ | refine blk_alloc ?_ _)); exact BK108.out⟩, ⟨bX2 HB GE107 GE108⟩⟩
  case round =>
   clear H'
   try clear c2
   try clear p2
   obtain ⟨x108000_1, x109000_1, HA, HK1, BK107, BK108, HB⟩ := hrel
   cases gk with
   | zero => exact absurd HA.out (by simp [arrays_below.l0])
   | succ k1 =>
    have H := HA.out; clear HA; simp only [arrays_below.l0] at H
    by_cases c7 : x108000_1 > 0
    ·rw [if_pos c7] at H
     have c7b0 : decide (0 < x108000_1) = true := decide_eq_true c7; clear c7
     (first | rw [c7b0] | (simp only [i64_w, i32_w]; rw [c7b0]) | skip)
     by_cases c8 : x109000_1 > 0
     ·rw [if_pos c8] at H
      have c8b0 : decide (0 < x109000_1) = true := decide_eq_true c8; clear c8; have H' := Aside0.mk H; clear H; have hnb9 := NB107_108.out; have hnc9 := NB108_107.out; obtain ⟨hcz10_0, hcz10_1, hfz10_0, hfz10_1⟩ := c2X BK107; obtain ⟨hcz11_0, hcz11_1, hfz11_0, hfz11_1⟩ := c2X BK108; go_wp2
      go_roundg k1
      case measure => have := HK1.out; omega
      case rel => exact ⟨(wrap64 (x108000_1 - 1)), (wrap64 (x109000_1 - 1)), H', ⟨by have := HK1.out; omega⟩, ⟨by (with_reducible repeat (first | refine blk_drewN ?_ _ | refine blk_drew ?_ | refine blk_alloc ?_ _)); refine blk_far ?_ NB107_108.out _; (with_reducible repeat (first | refine blk_drewN ?_ _ | refine blk_drew ?_ | refine blk_alloc ?_ _)); refine blk_put (cs := #[.int .i64 x108000_1, .string a1_1]) ?_ 0 _ rfl; (with_reducible repeat (first | refine blk_drewN ?_ _ | refine blk_drew ?_ | refine blk_alloc ?_ _)); exact BK107.out⟩, ⟨by (with_reducible repeat (first | refine blk_drewN ?_ _ | refine blk_drew ?_ | refine blk_alloc ?_ _)); refine blk_put (cs := #[.int .i64 x109000_1, .string a2_1]) ?_ 0 _ rfl; (with_reducible repeat (first | refine blk_drewN ?_ _ | refine blk_drew ?_ | refine blk_alloc ?_ _)); refine blk_far ?_ NB108_107.out _; (with_reducible repeat (first | refine blk_drewN ?_ _ | refine blk_drew ?_ | refine blk_alloc ?_ _)); exact BK108.out⟩, ⟨bX2 HB GE107 GE108⟩⟩
     ·rw [if_neg c8] at H
      have c8b0 : decide (0 < x109000_1) = false := decide_eq_false c8; clear c8; have H' := Aside0.mk H; clear H; have hnb12 := NB107_108.out; have hnc12 := NB108_107.out; obtain ⟨hcz13_0, hcz13_1, hfz13_0, hfz13_1⟩ := c2X BK107; obtain ⟨hcz14_0, hcz14_1, hfz14_0, hfz14_1⟩ := c2X BK108; go_wp2; go_meet
      case rel => exact ⟨_, (x108000_1), (x109000_1), H', ⟨by have := HK1.out; first | omega | exact Nat.le_refl _⟩, ⟨by (with_reducible repeat (first | refine blk_drewN ?_ _ | refine blk_drew ?_ | refine blk_alloc ?_ _)); exact BK107.out⟩, ⟨by (with_reducible repeat (first | refine blk_drewN ?_ _ | refine blk_drew ?_ | refine blk_alloc ?_ _)); exact BK108.out⟩, ⟨bX2 HB GE107 GE108⟩⟩
    ·rw [if_neg c7] at H
     have c7b0 : decide (0 < x108000_1) = false := decide_eq_false c7; clear c7
     (first | rw [c7b0] | (simp only [i64_w, i32_w]; rw [c7b0]) | skip)
     have H' := Aside0.mk H; clear H; have hnb15 := NB107_108.out; have hnc15 := NB108_107.out; obtain ⟨hcz16_0, hcz16_1, hfz16_0, hfz16_1⟩ := c2X BK107; go_wp2; go_meet
     case rel => exact ⟨_, (x108000_1), (x109000_1), H', ⟨by have := HK1.out; first | omega | exact Nat.le_refl _⟩, ⟨by (with_reducible repeat (first | refine blk_drewN ?_ _ | refine blk_drew ?_ | refine blk_alloc ?_ _)); exact BK107.out⟩, ⟨by (with_reducible repeat (first | refine blk_drewN ?_ _ | refine blk_drew ?_ | refine blk_alloc ?_ _)); exact BK108.out⟩, ⟨bX2 HB GE107 GE108⟩⟩
 case rest =>
  clear HC4
  try clear c1
  try clear c2
  try clear p2
  try clear p6
  try clear c7
  try clear c7b0
  try clear c8
  try clear c8b0
  try clear c9
  try clear c12
  try clear c15
  try clear hcz10_0 hcz10_1
  try clear hcz11_0 hcz11_1
  try clear hcz13_0 hcz13_1
  try clear hcz14_0 hcz14_1
  try clear hcz16_0 hcz16_1
  try clear hfz10_0 hfz10_1
  try clear hfz11_0 hfz11_1
  try clear hfz13_0 hfz13_1
  try clear hfz14_0 hfz14_1
  try clear hfz16_0 hfz16_1
  try clear p2
  obtain ⟨kq, x108000_3, x109000_3, HA, HJ3, BK107, BK108, HB⟩ := hcut
  cases kq with
  | zero => exact absurd HA.out (by simp [arrays_below.j1])
  | succ kj3 =>
   have H := HA.out; clear HA; simp only [arrays_below.j1] at H; have HC17 := Aside0.mk H; clear H
   go_upto_region 4 with (fail)
   go_cut [27] (fun v27 wc => ∃ (kq : Nat) (x27_16 : Bool), v27 = .bool x27_16 ∧ Aside0 (arrays_below.j2 kq a0 x27_16 x108000_3 a1_1 x109000_3 a2_1 = some r) ∧ Aside0 (kq ≤ kj3) ∧ Aside0 (wc.heap[gb107]? = some (.cells #[.int .i64 x108000_3, .string a1_1] 31 (0, 0))) ∧ Aside0 (wc.heap[gb108]? = some (.cells #[.int .i64 x109000_3, .string a2_1] 31 (0, 0))) ∧ Aside0 (Below w.heap.size w wc))
   case first =>
    have H := HC17.out; clear HC17; replace H := Option.bind_eq_some_iff.mp H; obtain ⟨t109, A180, H⟩ := H; replace H : (if t109 = true then (arrays_below.j2 kj3 a0 true x108000_3 a1_1 x109000_3 a2_1) else ((arrays_isInt.f x109000_3 a2_1).bind fun t110 => (arrays_below.j2 kj3 a0 t110 x108000_3 a1_1 x109000_3 a2_1))) = some r := H; have A18 := Aside0.mk A180; clear A180
    by_cases c19 : t109 = true
    ·subst c19
     have H1 : (arrays_below.j2 kj3 a0 true x108000_3 a1_1 x109000_3 a2_1) = some r := by rw [if_pos rfl] at H; exact H
     clear H; have H := H1; clear H1; have H' := Aside0.mk H; clear H; have hnb20 := NB107_108.out; have hnc20 := NB108_107.out; obtain ⟨hcz21_0, hcz21_1, hfz21_0, hfz21_1⟩ := c2X BK107; go_wp2_with (first | ((with_reducible refine gate_callee (f := 43) rfl ?_); refine gX (some 29) Tryd.func43 #[.agg #[.int .i64 x108000_3, .string a1_1]] ?_; (with_reducible refine (arrays_isInt.calls x108000_3 a1_1 true _ A18.out).mono ?_); rintro e w22 ⟨rfl, hb⟩; refine ⟨_, rfl, ?_⟩; have n0_ := Aside0.mk (blk_below (kX BK107) hb); have n1_ := Aside0.mk (blk_below (kX BK108) hb); have n2_ := Aside0.mk (below_step (bX2 HB GE107 GE108) hb); clear BK107; clear BK108; clear HB; have BK107 := n0_; have BK108 := n1_; have HB := n2_; clear n0_ n1_ n2_; (try clear hb); (try clear hb2); (try clear hk); (try clear hi))); go_meet
     case rel => exact ⟨_, (true), vX, H', ⟨by have := HJ3.out; first | omega | exact Nat.le_refl _⟩, ⟨by (with_reducible repeat (first | refine blk_drewN ?_ _ | refine blk_drew ?_ | refine blk_alloc ?_ _)); exact BK107.out⟩, ⟨by (with_reducible repeat (first | refine blk_drewN ?_ _ | refine blk_drew ?_ | refine blk_alloc ?_ _)); exact BK108.out⟩, ⟨bX2 HB GE107 GE108⟩⟩
    ·replace c19 := Bool.eq_false_iff.mpr c19
     subst c19
     have H1 : ((arrays_isInt.f x109000_3 a2_1).bind fun t110 => (arrays_below.j2 kj3 a0 t110 x108000_3 a1_1 x109000_3 a2_1)) = some r := by rw [if_neg (show ¬ (false = true) by decide)] at H; exact H
     clear H; have H := H1; clear H1; replace H := Option.bind_eq_some_iff.mp H; obtain ⟨t110, A230, H⟩ := H; replace H : (arrays_below.j2 kj3 a0 t110 x108000_3 a1_1 x109000_3 a2_1) = some r := H; have A23 := Aside0.mk A230; clear A230; have H' := Aside0.mk H; clear H; have hnb24 := NB107_108.out; have hnc24 := NB108_107.out; obtain ⟨hcz25_0, hcz25_1, hfz25_0, hfz25_1⟩ := c2X BK107; go_wp2_with (first | ((with_reducible refine gate_callee (f := 43) rfl ?_); refine gX (some 29) Tryd.func43 #[.agg #[.int .i64 x108000_3, .string a1_1]] ?_; (with_reducible refine (arrays_isInt.calls x108000_3 a1_1 false _ A18.out).mono ?_); rintro e w26 ⟨rfl, hb⟩; refine ⟨_, rfl, ?_⟩; have n0_ := Aside0.mk (blk_below (kX BK107) hb); have n1_ := Aside0.mk (blk_below (kX BK108) hb); have n2_ := Aside0.mk (below_step (bX2 HB GE107 GE108) hb); clear BK107; clear BK108; clear HB; have BK107 := n0_; have BK108 := n1_; have HB := n2_; clear n0_ n1_ n2_; (try clear hb); (try clear hb2); (try clear hk); (try clear hi); obtain ⟨hcz27_0, hcz27_1, hfz27_0, hfz27_1⟩ := c2X BK108) | (go_at_call 43; (with_reducible refine (arrays_isInt.calls x109000_3 a2_1 t110 _ A23.out).mono ?_); rintro e w28 ⟨rfl, hb⟩; have n0_ := Aside0.mk (blk_below (kX BK107) hb); have n1_ := Aside0.mk (blk_below (kX BK108) hb); have n2_ := Aside0.mk (below_step (bX2 HB GE107 GE108) hb); clear BK107; clear BK108; clear HB; have BK107 := n0_; have BK108 := n1_; have HB := n2_; clear n0_ n1_ n2_; (try clear hb); (try clear hb2); (try clear hk); (try clear hi))); go_meet
     case rel => exact ⟨_, (t110), vX, H', ⟨by have := HJ3.out; first | omega | exact Nat.le_refl _⟩, ⟨by (with_reducible repeat (first | refine blk_drewN ?_ _ | refine blk_drew ?_ | refine blk_alloc ?_ _)); exact BK107.out⟩, ⟨by (with_reducible repeat (first | refine blk_drewN ?_ _ | refine blk_drew ?_ | refine blk_alloc ?_ _)); exact BK108.out⟩, ⟨bX2 HB GE107 GE108⟩⟩
   case rest =>
    clear HC17
    try clear c1
    try clear c2
    try clear p2
    try clear c4
    try clear p6
    try clear c7
    try clear c7b0
    try clear c8
    try clear c8b0
    try clear c9
    try clear c12
    try clear c15
    try clear c19
    try clear c20
    try clear c24
    try clear hcz10_0 hcz10_1
    try clear hcz11_0 hcz11_1
    try clear hcz13_0 hcz13_1
    try clear hcz14_0 hcz14_1
    try clear hcz16_0 hcz16_1
    try clear hcz21_0 hcz21_1
    try clear hcz25_0 hcz25_1
    try clear hcz27_0 hcz27_1
    try clear hfz10_0 hfz10_1
    try clear hfz11_0 hfz11_1
    try clear hfz13_0 hfz13_1
    try clear hfz14_0 hfz14_1
    try clear hfz16_0 hfz16_1
    try clear hfz21_0 hfz21_1
    try clear hfz25_0 hfz25_1
    try clear hfz27_0 hfz27_1
    try clear p2
    try clear p6
    obtain ⟨kq, x27_16, rfl, HA, HJ16, BK107, BK108, HB⟩ := hcut
    cases kq with
    | zero => exact absurd HA.out (by simp [arrays_below.j2])
    | succ kj16 =>
     have H := HA.out; clear HA; simp only [arrays_below.j2] at H
     by_cases c29 : x27_16 = true
     ·subst c29
      have H1 : (some (x108000_3 == x109000_3 && (a1_1.toList == a2_1.toList))) = some r := by rw [if_pos rfl] at H; exact H
      clear H; have H := H1; clear H1; obtain rfl := Option.some.inj H; have hnb30 := NB107_108.out; have hnc30 := NB108_107.out; obtain ⟨hcz31_0, hcz31_1, hfz31_0, hfz31_1⟩ := c2X BK107; obtain ⟨hcz32_0, hcz32_1, hfz32_0, hfz32_1⟩ := c2X BK108; go_wp2; go_ret
      exact ⟨by first | rfl | (simp [errW_none, errW_some] <;> rfl) | (simp [*, errW_none, errW_some] <;> rfl), bX2 HB GE107 GE108⟩
     ·replace c29 := Bool.eq_false_iff.mpr c29
      subst c29
      have H1 : (if x108000_3 > 0 then ((arrays_top.f a2_1).bind fun t111 => (some t111)) else (if x109000_3 > 0 then (some false) else ((hier_World_ByName.f a0 a1_1).bind fun bt112 => ((hier_World_ByName.f a0 a2_1).bind fun bt114 => ((hier_World_Extends.f a0 bt112.1 bt114.1).bind fun t116 => (some t116)))))) = some r := by rw [if_neg (show ¬ (false = true) by decide)] at H; exact H
      clear H; have H := H1; clear H1
      by_cases c33 : x108000_3 > 0
      ·rw [if_pos c33] at H
       have c33b0 : decide (0 < x108000_3) = true := decide_eq_true c33; clear c33; replace H := Option.bind_eq_some_iff.mp H; obtain ⟨t111, A340, H⟩ := H; replace H : (some t111) = some r := H; have A34 := Aside0.mk A340; clear A340; obtain rfl := Option.some.inj H; have hnb35 := NB107_108.out; have hnc35 := NB108_107.out; obtain ⟨hcz36_0, hcz36_1, hfz36_0, hfz36_1⟩ := c2X BK107; obtain ⟨hcz37_0, hcz37_1, hfz37_0, hfz37_1⟩ := c2X BK108; go_wp2_with (first | ((with_reducible refine gate_callee (f := 44) rfl ?_); refine gX (some 43) Tryd.func44 #[.string a2_1] ?_; (with_reducible refine (arrays_top.calls a2_1 t111 _ A34.out).mono ?_); rintro e w' ⟨rfl, ⟨nd, rfl⟩⟩; refine ⟨_, rfl, ?_⟩)); go_ret
       exact ⟨by first | rfl | (simp [errW_none, errW_some] <;> rfl) | (simp [*, errW_none, errW_some] <;> rfl), bX2 HB GE107 GE108⟩
      ·rw [if_neg c33] at H
       have c33b0 : decide (0 < x108000_3) = false := decide_eq_false c33; clear c33
       by_cases c38 : x109000_3 > 0
       ·rw [if_pos c38] at H
        have c38b0 : decide (0 < x109000_3) = true := decide_eq_true c38; clear c38; obtain rfl := Option.some.inj H; have hnb39 := NB107_108.out; have hnc39 := NB108_107.out; obtain ⟨hcz40_0, hcz40_1, hfz40_0, hfz40_1⟩ := c2X BK107; obtain ⟨hcz41_0, hcz41_1, hfz41_0, hfz41_1⟩ := c2X BK108; go_wp2; go_ret
        exact ⟨by first | rfl | (simp [errW_none, errW_some] <;> rfl) | (simp [*, errW_none, errW_some] <;> rfl), bX2 HB GE107 GE108⟩
       ·rw [if_neg c38] at H
        have c38b0 : decide (0 < x109000_3) = false := decide_eq_false c38; clear c38; replace H := Option.bind_eq_some_iff.mp H; obtain ⟨⟨t112, t113⟩, A420, H⟩ := H; replace H : ((hier_World_ByName.f a0 a2_1).bind fun bt114 => ((hier_World_Extends.f a0 t112 bt114.1).bind fun t116 => (some t116))) = some r := H; have A42 := Aside0.mk A420; clear A420; replace H := Option.bind_eq_some_iff.mp H; obtain ⟨⟨t114, t115⟩, A430, H⟩ := H; replace H : ((hier_World_Extends.f a0 t112 t114).bind fun t116 => (some t116)) = some r := H; have A43 := Aside0.mk A430; clear A430; replace H := Option.bind_eq_some_iff.mp H; obtain ⟨t116, A440, H⟩ := H; replace H : (some t116) = some r := H; have A44 := Aside0.mk A440; clear A440; obtain rfl := Option.some.inj H; have hnb45 := NB107_108.out; have hnc45 := NB108_107.out; obtain ⟨hcz46_0, hcz46_1, hfz46_0, hfz46_1⟩ := c2X BK107; obtain ⟨hcz47_0, hcz47_1, hfz47_0, hfz47_1⟩ := c2X BK108; go_wp2_with (first | ((with_reducible refine gate_callee (f := 27) rfl ?_); refine gX (some 52) Tryd.func27 #[.pointer (some ⟨G_, 0, none⟩), .string a1_1] ?_; (with_reducible refine (hier_World_ByName.calls G_ a0 a1_1 t112 t113 _ ?side1 A42.out).mono ?_); (case side1 => repeat (first | (with_reducible exact HQa0.out) | (with_reducible refine WOK.alloc ?_ _) | (with_reducible refine WOK.drewN ?_ _) | (with_reducible refine WOK.drew ?_) | exact WOK.below HQa0.out HB.out | exact WOK.below HQa0.out (bX2 HB GE107 GE108))); rintro e w48 ⟨rfl, hb⟩; refine ⟨_, rfl, ?_⟩; have n0_ := Aside0.mk (blk_below (kX BK107) hb); have n1_ := Aside0.mk (blk_below (kX BK108) hb); have n2_ := Aside0.mk (below_step (bX2 HB GE107 GE108) hb); clear BK107; clear BK108; clear HB; have BK107 := n0_; have BK108 := n1_; have HB := n2_; clear n0_ n1_ n2_; (try clear hb); (try clear hb2); (try clear hk); (try clear hi); obtain ⟨hcz49_0, hcz49_1, hfz49_0, hfz49_1⟩ := c2X BK108) | ((with_reducible refine gate_callee (f := 27) rfl ?_); refine gX (some 59) Tryd.func27 #[.pointer (some ⟨G_, 0, none⟩), .string a2_1] ?_; (with_reducible refine (hier_World_ByName.calls G_ a0 a2_1 t114 t115 _ ?side1 A43.out).mono ?_); (case side1 => repeat (first | (with_reducible exact HQa0.out) | (with_reducible refine WOK.alloc ?_ _) | (with_reducible refine WOK.drewN ?_ _) | (with_reducible refine WOK.drew ?_) | exact WOK.below HQa0.out HB.out | exact WOK.below HQa0.out (bX2 HB GE107 GE108))); rintro e w50 ⟨rfl, hb⟩; refine ⟨_, rfl, ?_⟩; have n0_ := Aside0.mk (blk_below (kX BK107) hb); have n1_ := Aside0.mk (blk_below (kX BK108) hb); have n2_ := Aside0.mk (below_step (bX2 HB GE107 GE108) hb); clear BK107; clear BK108; clear HB; have BK107 := n0_; have BK108 := n1_; have HB := n2_; clear n0_ n1_ n2_; (try clear hb); (try clear hb2); (try clear hk); (try clear hi)) | ((with_reducible refine gate_callee (f := 22) rfl ?_); refine gX (some 65) Tryd.func22 #[.pointer (some ⟨G_, 0, none⟩), .int .i64 t112, .int .i64 t114] ?_; (with_reducible refine (hier_World_Extends.calls G_ a0 t112 t114 t116 _ ?side1 A44.out).mono ?_); (case side1 => repeat (first | (with_reducible exact HQa0.out) | (with_reducible refine WOK.alloc ?_ _) | (with_reducible refine WOK.drewN ?_ _) | (with_reducible refine WOK.drew ?_) | exact WOK.below HQa0.out HB.out | exact WOK.below HQa0.out (bX2 HB GE107 GE108))); rintro e w51 ⟨rfl, hb⟩; refine ⟨_, rfl, ?_⟩; have n0_ := Aside0.mk (blk_below (kX BK107) hb); have n1_ := Aside0.mk (blk_below (kX BK108) hb); have n2_ := Aside0.mk (below_step (bX2 HB GE107 GE108) hb); clear BK107; clear BK108; clear HB; have BK107 := n0_; have BK108 := n1_; have HB := n2_; clear n0_ n1_ n2_; (try clear hb); (try clear hb2); (try clear hk); (try clear hi))); go_ret
        exact ⟨by first | rfl | (simp [errW_none, errW_some] <;> rfl) | (simp [*, errW_none, errW_some] <;> rfl), bX2 HB GE107 GE108⟩
end Go.Proofs.YtaipkdglhfhhiaaDoor.Pt

namespace Go.Proofs.YtaipkdglhfhhiaaDoor.Hi
open Go Go.RowKit Go.Proofs.YtaipkdglhfhhiaaDoor.Nm Go.Proofs.YtaipkdglhfhhiaaDoorW.PrintWords Go.Proofs.YtaipkdglhfhhiaaDoorW.PrintLast Go.Proofs.YtaipkdglhfhhiaaDoorW.PrintMore Go.Proofs.YtaipkdglhfhhiaaDoor.Pt
set_option linter.unusedVariables false
set_option linter.unusedSimpArgs false
set_option maxHeartbeats 4000000
set_option maxRecDepth 100000
def fitF (id : Int) (p c : S40) (want : Bool) : Int × Int :=
 if isI p != want then (0, 23) else if !want && isI c && id != 0 then (0, 23) else if Go.bits .and .i64 p.f3 1 == 0 && !(tog c p) then (0, 22) else (id, 0)
def aboveF (es : List Ent) (c : S40) (name : ByteArray) (want : Bool) : Int × Int :=
 if (nameF es name).2 = 0 then fitF (nameF es name).1 (ent es (nameF es name).1).c c want else (0, 20)
theorem above_any (w : World) (base g : Nat) (v : Value) (mb : Nat) (ps : List Nat) (es : List Ent) (h : WIn w base g v mb ps es) (hf : ∀ x ∈ es, Fine x) (c : S40) (v1 v2 v5 : Value) (name : ByteArray) (want : Bool) (hc : c.f0.size < 4611686018427387904) (hs : name.size ≤ 9223372036854775807) (hlen : es.length ≤ 1000) :
  Calls Tryd.prog 33 #[.pointer (some ⟨g, 0, none⟩), .agg #[.string c.f0, v1, v2, .int .i64 c.f3, .int .i64 c.f4, v5], .string name, .bool want] w fun e w' => e = .returned (.tuple #[.int .i64 (aboveF es c name want).1, .int .i64 (aboveF es c name want).2]) ∧ Below w.heap.size w w' := by
 generalize hV : aboveF es c name want = V; replace hV := Lib.hid hV; obtain ⟨D, hD, hS⟩ := h.map; have q1 : w.cell? ⟨g, 1, none⟩ = some (.map (some mb)) := (blk_cell h.blk 1).trans rfl; have hgl := blk_lt h.blk; have HW := Lib.hid h; replace hS := Lib.hid hS; have hD1 := Lib.hid (hD.alloc (.cells #[.string c.f0, v1, v2, .int .i64 c.f3, .int .i64 c.f4, v5] 40)); clear h hD
 cases hh : Maps.has D (.string name.data.toList)
 ·have LN := Lib.hid (fun c hc => (look_name hS.out name c hc).2 hh)
  go_enter Tryd.func33, Tryd.ntmps33; go_wp2_with (at_lookup; refine wpList_lookup_own_ok_int _ rfl _ _ 60 rfl 9 3 .i64 (Maps.string_keyed Tryd.underlying9) Tryd.underlying60 Tryd.underlying3 (zeroInt _) mb es.length D rfl hD1.out _ _ rfl (Go.WideMaps.keyOf_string_mk Tryd.underlying9 hs) ?_; intro i hat hwc; replace hat := Lib.hid hat; clear hwc); go_ret2; have e1 := LN.out i hat.out
  exact ⟨by rw [← hV.out, aboveF, e1]; rfl, (Below.refl _ _).alloc (Nat.le_refl _) _⟩
 ·have LN := Lib.hid (fun c hc => (look_name hS.out name c hc).1 hh)
  have B5 := Lib.hid (blk_new w (.cells #[.string c.f0, v1, v2, .int .i64 c.f3, .int .i64 c.f4, v5] 40)); have HB : Hid (Below w.heap.size w (w.alloc (.cells #[.string c.f0, v1, v2, .int .i64 c.f3, .int .i64 c.f4, v5] 40))) := Lib.hid ((Below.refl _ _).alloc (Nat.le_refl _) _); obtain ⟨Av, cv, rfl⟩ := Kd.R_slice HW.out.row; have qg0 : w.cell? ⟨g, 0, none⟩ = some (.slice Av ps.length cv) := (blk_cell HW.out.blk 0).trans rfl; go_enter Tryd.func33, Tryd.ntmps33
  go_upto_region 2 with (at_lookup; refine wpList_lookup_own_ok_int _ rfl _ _ 60 rfl 9 3 .i64 (Maps.string_keyed Tryd.underlying9) Tryd.underlying60 Tryd.underlying3 (zeroInt _) mb es.length D rfl hD1.out _ _ rfl (Go.WideMaps.keyOf_string_mk Tryd.underlying9 hs) ?_; intro id hat hwc; replace hat := Lib.hid hat; clear hwc)
  obtain ⟨n1, n2, n3, n4, n5⟩ := LN.out id hat.out; clear n5; have hVV : Hid (fitF id (ent es id).c c want = V) := Lib.hid (by rw [← hV.out, aboveF, n1, n2]; rfl); obtain ⟨hnl, ad, p, A2', c2', A5', c5', A8', c8', rfl, hrow, hent, _, _, _⟩ := WIn_all_at HW.out n3 n4; have sx : Hid ((ent es id).c.f0.size < 4611686018427387904) := Lib.hid (hf _ (List.mem_of_getElem? (get_ent n3 n4))).2.1; clear LN hV hat n1 n2 hD1 hS hf q1; generalize ent es id = x at *; have p0 : w.cell? ⟨p, 0, none⟩ = some (.string x.c.f0) := (blk_cell hent 0).trans rfl; have p1 : w.cell? ⟨p, 1, none⟩ = some (.string x.c.f1) := (blk_cell hent 1).trans rfl; have p2 : w.cell? ⟨p, 2, none⟩ = some (.slice A2' x.c.f2.length c2') := (blk_cell hent 2).trans rfl; have p3 : w.cell? ⟨p, 3, none⟩ = some (.int .i64 x.c.f3) := (blk_cell hent 3).trans rfl; have p4 : w.cell? ⟨p, 4, none⟩ = some (.int .i64 x.c.f4) := (blk_cell hent 4).trans rfl; have p5 : w.cell? ⟨p, 5, none⟩ = some (.slice A5' x.c.f5.length c5') := (blk_cell hent 5).trans rfl; replace hrow := pw_cell_below HB.out hrow; replace p0 := pw_cell_below HB.out p0; replace p1 := pw_cell_below HB.out p1; replace p2 := pw_cell_below HB.out p2; replace p3 := pw_cell_below HB.out p3; replace p4 := pw_cell_below HB.out p4; replace p5 := pw_cell_below HB.out p5; replace qg0 := pw_cell_below HB.out qg0
  have hlt : id < (ps.length : Int) := by omega
  have hws : Hid (w.heap.size < (w.alloc (.cells #[.string c.f0, v1, v2, .int .i64 c.f3, .int .i64 c.f4, v5] 40)).heap.size) := Lib.hid (by simp); clear hent HW hnl; generalize w.alloc (.cells #[.string c.f0, v1, v2, .int .i64 c.f3, .int .i64 c.f4, v5] 40) = W at *; have B12 := Lib.hid (blk_new W (.cells #[.string x.c.f0, .string x.c.f1, .slice A2' x.c.f2.length c2', .int .i64 x.c.f3, .int .i64 x.c.f4, .slice A5' x.c.f5.length c5'] 40)); have HB2 : Hid (Below w.heap.size w (W.alloc (.cells #[.string x.c.f0, .string x.c.f1, .slice A2' x.c.f2.length c2', .int .i64 x.c.f3, .int .i64 x.c.f4, .slice A5' x.c.f5.length c5'] 40))) := Lib.hid (below_alloc HB.out _); have B5b := Lib.hid (blk_alloc B5.out (.cells #[.string x.c.f0, .string x.c.f1, .slice A2' x.c.f2.length c2', .int .i64 x.c.f3, .int .i64 x.c.f4, .slice A5' x.c.f5.length c5'] 40)); clear B5; go_wp2_with fail; clear p0 p1 p2 p3 p4 p5 qg0 hrow; generalize W.alloc (.cells #[.string x.c.f0, .string x.c.f1, .slice A2' x.c.f2.length c2', .int .i64 x.c.f3, .int .i64 x.c.f4, .slice A5' x.c.f5.length c5'] 40) = U at *; refine (iface_any U (.string x.c.f0) (.string x.c.f1) (.slice A2' x.c.f2.length c2') (.int .i64 x.c.f4) (.slice A5' x.c.f5.length c5') x.c.f3).mono ?_; rintro e U1 ⟨rfl, hb1⟩; have B5c := blk_below B5b.out hb1; have B12c := blk_below B12.out hb1; have HB3 := Lib.hid (HB2.out.trans (hb1.mono HB2.out.size)); have y0 : U1.cell? ⟨w.heap.size, 0, none⟩ = some (.string c.f0) := (blk_cell B5c 0).trans rfl; have y1 : U1.cell? ⟨w.heap.size, 1, none⟩ = some v1 := (blk_cell B5c 1).trans rfl; have y2 : U1.cell? ⟨w.heap.size, 2, none⟩ = some v2 := (blk_cell B5c 2).trans rfl; have y3 : U1.cell? ⟨w.heap.size, 3, none⟩ = some (.int .i64 c.f3) := (blk_cell B5c 3).trans rfl; have y4 : U1.cell? ⟨w.heap.size, 4, none⟩ = some (.int .i64 c.f4) := (blk_cell B5c 4).trans rfl; have y5 : U1.cell? ⟨w.heap.size, 5, none⟩ = some v5 := (blk_cell B5c 5).trans rfl; have z0 : U1.cell? ⟨W.heap.size, 0, none⟩ = some (.string x.c.f0) := (blk_cell B12c 0).trans rfl; have z1 : U1.cell? ⟨W.heap.size, 1, none⟩ = some (.string x.c.f1) := (blk_cell B12c 1).trans rfl; have z2 : U1.cell? ⟨W.heap.size, 2, none⟩ = some (.slice A2' x.c.f2.length c2') := (blk_cell B12c 2).trans rfl; have z3 : U1.cell? ⟨W.heap.size, 3, none⟩ = some (.int .i64 x.c.f3) := (blk_cell B12c 3).trans rfl; have z4 : U1.cell? ⟨W.heap.size, 4, none⟩ = some (.int .i64 x.c.f4) := (blk_cell B12c 4).trans rfl; have z5 : U1.cell? ⟨W.heap.size, 5, none⟩ = some (.slice A5' x.c.f5.length c5') := (blk_cell B12c 5).trans rfl; have IC := Lib.hid (iface_any U1 (.string c.f0) v1 v2 (.int .i64 c.f4) v5 c.f3); have TG := Lib.hid (fun W => together_any W c x.c v1 v2 v5 (.string x.c.f1) (.slice A2' x.c.f2.length c2') (.slice A5' x.c.f5.length c5') (.int .i64 c.f3) (.int .i64 x.c.f3) hc sx.out); replace B5c := Lib.hid B5c; replace B12c := Lib.hid B12c; clear B5b B12 HB HB2 hb1 hws hlt n3 n4; have hI : Hid (isI x.c = (Go.bits .and .i64 x.c.f3 512 != 0)) := Lib.hid rfl; have hJ : Hid (isI c = (Go.bits .and .i64 c.f3 512 != 0)) := Lib.hid rfl; generalize (Go.bits .and .i64 x.c.f3 512 != 0) = ip at *; generalize (Go.bits .and .i64 c.f3 512 != 0) = ic at *
  cases ip with
  | true =>
   cases want with
   | false =>
    go_wp2; go_ret2
    exact ⟨by rw [← hVV.out, fitF, hI.out]; rfl, HB3.out⟩
   | true =>
    by_cases hp : Go.bits .and .i64 x.c.f3 1 = 0
    ·have hp1 : (Go.bits .and .i64 x.c.f3 1 == 0) = true := beq_iff_eq.2 hp
     clear hp
     cases ht : tog c x.c
     ·have ht2 := Lib.hid ht
      replace TG := Lib.hid (fun W => by have := TG.out W; rw [ht] at this; exact this); clear ht; go_wp2_with (first | (go_at_call 49; refine (TG.out _).mono ?_; rintro e U9 ⟨rfl, hb2⟩; replace hb2 := Lib.hid hb2)); go_ret2
      exact ⟨by rw [← hVV.out, fitF, hI.out, hJ.out, ht2.out, hp1]; rfl, HB3.out.trans (hb2.out.mono HB3.out.size)⟩
     ·have ht2 := Lib.hid ht
      replace TG := Lib.hid (fun W => by have := TG.out W; rw [ht] at this; exact this); clear ht; go_wp2_with (first | (go_at_call 49; refine (TG.out _).mono ?_; rintro e U9 ⟨rfl, hb2⟩; replace hb2 := Lib.hid hb2)); go_ret2
      exact ⟨by rw [← hVV.out, fitF, hI.out, hJ.out, ht2.out, hp1]; rfl, HB3.out.trans (hb2.out.mono HB3.out.size)⟩
    ·have hp1 : (Go.bits .and .i64 x.c.f3 1 == 0) = false := beq_eq_false_iff_ne.2 hp
     clear hp; go_wp2_with fail; go_ret2
     exact ⟨by rw [← hVV.out, fitF, hI.out, hJ.out, hp1]; rfl, HB3.out⟩
  | false =>
   cases want with
   | true =>
    go_wp2; go_ret2
    exact ⟨by rw [← hVV.out, fitF, hI.out]; rfl, HB3.out⟩
   | false =>
    go_wp2_with fail; refine IC.out.mono ?_; rintro e U2 ⟨rfl, hbc⟩; have B5d := blk_below B5c.out hbc; have B12d := blk_below B12c.out hbc; have HB4 := Lib.hid (HB3.out.trans (hbc.mono HB3.out.size)); clear y0 y1 y2 y3 y4 y5 z0 z1 z2 z3 z4 z5 hbc IC HB3 B5c B12c; have y0 : U2.cell? ⟨w.heap.size, 0, none⟩ = some (.string c.f0) := (blk_cell B5d 0).trans rfl; have y1 : U2.cell? ⟨w.heap.size, 1, none⟩ = some (v1) := (blk_cell B5d 1).trans rfl; have y2 : U2.cell? ⟨w.heap.size, 2, none⟩ = some (v2) := (blk_cell B5d 2).trans rfl; have y3 : U2.cell? ⟨w.heap.size, 3, none⟩ = some (.int .i64 c.f3) := (blk_cell B5d 3).trans rfl; have y4 : U2.cell? ⟨w.heap.size, 4, none⟩ = some (.int .i64 c.f4) := (blk_cell B5d 4).trans rfl; have y5 : U2.cell? ⟨w.heap.size, 5, none⟩ = some (v5) := (blk_cell B5d 5).trans rfl; have z0 : U2.cell? ⟨W.heap.size, 0, none⟩ = some (.string x.c.f0) := (blk_cell B12d 0).trans rfl; have z1 : U2.cell? ⟨W.heap.size, 1, none⟩ = some (.string x.c.f1) := (blk_cell B12d 1).trans rfl; have z2 : U2.cell? ⟨W.heap.size, 2, none⟩ = some (.slice A2' x.c.f2.length c2') := (blk_cell B12d 2).trans rfl; have z3 : U2.cell? ⟨W.heap.size, 3, none⟩ = some (.int .i64 x.c.f3) := (blk_cell B12d 3).trans rfl; have z4 : U2.cell? ⟨W.heap.size, 4, none⟩ = some (.int .i64 x.c.f4) := (blk_cell B12d 4).trans rfl; have z5 : U2.cell? ⟨W.heap.size, 5, none⟩ = some (.slice A5' x.c.f5.length c5') := (blk_cell B12d 5).trans rfl; clear B5d B12d
    cases ic with
    | true =>
     by_cases hi : id = 0
     ·have hi1 : (id != 0) = false := bne_eq_false_iff_eq.2 hi
      clear hi
      by_cases hp : Go.bits .and .i64 x.c.f3 1 = 0
      ·have hp1 : (Go.bits .and .i64 x.c.f3 1 == 0) = true := beq_iff_eq.2 hp
       clear hp
       cases ht : tog c x.c
       ·have ht2 := Lib.hid ht
        replace TG := Lib.hid (fun W => by have := TG.out W; rw [ht] at this; exact this); clear ht; go_wp2_with (first | (go_at_call 49; refine (TG.out _).mono ?_; rintro e U9 ⟨rfl, hb2⟩; replace hb2 := Lib.hid hb2)); go_ret2
        exact ⟨by rw [← hVV.out, fitF, hI.out, hJ.out, ht2.out, hp1, hi1]; rfl, HB4.out.trans (hb2.out.mono HB4.out.size)⟩
       ·have ht2 := Lib.hid ht
        replace TG := Lib.hid (fun W => by have := TG.out W; rw [ht] at this; exact this); clear ht; go_wp2_with (first | (go_at_call 49; refine (TG.out _).mono ?_; rintro e U9 ⟨rfl, hb2⟩; replace hb2 := Lib.hid hb2)); go_ret2
        exact ⟨by rw [← hVV.out, fitF, hI.out, hJ.out, ht2.out, hp1, hi1]; rfl, HB4.out.trans (hb2.out.mono HB4.out.size)⟩
      ·have hp1 : (Go.bits .and .i64 x.c.f3 1 == 0) = false := beq_eq_false_iff_ne.2 hp
       clear hp; go_wp2_with fail; go_ret2
       exact ⟨by rw [← hVV.out, fitF, hI.out, hJ.out, hp1, hi1]; rfl, HB4.out⟩
     ·have hi1 : (id != 0) = true := bne_iff_ne.2 hi
      clear hi; go_wp2; go_ret2
      exact ⟨by rw [← hVV.out, fitF, hI.out, hJ.out, hi1]; rfl, HB4.out⟩
    | false =>
     by_cases hp : Go.bits .and .i64 x.c.f3 1 = 0
     ·have hp1 : (Go.bits .and .i64 x.c.f3 1 == 0) = true := beq_iff_eq.2 hp
      clear hp
      cases ht : tog c x.c
      ·have ht2 := Lib.hid ht
       replace TG := Lib.hid (fun W => by have := TG.out W; rw [ht] at this; exact this); clear ht; go_wp2_with (first | (go_at_call 49; refine (TG.out _).mono ?_; rintro e U9 ⟨rfl, hb2⟩; replace hb2 := Lib.hid hb2)); go_ret2
       exact ⟨by rw [← hVV.out, fitF, hI.out, hJ.out, ht2.out, hp1]; rfl, HB4.out.trans (hb2.out.mono HB4.out.size)⟩
      ·have ht2 := Lib.hid ht
       replace TG := Lib.hid (fun W => by have := TG.out W; rw [ht] at this; exact this); clear ht; go_wp2_with (first | (go_at_call 49; refine (TG.out _).mono ?_; rintro e U9 ⟨rfl, hb2⟩; replace hb2 := Lib.hid hb2)); go_ret2
       exact ⟨by rw [← hVV.out, fitF, hI.out, hJ.out, ht2.out, hp1]; rfl, HB4.out.trans (hb2.out.mono HB4.out.size)⟩
     ·have hp1 : (Go.bits .and .i64 x.c.f3 1 == 0) = false := beq_eq_false_iff_ne.2 hp
      clear hp; go_wp2_with fail; go_ret2
      exact ⟨by rw [← hVV.out, fitF, hI.out, hJ.out, hp1]; rfl, HB4.out⟩
end Go.Proofs.YtaipkdglhfhhiaaDoor.Hi

namespace Go.Proofs.YtaipkdglhfhhiaaDoor.Pt
open Go Go.RowKit Go.Proofs.YtaipkdglhfhhiaaDoor.Nm Go.Proofs.YtaipkdglhfhhiaaDoor.Ty Go.Proofs.YtaipkdglhfhhiaaDoor.Cd Go.Proofs.YtaipkdglhfhhiaaDoorW.PrintWords Go.Proofs.YtaipkdglhfhhiaaDoorW.PrintLast Go.Proofs.YtaipkdglhfhhiaaDoorW.PrintMore
set_option linter.unusedVariables false
set_option linter.unusedSimpArgs false
set_option maxHeartbeats 2000000
set_option maxRecDepth 100000
def clsV (f : Int) : Int :=
 if Go.bits .andNot .i64 f 1585 ≠ 0 ∨ Go.bits .and .i64 f 1040 = 1040 then 1
 else if Go.bits .and .i64 f 512 = 512 ∧ (Go.bits .and .i64 f 1024 ≠ 1024 ∨ Go.bits .and .i64 f 48 ≠ 0) then 1 else 0
def mflI (f : Int) (b i : Bool) : Int :=
 if Go.bits .andNot .i64 f 1055 ≠ 0 ∨ Go.bits .and .i64 (Go.bits .and .i64 f 7) (wrap64 (Go.bits .and .i64 f 7 - 1)) ≠ 0 then 1
 else if Go.bits .and .i64 f 1024 = 1024 ∧ Go.bits .and .i64 f 26 ≠ 0 then 1
 else if b = true ∧ (Go.bits .and .i64 (Go.bits .and .i64 f 7) 3 = 0 ∨ Go.bits .and .i64 f 16 ≠ 0 ∨ i = true) then 1
 else if i = true ∧ Go.bits .and .i64 f 1048 ≠ 0 then 1 else 0
def mflV (f : Int) (b : Bool) (s : ByteArray) : Int := mflI f b (s.toList == [60, 105, 110, 105, 116, 62])
theorem ret_eq {a b : Int} (h : a = b) : Ending.returned (.int .i64 a) = .returned (.int .i64 b) := by rw [h]
theorem all_any (a b : Int) (w : World) : Calls Tryd.prog 70 #[.int .i64 a, .int .i64 b] w fun e w' => e = .returned (.bool (Go.bits .and .i64 a b == b)) ∧ w' = w := by
 go_enter Tryd.func70, Tryd.ntmps70; go_wp2; go_ret
 exact ⟨rfl, rfl⟩
theorem mfl_any (f : Int) (b : Bool) (s : ByteArray) (w : World) :
  Calls Tryd.prog 60 #[.int .i64 f, .bool b, .string s] w fun e w' => e = .returned (.int .i64 (mflV f b s)) ∧ w' = w := by
 go_enter Tryd.func60, Tryd.ntmps60; go_wp2_with (go_at_call 70; refine (all_any _ _ _).mono ?_; rintro e w' ⟨rfl, rfl⟩)
 all_goals
  go_ret; refine ⟨ret_eq ?_, rfl⟩
  simp_all [mflV, mflI]
theorem cls_any (f : Int) (w : World) : Calls Tryd.prog 56 #[.int .i64 f] w fun e w' => e = .returned (.int .i64 (clsV f)) ∧ w' = w := by
 go_enter Tryd.func56, Tryd.ntmps56; go_wp2_with (go_at_call 70; refine (all_any _ _ _).mono ?_; rintro e w' ⟨rfl, rfl⟩)
 all_goals
  go_ret; refine ⟨ret_eq ?_, rfl⟩
  simp_all [clsV]
def wthB (a lo hi : Int) : Bool := decide (lo ≤ a) && decide (a ≤ hi)
theorem within_any (a lo hi : Int) (w : World) : Calls Tryd.prog 75 #[.int .i64 a, .int .i64 lo, .int .i64 hi] w fun e w' => e = .returned (.bool (wthB a lo hi)) ∧ w' = w := by
 by_cases h : lo ≤ a
 ·have hd : decide (lo ≤ a) = true := decide_eq_true h
  have hw : Hid (wthB a lo hi = decide (a ≤ hi)) := Lib.hid (by unfold wthB; rw [hd, Bool.true_and]); go_enter Tryd.func75, Tryd.ntmps75; go_wp2; go_ret
  exact ⟨by rw [hw.out]; rfl, rfl⟩
 ·have hd : decide (lo ≤ a) = false := decide_eq_false h
  have hw : Hid (wthB a lo hi = false) := Lib.hid (by unfold wthB; rw [hd, Bool.false_and]); go_enter Tryd.func75, Tryd.ntmps75; go_wp2; go_ret
  exact ⟨by rw [hw.out]; rfl, rfl⟩
def refV (rc rn rd : ByteArray) : Int := if (parseR rc.data.toList).2.2 ≠ 0 then 1 else if (parseD rd.data.toList).2 ≠ 0 then 1 else if memberB rn = true then 0 else 1
theorem cell_allocs {w : World} {p : Addr} {v : Value} (h : w.cell? p = some v) (o : Obj) : (w.alloc o).cell? p = some v := pw_cell_below ((Below.refl _ _).alloc (Nat.le_refl _) o) h
theorem refck_any (ri : Bool) (rc rn rd : ByteArray) (w : World) : Calls Tryd.prog 91 #[.agg #[.bool ri, .string rc, .string rn, .string rd]] w fun e w' => e = .returned (.int .i64 (refV rc rn rd)) ∧ Below w.heap.size w w' := by
 have B0 := Lib.hid (blk_new w (.cells #[.bool ri, .string rc, .string rn, .string rd] 89)); have AB := Lib.hid ((Below.refl w.heap.size w).alloc (Nat.le_refl _) (.cells #[.bool ri, .string rc, .string rn, .string rd] 89)); have C1 := Lib.hid (types_ParseRef.calls rc _ _ _ (w.alloc (.cells #[.bool ri, .string rc, .string rn, .string rd] 89)) rfl); have C2 := Lib.hid (fun W => types_ParseDesc.calls rd _ _ _ _ _ W rfl); have C3 := Lib.hid (fun W => names_Member.calls rn _ W rfl); have hV : Hid (refV rc rn rd = refV rc rn rd) := Lib.hid rfl; generalize hr : refV rc rn rd = r at *; replace hr := Lib.hid hr; unfold refV at hr; clear hV; generalize parseR rc.data.toList = p1 at *; generalize parseD rd.data.toList = p2 at *; obtain ⟨d1, s1, e1⟩ := p1; obtain ⟨d2, e2⟩ := p2; go_enter Tryd.func91, Tryd.ntmps91; go_wp2_with fail; refine C1.out.mono ?_; rintro e w1 ⟨rfl, hb1⟩; have B1 := blk_below B0.out hb1; have q3 : w1.cell? ⟨w.heap.size, 3, none⟩ = some (.string rd) := (blk_cell B1 3).trans rfl; have q3 := cell_allocs q3; have H1 := Lib.hid (AB.out.trans (hb1.mono AB.out.size)); replace B1 := Lib.hid B1; clear B0 AB C1 hb1; go_wp2_with fail; refine (C2.out _).mono ?_; rintro e w2 ⟨v0, rfl, R0, hb2⟩; obtain ⟨A0, c0, rfl⟩ := Kd.R_slice R0; have q2 : w2.cell? ⟨w.heap.size, 2, none⟩ = some (.string rn) := pw_cell_below hb2 (cell_allocs ((blk_cell B1.out 2).trans rfl) _); have q2 := cell_allocs q2; have H2 := Lib.hid ((H1.out.alloc H1.out.size _).trans (hb2.mono (H1.out.alloc H1.out.size _).size)); clear R0 hb2 C2 H1 B1 q3
 by_cases h1 : e1 = 0
 ·subst h1
  by_cases h2 : e2 = 0
  ·subst h2
   go_wp2_with fail; refine (C3.out _).mono ?_; rintro e w3 ⟨rfl, hb3⟩; have H3 := Lib.hid ((H2.out.alloc H2.out.size _).trans (hb3.mono (H2.out.alloc H2.out.size _).size)); clear hb3 H2 C3 q2
   cases hm : memberB rn
   all_goals
    rw [hm] at hr; go_wp2; go_ret; have := hr.out; simp at this; subst this
    exact ⟨rfl, H3.out⟩
  ·have hne : (e2 != 0) = true := bne_iff_ne.2 h2
   go_wp2; go_ret; have := hr.out; simp [h2] at this; subst this
   exact ⟨rfl, H2.out.alloc H2.out.size _⟩
 ·have hne : (e1 != 0) = true := bne_iff_ne.2 h1
  go_wp2; go_ret; have := hr.out; simp [h1] at this; subst this
  exact ⟨rfl, H2.out.alloc H2.out.size _⟩
def opB (op n : Int) (ty rc rn rd : ByteArray) : Bool :=
 if opnd op = 0 then true else if opnd op = 1 then wthB n (-2147483648) 2147483647 else if opnd op = 2 then wthB n 0 39 else if opnd op = 3 then wthB n 0 199 else if opnd op = 4 then validB ty
 else if opnd op = 5 then (parseR ty.data.toList).2.2 == 0 else if opnd op = 6 then ((parseT ty.data.toList).2.2 == 0 && decide ((parseT ty.data.toList).1 < 255))
 else if opnd op = 7 then ((parseR ty.data.toList).2.2 == 0 && wthB n 1 (parseR ty.data.toList).1) else if opnd op = 8 then refV rc rn rd == 0 else false
theorem opnd_cases (op : Int) : Cd.opnd op = -1 ∨ Cd.opnd op = 0 ∨ Cd.opnd op = 1 ∨ Cd.opnd op = 2 ∨ Cd.opnd op = 3 ∨ Cd.opnd op = 4 ∨ Cd.opnd op = 5 ∨ Cd.opnd op = 6 ∨ Cd.opnd op = 7 ∨ Cd.opnd op = 8 := by
 unfold Cd.opnd
 split
 ·exact .inl rfl
 ·have h : ∀ k : Nat, k < 41 → Cd.opTab.getD k 0 = 0 ∨ Cd.opTab.getD k 0 = 1 ∨ Cd.opTab.getD k 0 = 2 ∨ Cd.opTab.getD k 0 = 3 ∨ Cd.opTab.getD k 0 = 4 ∨ Cd.opTab.getD k 0 = 5 ∨ Cd.opTab.getD k 0 = 6 ∨ Cd.opTab.getD k 0 = 7 ∨ Cd.opTab.getD k 0 = 8 := by decide
  have := h op.toNat (by omega)
  omega
theorem oper_any (op n : Int) (ty : ByteArray) (ri : Bool) (rc rn rd : ByteArray) (w : World) :
  Calls Tryd.prog 85 #[.agg #[.int .i64 op, .int .i64 n, .string ty, .bool ri, .string rc, .string rn, .string rd]] w fun e w' => e = .returned (.bool (opB op n ty rc rn rd)) ∧ Below w.heap.size w w' := by
 have B0 := Lib.hid (blk_new w (.cells #[.int .i64 op, .int .i64 n, .string ty, .bool ri, .string rc, .string rn, .string rd] 91)); have AB := Lib.hid ((Below.refl w.heap.size w).alloc (Nat.le_refl _) (.cells #[.int .i64 op, .int .i64 n, .string ty, .bool ri, .string rc, .string rn, .string rd] 91)); have OP := Lib.hid (Cd.operand_any op (w.alloc (.cells #[.int .i64 op, .int .i64 n, .string ty, .bool ri, .string rc, .string rn, .string rd] 91))); have CV := Lib.hid (fun W => names_Valid.calls ty _ W rfl); have CR := Lib.hid (fun W => types_ParseRef.calls ty _ _ _ W rfl); have CP := Lib.hid (fun W => types_Parse.calls ty _ _ _ W rfl); have CF := Lib.hid (fun W => refck_any ri rc rn rd W); have K := opnd_cases op; generalize hr : opB op n ty rc rn rd = r; replace hr := Lib.hid hr; unfold opB at hr; generalize opnd op = k at *; generalize parseR ty.data.toList = p1 at *; generalize parseT ty.data.toList = p2 at *; generalize refV rc rn rd = fv at *; obtain ⟨d1, s1, e1⟩ := p1; obtain ⟨d2, s2, e2⟩ := p2; go_enter Tryd.func85, Tryd.ntmps85; go_wp2_with fail; refine OP.out.mono ?_; rintro e w1 ⟨rfl, hb1⟩; have B1 := blk_below B0.out hb1; have H1 := Lib.hid (AB.out.trans (hb1.mono AB.out.size)); have q1 : w1.cell? ⟨w.heap.size, 1, none⟩ = some (.int .i64 n) := (blk_cell B1 1).trans rfl; have q2 : w1.cell? ⟨w.heap.size, 2, none⟩ = some (.string ty) := (blk_cell B1 2).trans rfl; have q3 : w1.cell? ⟨w.heap.size, 3, none⟩ = some (.bool ri) := (blk_cell B1 3).trans rfl; have q4 : w1.cell? ⟨w.heap.size, 4, none⟩ = some (.string rc) := (blk_cell B1 4).trans rfl; have q5 : w1.cell? ⟨w.heap.size, 5, none⟩ = some (.string rn) := (blk_cell B1 5).trans rfl; have q6 : w1.cell? ⟨w.heap.size, 6, none⟩ = some (.string rd) := (blk_cell B1 6).trans rfl; replace B1 := Lib.hid B1; clear B0 AB OP hb1
 rcases K with rfl | rfl | rfl | rfl | rfl | rfl | rfl | rfl | rfl | rfl
 case inl =>
  go_wp2; go_ret
  exact ⟨by rw [← hr.out]; rfl, H1.out⟩
 case inr.inl =>
  go_wp2; go_ret
  exact ⟨by rw [← hr.out]; rfl, H1.out⟩
 case inr.inr.inr.inr.inr.inl =>
  go_wp2_with fail; refine (CV.out _).mono ?_; rintro e w2 ⟨rfl, hb2⟩; replace hb2 := Lib.hid hb2; go_wp2; go_ret
  exact ⟨by rw [← hr.out]; rfl, H1.out.trans (hb2.out.mono H1.out.size)⟩
 case inr.inr.inr.inr.inr.inr.inl =>
  go_wp2_with fail; refine (CR.out _).mono ?_; rintro e w2 ⟨rfl, hb2⟩; have H2 := Lib.hid (H1.out.trans (hb2.mono H1.out.size)); clear hb2; go_wp2; go_ret
  exact ⟨by rw [← hr.out]; rfl, H2.out.alloc H2.out.size _⟩
 case inr.inr.inr.inr.inr.inr.inr.inl =>
  go_wp2_with fail; refine (CP.out _).mono ?_; rintro e w2 ⟨rfl, hb2⟩; have H2 := Lib.hid (H1.out.trans (hb2.mono H1.out.size)); clear hb2
  by_cases h2 : e2 = 0
  ·subst h2
   go_wp2
   all_goals
    go_ret
    exact ⟨by rw [← hr.out]; simp_all, H2.out.alloc H2.out.size _⟩
  ·have hne : (e2 == 0) = false := beq_eq_false_iff_ne.2 h2
   go_wp2; go_ret
   exact ⟨by rw [← hr.out]; simp_all, H2.out.alloc H2.out.size _⟩
 case inr.inr.inr.inr.inr.inr.inr.inr.inl =>
  go_wp2_with fail; refine (CR.out _).mono ?_; rintro e w2 ⟨rfl, hb2⟩; have H2 := Lib.hid (H1.out.trans (hb2.mono H1.out.size)); have r1 := cell_allocs (pw_cell_below hb2 q1); clear hb2
  by_cases h1 : e1 = 0
  ·subst h1
   go_wp2_with fail; refine (within_any _ _ _ _).mono ?_; rintro e w3 ⟨rfl, rfl⟩; go_wp2; go_ret
   exact ⟨by rw [← hr.out]; simp_all, H2.out.alloc H2.out.size _⟩
  ·have hne : (e1 == 0) = false := beq_eq_false_iff_ne.2 h1
   go_wp2; go_ret
   exact ⟨by rw [← hr.out]; simp_all, H2.out.alloc H2.out.size _⟩
 case inr.inr.inr.inr.inr.inr.inr.inr.inr =>
  go_wp2_with fail; refine (CF.out _).mono ?_; rintro e w2 ⟨rfl, hb2⟩; have H2 := Lib.hid (H1.out.trans (hb2.mono H1.out.size)); clear hb2; go_wp2; go_ret
  exact ⟨by rw [← hr.out]; rfl, H2.out⟩
 all_goals
  go_wp2_with fail; refine (within_any _ _ _ _).mono ?_; rintro e w2 ⟨rfl, rfl⟩; go_wp2; go_ret
  exact ⟨by rw [← hr.out]; rfl, H1.out⟩
end Go.Proofs.YtaipkdglhfhhiaaDoor.Pt

namespace Go.Proofs.YtaipkdglhfhhiaaDoor.Pt
open Go Go.RowKit Go.Proofs.YtaipkdglhfhhiaaDoorW.PrintWords Go.Proofs.YtaipkdglhfhhiaaDoorW.PrintLast Go.Proofs.YtaipkdglhfhhiaaDoorW.PrintMore
set_option linter.unusedVariables false
set_option linter.unusedSimpArgs false
set_option maxHeartbeats 1000000
theorem eqRef (d : Nat) (w : World) (x0 y0 : Bool) (x1 y1 : ByteArray) (x2 y2 : ByteArray) (x3 y3 : ByteArray) :
 (Op.equalIn (d + 2) 89 (.agg #[.bool x0, .string x1, .string x2, .string x3]) (.agg #[.bool y0, .string y1, .string y2, .string y3])).run Tryd.prog w = .ok (x0 == y0 && (x1.toList == y1.toList && (x2.toList == y2.toList && (x3.toList == y3.toList)))) w := by
 refine eqA_of Tryd.underlying89 (by kernel_rfl) ?_; refine eqf_cons (by rfl) (by go_simp; rfl) (by go_simp; rfl) (by go_simp) ?_; refine eqf_cons (by rfl) (by go_simp; rfl) (by go_simp; rfl) (by go_simp) ?_; refine eqf_cons (by rfl) (by go_simp; rfl) (by go_simp; rfl) (by go_simp) ?_
 exact eqf_last (by rfl) (by go_simp; rfl) (by go_simp; rfl) (by go_simp)
def sameI (x0 y0 : Int) (x1 y1 : Int) (x2 y2 : ByteArray) (x3 y3 : Bool) (x4 y4 : ByteArray) (x5 y5 : ByteArray) (x6 y6 : ByteArray) : Bool :=
 x0 == y0 && (x1 == y1 && (x2.toList == y2.toList && ((x3 == y3 && (x4.toList == y4.toList && (x5.toList == y5.toList && (x6.toList == y6.toList)))))))
theorem eqInst (d : Nat) (w : World) (x0 y0 : Int) (x1 y1 : Int) (x2 y2 : ByteArray) (x3 y3 : Bool) (x4 y4 : ByteArray) (x5 y5 : ByteArray) (x6 y6 : ByteArray) :
 (Op.equalIn (d + 3) 91 (.agg #[.int .i64 x0, .int .i64 x1, .string x2, .bool x3, .string x4, .string x5, .string x6]) (.agg #[.int .i64 y0, .int .i64 y1, .string y2, .bool y3, .string y4, .string y5, .string y6])).run Tryd.prog w = .ok (sameI x0 y0 x1 y1 x2 y2 x3 y3 x4 y4 x5 y5 x6 y6) w := by
 unfold sameI; refine eqA_of Tryd.underlying91 (by kernel_rfl) ?_; refine eqf_cons (by rfl) (by go_simp; rfl) (by go_simp; rfl) (by go_simp) ?_; refine eqf_cons (by rfl) (by go_simp; rfl) (by go_simp; rfl) (by go_simp) ?_; refine eqf_cons (by rfl) (by go_simp; rfl) (by go_simp; rfl) (by go_simp) ?_
 exact eqf_last (by rfl) (by go_simp) (by go_simp) (eqRef (d + 0) w _ _ _ _ _ _ _ _)
theorem neqInst (w : World) (x0 y0 : Int) (x1 y1 : Int) (x2 y2 : ByteArray) (x3 y3 : Bool) (x4 y4 : ByteArray) (x5 y5 : ByteArray) (x6 y6 : ByteArray) :
 (binOp .neq 91 (.agg #[.int .i64 x0, .int .i64 x1, .string x2, .bool x3, .string x4, .string x5, .string x6]) (.agg #[.int .i64 y0, .int .i64 y1, .string y2, .bool y3, .string y4, .string y5, .string y6])).run Tryd.prog w = .ok (.bool (!sameI x0 y0 x1 y1 x2 y2 x3 y3 x4 y4 x5 y5 x6 y6)) w := by
 have h := eqInst 9997 w x0 y0 x1 y1 x2 y2 x3 y3 x4 y4 x5 y5 x6 y6; simp only [binOp]; simp [Op.equal, Op.maxDepth, h]
def bareN (k n : Int) : Int := if k = 1 ∨ k = 2 ∨ k = 3 ∨ k = 7 then n else 0
def bareT (k : Int) (s : ByteArray) : ByteArray := if k = 4 ∨ k = 5 ∨ k = 6 ∨ k = 7 then s else ⟨#[]⟩
def bareS (k : Int) (s : ByteArray) : ByteArray := if k = 8 then s else ⟨#[]⟩
def bareB (k : Int) (b : Bool) : Bool := if k = 8 then b else false
def bareOk (op n : Int) (ty : ByteArray) (ri : Bool) (rc rn rd : ByteArray) : Bool :=
 sameI op op (bareN (Cd.opnd op) n) n (bareT (Cd.opnd op) ty) ty (bareB (Cd.opnd op) ri) ri (bareS (Cd.opnd op) rc) rc (bareS (Cd.opnd op) rn) rn (bareS (Cd.opnd op) rd) rd
def insV (x : S91) : Int := if bareOk x.f0 x.f1 x.f2 x.f3.f0 x.f3.f1 x.f3.f2 x.f3.f3 = true then (if opB x.f0 x.f1 x.f2 x.f3.f1 x.f3.f2 x.f3.f3 = true then 0 else 1) else 1
theorem cdck_any (op n : Int) (ty : ByteArray) (ri : Bool) (rc rn rd : ByteArray) (w : World) :
  Calls Tryd.prog 77 #[.agg #[.int .i64 op, .int .i64 n, .string ty, .bool ri, .string rc, .string rn, .string rd]] w fun e w' => e = .returned (.int .i64 (insV ⟨op, n, ty, ⟨ri, rc, rn, rd⟩⟩)) ∧ Below w.heap.size w w' := by
 have CO := Lib.hid (fun W => oper_any op n ty ri rc rn rd W); generalize hr : insV ⟨op, n, ty, ⟨ri, rc, rn, rd⟩⟩ = r; unfold insV at hr; simp only at hr; generalize opB op n ty rc rn rd = t at *; have OP := Lib.hid (fun W => Cd.operand_any op W); have K := opnd_cases op; have hb : bareOk op n ty ri rc rn rd = sameI op op (bareN (Cd.opnd op) n) n (bareT (Cd.opnd op) ty) ty (bareB (Cd.opnd op) ri) ri (bareS (Cd.opnd op) rc) rc (bareS (Cd.opnd op) rn) rn (bareS (Cd.opnd op) rd) rd := rfl; generalize bareOk op n ty ri rc rn rd = bo at *; generalize Cd.opnd op = k at *; have B0 := heap_alloc2_old w (.cells #[.int .i64 op, .int .i64 n, .string ty, .bool ri, .string rc, .string rn, .string rd] 91) (.cells #[.int .i64 op, .int .i64 0, .string ⟨#[]⟩, .bool false, .string ⟨#[]⟩, .string ⟨#[]⟩, .string ⟨#[]⟩] 91); have B1 := heap_alloc2_new w (.cells #[.int .i64 op, .int .i64 n, .string ty, .bool ri, .string rc, .string rn, .string rd] 91) (.cells #[.int .i64 op, .int .i64 0, .string ⟨#[]⟩, .bool false, .string ⟨#[]⟩, .string ⟨#[]⟩, .string ⟨#[]⟩] 91); have BB := ((Below.refl w.heap.size w).alloc (Nat.le_refl _) (.cells #[.int .i64 op, .int .i64 n, .string ty, .bool ri, .string rc, .string rn, .string rd] 91)).alloc (by simp) (.cells #[.int .i64 op, .int .i64 0, .string ⟨#[]⟩, .bool false, .string ⟨#[]⟩, .string ⟨#[]⟩, .string ⟨#[]⟩] 91); replace B0 := Lib.hid B0; replace B1 := Lib.hid B1; replace BB := Lib.hid BB; replace hb := Lib.hid hb; replace hr := Lib.hid hr; replace K := Lib.hid K; go_enter Tryd.func77, Tryd.ntmps77; go_wp2_with fail; refine (OP.out _).mono ?_; rintro e w1 ⟨rfl, hb1⟩; have C0 := blk_below B0.out hb1; have C1 := blk_below B1.out hb1; have CB := BB.out.trans (hb1.mono (by simp; omega)); have q0 : w1.cell? ⟨w.heap.size, 0, none⟩ = some (.int .i64 op) := (blk_cell C0 0).trans rfl; have q1 : w1.cell? ⟨w.heap.size, 1, none⟩ = some (.int .i64 n) := (blk_cell C0 1).trans rfl; have q2 : w1.cell? ⟨w.heap.size, 2, none⟩ = some (.string ty) := (blk_cell C0 2).trans rfl; have q3 : w1.cell? ⟨w.heap.size, 3, none⟩ = some (.bool ri) := (blk_cell C0 3).trans rfl; have q4 : w1.cell? ⟨w.heap.size, 4, none⟩ = some (.string rc) := (blk_cell C0 4).trans rfl; have q5 : w1.cell? ⟨w.heap.size, 5, none⟩ = some (.string rn) := (blk_cell C0 5).trans rfl; have q6 : w1.cell? ⟨w.heap.size, 6, none⟩ = some (.string rd) := (blk_cell C0 6).trans rfl; have p0 : w1.cell? ⟨w.heap.size + 1, 0, none⟩ = some (.int .i64 op) := (blk_cell C1 0).trans rfl; have p1 : w1.cell? ⟨w.heap.size + 1, 1, none⟩ = some (.int .i64 0) := (blk_cell C1 1).trans rfl; have p2 : w1.cell? ⟨w.heap.size + 1, 2, none⟩ = some (.string ⟨#[]⟩) := (blk_cell C1 2).trans rfl; have p3 : w1.cell? ⟨w.heap.size + 1, 3, none⟩ = some (.bool false) := (blk_cell C1 3).trans rfl; have p4 : w1.cell? ⟨w.heap.size + 1, 4, none⟩ = some (.string ⟨#[]⟩) := (blk_cell C1 4).trans rfl; have p5 : w1.cell? ⟨w.heap.size + 1, 5, none⟩ = some (.string ⟨#[]⟩) := (blk_cell C1 5).trans rfl; have p6 : w1.cell? ⟨w.heap.size + 1, 6, none⟩ = some (.string ⟨#[]⟩) := (blk_cell C1 6).trans rfl; have f1 := blk_frozen C1 1; have f2 := blk_frozen C1 2; have f3 := blk_frozen C1 3; have f4 := blk_frozen C1 4; have f5 := blk_frozen C1 5; have f6 := blk_frozen C1 6
 have hN : ∀ (b1 : Int) (b2 : ByteArray) (b3 : Bool) (b4 b5 b6 : ByteArray), bo = sameI op op b1 n b2 ty b3 ri b4 rc b5 rn b6 rd → ∀ W, (binOp .neq 91 (.agg #[.int .i64 op, .int .i64 b1, .string b2, .bool b3, .string b4, .string b5, .string b6]) (.agg #[.int .i64 op, .int .i64 n, .string ty, .bool ri, .string rc, .string rn, .string rd])).run Tryd.prog W = .ok (.bool (!bo)) W := fun b1 b2 b3 b4 b5 b6 e W => by rw [e]; exact neqInst W _ _ _ _ _ _ _ _ _ _ _ _ _ _
 replace hN := Lib.hid hN; replace CB := Lib.hid CB; clear C0 C1 B0 B1 BB hb1 OP
 rcases K.out with rfl | rfl | rfl | rfl | rfl | rfl | rfl | rfl | rfl | rfl
 case inr.inr.inr.inr.inr.inr.inr.inr.inl =>
  have e := hb.out; simp [bareN, bareT, bareS, bareB] at e; have N1 := hN.out _ _ _ _ _ _ e; clear e hb K hN; go_wp2; go_region
  cases bo
  ·have h1 : (1 : Int) = r := by have := hr.out; simpa using this
   subst h1; clear CO; go_wp2; go_ret; refine ⟨rfl, ?_⟩
   repeat' (first | exact CB.out | apply Below.setCell | apply Below.drew)
   all_goals (first | omega | (simp; done) | (simp; omega))
  ·have hr1 := hr.out
   cases t
   all_goals
    simp at hr1; subst hr1; go_wp2_with (go_at_call 85; refine (CO.out _).mono ?_; rintro e w2 ⟨rfl, hb2⟩; replace hb2 := Lib.hid hb2); go_ret; refine ⟨rfl, Below.trans ?_ (hb2.out.mono ?_)⟩
    ·repeat' (first | exact CB.out | apply Below.setCell | apply Below.drew)
     all_goals (first | omega | (simp; done) | (simp; omega))
    ·have := CB.out.size
     simp
     omega
 all_goals
  have e := hb.out; simp [bareN, bareT, bareS, bareB] at e; have N1 := hN.out _ _ _ _ _ _ e; clear e hb K hN
  cases bo
  ·have h1 : (1 : Int) = r := by have := hr.out; simpa using this
   subst h1; clear CO; go_wp2; go_ret; refine ⟨rfl, ?_⟩
   repeat' (first | exact CB.out | apply Below.setCell)
   all_goals (first | omega | (simp; done) | (simp; omega))
  ·have hr1 := hr.out
   cases t
   all_goals
    simp at hr1; subst hr1; go_wp2_with (go_at_call 85; refine (CO.out _).mono ?_; rintro e w2 ⟨rfl, hb2⟩; replace hb2 := Lib.hid hb2); go_ret; refine ⟨rfl, Below.trans ?_ (hb2.out.mono ?_)⟩
    ·repeat' (first | exact CB.out | apply Below.setCell)
     all_goals (first | omega | (simp; done) | (simp; omega))
    ·have := CB.out.size
     simp
     omega
end Go.Proofs.YtaipkdglhfhhiaaDoor.Pt

namespace Go.Proofs.YtaipkdglhfhhiaaDoor.Pt
open Go Go.RowKit Go.Proofs.YtaipkdglhfhhiaaDoor.Nm Go.Proofs.YtaipkdglhfhhiaaDoor.Ty Go.Proofs.YtaipkdglhfhhiaaDoor.Cd Go.Proofs.YtaipkdglhfhhiaaDoorW.PrintWords Go.Proofs.YtaipkdglhfhhiaaDoorW.PrintLast Go.Proofs.YtaipkdglhfhhiaaDoorW.PrintMore
set_option linter.unusedVariables false
set_option linter.unusedSimpArgs false
set_option maxHeartbeats 2000000
set_option maxRecDepth 100000
def insOk (x : S91) (a n : Int) : Bool := insV x == 0 && (!(opnd x.f0 == 2 && decide (a ≤ x.f1)) && !(opnd x.f0 == 3 && decide (n ≤ x.f1)))
def codeB (l : List S91) (a : Int) : Bool := wthB l.length 1 200 && l.all (fun x => insOk x a l.length)
theorem rd83 {l : List S91} {i : Nat} (h : i < l.length) : l[i]? = some (rd_T91 l (i : Int)) := by
 simp [rd_T91, List.getD_eq_getElem?_getD, List.getElem?_eq_getElem h]
theorem bad_all {α : Type} {l : List α} {p : α → Bool} {i : Nat} {x : α} (hx : l[i]? = some x) (h : p x = false) : l.all p = false := by
 rw [List.all_eq_false]
 exact ⟨x, List.mem_of_getElem? hx, by simp [h]⟩
theorem all_take {α : Type} {l : List α} {p : α → Bool} {i : Nat} {x : α} (hx : l[i]? = some x) (h : p x = true) (ht : (l.take i).all p = true) : (l.take (i + 1)).all p = true := by
 rw [List.take_add_one, hx, List.all_append, ht]; simp [h]
theorem code_any (A : Option Addr) (c : Nat) (l : List S91) (a : Int) (w : World) (hk : Kd.C k91 w A l.length l) (hc : l.length ≤ c) :
  Calls Tryd.prog 62 #[.slice A l.length c, .int .i64 a] w fun e w' => e = .returned (.int .i64 (if codeB l a = true then 0 else 1)) ∧ Below w.heap.size w w' := by
 have HK := Lib.hid hk; have hmx := Kd.C_max hk; clear hk; generalize hr : (if codeB l a = true then (0 : Int) else 1) = r; replace hr := Lib.hid hr; unfold codeB at hr
 cases hw : wthB l.length 1 200 with
 | false =>
  rw [hw] at hr; have C1 := Lib.hid (within_any (l.length : Int) 1 200 w); rw [hw] at C1; go_enter Tryd.func62, Tryd.ntmps62; go_wp2_with fail; refine C1.out.mono ?_; rintro e w2 ⟨rfl, rfl⟩; go_wp2; go_ret; have := hr.out; simp at this; subst this
  exact ⟨rfl, Below.refl _ _⟩
 | true =>
  rw [hw, Bool.true_and] at hr
  have hl : l.length ≤ 200 := by
   unfold wthB at hw; rw [Bool.and_eq_true, decide_eq_true_eq, decide_eq_true_eq] at hw
   omega
  have C1 := Lib.hid (within_any (l.length : Int) 1 200 w); rw [hw] at C1; clear hw; go_enter Tryd.func62, Tryd.ntmps62; go_wp2_with fail; refine C1.out.mono ?_; rintro e w2 ⟨rfl, rfl⟩; clear C1; go_wp2_with fail
  go_loopw [14] (fun v14 wr => ∃ j : Nat, j ≤ l.length ∧ v14 = .int .i64 j ∧ Hid ((l.take j).all (fun x => insOk x a l.length) = true) ∧ Hid (Below w2.heap.size w2 wr)) (fun v14 _ => l.length - (intOf v14).toNat)
  case atStart => exact ⟨0, Nat.zero_le _, rfl, Lib.hid (by simp), Lib.hid (Below.refl _ _)⟩
  case round =>
   obtain ⟨j, hj, rfl, HT, HB⟩ := hrel
   by_cases hlt : j < l.length
   ·have hjd : decide (j < l.length) = true := decide_eq_true hlt
    obtain ⟨ad, rfl, p0, p1, p2, p3, p4, p5, p6⟩ := at_T91 (Kd.C_below HK.out HB.out) (j : Int) (by omega) (by omega); have hx := rd83 hlt; rw [Int.toNat_natCast] at p0 p1 p2 p3 p4 p5 p6; have OPc := Lib.hid (fun W => Cd.operand_any (rd_T91 l (j : Int)).f0 W); have CK := Lib.hid (fun W => cdck_any (rd_T91 l (j : Int)).f0 (rd_T91 l (j : Int)).f1 (rd_T91 l (j : Int)).f2 (rd_T91 l (j : Int)).f3.f0 (rd_T91 l (j : Int)).f3.f1 (rd_T91 l (j : Int)).f3.f2 (rd_T91 l (j : Int)).f3.f3 W); generalize rd_T91 l (j : Int) = x at *; have hV : Hid (insOk x a l.length = (insV x == 0 && (!(opnd x.f0 == 2 && decide (a ≤ x.f1)) && !(opnd x.f0 == 3 && decide ((l.length : Int) ≤ x.f1))))) := Lib.hid rfl; have hx2 := Lib.hid hx; have hbad : Hid (insOk x a l.length = false → (1 : Int) = r) := Lib.hid (fun h => by rw [← hr.out, bad_all hx h]; rfl); have hgood : Hid (insOk x a l.length = true → (l.take (j + 1)).all (fun x => insOk x a l.length) = true) := Lib.hid (fun h => all_take hx h HT.out); clear hx; generalize insOk x a l.length = ok at *; obtain ⟨x0, x1, x2, ⟨x3, x4, x5, x6⟩⟩ := x; simp only at hV OPc CK p0 p1 p2 p3 p4 p5 p6; generalize insV ⟨x0, x1, x2, ⟨x3, x4, x5, x6⟩⟩ = iv at *; generalize opnd x0 = kk at *; have B0 := Lib.hid (blk_new wr (.cells #[.int .i64 x0, .int .i64 x1, .string x2, .bool x3, .string x4, .string x5, .string x6] 91)); have AB := Lib.hid (HB.out.alloc HB.out.size (.cells #[.int .i64 x0, .int .i64 x1, .string x2, .bool x3, .string x4, .string x5, .string x6] 91)); clear hx2 HT; go_wp2_with fail; refine (OPc.out _).mono ?_; rintro e w3 ⟨rfl, hb3⟩; have B3 := Lib.hid (blk_below B0.out hb3); have H3 := Lib.hid (AB.out.trans (hb3.mono AB.out.size)); clear hb3 B0 AB HB OPc p0 p1 p2 p3 p4 p5 p6; have p0 : w3.cell? ⟨wr.heap.size, 0, none⟩ = some (.int .i64 x0) := (blk_cell B3.out 0).trans rfl; have p1 : w3.cell? ⟨wr.heap.size, 1, none⟩ = some (.int .i64 x1) := (blk_cell B3.out 1).trans rfl; have p2 : w3.cell? ⟨wr.heap.size, 2, none⟩ = some (.string x2) := (blk_cell B3.out 2).trans rfl; have p3 : w3.cell? ⟨wr.heap.size, 3, none⟩ = some (.bool x3) := (blk_cell B3.out 3).trans rfl; have p4 : w3.cell? ⟨wr.heap.size, 4, none⟩ = some (.string x4) := (blk_cell B3.out 4).trans rfl; have p5 : w3.cell? ⟨wr.heap.size, 5, none⟩ = some (.string x5) := (blk_cell B3.out 5).trans rfl; have p6 : w3.cell? ⟨wr.heap.size, 6, none⟩ = some (.string x6) := (blk_cell B3.out 6).trans rfl; go_wp2_with fail; refine (CK.out _).mono ?_; rintro e w4 ⟨rfl, hb4⟩; have q1 := pw_cell_below hb4 p1; have H4 := Lib.hid (H3.out.trans (hb4.mono H3.out.size)); clear hb4 B3 H3 CK p0 p1 p2 p3 p4 p5 p6; have hend : Hid (ok = true → ∃ j' : Nat, j' ≤ l.length ∧ (Value.int .i64 ((j : Int) + 1)) = .int .i64 j' ∧ Hid ((l.take j').all (fun x => insOk x a l.length) = true) ∧ Hid (Below w2.heap.size w2 w4)) := Lib.hid (fun h => ⟨j + 1, by omega, by push_cast; rfl, Lib.hid (hgood.out h), H4⟩)
    by_cases hi : iv = 0
    ·subst hi
     by_cases h2 : kk = 2
     ·subst h2
      by_cases h3 : a ≤ x1
      ·have hd : decide (a ≤ x1) = true := decide_eq_true h3
       have hok := hV.out; simp [hd] at hok; obtain rfl := hbad.out hok; clear h3; go_wp2; go_ret
       exact ⟨rfl, H4.out⟩
      ·have hd : decide (a ≤ x1) = false := decide_eq_false h3
       have hok := hV.out; simp [hd] at hok; clear h3; go_wp2
       exact ⟨hend.out hok, by simp [intOf]; omega⟩
     ·have hk2 : (kk == 2) = false := beq_eq_false_iff_ne.2 h2
      by_cases h3 : kk = 3
      ·subst h3
       by_cases h4 : (l.length : Int) ≤ x1
       ·have hd : decide ((l.length : Int) ≤ x1) = true := decide_eq_true h4
        have hok := hV.out; simp [hd] at hok; obtain rfl := hbad.out hok; clear h4 h2; go_wp2; go_ret
        exact ⟨rfl, H4.out⟩
       ·have hd : decide ((l.length : Int) ≤ x1) = false := decide_eq_false h4
        have hok := hV.out; simp [hd] at hok; clear h4 h2; go_wp2
        exact ⟨hend.out hok, by simp [intOf]; omega⟩
      ·have hk3 : (kk == 3) = false := beq_eq_false_iff_ne.2 h3
       have hok := hV.out; rw [hk2, hk3] at hok; simp at hok; clear h2 h3; go_wp2
       exact ⟨hend.out hok, by simp [intOf]; omega⟩
    ·have hne : (iv != 0) = true := bne_iff_ne.2 hi
     have hok := hV.out; rw [show (iv == 0) = false from beq_eq_false_iff_ne.2 hi, Bool.false_and] at hok; obtain rfl := hbad.out hok; clear hi; go_wp2; go_ret
     exact ⟨rfl, H4.out⟩
   ·have hjd : decide (j < l.length) = false := decide_eq_false hlt
    have e1 : j = l.length := by omega
    subst e1; have h1 := HT.out; rw [List.take_length] at h1; have h2 := hr.out; rw [h1] at h2; simp at h2; subst h2; clear h1; go_wp2; go_ret
    exact ⟨rfl, HB.out⟩
def wordsV (d : ByteArray) (f : Int) : Int := if Go.bits .and .i64 f 8 = 0 then wrap64 (((parseD d.data.toList).1.args.length : Int) + 1) else ((parseD d.data.toList).1.args.length : Int)
theorem words_any (f0 d : ByteArray) (f f3 f4 : Int) (v5 : Value) (h5 : ∃ A n c, v5 = .slice A n c) (w : World) (hp : (parseD d.data.toList).2 = 0) :
  Calls Tryd.prog 61 #[.agg #[.string f0, .string d, .int .i64 f, .int .i64 f3, .int .i64 f4, v5]] w fun e w' => e = .returned (.tuple #[.int .i64 (wordsV d f), .int .i64 0]) ∧ Below w.heap.size w w' := by
 obtain ⟨A, n, c, rfl⟩ := h5; have B0 := Lib.hid (blk_new w (.cells #[.string f0, .string d, .int .i64 f, .int .i64 f3, .int .i64 f4, .slice A n c] 94)); have AB := Lib.hid ((Below.refl w.heap.size w).alloc (Nat.le_refl _) (.cells #[.string f0, .string d, .int .i64 f, .int .i64 f3, .int .i64 f4, .slice A n c] 94)); have C1 := Lib.hid (types_Args.calls d _ _ (w.alloc (.cells #[.string f0, .string d, .int .i64 f, .int .i64 f3, .int .i64 f4, .slice A n c] 94)) rfl); generalize hr : wordsV d f = r; replace hr := Lib.hid hr; unfold wordsV at hr; rw [hp] at C1; clear hp; generalize ((parseD d.data.toList).1.args.length : Int) = m at *; go_enter Tryd.func61, Tryd.ntmps61; go_wp2_with fail; refine C1.out.mono ?_; rintro e w2 ⟨rfl, hb2⟩; have q2 : w2.cell? ⟨w.heap.size, 2, none⟩ = some (.int .i64 f) := (blk_cell (blk_below B0.out hb2) 2).trans rfl; have H2 := Lib.hid (AB.out.trans (hb2.mono AB.out.size)); clear C1 hb2 B0 AB
 by_cases h8 : Go.bits .and .i64 f 8 = 0
 ·have hd : (Go.bits .and .i64 f 8 == 0) = true := beq_iff_eq.2 h8
  rw [if_pos h8] at hr; clear h8; go_wp2; go_ret2
  exact ⟨by rw [← hr.out]; rfl, H2.out⟩
 ·have hd : (Go.bits .and .i64 f 8 == 0) = false := beq_eq_false_iff_ne.2 h8
  rw [if_neg h8] at hr; clear h8; go_wp2; go_ret2
  exact ⟨by rw [← hr.out]; rfl, H2.out⟩
end Go.Proofs.YtaipkdglhfhhiaaDoor.Pt

namespace Go.Proofs.YtaipkdglhfhhiaaDoor.Pt
open Go Go.RowKit Go.Proofs.YtaipkdglhfhhiaaDoor.Nm Go.Proofs.YtaipkdglhfhhiaaDoor.Ty Go.Proofs.YtaipkdglhfhhiaaDoor.Cd Go.Proofs.YtaipkdglhfhhiaaDoorW.PrintWords Go.Proofs.YtaipkdglhfhhiaaDoorW.PrintLast Go.Proofs.YtaipkdglhfhhiaaDoorW.PrintMore
set_option linter.unusedVariables false
set_option linter.unusedSimpArgs false
set_option maxHeartbeats 2000000
set_option maxRecDepth 100000
def badV (n d : ByteArray) : Bool := !((parseD d.data.toList).2 == 0) || (!memberB n || ((n.toList == ([60, 105, 110, 105, 116, 62] : List UInt8)) && !(parseD d.data.toList).1.void))
def methB (m : S94) (b : Bool) : Bool := !badV m.f0 m.f1 && (mflV m.f2 b m.f0 == 0 &&
 (if Go.bits .and .i64 m.f2 1024 = 0 then decide (wordsV m.f1 m.f2 ≤ m.f3) && (decide (m.f3 ≤ 40) && (decide (0 ≤ m.f4) && (decide (m.f4 ≤ 40) && codeB m.f5 m.f3))) else m.f3 == 0 && (m.f4 == 0 && (m.f5.length : Int) == 0)))
theorem meth_any (f0 f1 : ByteArray) (f2 f3 f4 : Int) (A : Option Addr) (c : Nat) (l : List S91) (b : Bool) (w : World) (hk : Kd.C k91 w A l.length l) (hc : l.length ≤ c) :
  Calls Tryd.prog 47 #[.agg #[.string f0, .string f1, .int .i64 f2, .int .i64 f3, .int .i64 f4, .slice A l.length c], .bool b] w fun e w' => e = .returned (.bool (methB ⟨f0, f1, f2, f3, f4, l⟩ b)) ∧ Below w.heap.size w w' := by
 have B0 := Lib.hid (blk_new w (.cells #[.string f0, .string f1, .int .i64 f2, .int .i64 f3, .int .i64 f4, .slice A l.length c] 94)); have AB := Lib.hid ((Below.refl w.heap.size w).alloc (Nat.le_refl _) (.cells #[.string f0, .string f1, .int .i64 f2, .int .i64 f3, .int .i64 f4, .slice A l.length c] 94)); have C1 := Lib.hid (types_ParseDesc.calls f1 _ _ _ _ _ (w.alloc (.cells #[.string f0, .string f1, .int .i64 f2, .int .i64 f3, .int .i64 f4, .slice A l.length c] 94)) rfl); have CM := Lib.hid (fun W => names_Member.calls f0 _ W rfl); have CF := Lib.hid (fun W => mfl_any f2 b f0 W); have CW := Lib.hid (fun (W : World) (hp : (parseD f1.data.toList).2 = 0) => words_any f0 f1 f2 f3 f4 (.slice A l.length c) ⟨_, _, _, rfl⟩ W hp); have CC := Lib.hid (fun (W : World) (hb : Below w.heap.size w W) => code_any A c l f3 W (Kd.C_below hk hb) hc); clear hk; generalize hr : methB ⟨f0, f1, f2, f3, f4, l⟩ b = r; replace hr := Lib.hid hr; unfold methB badV at hr; simp only at hr; generalize mflV f2 b f0 = mf at *; generalize wordsV f1 f2 = wd at *; generalize codeB l f3 = cb at *; generalize memberB f0 = mb at *; generalize parseD f1.data.toList = pd at *; obtain ⟨dr, e1⟩ := pd; obtain ⟨ar, vd, rd, rn⟩ := dr; have hn : Hid ((f0.toList == ([60, 105, 110, 105, 116, 62] : List UInt8)) = (f0.toList == ([60, 105, 110, 105, 116, 62] : List UInt8))) := Lib.hid rfl; simp only at hr CW; go_enter Tryd.func47, Tryd.ntmps47; go_wp2_with fail; refine C1.out.mono ?_; rintro e w1 ⟨v0, rfl, R0, hb1⟩
 obtain ⟨A0, n0, c0, rfl⟩ : ∃ A n c, v0 = .slice A n c := by
  obtain ⟨A0, c0, e⟩ := Kd.R_slice R0
  exact ⟨_, _, _, e⟩
 have B1 := Lib.hid (blk_below B0.out hb1); have H1 := Lib.hid (AB.out.trans (hb1.mono AB.out.size)); clear C1 R0 hb1 B0 AB
 go_upto_region 2 with (fail)
 change Code.wp _ _ _ _ (w1.alloc (.cells #[.slice A0 n0 c0, .bool vd, .int .i64 rd, .string (bs rn)] 110)); have D2 := Lib.hid (blk_new w1 (.cells #[.slice A0 n0 c0, .bool vd, .int .i64 rd, .string (bs rn)] 110)); have B2 := Lib.hid (blk_below B1.out ((Below.refl _ _).alloc (Nat.le_refl _) (.cells #[.slice A0 n0 c0, .bool vd, .int .i64 rd, .string (bs rn)] 110))); have H2 := Lib.hid (H1.out.alloc H1.out.size (.cells #[.slice A0 n0 c0, .bool vd, .int .i64 rd, .string (bs rn)] 110)); generalize w1.alloc (.cells #[.slice A0 n0 c0, .bool vd, .int .i64 rd, .string (bs rn)] 110) = W at *; clear B1 H1
 go_cut [1, 2, 32] (fun v1 v2 v32 wr => v1 = .bool b ∧ v2 = .pointer (some ⟨w.heap.size, 0, none⟩) ∧ v32 = .bool (!(e1 == 0) || (!mb || ((f0.toList == ([60, 105, 110, 105, 116, 62] : List UInt8)) && !vd))) ∧ Hid (wr.heap[w.heap.size]? = some (.cells #[.string f0, .string f1, .int .i64 f2, .int .i64 f3, .int .i64 f4, .slice A l.length c] 94 (0, 0))) ∧ Hid (Below w.heap.size w wr))
 case first =>
  by_cases h1 : e1 = 0
  ·subst h1
   have q0 : W.cell? ⟨w.heap.size, 0, none⟩ = some (.string f0) := (blk_cell B2.out 0).trans rfl; go_wp2_with fail; refine (CM.out _).mono ?_; rintro e w3 ⟨rfl, hb3⟩; have B3 := Lib.hid (blk_below B2.out hb3); have H3 := Lib.hid (H2.out.trans (hb3.mono H2.out.size)); have r1 : w3.cell? ⟨w1.heap.size, 1, none⟩ = some (.bool vd) := pw_cell_below hb3 ((blk_cell D2.out 1).trans rfl); have q0 : w3.cell? ⟨w.heap.size, 0, none⟩ = some (.string f0) := (blk_cell B3.out 0).trans rfl; clear hb3 B2 H2 D2
   cases mb with
   | false =>
    go_wp2; go_meet
    case rel => exact ⟨rfl, rfl, by simp, B3, H3⟩
   | true =>
    cases hi : (f0.toList == ([60, 105, 110, 105, 116, 62] : List UInt8)) with
    | false =>
     go_wp2; go_meet
     case rel => exact ⟨rfl, rfl, by rw [hi]; cases vd <;> rfl, B3, H3⟩
    | true =>
     go_wp2; go_meet
     case rel => exact ⟨rfl, rfl, by rw [hi]; cases vd <;> rfl, B3, H3⟩
  ·have hne : (e1 != 0) = true := bne_iff_ne.2 h1
   have he : (e1 == 0) = false := beq_eq_false_iff_ne.2 h1; go_wp2; go_meet
   case rel => exact ⟨rfl, rfl, by rw [he]; rfl, B2, H2⟩
 case rest =>
  clear B2 D2 H2; obtain ⟨rfl, rfl, rfl, B2, H2⟩ := hcut
  cases hbad : (!(e1 == 0) || (!mb || ((f0.toList == ([60, 105, 110, 105, 116, 62] : List UInt8)) && !vd))) with
  | true =>
   rw [hbad] at hr; have hr := hr.out; simp at hr; subst hr; go_wp2; go_ret
   exact ⟨rfl, H2.out⟩
  | false =>
   have he1 : e1 = 0 := by
    cases h : (e1 == 0) with
    | true => exact beq_iff_eq.1 h
    | false => rw [h] at hbad; simp at hbad
   rw [hbad, Bool.not_false, Bool.true_and] at hr; clear hbad hn CM; have q0 : wc.cell? ⟨w.heap.size, 0, none⟩ = some (.string f0) := (blk_cell B2.out 0).trans rfl; have q1 : wc.cell? ⟨w.heap.size, 1, none⟩ = some (.string f1) := (blk_cell B2.out 1).trans rfl; have q2 : wc.cell? ⟨w.heap.size, 2, none⟩ = some (.int .i64 f2) := (blk_cell B2.out 2).trans rfl; have q3 : wc.cell? ⟨w.heap.size, 3, none⟩ = some (.int .i64 f3) := (blk_cell B2.out 3).trans rfl; have q4 : wc.cell? ⟨w.heap.size, 4, none⟩ = some (.int .i64 f4) := (blk_cell B2.out 4).trans rfl; have q5 : wc.cell? ⟨w.heap.size, 5, none⟩ = some (.slice A l.length c) := (blk_cell B2.out 5).trans rfl; go_wp2_with fail; refine (CF.out _).mono ?_; rintro e w4 ⟨rfl, rfl⟩
   by_cases hm : mf = 0
   ·subst hm
    rw [beq_self_eq_true, Bool.true_and] at hr
    by_cases ha : Go.bits .and .i64 f2 1024 = 0
    ·have ha2 : (Go.bits .and .i64 f2 1024 != 0) = false := bne_eq_false_iff_eq.2 ha
     rw [if_pos ha] at hr; have C3 := Lib.hid (CW.out w4 he1); clear ha CW he1; go_wp2_with fail; refine C3.out.mono ?_; rintro e w5 ⟨rfl, hb5⟩; have B5 := Lib.hid (blk_below B2.out hb5); have H5 := Lib.hid (H2.out.trans (hb5.mono H2.out.size)); have C4 := Lib.hid (CC.out w5 H5.out); clear hb5 B2 H2 q0 q1 q2 q3 q4 q5 C3 CC; have q3 : w5.cell? ⟨w.heap.size, 3, none⟩ = some (.int .i64 f3) := (blk_cell B5.out 3).trans rfl; have q4 : w5.cell? ⟨w.heap.size, 4, none⟩ = some (.int .i64 f4) := (blk_cell B5.out 4).trans rfl; have q5 : w5.cell? ⟨w.heap.size, 5, none⟩ = some (.slice A l.length c) := (blk_cell B5.out 5).trans rfl
     cases d1 : decide (wd ≤ f3) with
     | false =>
      rw [d1] at hr; have hr := hr.out; simp at hr; subst hr; go_wp2; go_ret
      exact ⟨rfl, H5.out⟩
     | true =>
      rw [d1, Bool.true_and] at hr
      cases d2 : decide (f3 ≤ 40) with
      | false =>
       rw [d2] at hr; have hr := hr.out; simp at hr; subst hr; go_wp2; go_ret
       exact ⟨rfl, H5.out⟩
      | true =>
       rw [d2, Bool.true_and] at hr
       cases d3 : decide (0 ≤ f4) with
       | false =>
        rw [d3] at hr; have hr := hr.out; simp at hr; subst hr; go_wp2; go_ret
        exact ⟨rfl, H5.out⟩
       | true =>
        rw [d3, Bool.true_and] at hr
        cases d4 : decide (f4 ≤ 40) with
        | false =>
         rw [d4] at hr; have hr := hr.out; simp at hr; subst hr; go_wp2; go_ret
         exact ⟨rfl, H5.out⟩
        | true =>
         rw [d4, Bool.true_and] at hr; go_wp2_with fail; refine C4.out.mono ?_; rintro e w6 ⟨rfl, hb6⟩; have H6 := Lib.hid (H5.out.trans (hb6.mono H5.out.size)); clear C4 hb6 H5 B5 q3 q4 q5
         cases cb
         all_goals
          have hr := hr.out; subst hr; go_wp2; go_ret
          exact ⟨rfl, H6.out⟩
    ·have ha2 : (Go.bits .and .i64 f2 1024 != 0) = true := bne_iff_ne.2 ha
     rw [if_neg ha] at hr; clear ha CW CC CF he1
     cases d1 : (f3 == 0) with
     | false =>
      rw [d1] at hr; have hr := hr.out; simp at hr; subst hr; go_wp2; go_ret
      exact ⟨rfl, H2.out⟩
     | true =>
      rw [d1, Bool.true_and] at hr
      cases d2 : (f4 == 0) with
      | false =>
       rw [d2] at hr; have hr := hr.out; simp at hr; subst hr; go_wp2; go_ret
       exact ⟨rfl, H2.out⟩
      | true =>
       rw [d2, Bool.true_and] at hr; go_wp2; go_ret
       exact ⟨by rw [← hr.out]; rfl, H2.out⟩
   ·have hne : (mf != 0) = true := bne_iff_ne.2 hm
    rw [show (mf == 0) = false from beq_eq_false_iff_ne.2 hm] at hr; have hr := hr.out; simp at hr; subst hr; clear hm; go_wp2; go_ret
    exact ⟨rfl, H2.out⟩
end Go.Proofs.YtaipkdglhfhhiaaDoor.Pt

namespace Go.Proofs.YtaipkdglhfhhiaaDoor.Pt
open Go Go.RowKit Go.Proofs.YtaipkdglhfhhiaaDoor.Nm Go.Proofs.YtaipkdglhfhhiaaDoor.Ty Go.Proofs.YtaipkdglhfhhiaaDoor.Cd Go.Proofs.YtaipkdglhfhhiaaDoorW.PrintWords Go.Proofs.YtaipkdglhfhhiaaDoorW.PrintLast Go.Proofs.YtaipkdglhfhhiaaDoorW.PrintMore
set_option linter.unusedVariables false
set_option linter.unusedSimpArgs false
set_option maxHeartbeats 2000000
set_option maxRecDepth 100000
theorem rd_at {l : List ByteArray} {i : Nat} (h : i < l.length) : l[i]? = some (rdOf ByteArray.empty l (i : Int)) := by
 simp [rdOf, List.getD_eq_getElem?_getD, List.getElem?_eq_getElem h]
theorem ba_eq {a b : ByteArray} (h : a.toList = b.toList) : a = b := by
 rw [ByteArray.toList_eq, ByteArray.toList_eq] at h
 exact ByteArray.ext (Array.toList_inj.1 h)
def placeF : List ByteArray → ByteArray → Int → Int
 | [], _, _ => -1
 | n :: l, s, i => if s.toList = n.toList then i else placeF l s (i + 1)
theorem place_step (l : List ByteArray) (s : ByteArray) (i : Nat) (n : ByteArray) (hx : l[i]? = some n) : placeF (l.drop i) s i = if s.toList = n.toList then (i : Int) else placeF (l.drop (i + 1)) s ((i + 1 : Nat) : Int) := by
 have hi : i < l.length := by
  rcases Nat.lt_or_ge i l.length with h | h
  ·exact h
  ·rw [List.getElem?_eq_none h] at hx; cases hx
 rw [List.drop_eq_getElem_cons hi, placeF]; rw [List.getElem?_eq_getElem hi] at hx; rw [Option.some.inj hx]; push_cast
 rfl
theorem index_any (A : Option Addr) (c : Nat) (l : List ByteArray) (s : ByteArray) (w : World) (hk : Kd.C Kd.string w A l.length l) :
  Calls Tryd.prog 71 #[.slice A l.length c, .string s] w fun e w' => e = .returned (.int .i64 (placeF l s 0)) ∧ w' = w := by
 have HK := Lib.hid hk; have hmx := Kd.C_max hk; clear hk; generalize hr : placeF l s 0 = r; replace hr := Lib.hid hr; go_enter Tryd.func71, Tryd.ntmps71; go_wp2_with fail
 go_loopw [8] (fun v8 wr => ∃ j : Nat, j ≤ l.length ∧ v8 = .int .i64 j ∧ Hid (placeF (l.drop j) s j = r) ∧ wr = w) (fun v8 _ => l.length - (intOf v8).toNat)
 case atStart => exact ⟨0, Nat.zero_le _, rfl, hr, rfl⟩
 case round =>
  obtain ⟨j, hj, rfl, HT, hw⟩ := hrel; subst hw
  by_cases hlt : j < l.length
  ·have hjd : decide (j < l.length) = true := decide_eq_true hlt
   obtain ⟨ad, cc, rfl, hcl, hKK, hic⟩ := Kd.C_get HK.out ByteArray.empty (j : Int) (by omega) (by omega); have hx := rd_at hlt; obtain rfl : cc = [.string (rdOf ByteArray.empty l (j : Int))] := hKK; have hic := hic 0 _ rfl; rw [show Kd.string.sz = 1 from rfl, Nat.mul_one, Nat.add_zero, Int.toNat_natCast] at hic; generalize rdOf ByteArray.empty l (j : Int) = n at *; have hst := HT.out; rw [place_step l s j n hx] at hst; clear HT hx hcl
   by_cases he : s.toList = n.toList
   ·rw [if_pos he] at hst
    have hq : (s.toList == n.toList) = true := beq_iff_eq.2 he; subst hst; go_wp2; go_ret
    exact ⟨rfl, rfl⟩
   ·rw [if_neg he] at hst
    have hq : (s.toList == n.toList) = false := beq_eq_false_iff_ne.2 he; replace hst := Lib.hid hst; go_wp2
    exact ⟨⟨j + 1, by omega, by push_cast; rfl, hst, trivial⟩, by simp [intOf]; omega⟩
  ·have hjd : decide (j < l.length) = false := decide_eq_false hlt
   have h1 := HT.out; rw [List.drop_eq_nil_of_le (by omega), placeF] at h1; subst h1; go_wp2; go_ret
   exact ⟨rfl, rfl⟩
def memB (l : List ByteArray) (s : ByteArray) : Bool := decide (placeF l s 0 ≥ 0)
theorem conts_any (A : Option Addr) (c : Nat) (l : List ByteArray) (s : ByteArray) (w : World) (hk : Kd.C Kd.string w A l.length l) :
  Calls Tryd.prog 57 #[.slice A l.length c, .string s] w fun e w' => e = .returned (.bool (memB l s)) ∧ w' = w := by
 have C1 := Lib.hid (index_any A c l s w hk); have hd : Hid (memB l s = decide (placeF l s 0 ≥ 0)) := Lib.hid rfl; clear hk; generalize placeF l s 0 = p at *; go_enter Tryd.func57, Tryd.ntmps57; go_wp2_with fail; refine C1.out.mono ?_; rintro e w2 ⟨rfl, rfl⟩; go_wp2; go_ret
 exact ⟨by rw [hd.out]; rfl, rfl⟩
def ifOk (l : List ByteArray) (f0 : ByteArray) (j : Nat) (n : ByteArray) : Bool := validB n && (!(n.toList == f0.toList) && !memB (l.take j) n)
def ifB (l : List ByteArray) (f0 : ByteArray) : Nat → List ByteArray → Bool
 | _, [] => true
 | j, n :: r => ifOk l f0 j n && ifB l f0 (j + 1) r
theorem ifB_step {l : List ByteArray} {f0 n : ByteArray} {j : Nat} (hx : l[j]? = some n) : ifB l f0 j (l.drop j) = (ifOk l f0 j n && ifB l f0 (j + 1) (l.drop (j + 1))) := by
 have hi : j < l.length := by
  rcases Nat.lt_or_ge j l.length with h | h
  ·exact h
  ·rw [List.getElem?_eq_none h] at hx; cases hx
 rw [List.drop_eq_getElem_cons hi, ifB]; rw [List.getElem?_eq_getElem hi] at hx; rw [Option.some.inj hx]
def headB (f0 f1 : ByteArray) (l : List ByteArray) (f3 f4 : Int) : Bool :=
 validB f0 && (validB f1 && (!(f0.toList == f1.toList) && (clsV f3 == 0 && (ifB l f0 0 l && (decide ((l.length : Int) ≤ 20) && (decide (0 ≤ f4) && decide (f4 ≤ 9)))))))
theorem head_any (f0 f1 : ByteArray) (A2 : Option Addr) (c2 : Nat) (l2 : List ByteArray) (f3 f4 : Int) (v5 : Value) (h5 : ∃ A n c, v5 = .slice A n c) (w : World) (hk : Kd.C Kd.string w A2 l2.length l2) (hc : l2.length ≤ c2) :
  Calls Tryd.prog 46 #[.agg #[.string f0, .string f1, .slice A2 l2.length c2, .int .i64 f3, .int .i64 f4, v5]] w fun e w' => e = .returned (.bool (headB f0 f1 l2 f3 f4)) ∧ Below w.heap.size w w' := by
 obtain ⟨A5, n5, c5, rfl⟩ := h5; have hmx := Kd.C_max hk; have HK := Lib.hid hk; have hcc := hc; have B0 := Lib.hid (blk_new w (.cells #[.string f0, .string f1, .slice A2 l2.length c2, .int .i64 f3, .int .i64 f4, .slice A5 n5 c5] 40)); have AB := Lib.hid ((Below.refl w.heap.size w).alloc (Nat.le_refl _) (.cells #[.string f0, .string f1, .slice A2 l2.length c2, .int .i64 f3, .int .i64 f4, .slice A5 n5 c5] 40)); have CV := Lib.hid (fun s W => names_Valid.calls s _ W rfl); have CF := Lib.hid (fun W => cls_any f3 W); clear hk; generalize hr : headB f0 f1 l2 f3 f4 = r; replace hr := Lib.hid hr; unfold headB at hr; generalize hv0 : validB f0 = b0 at hr; generalize hv1 : validB f1 = b1 at hr; have C0 := Lib.hid (CV.out f0 (w.alloc (.cells #[.string f0, .string f1, .slice A2 l2.length c2, .int .i64 f3, .int .i64 f4, .slice A5 n5 c5] 40))); have C1 := Lib.hid (fun W => CV.out f1 W); rw [hv0] at C0; rw [hv1] at C1; generalize clsV f3 = cv at *; go_enter Tryd.func46, Tryd.ntmps46
 go_upto_region 1 with (fail)
 go_cut [1, 27] (fun v1 v27 wr => v1 = .pointer (some ⟨w.heap.size, 0, none⟩) ∧ v27 = .bool (!b0 || (!b1 || ((f0.toList == f1.toList) || (cv != 0)))) ∧ Hid (wr.heap[w.heap.size]? = some (.cells #[.string f0, .string f1, .slice A2 l2.length c2, .int .i64 f3, .int .i64 f4, .slice A5 n5 c5] 40 (0, 0))) ∧ Hid (Below w.heap.size w wr))
 case first =>
  go_wp2_with fail; refine C0.out.mono ?_; rintro e w1 ⟨rfl, hb1⟩; have B1 := Lib.hid (blk_below B0.out hb1); have H1 := Lib.hid (AB.out.trans (hb1.mono AB.out.size)); clear hb1 C0; have q1 : w1.cell? ⟨w.heap.size, 1, none⟩ = some (.string f1) := (blk_cell B1.out 1).trans rfl
  cases b0 with
  | false =>
   go_wp2; go_meet
   case rel => exact ⟨rfl, rfl, B1, H1⟩
  | true =>
   go_wp2_with fail; refine (C1.out _).mono ?_; rintro e w2 ⟨rfl, hb2⟩; have B2 := Lib.hid (blk_below B1.out hb2); have H2 := Lib.hid (H1.out.trans (hb2.mono H1.out.size)); clear hb2 C1 q1; have q0 : w2.cell? ⟨w.heap.size, 0, none⟩ = some (.string f0) := (blk_cell B2.out 0).trans rfl; have q1 : w2.cell? ⟨w.heap.size, 1, none⟩ = some (.string f1) := (blk_cell B2.out 1).trans rfl; have q3 : w2.cell? ⟨w.heap.size, 3, none⟩ = some (.int .i64 f3) := (blk_cell B2.out 3).trans rfl
   cases b1 with
   | false =>
    go_wp2; go_meet
    case rel => exact ⟨rfl, rfl, B2, H2⟩
   | true =>
    cases he : (f0.toList == f1.toList) with
    | true =>
     go_wp2; go_meet
     case rel => exact ⟨rfl, by rw [he]; rfl, B2, H2⟩
    | false =>
     go_wp2_with fail; refine (CF.out _).mono ?_; rintro e w3 ⟨rfl, rfl⟩; go_wp2; go_meet
     case rel => exact ⟨rfl, by rw [he]; rfl, B2, H2⟩
 case rest =>
  clear B0 AB C0 C1 CF; obtain ⟨rfl, rfl, B2, H2⟩ := hcut
  cases hbad : (!b0 || (!b1 || ((f0.toList == f1.toList) || (cv != 0)))) with
  | true =>
   have hr2 : false = r := by
    rw [← hr.out]
    cases b0 <;> cases b1 <;> cases he : (f0.toList == f1.toList) <;> simp_all
   subst hr2; clear hbad; go_wp2; go_ret
   exact ⟨rfl, H2.out⟩
  | false =>
   have hr2 : Hid ((ifB l2 f0 0 l2 && (decide ((l2.length : Int) ≤ 20) && (decide (0 ≤ f4) && decide (f4 ≤ 9)))) = r) := Lib.hid (by
    rw [← hr.out]
    cases b0 <;> cases b1 <;> cases he : (f0.toList == f1.toList) <;> simp_all)
   clear hbad hr hv0 hv1; have q2 : wc.cell? ⟨w.heap.size, 2, none⟩ = some (.slice A2 l2.length c2) := (blk_cell B2.out 2).trans rfl; go_wp2_with fail
   go_loopw [31] (fun v31 wr => ∃ j : Nat, j ≤ l2.length ∧ v31 = .int .i64 j ∧ Hid (ifB l2 f0 0 l2 = ifB l2 f0 j (l2.drop j)) ∧ Hid (wr.heap[w.heap.size]? = some (.cells #[.string f0, .string f1, .slice A2 l2.length c2, .int .i64 f3, .int .i64 f4, .slice A5 n5 c5] 40 (0, 0))) ∧ Hid (Below w.heap.size w wr)) (fun v31 _ => l2.length - (intOf v31).toNat)
   case atStart => exact ⟨0, Nat.zero_le _, rfl, Lib.hid rfl, B2, H2⟩
   case round =>
    clear B2 H2 q2; obtain ⟨j, hj, rfl, HT, B2, H2⟩ := hrel
    by_cases hlt : j < l2.length
    ·have hjd : decide (j < l2.length) = true := decide_eq_true hlt
     obtain ⟨ad, cc, rfl, hcl, hKK, hic⟩ := Kd.C_get (Kd.C_below HK.out H2.out) ByteArray.empty (j : Int) (by omega) (by omega); have hx := rd_at hlt; obtain rfl : cc = [.string (rdOf ByteArray.empty l2 (j : Int))] := hKK; have hic := hic 0 _ rfl; rw [show Kd.string.sz = 1 from rfl, Nat.mul_one, Nat.add_zero, Int.toNat_natCast] at hic; generalize rdOf ByteArray.empty l2 (j : Int) = n at *; have hst : Hid (ifB l2 f0 0 l2 = (ifOk l2 f0 j n && ifB l2 f0 (j + 1) (l2.drop (j + 1)))) := Lib.hid (HT.out.trans (ifB_step hx)); have hok : Hid (ifOk l2 f0 j n = (validB n && (!(n.toList == f0.toList) && !memB (l2.take j) n))) := Lib.hid rfl; have C3 := Lib.hid (CV.out n wr); obtain ⟨i0, hi0, _, hsz0, _⟩ := info_parts (show (Tryd.prog.info? 9).map (fun i => (i.zero, i.size, i.bytes)) = some (some (.string ⟨#[]⟩), 1, 16) from by kernel_rfl); obtain ⟨hcut0, _, _⟩ := print_take_of (P := Tryd.prog) Value.string (⟨#[]⟩ : ByteArray) 37 9 .i64 Tryd.underlying37 hi0 hsz0 (some ad) c2 l2 (j : Int) (by omega) (by omega) hcc; rw [Int.toNat_natCast] at hcut0; have C4 := Lib.hid (fun (W : World) (hb : Below w.heap.size w W) => conts_any (some ad) c2 (l2.take j) n W (Kd.C_take (Kd.C_below HK.out hb) (by omega))); clear HT hx hcl hi0 hsz0; generalize ifOk l2 f0 j n = ok at *; go_wp2_with fail; refine C3.out.mono ?_; rintro e w3 ⟨rfl, hb3⟩; have B3 := Lib.hid (blk_below B2.out hb3); have H3 := Lib.hid (H2.out.trans (hb3.mono H2.out.size)); clear hb3 C3 B2 H2 hic; have q0 : w3.cell? ⟨w.heap.size, 0, none⟩ = some (.string f0) := (blk_cell B3.out 0).trans rfl; have q2 : w3.cell? ⟨w.heap.size, 2, none⟩ = some (.slice (some ad) l2.length c2) := (blk_cell B3.out 2).trans rfl; have hbad : Hid (ok = false → false = r) := Lib.hid (fun h => by rw [← hr2.out, hst.out, h]; rfl)
     cases hv : validB n with
     | false =>
      have h1 := hok.out; rw [hv, Bool.false_and] at h1; obtain rfl := hbad.out h1; go_wp2; go_ret
      exact ⟨rfl, H3.out⟩
     | true =>
      cases he : (n.toList == f0.toList) with
      | true =>
       have h1 := hok.out; rw [hv, he] at h1; obtain rfl := hbad.out h1; go_wp2; go_ret
       exact ⟨rfl, H3.out⟩
      | false =>
       have C5 := C4.out w3 H3.out; rw [show (l2.take j).length = j by rw [List.length_take]; omega] at C5; replace C5 := Lib.hid C5; go_wp2_with fail; refine C5.out.mono ?_; rintro e w4 ⟨rfl, rfl⟩; clear C5 C4
       cases hm : memB (l2.take j) n with
       | true =>
        have h1 := hok.out; rw [hv, he, hm] at h1; obtain rfl := hbad.out h1; go_wp2; go_ret
        exact ⟨rfl, H3.out⟩
       | false =>
        have h1 : Hid (ok = true) := Lib.hid (by rw [hok.out, hv, he, hm]; rfl); clear hv he hm; go_wp2
        exact ⟨⟨j + 1, by omega, by push_cast; rfl, Lib.hid (by rw [hst.out, h1.out, Bool.true_and]), B3, H3⟩, by simp [intOf]; omega⟩
    ·have hjd : decide (j < l2.length) = false := decide_eq_false hlt
     have h1 := HT.out; rw [List.drop_eq_nil_of_le (by omega), ifB] at h1; rw [h1, Bool.true_and] at hr2; clear h1 HT; have q2 : wr.cell? ⟨w.heap.size, 2, none⟩ = some (.slice A2 l2.length c2) := (blk_cell B2.out 2).trans rfl; have q4 : wr.cell? ⟨w.heap.size, 4, none⟩ = some (.int .i64 f4) := (blk_cell B2.out 4).trans rfl
     cases d1 : decide ((l2.length : Int) ≤ 20) with
     | false =>
      have h2 := hr2.out; rw [d1] at h2; simp at h2; subst h2; go_wp2; go_ret
      exact ⟨rfl, H2.out⟩
     | true =>
      cases d2 : decide (0 ≤ f4) with
      | false =>
       have h2 := hr2.out; rw [d1, d2] at h2; simp at h2; subst h2; go_wp2; go_ret
       exact ⟨rfl, H2.out⟩
      | true =>
       rw [d1, d2, Bool.true_and, Bool.true_and] at hr2; go_wp2; go_ret
       exact ⟨by rw [← hr2.out]; rfl, H2.out⟩
end Go.Proofs.YtaipkdglhfhhiaaDoor.Pt

namespace Go.Proofs.YtaipkdglhfhhiaaDoor.Pt
open Go Go.RowKit Go.Proofs.YtaipkdglhfhhiaaDoor.Nm Go.Proofs.YtaipkdglhfhhiaaDoor.Ty Go.Proofs.YtaipkdglhfhhiaaDoor.Cd Go.Proofs.YtaipkdglhfhhiaaDoorW.PrintWords Go.Proofs.YtaipkdglhfhhiaaDoorW.PrintLast Go.Proofs.YtaipkdglhfhhiaaDoorW.PrintMore
set_option linter.unusedVariables false
set_option linter.unusedSimpArgs false
set_option maxHeartbeats 2000000
set_option maxRecDepth 100000
def mOk (l : List S94) (b : Bool) (j : Nat) (m : S94) : Bool := methB m b && findM 0 l m.f0 m.f1 == (j : Int)
def msB (l : List S94) (b : Bool) : Nat → List S94 → Bool
 | _, [] => true
 | j, m :: r => mOk l b j m && msB l b (j + 1) r
theorem msB_step {l : List S94} {b : Bool} {m : S94} {j : Nat} (hx : l[j]? = some m) : msB l b j (l.drop j) = (mOk l b j m && msB l b (j + 1) (l.drop (j + 1))) := by
 have hi : j < l.length := by
  rcases Nat.lt_or_ge j l.length with h | h
  ·exact h
  ·rw [List.getElem?_eq_none h] at hx; cases hx
 rw [List.drop_eq_getElem_cons hi, msB]; rw [List.getElem?_eq_getElem hi] at hx; rw [Option.some.inj hx]
def soundB (c : S40) : Bool :=
 !decide ((c.f5.length : Int) > 40) && (!decide ((c.f2.length : Int) > 20) && (headB c.f0 c.f1 c.f2 c.f3 c.f4 && msB c.f5 (Go.bits .and .i64 c.f3 512 != 0) 0 c.f5))
def chkC (c : S40) : Int := if soundB c = true then 0 else 1
theorem rd51 {l : List S94} {i : Nat} (h : i < l.length) : l[i]? = some (rd_T94 l (i : Int)) := by
 simp [rd_T94, List.getD_eq_getElem?_getD, List.getElem?_eq_getElem h]
theorem chk_any (f0 f1 : ByteArray) (A2 : Option Addr) (c2 : Nat) (l2 : List ByteArray) (f3 f4 : Int) (A5 : Option Addr) (c5 : Nat) (l5 : List S94) (w : World) (hk : Kd.C Kd.string w A2 l2.length l2) (hc : l2.length ≤ c2) (hk5 : Kd.C k94 w A5 l5.length l5) (hc5 : l5.length ≤ c5) :
  Calls Tryd.prog 32 #[.agg #[.string f0, .string f1, .slice A2 l2.length c2, .int .i64 f3, .int .i64 f4, .slice A5 l5.length c5]] w fun e w' => e = .returned (.int .i64 (chkC ⟨f0, f1, l2, f3, f4, l5⟩)) ∧ Below w.heap.size w w' := by
 have B0 := Lib.hid (blk_new w (.cells #[.string f0, .string f1, .slice A2 l2.length c2, .int .i64 f3, .int .i64 f4, .slice A5 l5.length c5] 40)); have AB := Lib.hid ((Below.refl w.heap.size w).alloc (Nat.le_refl _) (.cells #[.string f0, .string f1, .slice A2 l2.length c2, .int .i64 f3, .int .i64 f4, .slice A5 l5.length c5] 40)); have HK := Lib.hid hk5; have CH := Lib.hid (head_any f0 f1 A2 c2 l2 f3 f4 (.slice A5 l5.length c5) ⟨_, _, _, rfl⟩ _ (Kd.C_below hk AB.out) hc); have CFd := Lib.hid (fun (W : World) (hb : Below w.heap.size w W) (hl : l5.length ≤ 4611686018427387904) (nm ds : ByteArray) => shapes_Find.calls f0 f1 A2 c2 l2 f3 f4 A5 c5 l5 nm ds _ W (Kd.C_below hk hb) hc (Kd.C_below hk5 hb) hc5 (if_pos hl)); clear hk hk5; generalize hr : chkC ⟨f0, f1, l2, f3, f4, l5⟩ = r; replace hr := Lib.hid hr; unfold chkC soundB at hr; simp only at hr; generalize headB f0 f1 l2 f3 f4 = hb_ at *; have q2 : (w.alloc (.cells #[.string f0, .string f1, .slice A2 l2.length c2, .int .i64 f3, .int .i64 f4, .slice A5 l5.length c5] 40)).cell? ⟨w.heap.size, 2, none⟩ = some (.slice A2 l2.length c2) := (blk_cell B0.out 2).trans rfl; go_enter Tryd.func32, Tryd.ntmps32
 go_upto_region 1 with (fail)
 cases d5 : decide ((l5.length : Int) > 40) with
 | true =>
  rw [d5] at hr; have h := hr.out; simp at h; subst h; go_wp2; go_ret
  exact ⟨rfl, AB.out⟩
 | false =>
  rw [d5, Bool.not_false, Bool.true_and] at hr
  cases d2 : decide ((l2.length : Int) > 20) with
  | true =>
   rw [d2] at hr; have h := hr.out; simp at h; subst h; go_wp2; go_ret
   exact ⟨rfl, AB.out⟩
  | false =>
   rw [d2, Bool.not_false, Bool.true_and] at hr; go_wp2_with fail; refine CH.out.mono ?_; rintro e w1 ⟨rfl, hb1⟩; have B1 := Lib.hid (blk_below B0.out hb1); have H1 := Lib.hid (AB.out.trans (hb1.mono AB.out.size)); clear CH B0 AB hb1 q2
   cases hb_ with
   | false =>
    have h := hr.out; simp at h; subst h; go_wp2; go_ret
    exact ⟨rfl, H1.out⟩
   | true =>
    rw [Bool.true_and] at hr
    have hl5 : l5.length ≤ 40 := by
     have := of_decide_eq_false d5
     omega
    clear d5 d2; have q5 : w1.cell? ⟨w.heap.size, 5, none⟩ = some (.slice A5 l5.length c5) := (blk_cell B1.out 5).trans rfl; go_wp2_with fail
    go_loopw [23] (fun v23 wr => ∃ j : Nat, j ≤ l5.length ∧ v23 = .int .i64 j ∧ Hid (msB l5 (Go.bits .and .i64 f3 512 != 0) 0 l5 = msB l5 (Go.bits .and .i64 f3 512 != 0) j (l5.drop j)) ∧ Hid (wr.heap[w.heap.size]? = some (.cells #[.string f0, .string f1, .slice A2 l2.length c2, .int .i64 f3, .int .i64 f4, .slice A5 l5.length c5] 40 (0, 0))) ∧ Hid (Below w.heap.size w wr)) (fun v23 _ => l5.length - (intOf v23).toNat)
    case atStart => exact ⟨0, Nat.zero_le _, rfl, Lib.hid rfl, B1, H1⟩
    case round =>
     clear B1 H1 q5; obtain ⟨j, hj, rfl, HT, B2, H2⟩ := hrel
     by_cases hlt : j < l5.length
     ·have hjd : decide (j < l5.length) = true := decide_eq_true hlt
      obtain ⟨ad, A6, c6, rfl, p0, p1, p2, p3, p4, p5, hc6, K6⟩ := at_T94 (Kd.C_below HK.out H2.out) (j : Int) (by omega) (by omega); have hx := rd51 hlt; rw [Int.toNat_natCast] at p0 p1 p2 p3 p4 p5; generalize rd_T94 l5 (j : Int) = x at *; obtain ⟨x0, x1, x2, x3, x4, x5⟩ := x; simp only at p0 p1 p2 p3 p4 p5 hc6 K6; have hst : Hid (msB l5 (Go.bits .and .i64 f3 512 != 0) 0 l5 = (mOk l5 (Go.bits .and .i64 f3 512 != 0) j ⟨x0, x1, x2, x3, x4, x5⟩ && msB l5 (Go.bits .and .i64 f3 512 != 0) (j + 1) (l5.drop (j + 1)))) := Lib.hid (HT.out.trans (msB_step hx)); have hok : Hid (mOk l5 (Go.bits .and .i64 f3 512 != 0) j ⟨x0, x1, x2, x3, x4, x5⟩ = (methB ⟨x0, x1, x2, x3, x4, x5⟩ (Go.bits .and .i64 f3 512 != 0) && findM 0 l5 x0 x1 == (j : Int))) := Lib.hid rfl; have D0 := Lib.hid (blk_new wr (.cells #[.string x0, .string x1, .int .i64 x2, .int .i64 x3, .int .i64 x4, .slice A6 x5.length c6] 94)); have hal := (Below.refl wr.heap.size wr).alloc (Nat.le_refl _) (.cells #[.string x0, .string x1, .int .i64 x2, .int .i64 x3, .int .i64 x4, .slice A6 x5.length c6] 94); have B3 := Lib.hid (blk_below B2.out hal); have H3 := Lib.hid (H2.out.trans (hal.mono H2.out.size)); have CM := Lib.hid (meth_any x0 x1 x2 x3 x4 A6 c6 x5 (Go.bits .and .i64 f3 512 != 0) _ (Kd.C_below K6 hal) hc6); have q3 : (wr.alloc (.cells #[.string x0, .string x1, .int .i64 x2, .int .i64 x3, .int .i64 x4, .slice A6 x5.length c6] 94)).cell? ⟨w.heap.size, 3, none⟩ = some (.int .i64 f3) := (blk_cell B3.out 3).trans rfl; clear HT hx K6 hal B2 H2; have hbad : Hid (mOk l5 (Go.bits .and .i64 f3 512 != 0) j ⟨x0, x1, x2, x3, x4, x5⟩ = false → (1 : Int) = r) := Lib.hid (fun h => by rw [← hr.out, hst.out, h]; rfl); generalize mOk l5 (Go.bits .and .i64 f3 512 != 0) j ⟨x0, x1, x2, x3, x4, x5⟩ = ok at *; generalize methB ⟨x0, x1, x2, x3, x4, x5⟩ (Go.bits .and .i64 f3 512 != 0) = mb at *; go_wp2_with fail; refine CM.out.mono ?_; rintro e w4 ⟨rfl, hb4⟩; have B4 := Lib.hid (blk_below B3.out hb4); have D4 := Lib.hid (blk_below D0.out hb4); have H4 := Lib.hid (H3.out.trans (hb4.mono H3.out.size)); clear CM hb4 B3 D0 H3 q3 p0 p1 p2 p3 p4 p5
      cases mb with
      | false =>
       have h1 := hok.out; rw [Bool.false_and] at h1; obtain rfl := hbad.out h1; go_wp2; go_ret
       exact ⟨rfl, H4.out⟩
      | true =>
       have q0 : w4.cell? ⟨w.heap.size, 0, none⟩ = some (.string f0) := (blk_cell B4.out 0).trans rfl; have q1 : w4.cell? ⟨w.heap.size, 1, none⟩ = some (.string f1) := (blk_cell B4.out 1).trans rfl; have q2 : w4.cell? ⟨w.heap.size, 2, none⟩ = some (.slice A2 l2.length c2) := (blk_cell B4.out 2).trans rfl; have q3 : w4.cell? ⟨w.heap.size, 3, none⟩ = some (.int .i64 f3) := (blk_cell B4.out 3).trans rfl; have q4 : w4.cell? ⟨w.heap.size, 4, none⟩ = some (.int .i64 f4) := (blk_cell B4.out 4).trans rfl; have q5 : w4.cell? ⟨w.heap.size, 5, none⟩ = some (.slice (some ad) l5.length c5) := (blk_cell B4.out 5).trans rfl; have r0 : w4.cell? ⟨wr.heap.size, 0, none⟩ = some (.string x0) := (blk_cell D4.out 0).trans rfl; have r1 : w4.cell? ⟨wr.heap.size, 1, none⟩ = some (.string x1) := (blk_cell D4.out 1).trans rfl; have CD := Lib.hid (CFd.out w4 H4.out (by omega) x0 x1); rw [Bool.true_and] at hok; generalize findM 0 l5 x0 x1 = fm at *; go_wp2_with fail; refine CD.out.mono ?_; rintro e w5 ⟨rfl, hb5⟩; have B5 := Lib.hid (blk_below B4.out hb5); have H5 := Lib.hid (H4.out.trans (hb5.mono H4.out.size)); clear CD hb5 B4 D4 H4 q0 q1 q2 q3 q4 q5 r0 r1
       by_cases hf : fm = (j : Int)
       ·have hne : (fm != (j : Int)) = false := bne_eq_false_iff_eq.2 hf
        have h1 : Hid (ok = true) := Lib.hid (hok.out.trans (beq_iff_eq.2 hf)); clear hf; go_wp2
        exact ⟨⟨j + 1, by omega, by push_cast; rfl, Lib.hid (by rw [hst.out, h1.out, Bool.true_and]), B5, H5⟩, by simp [intOf]; omega⟩
       ·have hne : (fm != (j : Int)) = true := bne_iff_ne.2 hf
        have h1 := hok.out.trans (beq_eq_false_iff_ne.2 hf); obtain rfl := hbad.out h1; clear hf; go_wp2; go_ret
        exact ⟨rfl, H5.out⟩
     ·have hjd : decide (j < l5.length) = false := decide_eq_false hlt
      have h1 := HT.out; rw [List.drop_eq_nil_of_le (by omega), msB] at h1; have h2 := hr.out; rw [h1] at h2; simp at h2; subst h2; clear h1; go_wp2; go_ret
      exact ⟨rfl, H2.out⟩
theorem valid_size {s : ByteArray} (h : validB s = true) : s.size ≤ 60 := by
 unfold validB at h; rw [Bool.and_eq_true] at h
 exact of_decide_eq_true h.1
theorem ifB_mem {l : List ByteArray} {f0 : ByteArray} : ∀ (r : List ByteArray) (j : Nat), ifB l f0 j r = true → ∀ n ∈ r, validB n = true
 | [], _, _ => fun n hn => by cases hn
 | m :: r, j, h => by
  rw [ifB, Bool.and_eq_true] at h; intro n hn
  rcases List.mem_cons.1 hn with rfl | hn
  ·have := h.1
   unfold ifOk at this; rw [Bool.and_eq_true] at this
   exact this.1
  ·exact ifB_mem r (j + 1) h.2 n hn
theorem msB_mem {l : List S94} {b : Bool} : ∀ (r : List S94) (j : Nat), msB l b j r = true → ∀ m ∈ r, methB m b = true
 | [], _, _ => fun n hn => by cases hn
 | m :: r, j, h => by
  rw [msB, Bool.and_eq_true] at h; intro n hn
  rcases List.mem_cons.1 hn with rfl | hn
  ·have := h.1
   unfold mOk at this; rw [Bool.and_eq_true] at this
   exact this.1
  ·exact msB_mem r (j + 1) h.2 n hn
theorem meth_code {m : S94} {b : Bool} (h : methB m b = true) : m.f5.length ≤ 200 := by
 unfold methB at h; rw [Bool.and_eq_true, Bool.and_eq_true] at h; have h2 := h.2.2
 by_cases ha : Go.bits .and .i64 m.f2 1024 = 0
 ·rw [if_pos ha] at h2
  simp only [Bool.and_eq_true] at h2; have h3 := h2.2.2.2.2; unfold codeB wthB at h3; simp only [Bool.and_eq_true, decide_eq_true_eq] at h3
  omega
 ·rw [if_neg ha] at h2
  simp only [Bool.and_eq_true, beq_iff_eq] at h2
  omega
theorem chk_sizes {c : S40} (h : chkC c = 0) : c.f0.size ≤ 60 ∧ c.f1.size ≤ 60 ∧ c.f2.length ≤ 20 ∧ (∀ n ∈ c.f2, n.size ≤ 60) ∧ c.f5.length ≤ 40 ∧ ∀ m ∈ c.f5, m.f5.length ≤ 200 := by
 have hs : soundB c = true := by
  cases hs : soundB c with
  | true => rfl
  | false => unfold chkC at h; rw [hs] at h; cases h
 unfold soundB headB at hs; simp only [Bool.and_eq_true, Bool.not_eq_true', decide_eq_false_iff_not] at hs; obtain ⟨h5, h2, ⟨v0, v1, _, _, hi, _⟩, hm⟩ := hs
 exact ⟨valid_size v0, valid_size v1, by omega, fun n hn => valid_size (ifB_mem _ _ hi n hn), by omega, fun m hm2 => meth_code (msB_mem _ _ hm m hm2)⟩
end Go.Proofs.YtaipkdglhfhhiaaDoor.Pt

namespace Go.Proofs.YtaipkdglhfhhiaaDoor.Hi
open Go Go.RowKit Go.Proofs.YtaipkdglhfhhiaaDoor.Nm Go.Proofs.YtaipkdglhfhhiaaDoorW.PrintWords Go.Proofs.YtaipkdglhfhhiaaDoorW.PrintLast Go.Proofs.YtaipkdglhfhhiaaDoorW.PrintMore Go.Proofs.YtaipkdglhfhhiaaDoor.Pt
set_option linter.unusedVariables false
set_option linter.unusedSimpArgs false
set_option maxHeartbeats 4000000
set_option maxRecDepth 100000
def ifsF (es : List Ent) (c : S40) : List ByteArray → Int × List Int
 | [] => (0, [])
 | n :: l => if (aboveF es c n true).2 = 0 then ((ifsF es c l).1, (aboveF es c n true).1 :: (ifsF es c l).2) else ((aboveF es c n true).2, [])
def defF (r : Int) (es : List Ent) (c : S40) : List Ent × Int × Int :=
 if r ≠ 0 then (es, 0, r) else if es.length ≥ 300 then (es, 0, 5) else if (nameF es c.f0).2 = 0 then (es, 0, 25) else
 if (aboveF es c c.f1 false).2 ≠ 0 then (es, 0, (aboveF es c c.f1 false).2) else if (ifsF es c c.f2).1 ≠ 0 then (es, 0, (ifsF es c c.f2).1) else
 (es ++ [putE es c (aboveF es c c.f1 false).1 (ifsF es c c.f2).2], es.length, 0)
structure Good (es : List Ent) : Prop where
 fine : ∀ x ∈ es, Fine x
 tree : Tree es
 clo : ∀ x ∈ es, Rng es.length x.clo ∧ 0 ≤ x.depth ∧ x.depth ≤ es.length
 len : es.length ≤ 300
theorem ifsF_take (es : List Ent) (c : S40) : ∀ (l : List ByteArray) (k : Nat), (∀ (j : Nat) (n : ByteArray), j < k → l[j]? = some n → (aboveF es c n true).2 = 0) → (∀ (n : ByteArray), l[k]? = some n → (aboveF es c n true).2 ≠ 0 → (ifsF es c l).1 = (aboveF es c n true).2) ∧ (l.length ≤ k → ifsF es c l = (0, l.map fun n => (aboveF es c n true).1))
 | [], k, _ => ⟨fun n h => by simp at h, fun _ => rfl⟩
 | m :: l, 0, _ => ⟨fun n h hn => by
   simp at h; subst h; unfold ifsF
   rw [if_neg hn], fun h => by simp at h⟩
 | m :: l, k + 1, h => by
  have h0 := h 0 m (by omega) rfl; obtain ⟨h1, h2⟩ := ifsF_take es c l k (fun j n hj hn => h (j + 1) n (by omega) hn); refine ⟨fun n hn hne => ?_, fun hl => ?_⟩
  ·unfold ifsF
   rw [if_pos h0]
   exact h1 n hn hne
  ·have h3 := h2 (by simpa using hl)
   unfold ifsF; rw [if_pos h0, h3]
   rfl
theorem nameF_in {es : List Ent} {s : ByteArray} (h : (nameF es s).2 = 0) : 0 ≤ (nameF es s).1 ∧ (nameF es s).1 < es.length ∧ (ent es (nameF es s).1).c.f0 = s := by
 unfold nameF at h ⊢
 cases hf : (es.map (·.c.f0)).findIdx? (fun t => decide (t = s)) with
 | none => rw [hf] at h; simp at h
 | some i =>
  obtain ⟨hi, hs, _⟩ := List.findIdx?_eq_some_iff_getElem.1 hf; have hs := of_decide_eq_true hs; rw [List.length_map] at hi; refine ⟨by simp, by simpa using hi, ?_⟩; have := ent_get (List.getElem?_eq_getElem hi)
  show (ent es (i : Int)).c.f0 = s
  rw [this]
  simpa using hs
theorem nameF_not {es : List Ent} {s : ByteArray} (h : ¬ (nameF es s).2 = 0) : nameF es s = (0, 6) ∧ s ∉ es.map (·.c.f0) := by
 unfold nameF at h ⊢
 cases hf : (es.map (·.c.f0)).findIdx? (fun t => decide (t = s)) with
 | none =>
  refine ⟨rfl, fun hm => ?_⟩; rw [List.findIdx?_eq_none_iff] at hf; have := hf s hm; simp at this
 | some i => rw [hf] at h; simp at h
theorem aboveF_in {es : List Ent} {c : S40} {n : ByteArray} {want : Bool} (h : (aboveF es c n want).2 = 0) : 0 ≤ (aboveF es c n want).1 ∧ (aboveF es c n want).1 < es.length ∧ (aboveF es c n want).1 = (nameF es n).1 ∧ (nameF es n).2 = 0 := by
 unfold aboveF at h ⊢
 split at h
 ·rename_i h0
  rw [if_pos h0]; have h1 := nameF_in h0; unfold fitF at h ⊢
  split at h
  ·simp at h
  ·split at h
   ·simp at h
   ·split at h
    ·simp at h
    ·rename_i a b c
     rw [if_neg a, if_neg b, if_neg c]
     exact ⟨h1.1, h1.2.1, rfl, h0⟩
 ·simp at h
theorem fin_no {w W : World} {base g : Nat} {v : Value} {mb : Nat} {ps : List Nat} {es : List Ent} (h : WIn w base g v mb ps es) (hbs : base ≤ w.heap.size) (hb : Below w.heap.size w W) {V : List Ent × Int × Int} {err : Int} (hV : (es, (0 : Int), err) = V) :
  Ending.returned (.tuple #[.int .i64 0, .int .i64 err]) = Ending.returned (.tuple #[.int .i64 V.2.1, .int .i64 V.2.2]) ∧ ∃ v' ps', WIn W base g v' mb ps' V.1 ∧ Below base w W ∧ KeptT w W := by
 subst hV
 exact ⟨rfl, v, ps, h.below hb, hb.mono hbs, KeptT.of_below hb⟩
theorem define_any (w : World) (base g : Nat) (v : Value) (mb : Nat) (ps : List Nat) (es : List Ent) (h : WIn w base g v mb ps es) (hbs : base ≤ w.heap.size) (hg : Good es)
  (f0 f1 : ByteArray) (A2 : Option Addr) (c2 : Nat) (l2 : List ByteArray) (f3 f4 : Int) (A5 : Option Addr) (c5 : Nat) (l5 : List S94) (h2 : Kd.C Kd.string w A2 l2.length l2) (hc2 : l2.length ≤ c2) (h5 : Kd.C k94 w A5 l5.length l5) (hc5 : l5.length ≤ c5)
  (r : Int) (hr : chkC ⟨f0, f1, l2, f3, f4, l5⟩ = r) (hck : r = 0 → f0.size ≤ 1000 ∧ f1.size ≤ 1000 ∧ l2.length ≤ 1000 ∧ (∀ n ∈ l2, n.size ≤ 1000) ∧ Short l5) :
  Calls Tryd.prog 11 #[.pointer (some ⟨g, 0, none⟩), .agg #[.string f0, .string f1, .slice A2 l2.length c2, .int .i64 f3, .int .i64 f4, .slice A5 l5.length c5]] w fun e w' =>
   e = .returned (.tuple #[.int .i64 (defF r es ⟨f0, f1, l2, f3, f4, l5⟩).2.1, .int .i64 (defF r es ⟨f0, f1, l2, f3, f4, l5⟩).2.2]) ∧ ∃ v' ps', WIn w' base g v' mb ps' (defF r es ⟨f0, f1, l2, f3, f4, l5⟩).1 ∧ Below base w w' ∧ KeptT w w' := by
 generalize hV : defF r es ⟨f0, f1, l2, f3, f4, l5⟩ = V; replace hV := Lib.hid hV; have B0 := Lib.hid (blk_new w (.cells #[.string f0, .string f1, .slice A2 l2.length c2, .int .i64 f3, .int .i64 f4, .slice A5 l5.length c5] 40)); have AB : Hid (Below w.heap.size w (w.alloc (.cells #[.string f0, .string f1, .slice A2 l2.length c2, .int .i64 f3, .int .i64 f4, .slice A5 l5.length c5] 40))) := Lib.hid ((Below.refl _ _).alloc (Nat.le_refl _) _); have HW := Lib.hid h; have H2 := Lib.hid h2; have H5 := Lib.hid h5; have CK := Lib.hid (fun (W : World) (hb : Below w.heap.size w W) => chk_any f0 f1 A2 c2 l2 f3 f4 A5 c5 l5 W (Kd.C_below h2 hb) hc2 (Kd.C_below h5 hb) hc5); rw [hr] at CK; have HK := Lib.hid hck; have HG := Lib.hid hg; clear h h2 h5 hck hg hr; have C1 := Lib.hid (CK.out _ AB.out); go_enter Tryd.func11, Tryd.ntmps11; go_wp2_with fail; refine C1.out.mono ?_; rintro e w1 ⟨rfl, hb1⟩; have HB := Lib.hid (AB.out.trans (hb1.mono AB.out.size)); have B1 := Lib.hid (blk_below B0.out hb1); clear hb1 C1 CK AB B0; have HW1 := Lib.hid (HW.out.below HB.out)
 by_cases h0 : r = 0
 ·subst h0
  obtain ⟨s0, s1, s2, s3, s5⟩ := HK.out rfl; replace s3 := Lib.hid s3; replace s5 := Lib.hid s5; have q0 : w1.cell? ⟨g, 0, none⟩ = some v := (blk_cell HW1.out.blk 0).trans rfl; have q1 : w1.cell? ⟨g, 1, none⟩ = some (.map (some mb)) := (blk_cell HW1.out.blk 1).trans rfl; obtain ⟨Av, cv, rfl⟩ := Kd.R_slice HW.out.row; have hpl := Lib.hid HW.out.len
  by_cases h300 : es.length ≥ 300
  ·have hd : decide ((ps.length : Int) ≥ 300) = true := decide_eq_true (by rw [hpl.out]; omega)
   have hV2 : Hid ((es, (0 : Int), (5 : Int)) = V) := Lib.hid (by rw [← hV.out, defF, if_neg (by simp), if_pos h300]); clear hV; go_wp2; go_ret2
   exact fin_no HW.out hbs HB.out hV2.out
  ·have hd : decide ((ps.length : Int) ≥ 300) = false := decide_eq_false (by rw [hpl.out]; omega)
   have hlen : es.length ≤ 1000 := by omega
   have hl3 := Lib.hid (show ¬ es.length ≥ 300 from h300); clear h300; obtain ⟨D, hD, hS⟩ := HW1.out.map; obtain ⟨vi, pi_, hrun, hvi⟩ := hD.drew.look_ok (Maps.string_keyed Tryd.underlying9) Tryd.underlying60 (zeroInt _) (plainElem_int Tryd.underlying3 (by decide)) (Go.WideMaps.keyOf_string_mk Tryd.underlying9 (s := f0) (by unfold maxLen; omega)); obtain ⟨ci, rfl, hci, _⟩ := plainElem_int_inv Tryd.underlying3 hvi; have hci := Lib.hid (congrArg Prod.fst hci); have LN := Lib.hid (look_name hS f0 ci hci.out); clear hvi hD hS; have y0 : w1.cell? ⟨w.heap.size, 0, none⟩ = some (.string f0) := (blk_cell B1.out 0).trans rfl; have y1 : w1.cell? ⟨w.heap.size, 1, none⟩ = some (.string f1) := (blk_cell B1.out 1).trans rfl; have y2 : w1.cell? ⟨w.heap.size, 2, none⟩ = some (.slice A2 l2.length c2) := (blk_cell B1.out 2).trans rfl; have y3 : w1.cell? ⟨w.heap.size, 3, none⟩ = some (.int .i64 f3) := (blk_cell B1.out 3).trans rfl; have y4 : w1.cell? ⟨w.heap.size, 4, none⟩ = some (.int .i64 f4) := (blk_cell B1.out 4).trans rfl; have y5 : w1.cell? ⟨w.heap.size, 5, none⟩ = some (.slice A5 l5.length c5) := (blk_cell B1.out 5).trans rfl
   cases hh : Maps.has D (.string f0.data.toList)
   ·rw [hh] at hrun
    have hnm := Lib.hid (LN.out.2 hh); have hnn : Hid (¬ (nameF es f0).2 = 0) := Lib.hid (by rw [hnm.out]; decide); clear LN hh; go_wp2; go_region; go_wp2_with fail; clear hrun q1; have AB := Lib.hid (above_any w1.drew base g _ mb ps es (HW1.out.below (below_drew1 (Below.refl _ _))) HG.out.fine ⟨f0, f1, l2, f3, f4, l5⟩ (.string f1) (.slice A2 l2.length c2) (.slice A5 l5.length c5) f1 false (by show f0.size < _; omega) (by omega) hlen); refine AB.out.mono ?_; rintro e w2 ⟨rfl, hb2⟩; have B2 := Lib.hid (blk_below (blk_drew B1.out) hb2); have HB2 := Lib.hid ((below_drew1 HB.out).trans (hb2.mono HB.out.size)); clear AB B1 HB hb2 y0 y1 y2 y3 y4 y5 HW1 q0
    by_cases he : (aboveF es ⟨f0, f1, l2, f3, f4, l5⟩ f1 false).2 = 0
    ·have hsup := Lib.hid (aboveF_in he)
     have he1 := Lib.hid he; generalize hx : (aboveF es ⟨f0, f1, l2, f3, f4, l5⟩ f1 false).1 = sup at *; rw [he]; replace hx := Lib.hid hx; have y2 : w2.cell? ⟨w.heap.size, 2, none⟩ = some (.slice A2 l2.length c2) := (blk_cell B2.out 2).trans rfl; clear he; go_wp2_with fail
     go_loopw [11, 54] (fun v11 v54 wr => ∃ j : Nat, j ≤ l2.length ∧ v54 = .int .i64 j ∧ Hid (Kd.R (Kd.int .i64) 3 wr w.heap.size (fun _ => True) v11 ((l2.take j).map fun n => (aboveF es ⟨f0, f1, l2, f3, f4, l5⟩ n true).1)) ∧ Hid (∀ (i : Nat) (n : ByteArray), i < j → l2[i]? = some n → (aboveF es ⟨f0, f1, l2, f3, f4, l5⟩ n true).2 = 0) ∧
      Hid (wr.heap[w.heap.size]? = some (.cells #[.string f0, .string f1, .slice A2 l2.length c2, .int .i64 f3, .int .i64 f4, .slice A5 l5.length c5] 40 (0, 0))) ∧ Hid (Below w.heap.size w wr)) (fun _ v54 _ => l2.length - (intOf v54).toNat)
     case atStart => exact ⟨0, Nat.zero_le _, rfl, Lib.hid (Kd.R_nil _ _ _ _ _), Lib.hid (fun i n hi => absurd hi (by omega)), B2, HB2⟩
     case round =>
      clear B2 HB2 y2; obtain ⟨j, hj, rfl, RR, HE, B2, HB2⟩ := hrel; have y0 : wr.cell? ⟨w.heap.size, 0, none⟩ = some (.string f0) := (blk_cell B2.out 0).trans rfl; have y1 : wr.cell? ⟨w.heap.size, 1, none⟩ = some (.string f1) := (blk_cell B2.out 1).trans rfl; have y2 : wr.cell? ⟨w.heap.size, 2, none⟩ = some (.slice A2 l2.length c2) := (blk_cell B2.out 2).trans rfl; have y3 : wr.cell? ⟨w.heap.size, 3, none⟩ = some (.int .i64 f3) := (blk_cell B2.out 3).trans rfl; have y4 : wr.cell? ⟨w.heap.size, 4, none⟩ = some (.int .i64 f4) := (blk_cell B2.out 4).trans rfl; have y5 : wr.cell? ⟨w.heap.size, 5, none⟩ = some (.slice A5 l5.length c5) := (blk_cell B2.out 5).trans rfl
      by_cases hlt : j < l2.length
      ·obtain ⟨ad0, cc, rfl, hcl, hKK, hic⟩ := Kd.C_get H2.out ⟨#[]⟩ (j : Int) (by omega) (by omega)
       obtain rfl : cc = [.string (l2.getD j ⟨#[]⟩)] := hKK; have hic := hic 0 _ rfl; rw [show Kd.string.sz = 1 from rfl, Nat.mul_one, Nat.add_zero, Int.toNat_natCast] at hic
       have hx2 : l2[j]? = some (l2.getD j ⟨#[]⟩) := by rw [List.getD_eq_getElem?_getD, List.getElem?_eq_getElem hlt]; rfl
       have hns := s3.out _ (List.mem_of_getElem? hx2); generalize l2.getD j ⟨#[]⟩ = n at *; replace hx2 := Lib.hid hx2; have hic1 := pw_cell_below HB2.out hic; replace hic := Lib.hid hic; have hjd : decide (j < l2.length) = true := decide_eq_true hlt; have AB := Lib.hid (above_any wr base g _ mb ps es (HW.out.below HB2.out) HG.out.fine ⟨f0, f1, l2, f3, f4, l5⟩ (.string f1) (.slice (some ad0) l2.length c2) (.slice A5 l5.length c5) n true (by show f0.size < _; omega) (by omega) hlen); go_wp2_with fail; refine AB.out.mono ?_; rintro e w3 ⟨rfl, hb3⟩; have B3 := Lib.hid (blk_below B2.out hb3); have HB3 := Lib.hid (HB2.out.trans (hb3.mono HB2.out.size)); have R3 := Lib.hid (Kd.R_below RR.out hb3); clear AB B2 HB2 RR hb3 y0 y1 y2 y3 y4 y5 hic1
       by_cases hee : (aboveF es ⟨f0, f1, l2, f3, f4, l5⟩ n true).2 = 0
       ·have hee1 := Lib.hid hee
        rw [hee]; obtain ⟨A11, c11, rfl⟩ := Kd.R_slice R3.out
        have hll : ((l2.take j).map fun n => (aboveF es ⟨f0, f1, l2, f3, f4, l5⟩ n true).1).length ≤ 1000 := by
         rw [List.length_map, List.length_take]; omega
        have hstep : Hid ((l2.take (j + 1)).map (fun n => (aboveF es ⟨f0, f1, l2, f3, f4, l5⟩ n true).1) = (l2.take j).map (fun n => (aboveF es ⟨f0, f1, l2, f3, f4, l5⟩ n true).1) ++ [(aboveF es ⟨f0, f1, l2, f3, f4, l5⟩ n true).1]) := Lib.hid (by
         rw [List.take_add_one, hx2.out, List.map_append]; rfl)
        have HE2 : Hid (∀ (i : Nat) (m : ByteArray), i < j + 1 → l2[i]? = some m → (aboveF es ⟨f0, f1, l2, f3, f4, l5⟩ m true).2 = 0) := Lib.hid (fun i m hi hm => by
         by_cases hij : i = j
         ·subst hij
          rw [hx2.out] at hm
          cases hm
          exact hee1.out
         ·exact HE.out i m (by omega) hm)
        generalize (l2.take j).map (fun n => (aboveF es ⟨f0, f1, l2, f3, f4, l5⟩ n true).1) = ids at *; generalize (aboveF es ⟨f0, f1, l2, f3, f4, l5⟩ n true).1 = idn at *; clear hee HE; go_wp2_with (at_builtin; refine Kd.R_append (Kd.int .i64) (w0 := w) (W := w3) w.heap.size rfl (.tmp 68) (.tmp 70) 43 3 (.int .i64 0) 8 rfl Tryd.underlying43 info_int rfl (by decide) (by omega) _ ids idn [.int .i64 idn] (fun _ => True) (fun _ => False) rfl rfl rfl (fun _ h => h.elim) (fun _ _ => trivial) R3.out HB3.out HB3.out.size (by omega) ?_; intro v1 w4 g1 g2 g3 g4; obtain ⟨A12, c12, rfl⟩ := Kd.R_slice g1; replace g1 := Lib.hid g1; replace g2 := Lib.hid g2; have B4 := Lib.hid (blk_grown (w := w3) B3.out g3 (Kd.R_ne R3.out B3.out (by decide))); clear g3 g4)
        refine ⟨⟨j + 1, by omega, by push_cast; rfl, Lib.hid (by
         have e := g1.out; rw [hstep.out]
         rwa [show (ids ++ [idn]).length = ids.length + 1 by simp] at e), HE2, B4, g2⟩, by simp [intOf]; omega⟩
       ·have hne : ((aboveF es ⟨f0, f1, l2, f3, f4, l5⟩ n true).2 != 0) = true := bne_iff_ne.2 hee
        have hV2 : Hid ((es, (0 : Int), (aboveF es ⟨f0, f1, l2, f3, f4, l5⟩ n true).2) = V) := Lib.hid (by
         rw [← hV.out, defF, if_neg (by simp), if_neg hl3.out, if_neg hnn.out, if_neg (fun h => h he1.out)]; have e1 := (ifsF_take es ⟨f0, f1, l2, f3, f4, l5⟩ l2 j HE.out).1 n hx2.out hee
         show _ = if (ifsF es ⟨f0, f1, l2, f3, f4, l5⟩ l2).1 ≠ 0 then (es, (0 : Int), (ifsF es ⟨f0, f1, l2, f3, f4, l5⟩ l2).1) else _
         rw [if_pos (by rw [e1]; exact hee), e1])
        clear hV hee HE R3; generalize (aboveF es ⟨f0, f1, l2, f3, f4, l5⟩ n true).2 = err at *; go_wp2; go_ret2
        exact fin_no HW.out hbs HB3.out hV2.out
      ·have hjl : j = l2.length := by omega
       have hjd : decide (j < l2.length) = false := decide_eq_false hlt; have e2 := (ifsF_take es ⟨f0, f1, l2, f3, f4, l5⟩ l2 j HE.out).2 (by omega)
       have hV2 : Hid ((es ++ [putE es ⟨f0, f1, l2, f3, f4, l5⟩ sup (l2.map fun n => (aboveF es ⟨f0, f1, l2, f3, f4, l5⟩ n true).1)], (es.length : Int), (0 : Int)) = V) := Lib.hid (by
        rw [← hV.out, defF, if_neg (by simp), if_neg hl3.out, if_neg hnn.out, if_neg (fun h => h he1.out)]
        show _ = if (ifsF es ⟨f0, f1, l2, f3, f4, l5⟩ l2).1 ≠ 0 then (es, (0 : Int), (ifsF es ⟨f0, f1, l2, f3, f4, l5⟩ l2).1) else _
        rw [if_neg (by rw [e2]; simp), e2, hx.out])
       have hRng : Hid (∀ i ∈ (l2.map fun n => (aboveF es ⟨f0, f1, l2, f3, f4, l5⟩ n true).1), 0 ≤ i ∧ i < es.length) := Lib.hid (fun i hi => by
        obtain ⟨n, hn, rfl⟩ := List.mem_map.1 hi; obtain ⟨q, hq⟩ := List.getElem?_of_mem hn
        have hq2 : q < l2.length := by
         rcases Nat.lt_or_ge q l2.length with h | h
         ·exact h
         ·rw [List.getElem?_eq_none h] at hq; cases hq
        have := aboveF_in (HE.out q n (by omega) hq)
        exact ⟨this.1, this.2.1⟩)
       rw [hjl, List.take_length] at RR; clear hV e2 HE
       have hill : (l2.map fun n => (aboveF es ⟨f0, f1, l2, f3, f4, l5⟩ n true).1).length ≤ 1000 := by rw [List.length_map]; omega
       generalize (l2.map fun n => (aboveF es ⟨f0, f1, l2, f3, f4, l5⟩ n true).1) = ids at *; obtain ⟨A11, c11, rfl⟩ := Kd.R_slice RR.out; have CP := Lib.hid (copied_any f0 f1 A2 c2 l2 f3 f4 A5 c5 l5 wr (Kd.C_below H2.out HB2.out) (Kd.C_below H5.out HB2.out) (by omega) s5.out); go_wp2_with fail; clear y0 y1 y2 y3 y4 y5; refine CP.out.mono ?_; rintro e w3 ⟨v2, v5, rfl, R2, R5, hb3⟩; have HB3 := Lib.hid (HB2.out.trans (hb3.mono HB2.out.size)); have hsz := HB2.out.size; have PU := Lib.hid (put_any w3 base g _ mb ps es (HW.out.below HB3.out) (Nat.le_trans hbs HB3.out.size) f0 f1 v2 v5 l2 f3 f4 l5 (Kd.R_lower R2 (by omega)) (Kd.R_lower R5 (by omega)) sup (.inr ⟨hsup.out.1, hsup.out.2.1⟩) A11 c11 ids (Kd.R_reads' (Kd.R_below RR.out hb3)).2.2 hRng.out hlen (fun x hx => ⟨(HG.out.clo x hx).1, (HG.out.clo x hx).2.1, by have := (HG.out.clo x hx).2.2; omega⟩) hill (nameF_not hnn.out).2 (by omega)); clear CP R2 R5 hb3 RR HB2 B2; go_wp2_with fail; refine PU.out.mono ?_; rintro e w4 ⟨rfl, v', p, I4, hb4, hk4⟩; replace I4 := Lib.hid I4; have HB4 := Lib.hid ((HB3.out.mono hbs).trans hb4); have HK4 := Lib.hid ((KeptT.of_below HB3.out).trans hk4); clear PU hb4 hk4; go_wp2; go_ret2; have hV3 := hV2.out; clear hV2; subst hV3
       exact ⟨rfl, _, _, I4.out, HB4.out, HK4.out⟩
    ·have hne : ((aboveF es ⟨f0, f1, l2, f3, f4, l5⟩ f1 false).2 != 0) = true := bne_iff_ne.2 he
     have hV2 : Hid ((es, (0 : Int), (aboveF es ⟨f0, f1, l2, f3, f4, l5⟩ f1 false).2) = V) := Lib.hid (by
      rw [← hV.out, defF, if_neg (by simp), if_neg hl3.out, if_neg hnn.out]
      show _ = if (aboveF es ⟨f0, f1, l2, f3, f4, l5⟩ f1 false).2 ≠ 0 then _ else _
      rw [if_pos he])
     clear hV he; generalize (aboveF es ⟨f0, f1, l2, f3, f4, l5⟩ f1 false).2 = err at *; go_wp2; go_ret2
     exact fin_no HW.out hbs HB2.out hV2.out
   ·rw [hh] at hrun
    obtain ⟨n1, n2, n3⟩ := LN.out.1 hh; have hV2 : Hid ((es, (0 : Int), (25 : Int)) = V) := Lib.hid (by rw [← hV.out, defF, if_neg (by simp), if_neg hl3.out, if_pos (show (nameF es f0).2 = 0 from n2)]); clear n1 n2 n3 LN hh hV; go_wp2; go_region; go_wp2; go_ret2
    exact fin_no HW.out hbs (below_drew1 HB.out) hV2.out
 ·have hne : (r != 0) = true := bne_iff_ne.2 h0
  have hV2 : Hid ((es, (0 : Int), r) = V) := Lib.hid (by rw [← hV.out, defF, if_pos h0]); clear hV h0; go_wp2; go_ret2
  exact fin_no HW.out hbs HB.out hV2.out
end Go.Proofs.YtaipkdglhfhhiaaDoor.Hi

namespace Go.Proofs.YtaipkdglhfhhiaaDoor.Hi
open Go Go.RowKit Go.Proofs.YtaipkdglhfhhiaaDoorW.PrintWords Go.Proofs.YtaipkdglhfhhiaaDoorW.PrintLast Go.Proofs.YtaipkdglhfhhiaaDoorW.PrintMore Go.Proofs.YtaipkdglhfhhiaaDoor.Pt
set_option linter.unusedVariables false
set_option linter.unusedSimpArgs false
set_option maxHeartbeats 2000000
set_option maxRecDepth 100000
theorem R_block {α : Type} (d : Kd α) (e : Nat) {W : World} {base g : Nat} {ok : Nat → Prop} {xs : List α} {inner : List Value} (h : W.heap[g]? = some (.cells inner.toArray e (0, 0))) (hb : base ≤ g) (hok : ok g) (hm : xs.length ≤ maxLen) (hr : Reps (d.M W base (fun k => ok k ∧ some k ≠ some g)) d.sz xs inner) :
  d.R e W base ok (.slice (some ⟨g, 0, none⟩) xs.length xs.length) xs :=
 ⟨fun k hk => by
  have : g = k := by simpa [Value.ownBlock] using hk
  exact this ▸ hok, inner, ⟨hr.1, .inr ⟨g, xs.length, inner.toArray, rfl, hb, h, Nat.le_refl _, hm, by simpa using hr.1, by simp [← hr.1]⟩⟩, hr⟩
def inst (op n : Int) : S91 := ⟨op, n, ⟨#[]⟩, ⟨false, ⟨#[]⟩, ⟨#[]⟩, ⟨#[]⟩⟩⟩
def instC (op n : Int) : List Value := [.int .i64 op, .int .i64 n, .string ⟨#[]⟩, .bool false, .string ⟨#[]⟩, .string ⟨#[]⟩, .string ⟨#[]⟩]
theorem reps_inst (W : World) (base : Nat) (ok : Nat → Prop) (op n : Int) : Reps (k91.M W base ok) k91.sz [inst op n] (instC op n) :=
 (Reps.none _ _).snoc (k91_mkM W base ok (inst op n)) rfl
theorem reps_inst2 (W : World) (base : Nat) (ok : Nat → Prop) (op n op' n' : Int) : Reps (k91.M W base ok) k91.sz [inst op n, inst op' n'] (instC op n ++ instC op' n') :=
 (reps_inst W base ok op n).snoc (k91_mkM W base ok (inst op' n')) rfl
def sObject : ByteArray := ⟨#[79, 98, 106, 101, 99, 116]⟩
def sInit : ByteArray := ⟨#[60, 105, 110, 105, 116, 62]⟩
def sV : ByteArray := ⟨#[40, 41, 86]⟩
def sId : ByteArray := ⟨#[105, 100]⟩
def sI : ByteArray := ⟨#[40, 41, 73]⟩
def sKin : ByteArray := ⟨#[107, 105, 110]⟩
def sLO : ByteArray := ⟨#[40, 41, 76, 79, 98, 106, 101, 99, 116, 59]⟩
def objM : List S94 := [⟨sInit, sV, 1, 1, 0, [inst 38 0]⟩, ⟨sId, sI, 1, 1, 1, [inst 1 7, inst 36 0]⟩, ⟨sKin, sLO, 4, 1, 1, [inst 4 0, inst 37 0]⟩]
def objC : S40 := ⟨sObject, ⟨#[]⟩, [], 33, 0, objM⟩
def methC (g : Nat) : List Value := (([.string sInit, .string sV, .int .i64 1, .int .i64 1, .int .i64 0, .slice (some ⟨g + 1, 0, none⟩) 1 1] : List Value) ++ [.string sId, .string sI, .int .i64 1, .int .i64 1, .int .i64 1, .slice (some ⟨g + 1 + 1, 0, none⟩) 2 2]) ++ [.string sKin, .string sLO, .int .i64 4, .int .i64 1, .int .i64 1, .slice (some ⟨g + 1 + 1 + 1, 0, none⟩) 2 2]
theorem five_new (w : World) (o0 o1 o2 o3 o4 : Obj) : (((((w.alloc o0).alloc o1).alloc o2).alloc o3).alloc o4).heap[w.heap.size]? = some o0 ∧ (((((w.alloc o0).alloc o1).alloc o2).alloc o3).alloc o4).heap[w.heap.size + 1]? = some o1 ∧ (((((w.alloc o0).alloc o1).alloc o2).alloc o3).alloc o4).heap[w.heap.size + 1 + 1]? = some o2 ∧
  (((((w.alloc o0).alloc o1).alloc o2).alloc o3).alloc o4).heap[w.heap.size + 1 + 1 + 1]? = some o3 ∧ (((((w.alloc o0).alloc o1).alloc o2).alloc o3).alloc o4).heap[w.heap.size + 1 + 1 + 1 + 1]? = some o4 ∧ Below w.heap.size w (((((w.alloc o0).alloc o1).alloc o2).alloc o3).alloc o4) := by
 have e0 : (w.alloc o0).heap.size = w.heap.size + 1 := by simp
 have e1 : ((w.alloc o0).alloc o1).heap.size = w.heap.size + 1 + 1 := by simp
 have e2 : (((w.alloc o0).alloc o1).alloc o2).heap.size = w.heap.size + 1 + 1 + 1 := by simp
 have e3 : ((((w.alloc o0).alloc o1).alloc o2).alloc o3).heap.size = w.heap.size + 1 + 1 + 1 + 1 := by simp
 refine ⟨blk_alloc (blk_alloc (blk_alloc (blk_alloc (blk_new w o0) o1) o2) o3) o4, ?_, ?_, ?_, ?_, ?_⟩
 ·have := blk_alloc (blk_alloc (blk_alloc (blk_new (w.alloc o0) o1) o2) o3) o4
  rwa [e0] at this
 ·have := blk_alloc (blk_alloc (blk_new ((w.alloc o0).alloc o1) o2) o3) o4
  rwa [e1] at this
 ·have := blk_alloc (blk_new (((w.alloc o0).alloc o1).alloc o2) o3) o4
  rwa [e2] at this
 ·have := blk_new ((((w.alloc o0).alloc o1).alloc o2).alloc o3) o4
  rwa [e3] at this
 ·exact (((((Below.refl _ _).alloc (Nat.le_refl _) _).alloc (by omega) _).alloc (by omega) _).alloc (by omega) _).alloc (by omega) _
theorem objR {W : World} {base g : Nat} (hb : base ≤ g)
  (h1 : W.heap[g + 1]? = some (.cells (instC 38 0).toArray 91 (0, 0))) (h2 : W.heap[g + 1 + 1]? = some (.cells (instC 1 7 ++ instC 36 0).toArray 91 (0, 0))) (h3 : W.heap[g + 1 + 1 + 1]? = some (.cells (instC 4 0 ++ instC 37 0).toArray 91 (0, 0)))
  (h4 : W.heap[g + 1 + 1 + 1 + 1]? = some (.cells (methC g).toArray 94 (0, 0))) :
  Kd.R k94 94 W base (fun _ => True) (.slice (some ⟨g + 1 + 1 + 1 + 1, 0, none⟩) 3 3) objM := by
 have r1 := R_block k91 91 (base := base) (ok := fun k => True ∧ some k ≠ some (g + 1 + 1 + 1 + 1)) h1 (by omega) ⟨trivial, by simp⟩ (by decide) (reps_inst W base _ 38 0); have r2 := R_block k91 91 (base := base) (ok := fun k => True ∧ some k ≠ some (g + 1 + 1 + 1 + 1)) h2 (by omega) ⟨trivial, by simp⟩ (by decide) (reps_inst2 W base _ 1 7 36 0); have r3 := R_block k91 91 (base := base) (ok := fun k => True ∧ some k ≠ some (g + 1 + 1 + 1 + 1)) h3 (by omega) ⟨trivial, by simp⟩ (by decide) (reps_inst2 W base _ 4 0 37 0); refine R_block k94 94 (xs := objM) h4 (by omega) trivial (by decide) ?_
 exact (((Reps.none _ _).snoc (k94_mkM W base _ ⟨sInit, sV, 1, 1, 0, [inst 38 0]⟩ r1) rfl).snoc (k94_mkM W base _ ⟨sId, sI, 1, 1, 1, [inst 1 7, inst 36 0]⟩ r2) rfl).snoc (k94_mkM W base _ ⟨sKin, sLO, 4, 1, 1, [inst 4 0, inst 37 0]⟩ r3) rfl
theorem object_any (w : World) : Calls Tryd.prog 26 #[] w fun e w' => ∃ v5, e = .returned (.agg #[.string objC.f0, .string objC.f1, .slice none 0 0, .int .i64 objC.f3, .int .i64 objC.f4, v5]) ∧ Kd.R k94 94 w' w.heap.size (fun _ => True) v5 objC.f5 ∧ Below w.heap.size w w' := by
 go_enter Tryd.func26, Tryd.ntmps26; go_wp2; refine bodyPost_ret (results_cell_row rfl _ _ w.heap.size 40 _ (0, 0) _ rfl (five_new _ _ _ _ _ _).1 Tryd.underlying40 rfl (by kernel_rfl)) rfl ?_
 have F := five_new w (.cells #[.string sObject, .string ⟨#[]⟩, .slice none 0 0, .int .i64 33, .int .i64 0, .slice (some ⟨w.heap.size + 1 + 1 + 1 + 1, 0, none⟩) 3 3] 40) (.cells (instC 38 0).toArray 91) (.cells (instC 1 7 ++ instC 36 0).toArray 91) (.cells (instC 4 0 ++ instC 37 0).toArray 91)
  (.cells (methC w.heap.size).toArray 94)
 exact ⟨_, rfl, objR (Nat.le_refl _) F.2.1 F.2.2.1 F.2.2.2.1 F.2.2.2.2.1, F.2.2.2.2.2⟩
end Go.Proofs.YtaipkdglhfhhiaaDoor.Hi

namespace Go.Proofs.YtaipkdglhfhhiaaDoor.Hi
open Go Go.RowKit Go.Proofs.YtaipkdglhfhhiaaDoorW.PrintWords Go.Proofs.YtaipkdglhfhhiaaDoorW.PrintLast Go.Proofs.YtaipkdglhfhhiaaDoorW.PrintMore Go.Proofs.YtaipkdglhfhhiaaDoor.Pt
set_option linter.unusedVariables false
set_option linter.unusedSimpArgs false
set_option maxHeartbeats 2000000
set_option maxRecDepth 100000
def sCloneable : ByteArray := ⟨#[67, 108, 111, 110, 101, 97, 98, 108, 101]⟩
def sSerializable : ByteArray := ⟨#[83, 101, 114, 105, 97, 108, 105, 122, 97, 98, 108, 101]⟩
def ifaceC (s : ByteArray) : S40 := ⟨s, sObject, [], 1537, 0, []⟩
def newE : List Ent := [⟨objC, -1, 0, []⟩, ⟨ifaceC sCloneable, 0, 1, []⟩, ⟨ifaceC sSerializable, 0, 1, []⟩]
theorem WIn.start (w : World) : WIn ((w.alloc (.map #[] 0)).alloc (.cells #[.slice none 0 0, .map (some w.heap.size)] 63)) w.heap.size (w.heap.size + 1) (.slice none 0 0) w.heap.size [] [] := by
 have e0 : (w.alloc (.map #[] 0)).heap.size = w.heap.size + 1 := by simp
 refine ⟨Nat.le_succ _, ?_, Kd.R_nil _ _ _ _ _, rfl, fun j x p hx => by simp at hx, Nat.le_refl _, .map [], ?_, MapSays.nil⟩
 ·have := blk_new (w.alloc (.map #[] 0)) (.cells #[.slice none 0 0, .map (some w.heap.size)] 63)
  rwa [e0] at this
 ·exact (World.ownsMap_made w _ _ _).alloc _
theorem ne_size {a b : ByteArray} (h : a.size ≠ b.size) : a ≠ b := fun e => h (by rw [e])
theorem notIn1 : sCloneable ∉ ([putE [] objC (-1) []] : List Ent).map (·.c.f0) := by
 intro h
 exact ne_size (by decide) (List.mem_singleton.1 h)
theorem notIn2 : sSerializable ∉ ([putE [] objC (-1) [], putE [putE [] objC (-1) []] (ifaceC sCloneable) 0 []] : List Ent).map (·.c.f0) := by
 intro h
 rcases List.mem_cons.1 h with h | h
 ·exact ne_size (by decide) h
 ·exact ne_size (by decide) (List.mem_singleton.1 h)
theorem new_any (w : World) : Calls Tryd.prog 7 #[] w fun e w' => ∃ g v mb ps, e = .returned (.pointer (some ⟨g, 0, none⟩)) ∧ WIn w' w.heap.size g v mb ps newE ∧ Below w.heap.size w w' := by
 have hmm := @run_makeMap Tryd.prog; have S0 := Lib.hid (WIn.start w); have B0 : Hid (Below w.heap.size w ((w.alloc (.map #[] 0)).alloc (.cells #[.slice none 0 0, .map (some w.heap.size)] 63))) := Lib.hid (((Below.refl _ _).alloc (Nat.le_refl _) _).alloc (by simp) _); go_enter Tryd.func7, Tryd.ntmps7; go_wp2_with fail; refine (object_any _).mono ?_; rintro e w1 ⟨v5, rfl, R5, hb1⟩; obtain ⟨A5, c5, rfl⟩ := Kd.R_slice R5; have S1 := Lib.hid (S0.out.below hb1); have B1 := Lib.hid (B0.out.trans (hb1.mono B0.out.size)); have P1 := Lib.hid (put_any w1 w.heap.size (w.heap.size + 1) _ w.heap.size [] [] S1.out B1.out.size objC.f0 objC.f1 (.slice none 0 0) (.slice A5 objC.f5.length c5) [] objC.f3 objC.f4 objC.f5 (Kd.R_nil _ _ _ _ _) (Kd.R_lower R5 B0.out.size) (-1) (.inl rfl) none 0 [] (Kd.C_nil _ _) (fun i hi => by cases hi) (by decide) (fun x hx => by cases hx) (by decide) (by simp) (by decide)); clear S0 B0 R5 hb1; go_wp2_with fail; refine P1.out.mono ?_; rintro e w2 ⟨rfl, v2, p, S2, hb2, hk2⟩; have RB := Lib.hid (blk_new w2 (.cells #[.string sCloneable, .string sSerializable] 9)); have AB := (Below.refl w2.heap.size w2).alloc (Nat.le_refl _) (.cells #[.string sCloneable, .string sSerializable] 9); have S3 := Lib.hid (S2.below AB); have B2 := B1.out.trans hb2; have B3 := Lib.hid (B2.trans (AB.mono B2.size)); clear P1 S1 B1 S2 hb2 hk2 AB B2; go_wp2_with fail; change Code.wp _ _ _ _ (w2.alloc (.cells #[.string sCloneable, .string sSerializable] 9)); generalize w2.alloc (.cells #[.string sCloneable, .string sSerializable] 9) = w3 at *; have q0 : w3.cell? ⟨w2.heap.size, 0, none⟩ = some (.string sCloneable) := (blk_cell RB.out 0).trans rfl
 have P2 := Lib.hid (put_any w3 w.heap.size (w.heap.size + 1) _ w.heap.size _ _ S3.out B3.out.size sCloneable sObject (.slice none 0 0) (.slice none 0 0) [] 1537 0 [] (Kd.R_nil _ _ _ _ _) (Kd.R_nil _ _ _ _ _) 0 (.inr ⟨by omega, by decide⟩) none 0 [] (Kd.C_nil _ _) (fun i hi => by cases hi) (by decide) (fun x hx => by
  rw [List.mem_singleton.1 hx]
  exact ⟨Rng.nil _, by decide, by decide⟩) (by decide) notIn1 (by decide))
 clear S3; refine wp_loop_rounds 3 ?_; rw [rounds_succ]; go_wp2_with fail; refine P2.out.mono ?_; rintro e w4 ⟨rfl, v4, p4, S4, hb4, hk4⟩; have B4 := Lib.hid (B3.out.trans hb4); have RB4 := Lib.hid (hk4 _ _ _ RB.out (by decide) (by decide)); have q1 : w4.cell? ⟨w2.heap.size, 1, none⟩ = some (.string sSerializable) := (blk_cell RB4.out 1).trans rfl
 have P3 := Lib.hid (put_any w4 w.heap.size (w.heap.size + 1) _ w.heap.size _ _ S4 B4.out.size sSerializable sObject (.slice none 0 0) (.slice none 0 0) [] 1537 0 [] (Kd.R_nil _ _ _ _ _) (Kd.R_nil _ _ _ _ _) 0 (.inr ⟨by omega, by decide⟩) none 0 [] (Kd.C_nil _ _) (fun i hi => by cases hi) (by decide) (fun x hx => by
  rcases List.mem_cons.1 hx with rfl | hx
  ·exact ⟨Rng.nil _, by decide, by decide⟩
  ·rw [List.mem_singleton.1 hx]
   exact ⟨Rng.nil _, by decide, by decide⟩) (by decide) notIn2 (by decide))
 clear S4 hb4 hk4 P2 B3 RB RB4 q0; go_wp2_with fail; rw [rounds_succ]; go_wp2_with fail; refine P3.out.mono ?_; rintro e w5 ⟨rfl, v5, p5, S5, hb5, hk5⟩; have B5 := Lib.hid (B4.out.trans hb5); replace S5 := Lib.hid S5; clear hb5 hk5 P3 B4 q1; go_wp2_with fail; rw [rounds_succ]; go_wp2; go_ret
 exact ⟨_, _, _, _, rfl, S5.out, B5.out⟩
end Go.Proofs.YtaipkdglhfhhiaaDoor.Hi

namespace Go.Proofs.YtaipkdglhfhhiaaDoor.Pt
open Go Go.RowKit Go.Proofs.YtaipkdglhfhhiaaDoor.Nm Go.Proofs.YtaipkdglhfhhiaaDoor.Hi Go.Proofs.YtaipkdglhfhhiaaDoorW.PrintWords Go.Proofs.YtaipkdglhfhhiaaDoorW.PrintLast Go.Proofs.YtaipkdglhfhhiaaDoorW.PrintMore
set_option linter.unusedVariables false
set_option linter.unusedSimpArgs false
theorem fine_new : ∀ x ∈ newE, Fine x := by
 intro x hx; simp only [newE, List.mem_cons, List.not_mem_nil, or_false] at hx
 rcases hx with rfl | rfl | rfl
 ·exact ⟨⟨by decide, by decide, by decide⟩, by decide, by decide⟩
 ·exact ⟨⟨by decide, by decide, by decide⟩, by decide, by decide⟩
 ·exact ⟨⟨by decide, by decide, by decide⟩, by decide, by decide⟩
theorem tree_new : Tree newE := by
 intro i x hx
 match i, hx with
 | 0, hx => simp [newE] at hx; subst hx; exact .inl ⟨rfl, rfl⟩
 | 1, hx => simp [newE] at hx; subst hx; exact .inr ⟨by decide, by decide, by decide⟩
 | 2, hx => simp [newE] at hx; subst hx; exact .inr ⟨by decide, by decide, by decide⟩
 | i + 3, hx => simp [newE] at hx
theorem _root_.Go.Proofs.YtaipkdglhfhhiaaDoor.Pt.WOK.at_ {w w' : World} {m g : Nat} {es : List Ent} (hq : w.drewN m = w') (h : WOK w g es) : WOK w' g es := hq ▸ h.drewN m
theorem wok_new {w : World} {base g : Nat} {v : Value} {mb : Nat} {ps : List Nat} (h : WIn w base g v mb ps newE) : WOK w g newE := ⟨⟨_, _, _, _, h⟩, fine_new, tree_new, by decide⟩
end Go.Proofs.YtaipkdglhfhhiaaDoor.Pt

namespace Go.Proofs.YtaipkdglhfhhiaaDoor.Hi
open Go Go.RowKit Go.Proofs.YtaipkdglhfhhiaaDoor.Nm Go.Proofs.YtaipkdglhfhhiaaDoorW.PrintWords Go.Proofs.YtaipkdglhfhhiaaDoorW.PrintLast Go.Proofs.YtaipkdglhfhhiaaDoorW.PrintMore Go.Proofs.YtaipkdglhfhhiaaDoor.Pt
set_option linter.unusedVariables false
set_option linter.unusedSimpArgs false
set_option maxRecDepth 100000
def stepF (es : List Ent) (c : S40) : List Ent := (defF (chkC c) es c).1
def builtF (l : List S40) : List Ent := l.foldl stepF newE
inductive Made : List Ent → Prop
 | new : Made newE
 | step (es : List Ent) (c : S40) : Made es → Made (stepF es c)
theorem made_fold (l : List S40) : ∀ es, Made es → Made (l.foldl stepF es) := by
 induction l with
 | nil => exact fun es h => h
 | cons c l ih => exact fun es h => ih _ (.step es c h)
theorem made_built (l : List S40) : Made (builtF l) := made_fold l _ .new
theorem sound_sizes {c : S40} (h : chkC c = 0) : c.f0.size ≤ 60 ∧ c.f1.size ≤ 60 ∧ c.f2.length ≤ 20 ∧ (∀ n ∈ c.f2, n.size ≤ 60) ∧ Short c.f5 := by
 obtain ⟨s0, s1, s2, s3, s4, s5⟩ := chk_sizes h
 exact ⟨s0, s1, s2, s3, by omega, fun x hx => by have := s5 x hx; omega⟩
structure Took (es : List Ent) (c : S40) (x : Ent) : Prop where
 sound : chkC c = 0
 len : es.length < 300
 fresh : c.f0 ∉ es.map (·.c.f0)
 sup : (aboveF es c c.f1 false).2 = 0
 ifs : ∀ n ∈ c.f2, (aboveF es c n true).2 = 0
 isx : x = putE es c (aboveF es c c.f1 false).1 (c.f2.map fun n => (aboveF es c n true).1)
theorem ifs_all (es : List Ent) (c : S40) : ∀ (l : List ByteArray), (ifsF es c l).1 = 0 → (∀ n ∈ l, (aboveF es c n true).2 = 0) ∧ (ifsF es c l).2 = l.map fun n => (aboveF es c n true).1
 | [], _ => ⟨fun n hn => (by cases hn), rfl⟩
 | m :: l, h => by
  unfold ifsF at h ⊢
  by_cases h0 : (aboveF es c m true).2 = 0
  ·rw [if_pos h0] at h ⊢
   obtain ⟨h1, h2⟩ := ifs_all es c l h; refine ⟨fun n hn => ?_, ?_⟩
   ·rcases List.mem_cons.1 hn with rfl | hn
    ·exact h0
    ·exact h1 n hn
   ·show _ :: (ifsF es c l).2 = _
    rw [h2]
    rfl
  ·rw [if_neg h0] at h
   exact absurd h h0
theorem stepF_cases (es : List Ent) (c : S40) : stepF es c = es ∨ ∃ x, stepF es c = es ++ [x] ∧ Took es c x := by
 unfold stepF defF
 by_cases h0 : chkC c = 0
 ·rw [if_neg (fun h => h h0)]
  by_cases h1 : es.length ≥ 300
  ·rw [if_pos h1]; exact .inl rfl
  ·rw [if_neg h1]
   by_cases h2 : (nameF es c.f0).2 = 0
   ·rw [if_pos h2]; exact .inl rfl
   ·rw [if_neg h2]
    by_cases h3 : (aboveF es c c.f1 false).2 = 0
    ·rw [if_neg (fun h => h h3)]
     by_cases h4 : (ifsF es c c.f2).1 = 0
     ·rw [if_neg (fun h => h h4)]
      obtain ⟨h5, h6⟩ := ifs_all es c c.f2 h4
      exact .inr ⟨_, rfl, h0, by omega, (nameF_not h2).2, h3, h5, by rw [h6]⟩
     ·rw [if_pos h4]; exact .inl rfl
    ·rw [if_pos h3]; exact .inl rfl
 ·rw [if_pos h0]; exact .inl rfl
theorem ent_old {es : List Ent} {x : Ent} {i : Int} (h0 : 0 ≤ i) (h1 : i < es.length) : ent (es ++ [x]) i = ent es i := by
 unfold ent; rw [List.getD_eq_getElem?_getD, List.getD_eq_getElem?_getD, List.getElem?_append_left (by omega)]
theorem rng_more {n m : Nat} {l : List Int} (h : Rng n l) (hm : n ≤ m) : Rng m l := ⟨h.1, fun x hx => by have := h.2 x hx; omega⟩
theorem Took.clo {es : List Ent} {c : S40} {x : Ent} (h : Took es c x) (hg : Good es) : Rng es.length x.clo := by
 have h1 := aboveF_in h.sup; have hm : ent es (aboveF es c c.f1 false).1 ∈ es := List.mem_of_getElem? (get_ent h1.1 h1.2.1); rw [h.isx]
 show Rng _ (closF es _ _)
 rw [if_pos h1.1]; refine Rng.clos (fun y hy => (hg.clo y hy).1) (hg.clo _ hm).1 (fun i hi => ?_) (Nat.le_refl _); obtain ⟨n, hn, rfl⟩ := List.mem_map.1 hi; have := aboveF_in (h.ifs n hn)
 exact ⟨this.1, this.2.1⟩
theorem good_new : Good newE := by
 refine ⟨fine_new, tree_new, fun x hx => ?_, by decide⟩; simp only [newE, List.mem_cons, List.not_mem_nil, or_false] at hx
 rcases hx with rfl | rfl | rfl
 all_goals exact ⟨Rng.nil _, by decide, by decide⟩
theorem good_took {es : List Ent} {c : S40} {x : Ent} (hg : Good es) (h : Took es c x) : Good (es ++ [x]) := by
 have h1 := aboveF_in h.sup; have hm : ent es (aboveF es c c.f1 false).1 ∈ es := List.mem_of_getElem? (get_ent h1.1 h1.2.1)
 have hl : (es ++ [x]).length = es.length + 1 := by simp
 have hc := h.clo hg; obtain ⟨s0, s1, s2, s3, s5⟩ := sound_sizes h.sound
 have hxc : x.c = c := by rw [h.isx]; rfl
 have hxa : x.above = (aboveF es c c.f1 false).1 := by rw [h.isx]; rfl
 have hxd : x.depth = (ent es (aboveF es c c.f1 false).1).depth + 1 := by
  rw [h.isx]
  exact if_pos h1.1
 have hlen := h.len; refine ⟨fun y hy => ?_, fun i y hi => ?_, fun y hy => ?_, by omega⟩
 ·rcases List.mem_append.1 hy with hy | hy
  ·exact hg.fine y hy
  ·rw [List.mem_singleton.1 hy]
   refine ⟨?_, ?_, ?_⟩
   ·rw [hxc]
    exact ⟨by omega, s5⟩
   ·rw [hxc]
    omega
   ·have := hc.len
    omega
 ·rcases Nat.lt_trichotomy i es.length with hi2 | hi2 | hi2
  ·rw [List.getElem?_append_left hi2] at hi
   rcases hg.tree i y hi with h2 | ⟨h2, h3, h4⟩
   ·exact .inl h2
   ·exact .inr ⟨h2, h3, by rw [ent_old h2 (by omega)]; exact h4⟩
  ·subst hi2
   rw [List.getElem?_append_right (Nat.le_refl _), Nat.sub_self] at hi
   cases hi
   refine .inr ⟨by rw [hxa]; exact h1.1, by rw [hxa]; exact h1.2.1, ?_⟩; rw [hxa, ent_old h1.1 h1.2.1]
   exact hxd
  ·rw [List.getElem?_eq_none (by omega)] at hi
   cases hi
 ·rcases List.mem_append.1 hy with hy | hy
  ·have := hg.clo y hy
   exact ⟨rng_more this.1 (by omega), this.2.1, by omega⟩
  ·rw [List.mem_singleton.1 hy]
   have h2 := hg.clo _ hm
   exact ⟨rng_more hc (by omega), by omega, by omega⟩
theorem good_step {es : List Ent} {c : S40} (hg : Good es) : Good (stepF es c) := by
 rcases stepF_cases es c with h | ⟨x, h, ht⟩
 ·rw [h]; exact hg
 ·rw [h]; exact good_took hg ht
theorem good_made {es : List Ent} (h : Made es) : Good es := by
 induction h with
 | new => exact good_new
 | step es c _ ih => exact good_step ih
end Go.Proofs.YtaipkdglhfhhiaaDoor.Hi

namespace Go.Proofs.YtaipkdglhfhhiaaDoor.Pt
open Go Go.RowKit Go.Proofs.YtaipkdglhfhhiaaDoor.Nm Go.Proofs.YtaipkdglhfhhiaaDoor.Ty Go.Proofs.YtaipkdglhfhhiaaDoor.Hi Go.Proofs.YtaipkdglhfhhiaaDoorW.PrintWords Go.Proofs.YtaipkdglhfhhiaaDoorW.PrintLast Go.Proofs.YtaipkdglhfhhiaaDoorW.PrintMore
set_option linter.unusedVariables false
set_option linter.unusedSimpArgs false
set_option maxHeartbeats 1000000
set_option maxRecDepth 100000
def loadF (es : List Ent) (d : Int) (s : ByteArray) : Int :=
 if chk d s.data.toList = 0 then (if s.toList = [] then 0 else if (nameF es s).2 = 0 then 0 else 20) else chk d s.data.toList
def intT (d : Int) (s : ByteArray) : Bool := d == 0 && (s.toList == ([] : List UInt8))
def topB (t : ByteArray) : Bool := if t.toList = ([79, 98, 106, 101, 99, 116] : List UInt8) then true else if t.toList = ([67, 108, 111, 110, 101, 97, 98, 108, 101] : List UInt8) then true else t.toList == ([83, 101, 114, 105, 97, 108, 105, 122, 97, 98, 108, 101] : List UInt8)
def redF (es : List Ent) (a : Int) (s : ByteArray) (b : Int) (t : ByteArray) : Bool :=
 if (intT a s || intT b t) = true then (a == b && (s.toList == t.toList)) else if a > 0 then topB t else if b > 0 then false else extF es (nameF es s).1 (nameF es t).1
def belowF (es : List Ent) (a : Int) (s : ByteArray) (b : Int) (t : ByteArray) : Bool := redF es (a - min a b) s (b - min a b) t
def subF (es : List Ent) (a : Int) (s : ByteArray) (b : Int) (t : ByteArray) : Bool × Int :=
 if loadF es a s ≠ 0 then (false, loadF es a s) else if loadF es b t ≠ 0 then (false, loadF es b t) else (belowF es a s b t, 0)
theorem ck_size (d : Int) (nm : ByteArray) (h : chk d nm.data.toList = 0) : nm.size ≤ 60 ∧ 0 ≤ d ∧ d ≤ 255 := by
 unfold chk at h
 split at h
 ·cases h
 ·rename_i hd
  split at h
  ·cases h
  ·rename_i hn
   refine ⟨?_, by omega, by omega⟩
   by_cases he : nm.data.toList = []
   ·have := congrArg List.length he
    simp at this; have h2 : nm.size = nm.data.size := rfl; rw [h2, this]; simp
   ·have hv : validB (bs nm.data.toList) = true := by
     cases hb : validB (bs nm.data.toList) with
     | true => rfl
     | false => exact absurd ⟨he, hb⟩ hn
    rw [mk_data] at hv
    exact valid_size hv
theorem load_size {es : List Ent} {d : Int} {s : ByteArray} (h : loadF es d s = 0) : s.size ≤ 60 ∧ 0 ≤ d ∧ d ≤ 255 := by
 unfold loadF at h
 by_cases hc : chk d s.data.toList = 0
 ·exact ck_size d s hc
 ·rw [if_neg hc] at h
  exact absurd h hc
theorem byName_tot (es : List Ent) (s : ByteArray) (hs : s.size ≤ 60) : hier_World_ByName.f es s = some (nameF es s) := by
 unfold hier_World_ByName.f; rw [if_pos (by omega)]
theorem load_tot (es : List Ent) (d : Int) (s : ByteArray) : arrays_Loaded.f es d s = some (loadF es d s) := by
 unfold arrays_Loaded.f loadF; rw [show types_Check.f d s = some (chk d s.data.toList) from rfl, Option.bind_some]
 by_cases hc : chk d s.data.toList = 0
 ·rw [if_pos hc, if_pos hc, byName_tot es s (ck_size d s hc).1, Option.bind_some]
  by_cases h1 : s.toList = []
  ·rw [if_pos h1, if_pos h1]
  ·rw [if_neg h1, if_neg h1]
   by_cases h2 : (nameF es s).2 = 0
   ·rw [if_pos h2, if_pos h2]
   ·rw [if_neg h2, if_neg h2]
 ·rw [if_neg hc, if_neg hc]
theorem red_tot (k : Nat) (es : List Ent) (a : Int) (s : ByteArray) (b : Int) (t : ByteArray) (hs : s.size ≤ 60) (ht : t.size ≤ 60) : arrays_below.j1 (k + 2) es a s b t = some (redF es a s b t) := by
 rw [arrays_below.j1]
 have h2 : ∀ x : Bool, arrays_below.j2 (k + 1) es x a s b t = some (if x = true then (a == b && (s.toList == t.toList)) else if a > 0 then topB t else if b > 0 then false else extF es (nameF es s).1 (nameF es t).1) := by
  intro x; rw [arrays_below.j2, byName_tot es s hs, byName_tot es t ht, Option.bind_some, Option.bind_some]
  cases x
  ·rw [if_neg (show ¬ (false = true) by simp), if_neg (show ¬ (false = true) by simp)]
   by_cases h1 : a > 0
   ·rw [if_pos h1, if_pos h1]
    unfold arrays_top.f topB
    by_cases c1 : t.toList = ([79, 98, 106, 101, 99, 116] : List UInt8)
    ·rw [if_pos c1, if_pos c1]; rfl
    ·rw [if_neg c1, if_neg c1]
     by_cases c2 : t.toList = ([67, 108, 111, 110, 101, 97, 98, 108, 101] : List UInt8)
     ·rw [if_pos c2, if_pos c2]; rfl
     ·rw [if_neg c2, if_neg c2]; rfl
   ·rw [if_neg h1, if_neg h1]
    by_cases h2 : b > 0
    ·rw [if_pos h2, if_pos h2]
    ·rw [if_neg h2, if_neg h2]
     rfl
  ·rfl
 rw [show arrays_isInt.f a s = some (intT a s) from rfl, Option.bind_some, show arrays_isInt.f b t = some (intT b t) from rfl, Option.bind_some, h2, h2]; unfold redF
 cases intT a s <;> cases intT b t <;> rfl
theorem below_tot (es : List Ent) (s t : ByteArray) (hs : s.size ≤ 60) (ht : t.size ≤ 60) : ∀ (n : Nat) (a b : Int) (k : Nat), 0 ≤ a → 0 ≤ b → a ≤ 255 → b ≤ 255 → min a b ≤ n → n + 3 ≤ k → arrays_below.l0 k es a s b t = some (belowF es a s b t)
 | 0, a, b, k, ha, hb, ha2, hb2, hm, hk => by
  obtain ⟨k, rfl⟩ : ∃ m, k = m + 3 := ⟨k - 3, by omega⟩
  have h0 : min a b = 0 := by omega
  rw [arrays_below.l0, red_tot k es a s b t hs ht]; unfold belowF; rw [h0, Int.sub_zero, Int.sub_zero]
  by_cases h1 : a > 0
  ·rw [if_pos h1, if_neg (by omega)]
  ·rw [if_neg h1]
 | n + 1, a, b, k, ha, hb, ha2, hb2, hm, hk => by
  obtain ⟨k, rfl⟩ : ∃ m, k = m + 3 := ⟨k - 3, by omega⟩
  rw [arrays_below.l0]
  by_cases h1 : a > 0
  ·rw [if_pos h1]
   by_cases h2 : b > 0
   ·rw [if_pos h2, show wrap64 (a - 1) = a - 1 by unfold wrap64; omega, show wrap64 (b - 1) = b - 1 by unfold wrap64; omega]
    rw [below_tot es s t hs ht n (a - 1) (b - 1) (k + 2) (by omega) (by omega) (by omega) (by omega) (by omega) (by omega)]; unfold belowF; rw [show a - 1 - min (a - 1) (b - 1) = a - min a b by omega, show b - 1 - min (a - 1) (b - 1) = b - min a b by omega]
   ·rw [if_neg h2, red_tot k es a s b t hs ht]
    unfold belowF; rw [show min a b = 0 by omega, Int.sub_zero, Int.sub_zero]
  ·rw [if_neg h1, red_tot k es a s b t hs ht]
   unfold belowF; rw [show min a b = 0 by omega, Int.sub_zero, Int.sub_zero]
theorem below_all {es : List Ent} {a b : Int} {s t : ByteArray} (h1 : loadF es a s = 0) (h2 : loadF es b t = 0) : arrays_below.f 300 es a s b t = some (belowF es a s b t) := by
 obtain ⟨s1, s2, s3⟩ := load_size h1; obtain ⟨t1, t2, t3⟩ := load_size h2
 exact below_tot es s t s1 t1 255 a b 300 s2 t2 s3 t3 (by omega) (by omega)
end Go.Proofs.YtaipkdglhfhhiaaDoor.Pt

namespace Go.Proofs.YtaipkdglhfhhiaaDoor.Hi
open Go Go.RowKit Go.Proofs.YtaipkdglhfhhiaaDoor.Nm Go.Proofs.YtaipkdglhfhhiaaDoorW.PrintWords Go.Proofs.YtaipkdglhfhhiaaDoorW.PrintLast Go.Proofs.YtaipkdglhfhhiaaDoorW.PrintMore Go.Proofs.YtaipkdglhfhhiaaDoor.Pt
set_option linter.unusedVariables false
set_option linter.unusedSimpArgs false
set_option maxRecDepth 100000
theorem mem_addI {l : List Int} {i k : Int} : k ∈ addI l i ↔ k ∈ l ∨ k = i := by
 unfold addI
 split
 ·rename_i h
  have h : i ∈ l := by simpa using h
  exact ⟨.inl, fun h2 => h2.elim id (fun e => e ▸ h)⟩
 ·simp
theorem mem_foldI {ks : List Int} {k : Int} : ∀ {l : List Int}, k ∈ foldI ks l ↔ k ∈ l ∨ k ∈ ks := by
 induction ks with
 | nil => intro l; simp [foldI]
 | cons a ks ih =>
  intro l
  show k ∈ foldI ks (addI l a) ↔ _
  rw [ih, mem_addI]; simp [or_assoc]
theorem mem_closF {es : List Ent} {ifs : List Int} {k : Int} : ∀ {acc : List Int}, k ∈ closF es acc ifs ↔ k ∈ acc ∨ ∃ i ∈ ifs, k = i ∨ k ∈ (ent es i).clo := by
 induction ifs with
 | nil => intro l; simp [closF]
 | cons a ifs ih =>
  intro l
  show k ∈ closF es (addI (foldI (ent es a).clo l) a) ifs ↔ _
  rw [ih, mem_addI, mem_foldI]
  constructor
  ·rintro (((h | h) | h) | ⟨i, hi, h⟩)
   ·exact .inl h
   ·exact .inr ⟨a, by simp, .inr h⟩
   ·exact .inr ⟨a, by simp, .inl h⟩
   ·exact .inr ⟨i, by simp [hi], h⟩
  ·rintro (h | ⟨i, hi, h⟩)
   ·exact .inl (.inl (.inl h))
   ·rcases List.mem_cons.1 hi with rfl | hi
    ·rcases h with h | h
     ·exact .inl (.inr h)
     ·exact .inl (.inl (.inr h))
    ·exact .inr ⟨i, hi, h⟩
theorem aboveF_fit {es : List Ent} {c : S40} {n : ByteArray} {want : Bool} (h : (aboveF es c n want).2 = 0) : isI (ent es (aboveF es c n want).1).c = want ∧ (want = false → isI c = true → (aboveF es c n want).1 = 0) ∧
  (Go.bits .and .i64 (ent es (aboveF es c n want).1).c.f3 1 ≠ 0 ∨ tog c (ent es (aboveF es c n want).1).c = true) := by
 have h0 := aboveF_in h; have h1 : aboveF es c n want = fitF (nameF es n).1 (ent es (nameF es n).1).c c want := if_pos h0.2.2.2; have h2 := h0.2.2.1; rw [h2]; rw [h1] at h; unfold fitF at h
 split at h
 ·cases h
 ·rename_i c1
  split at h
  ·cases h
  ·rename_i c2
   split at h
   ·cases h
   ·rename_i c3
    refine ⟨by simpa using c1, fun hw hi => ?_, ?_⟩
    ·subst hw
     rw [hi] at c2
     simpa using c2
    ·by_cases hp : Go.bits .and .i64 (ent es (nameF es n).1).c.f3 1 = 0
     ·right
      rw [hp] at c3
      simpa using c3
     ·exact .inl hp
structure Thy (es : List Ent) : Prop where
 good : Good es
 base : ∃ rest, es = newE ++ rest
 names : (es.map (·.c.f0)).Nodup
 sup : ∀ (i : Nat) (x : Ent), es[i]? = some x → 1 ≤ i → 0 ≤ x.above ∧ x.above < i ∧ isI (ent es x.above).c = false ∧ (isI x.c = true → x.above = 0)
 clo : ∀ (i : Nat) (x : Ent), es[i]? = some x → ∀ j ∈ x.clo, 0 ≤ j ∧ j < i ∧ isI (ent es j).c = true ∧ ∀ k ∈ (ent es j).clo, k ∈ x.clo
 up : ∀ (i : Nat) (x : Ent), es[i]? = some x → 1 ≤ i → ∀ k ∈ (ent es x.above).clo, k ∈ x.clo
 src : ∀ (i : Nat) (x : Ent), es[i]? = some x → 3 ≤ i → Took (es.take i) x.c x
theorem thy_new : Thy newE := by
 have h3 : ∀ (i : Nat) (x : Ent), newE[i]? = some x → (i = 0 ∧ x = ⟨objC, -1, 0, []⟩) ∨ (i = 1 ∧ x = ⟨ifaceC sCloneable, 0, 1, []⟩) ∨ (i = 2 ∧ x = ⟨ifaceC sSerializable, 0, 1, []⟩) := by
  intro i x hx
  match i, hx with
  | 0, hx => simp [newE] at hx; exact .inl ⟨rfl, hx.symm⟩
  | 1, hx => simp [newE] at hx; exact .inr (.inl ⟨rfl, hx.symm⟩)
  | 2, hx => simp [newE] at hx; exact .inr (.inr ⟨rfl, hx.symm⟩)
  | i + 3, hx => simp [newE] at hx
 refine ⟨good_new, ⟨[], by simp⟩, by decide, fun i x hx h1 => ?_, fun i x hx j hj => ?_, fun i x hx h1 k hk => ?_, fun i x hx h1 => ?_⟩
 ·rcases h3 i x hx with ⟨rfl, rfl⟩ | ⟨rfl, rfl⟩ | ⟨rfl, rfl⟩
  ·omega
  ·exact ⟨by decide, by decide, by decide, fun _ => rfl⟩
  ·exact ⟨by decide, by decide, by decide, fun _ => rfl⟩
 ·rcases h3 i x hx with ⟨rfl, rfl⟩ | ⟨rfl, rfl⟩ | ⟨rfl, rfl⟩ <;> cases hj
 ·rcases h3 i x hx with ⟨rfl, rfl⟩ | ⟨rfl, rfl⟩ | ⟨rfl, rfl⟩
  ·omega
  ·exact hk
  ·exact hk
 ·rcases h3 i x hx with ⟨rfl, rfl⟩ | ⟨rfl, rfl⟩ | ⟨rfl, rfl⟩ <;> omega
theorem get_last {es : List Ent} {x y : Ent} {i : Nat} (h : (es ++ [x])[i]? = some y) : (i < es.length ∧ es[i]? = some y) ∨ (i = es.length ∧ y = x) := by
 rcases Nat.lt_trichotomy i es.length with hi | hi | hi
 ·rw [List.getElem?_append_left hi] at h
  exact .inl ⟨hi, h⟩
 ·subst hi
  rw [List.getElem?_append_right (Nat.le_refl _), Nat.sub_self] at h
  cases h
  exact .inr ⟨rfl, rfl⟩
 ·rw [List.getElem?_eq_none (by simp; omega)] at h
  cases h
theorem len_base {es : List Ent} (h : ∃ rest, es = newE ++ rest) : 3 ≤ es.length := by
 obtain ⟨r, rfl⟩ := h; rw [List.length_append]
 show 3 ≤ 3 + _
 omega
theorem thy_took {es : List Ent} {c : S40} {x : Ent} (h : Thy es) (ht : Took es c x) : Thy (es ++ [x]) := by
  have h1 := aboveF_in ht.sup
  have f1 := aboveF_fit ht.sup
  have hxc : x.c = c := by rw [ht.isx]; rfl
  have hxa : x.above = (aboveF es c c.f1 false).1 := by rw [ht.isx]; rfl
  have hxk : x.clo = closF es (ent es x.above).clo (c.f2.map fun n => (aboveF es c n true).1) := by
    rw [hxa, ht.isx]
    show closF es _ _ = _
    rw [if_pos h1.1]
  generalize (aboveF es c c.f1 false).1 = sp at *
  have hl3 := len_base h.base
  have hsp := get_ent h1.1 h1.2.1
  -- what is in the new closure
  have hcl : ∀ j ∈ x.clo, 0 ≤ j ∧ j < es.length ∧ isI (ent es j).c = true ∧ ∀ k ∈ (ent es j).clo, k ∈ x.clo := by
    intro j hj
    rw [hxk] at hj ⊢
    rcases mem_closF.1 hj with hj | ⟨i, hi, hj⟩
    · rw [hxa] at hj
      obtain ⟨a1, a2, a3, a4⟩ := h.clo _ _ hsp j hj
      exact ⟨a1, by omega, a3, fun k hk => mem_closF.2 (.inl (by rw [hxa]; exact a4 k hk))⟩
    · obtain ⟨n, hn, rfl⟩ := List.mem_map.1 hi
      have hi2 := aboveF_in (ht.ifs n hn)
      have hf := (aboveF_fit (ht.ifs n hn)).1
      generalize (aboveF es c n true).1 = i at *
      rcases hj with rfl | hj
      · exact ⟨hi2.1, hi2.2.1, hf, fun k hk => mem_closF.2 (.inr ⟨_, hi, .inr hk⟩)⟩
      · obtain ⟨a1, a2, a3, a4⟩ := h.clo _ _ (get_ent hi2.1 hi2.2.1) j hj
        exact ⟨a1, by omega, a3, fun k hk => mem_closF.2 (.inr ⟨_, hi, .inr (a4 k hk)⟩)⟩
  refine ⟨good_took h.good ht, ?_, ?_, fun i y hy hi => ?_, fun i y hy j hj => ?_, fun i y hy hi k hk => ?_, fun i y hy hi => ?_⟩
  · obtain ⟨r, rfl⟩ := h.base
    exact ⟨r ++ [x], by rw [List.append_assoc]⟩
  · rw [List.map_append]
    refine List.nodup_append.2 ⟨h.names, by simp, fun a ha b hb => ?_⟩
    rw [List.map_cons, List.map_nil, List.mem_singleton, hxc] at hb
    rw [hb]
    rintro rfl
    exact ht.fresh ha
  · rcases get_last hy with ⟨hi2, hy⟩ | ⟨rfl, rfl⟩
    · obtain ⟨a1, a2, a3, a4⟩ := h.sup i y hy hi
      exact ⟨a1, a2, by rw [ent_old a1 (by omega)]; exact a3, a4⟩
    · rw [hxa]
      exact ⟨h1.1, h1.2.1, by rw [ent_old h1.1 h1.2.1]; exact f1.1, fun hi => f1.2.1 rfl (by rw [← hxc]; exact hi)⟩
  · rcases get_last hy with ⟨hi2, hy⟩ | ⟨rfl, rfl⟩
    · obtain ⟨a1, a2, a3, a4⟩ := h.clo i y hy j hj
      refine ⟨a1, a2, ?_⟩
      rw [ent_old a1 (by omega)]
      exact ⟨a3, a4⟩
    · obtain ⟨a1, a2, a3, a4⟩ := hcl j hj
      refine ⟨a1, a2, ?_⟩
      rw [ent_old a1 (by omega)]
      exact ⟨a3, a4⟩
  · rcases get_last hy with ⟨hi2, hy⟩ | ⟨rfl, rfl⟩
    · obtain ⟨a1, a2, _, _⟩ := h.sup i y hy hi
      rw [ent_old a1 (by omega)] at hk
      exact h.up i y hy hi k hk
    · rw [hxa, ent_old h1.1 h1.2.1] at hk
      rw [hxk]
      exact mem_closF.2 (.inl (by rw [hxa]; exact hk))
  · rcases get_last hy with ⟨hi2, hy⟩ | ⟨rfl, rfl⟩
    · rw [List.take_append_of_le_length (by omega)]
      exact h.src i y hy hi
    · rw [List.take_append_of_le_length (Nat.le_refl _), List.take_length, hxc]
      exact ht
theorem thy_made {es : List Ent} (h : Made es) : Thy es := by
 induction h with
 | new => exact thy_new
 | step es c _ ih =>
  rcases stepF_cases es c with h | ⟨x, h, ht⟩
  ·rw [h]; exact ih
  ·rw [h]; exact thy_took ih ht
inductive Anc (es : List Ent) : Int → Int → Prop
 | refl (a : Int) : Anc es a a
 | up (a b : Int) : 0 ≤ (ent es a).above → Anc es (ent es a).above b → Anc es a b
theorem Anc.trans {es : List Ent} {a b c : Int} (h : Anc es a b) (h2 : Anc es b c) : Anc es a c := by
 induction h with
 | refl => exact h2
 | up a b h0 _ ih => exact .up a c h0 (ih h2)
theorem Anc.le {es : List Ent} (ht : Tree es) {a b : Int} (h : Anc es a b) : 0 ≤ a → a < es.length → 0 ≤ b ∧ b ≤ a ∧ (ent es b).depth ≤ (ent es a).depth ∧ ((ent es b).depth = (ent es a).depth → b = a) := by
 induction h with
 | refl => exact fun h0 h1 => ⟨h0, Int.le_refl _, Int.le_refl _, fun _ => rfl⟩
 | up a b h0 _ ih =>
  intro h1 h2
  rcases ht.at_ h1 h2 with ⟨h3, _⟩ | ⟨h3, h4, h5⟩
  ·omega
  ·obtain ⟨i1, i2, i3, i4⟩ := ih h3 (by omega)
   exact ⟨i1, by omega, by omega, fun e => by omega⟩
theorem climb_anc {es : List Ent} (ht : Tree es) : ∀ (k : Nat) (a d : Int), 0 ≤ a → a < es.length → 0 ≤ d → Anc es a (climb es k a d)
 | 0, a, d, _, _, _ => .refl a
 | k + 1, a, d, h0, h1, hd => by
  rw [climb]
  by_cases hc : (ent es a).depth > d
  ·rw [if_pos hc]
   rcases ht.at_ h0 h1 with ⟨_, h4⟩ | ⟨h3, h4, h5⟩
   ·omega
   ·exact .up _ _ h3 (climb_anc ht k _ d h3 (by omega) hd)
  ·rw [if_neg hc]
   exact .refl a
theorem anc_climb {es : List Ent} (ht : Tree es) {a b : Int} (h : Anc es a b) : ∀ (k : Nat), 0 ≤ a → a < es.length → (ent es a).depth ≤ (ent es b).depth + k → climb es k a (ent es b).depth = b := by
 induction h with
 | refl a =>
  intro k h0 h1 hk
  cases k with
  | zero => rfl
  | succ k => rw [climb, if_neg (by omega)]
 | up a b ha hb ih =>
  intro k h0 h1 hk
  rcases ht.at_ h0 h1 with ⟨h3, _⟩ | ⟨h3, h4, h5⟩
  ·omega
  ·have hl := hb.le ht h3 (by omega)
   cases k with
   | zero => omega
   | succ k =>
    rw [climb, if_pos (by omega)]
    exact ih k h3 (by omega) (by omega)
def Ext (es : List Ent) (a b : Int) : Prop := (isI (ent es b).c = true ∧ (a = b ∨ b ∈ (ent es a).clo)) ∨ (isI (ent es b).c = false ∧ Anc es a b)
theorem extF_iff {es : List Ent} (ht : Tree es) {a b : Int} (h0 : 0 ≤ a) (h1 : a < es.length) (h2 : 0 ≤ b) (h3 : b < es.length) : extF es a b = true ↔ Ext es a b := by
 unfold extF Ext inB; rw [decide_eq_true (⟨h0, h1⟩ : 0 ≤ a ∧ a < (es.length : Int)), decide_eq_true (⟨h2, h3⟩ : 0 ≤ b ∧ b < (es.length : Int))]
 cases hi : isI (ent es b).c with
 | true => simp
 | false =>
  simp only [Bool.and_self, if_true, Bool.false_eq_true, if_false, beq_iff_eq, false_and, false_or, true_and]; have hb := ht.depth_ h2 h3; have ha := ht.depth_ h0 h1
  constructor
  ·intro e
   rw [← e]
   exact climb_anc ht _ _ _ h0 h1 hb.1
  ·intro h
   exact anc_climb ht h _ h0 h1 (by omega)
theorem Thy.anc_clo {es : List Ent} (h : Thy es) {a b : Int} (hab : Anc es a b) : 0 ≤ a → a < es.length → ∀ k ∈ (ent es b).clo, k ∈ (ent es a).clo := by
 induction hab with
 | refl => exact fun _ _ _ hk => hk
 | up a b ha _ ih =>
  intro h0 h1 k hk; have hx := get_ent h0 h1
  rcases h.good.tree.at_ h0 h1 with ⟨h3, _⟩ | ⟨h3, h4, h5⟩
  ·omega
  ·exact h.up _ _ hx (by omega) k (ih h3 (by omega) k hk)
theorem Thy.ext_le {es : List Ent} (h : Thy es) {a b : Int} (h0 : 0 ≤ a) (h1 : a < es.length) (hab : Ext es a b) : 0 ≤ b ∧ b ≤ a := by
 rcases hab with ⟨_, rfl | hb⟩ | ⟨_, hb⟩
 ·exact ⟨h0, Int.le_refl _⟩
 ·have := h.clo _ _ (get_ent h0 h1) b hb
  exact ⟨this.1, by omega⟩
 ·have := hb.le h.good.tree h0 h1
  exact ⟨this.1, this.2.1⟩
theorem Thy.anc0 {es : List Ent} (h : Thy es) : ∀ (n : Nat) (a : Int), a.toNat < n → 0 ≤ a → a < es.length → Anc es a 0
 | 0, a, hn, _, _ => absurd hn (by omega)
 | n + 1, a, hn, h0, h1 => by
  by_cases ha : a = 0
  ·subst ha; exact .refl 0
  ·obtain ⟨a1, a2, _, _⟩ := h.sup _ _ (get_ent h0 h1) (by omega)
   exact .up _ _ a1 (Thy.anc0 h n _ (by omega) a1 (by omega))
theorem Thy.obj {es : List Ent} (h : Thy es) : ent es 0 = ⟨objC, -1, 0, []⟩ ∧ ent es 1 = ⟨ifaceC sCloneable, 0, 1, []⟩ ∧ ent es 2 = ⟨ifaceC sSerializable, 0, 1, []⟩ := by
 obtain ⟨r, rfl⟩ := h.base
 exact ⟨rfl, rfl, rfl⟩
theorem Thy.ext_refl {es : List Ent} (h : Thy es) (a : Int) : Ext es a a := by
 cases hi : isI (ent es a).c with
 | true => exact .inl ⟨hi, .inl rfl⟩
 | false => exact .inr ⟨hi, .refl a⟩
theorem Thy.ext_trans {es : List Ent} (h : Thy es) {a b c : Int} (h0 : 0 ≤ a) (h1 : a < es.length) (hab : Ext es a b) (hbc : Ext es b c) : Ext es a c := by
  have hb := h.ext_le h0 h1 hab
  rcases hbc with ⟨hc, rfl | hk⟩ | ⟨hc, hk⟩
  · exact hab
  · refine .inl ⟨hc, .inr ?_⟩
    rcases hab with ⟨_, rfl | hj⟩ | ⟨_, hj⟩
    · exact hk
    · exact (h.clo _ _ (get_ent h0 h1) b hj).2.2.2 c hk
    · exact h.anc_clo hj h0 h1 c hk
  · rcases hab with ⟨hbi, hj⟩ | ⟨_, hj⟩
    · -- b is an interface: above it stands Object alone
      cases hk with
      | refl => rw [hc] at hbi; cases hbi
      | up _ _ hu hk =>
        have hb1 : 1 ≤ b := by
          apply Classical.byContradiction
          intro hn
          have : b = 0 := by omega
          subst this
          rw [h.obj.1] at hbi
          revert hbi
          decide
        have := (h.sup _ _ (get_ent hb.1 (by omega)) (by omega)).2.2.2 hbi
        rw [this] at hk
        have h3 := len_base h.base
        have hc0 := hk.le h.good.tree (by omega) (by omega)
        have : c = 0 := by omega
        subst this
        exact .inr ⟨hc, h.anc0 _ a (Nat.lt_succ_self _) h0 h1⟩
    · exact .inr ⟨hc, hj.trans hk⟩
end Go.Proofs.YtaipkdglhfhhiaaDoor.Hi

namespace Go.Proofs.YtaipkdglhfhhiaaDoor.Pt
open Go Go.RowKit Go.Proofs.YtaipkdglhfhhiaaDoor.Nm Go.Proofs.YtaipkdglhfhhiaaDoor.Ty Go.Proofs.YtaipkdglhfhhiaaDoor.Hi Go.Proofs.YtaipkdglhfhhiaaDoorW.PrintWords Go.Proofs.YtaipkdglhfhhiaaDoorW.PrintLast Go.Proofs.YtaipkdglhfhhiaaDoorW.PrintMore
set_option linter.unusedVariables false
set_option linter.unusedSimpArgs false
set_option maxRecDepth 100000
theorem name_at {es : List Ent} {d : Int} {s : ByteArray} (h : loadF es d s = 0) (hs : s.toList ≠ []) : 0 ≤ (nameF es s).1 ∧ (nameF es s).1 < es.length ∧ (ent es (nameF es s).1).c.f0 = s := by
 unfold loadF at h
 by_cases hc : chk d s.data.toList = 0
 ·rw [if_pos hc, if_neg hs] at h
  by_cases h2 : (nameF es s).2 = 0
  ·exact nameF_in h2
  ·rw [if_neg h2] at h
   cases h
 ·rw [if_neg hc] at h
  exact absurd h hc
theorem _root_.Go.Proofs.YtaipkdglhfhhiaaDoor.Hi.Thy.name_inj {es : List Ent} (h : Thy es) {i j : Int} (h0 : 0 ≤ i) (h1 : i < es.length) (h2 : 0 ≤ j) (h3 : j < es.length) (he : (ent es i).c.f0 = (ent es j).c.f0) : i = j := by
 have hi : (es.map (·.c.f0))[i.toNat]? = some (ent es i).c.f0 := by
  rw [List.getElem?_map, get_ent h0 h1]; rfl
 have hj : (es.map (·.c.f0))[j.toNat]? = some (ent es j).c.f0 := by
  rw [List.getElem?_map, get_ent h2 h3]; rfl
 have hl : (es.map (·.c.f0)).length = es.length := List.length_map _; rw [List.getElem?_eq_getElem (by omega)] at hi hj; have hij := (Option.some.inj hi).trans (he.trans (Option.some.inj hj).symm); have hp := List.pairwise_iff_getElem.1 h.names
 rcases Nat.lt_trichotomy i.toNat j.toNat with hlt | heq | hlt
 ·exact absurd hij (hp _ _ (by omega) (by omega) hlt)
 ·omega
 ·exact absurd hij.symm (hp _ _ (by omega) (by omega) hlt)
theorem nameF_of {es : List Ent} (h : Thy es) {i : Int} (h0 : 0 ≤ i) (h1 : i < es.length) : nameF es (ent es i).c.f0 = (i, 0) := by
 have h2 : (nameF es (ent es i).c.f0).2 = 0 := by
  unfold nameF
  cases hf : (es.map (·.c.f0)).findIdx? (fun t => decide (t = (ent es i).c.f0)) with
  | some k => rfl
  | none =>
   rw [List.findIdx?_eq_none_iff] at hf; have := hf _ (List.mem_map_of_mem (List.mem_of_getElem? (get_ent h0 h1))); simp at this
 have h3 := nameF_in h2; have h4 := h.name_inj h3.1 h3.2.1 h0 h1 h3.2.2
 exact Prod.ext h4 h2
theorem top_cases {s : ByteArray} (h : topB s = true) : s = sObject ∨ s = sCloneable ∨ s = sSerializable := by
 unfold topB at h
 split at h
 ·rename_i h1
  exact .inl (ba_eq (h1.trans (by decide +kernel)))
 ·split at h
  ·rename_i h1
   exact .inr (.inl (ba_eq (h1.trans (by decide +kernel))))
  ·exact .inr (.inr (ba_eq ((beq_iff_eq.1 h).trans (by decide +kernel))))
theorem _root_.Go.Proofs.YtaipkdglhfhhiaaDoor.Hi.Thy.top_le {es : List Ent} (h : Thy es) {d : Int} {s : ByteArray} (hl : loadF es d s = 0) (ht : topB s = true) : (nameF es s).1 ≤ 2 := by
 have h3 := len_base h.base; obtain ⟨o0, o1, o2⟩ := h.obj
 rcases top_cases ht with rfl | rfl | rfl
 ·have := nameF_of h (i := 0) (by omega) (by omega)
  rw [o0] at this; rw [show (sObject : ByteArray) = objC.f0 from rfl, this]
  decide
 ·have := nameF_of h (i := 1) (by omega) (by omega)
  rw [o1] at this; rw [show (sCloneable : ByteArray) = (ifaceC sCloneable).f0 from rfl, this]
  decide
 ·have := nameF_of h (i := 2) (by omega) (by omega)
  rw [o2] at this; rw [show (sSerializable : ByteArray) = (ifaceC sSerializable).f0 from rfl, this]
  decide
theorem _root_.Go.Proofs.YtaipkdglhfhhiaaDoor.Hi.Thy.le_top {es : List Ent} (h : Thy es) {i : Int} (h0 : 0 ≤ i) (h2 : i ≤ 2) : topB (ent es i).c.f0 = true := by
 obtain ⟨o0, o1, o2⟩ := h.obj
 have : i = 0 ∨ i = 1 ∨ i = 2 := by omega
 rcases this with rfl | rfl | rfl
 ·rw [o0]; decide +kernel
 ·rw [o1]; decide +kernel
 ·rw [o2]; decide +kernel
theorem top_ne {s : ByteArray} (h : topB s = true) : s.toList ≠ [] := by
 intro e; unfold topB at h; rw [e] at h; simp at h
def BelP (es : List Ent) (a : Int) (s : ByteArray) (b : Int) (t : ByteArray) : Prop :=
 (a = b ∧ ((s.toList = [] ∧ t.toList = []) ∨ (s.toList ≠ [] ∧ t.toList ≠ [] ∧ Ext es (nameF es s).1 (nameF es t).1))) ∨ (b < a ∧ topB t = true)
theorem bel_iff {es : List Ent} (h : Thy es) {a b : Int} {s t : ByteArray} (hs : loadF es a s = 0) (ht : loadF es b t = 0) : belowF es a s b t = true ↔ BelP es a s b t := by
 obtain ⟨s1, s2, s3⟩ := load_size hs; obtain ⟨t1, t2, t3⟩ := load_size ht; unfold belowF redF intT BelP
 rcases Int.lt_trichotomy a b with hab | rfl | hab
 ·rw [show min a b = a by omega, Int.sub_self]
  have e1 : (b - a == 0) = false := beq_eq_false_iff_ne.2 (by omega); have e2 : ((0 : Int) == b - a) = false := beq_eq_false_iff_ne.2 (by omega); rw [e1, e2]; simp only [Bool.false_and, Bool.or_false]
  constructor
  ·intro h
   split at h
   ·cases h
   ·rw [if_neg (by omega), if_pos (by omega)] at h
    cases h
  ·rintro (⟨h, _⟩ | ⟨h, _⟩) <;> omega
 ·rw [show min a a = a by omega, Int.sub_self]
  simp only [beq_self_eq_true, Bool.true_and, Int.lt_irrefl, false_and, or_false, true_and, gt_iff_lt, if_false]
  by_cases e1 : s.toList = []
  ·rw [e1]
   simp only [beq_self_eq_true, Bool.true_or, if_true, beq_iff_eq, ne_eq, not_true_eq_false, false_and, or_false, true_and]
   exact ⟨fun h => h.symm, fun h => h.symm⟩
  ·by_cases e2 : t.toList = []
   ·rw [e2]
    simp [e1]
   ·have n1 := name_at hs e1
    have n2 := name_at ht e2; have d1 : (s.toList == []) = false := beq_eq_false_iff_ne.2 e1; have d2 : (t.toList == []) = false := beq_eq_false_iff_ne.2 e2; rw [d1, d2]; simp only [Bool.or_self, Bool.false_eq_true, if_false]; rw [extF_iff h.good.tree n1.1 n1.2.1 n2.1 n2.2.1]; simp [e1, e2]
 ·rw [show min a b = b by omega, Int.sub_self]
  have e1 : (a - b == 0) = false := beq_eq_false_iff_ne.2 (by omega); rw [e1]; simp only [Bool.false_and, Bool.false_or, beq_self_eq_true, Bool.true_and]
  by_cases e2 : t.toList = []
  ·rw [e2]
   simp only [beq_self_eq_true, if_true, Bool.false_eq_true, false_iff]; rintro (⟨h, _⟩ | ⟨_, h⟩)
   ·omega
   ·exact top_ne h e2
  ·have d2 : (t.toList == []) = false := beq_eq_false_iff_ne.2 e2
   rw [d2, if_neg (by simp), if_pos (by omega)]
   exact ⟨fun h => .inr ⟨hab, h⟩, fun h => h.elim (fun h => by omega) (fun h => h.2)⟩
theorem bel_refl {es : List Ent} (h : Thy es) (a : Int) (s : ByteArray) : BelP es a s a s := by
 by_cases e : s.toList = []
 ·exact .inl ⟨rfl, .inl ⟨e, e⟩⟩
 ·exact .inl ⟨rfl, .inr ⟨e, e, h.ext_refl _⟩⟩
theorem bel_trans {es : List Ent} (h : Thy es) {a b c : Int} {s t u : ByteArray} (hs : loadF es a s = 0) (ht : loadF es b t = 0) (hu : loadF es c u = 0) (h1 : BelP es a s b t) (h2 : BelP es b t c u) : BelP es a s c u := by
 rcases h1 with ⟨rfl, h1⟩ | ⟨hba, h1⟩
 ·rcases h2 with ⟨rfl, h2⟩ | ⟨hcb, h2⟩
  ·rcases h1 with ⟨e1, e2⟩ | ⟨e1, e2, x1⟩
   ·rcases h2 with ⟨e3, e4⟩ | ⟨e3, _⟩
    ·exact .inl ⟨rfl, .inl ⟨e1, e4⟩⟩
    ·exact absurd e2 e3
   ·rcases h2 with ⟨e3, e4⟩ | ⟨e3, e4, x2⟩
    ·exact absurd e3 e2
    ·have n1 := name_at hs e1
     exact .inl ⟨rfl, .inr ⟨e1, e4, h.ext_trans n1.1 n1.2.1 x1 x2⟩⟩
  ·exact .inr ⟨hcb, h2⟩
 ·rcases h2 with ⟨rfl, h2⟩ | ⟨hcb, h2⟩
  ·rcases h2 with ⟨e3, e4⟩ | ⟨e3, e4, x2⟩
   ·exact absurd e3 (top_ne h1)
   ·have n2 := name_at ht e3
    have n3 := name_at hu e4; have l1 := h.top_le ht h1; have l2 := h.ext_le n2.1 n2.2.1 x2; refine .inr ⟨hba, ?_⟩; have := h.le_top (i := (nameF es u).1) l2.1 (by omega)
    rwa [n3.2.2] at this
  ·exact .inr ⟨by omega, h2⟩
end Go.Proofs.YtaipkdglhfhhiaaDoor.Pt

namespace Go.Proofs.YtaipkdglhfhhiaaDoor.Pt
open Go Go.RowKit Go.Proofs.YtaipkdglhfhhiaaDoor.Nm Go.Proofs.YtaipkdglhfhhiaaDoor.Hi Go.Proofs.YtaipkdglhfhhiaaDoorW.PrintWords Go.Proofs.YtaipkdglhfhhiaaDoorW.PrintLast Go.Proofs.YtaipkdglhfhhiaaDoorW.PrintMore
set_option linter.unusedVariables false
set_option linter.unusedSimpArgs false
set_option maxHeartbeats 2000000
set_option maxRecDepth 100000
theorem tl_eq {a b : ByteArray} (h : a.toList = b.toList) : a = b := by
 rw [ByteArray.toList_eq, ByteArray.toList_eq] at h
 exact ByteArray.ext (Array.toList_inj.1 h)
theorem two_new (w : World) (o1 o2 : Obj) : ((w.alloc o1).alloc o2).heap[w.heap.size]? = some o1 ∧ ((w.alloc o1).alloc o2).heap[w.heap.size + 1]? = some o2 ∧ Below w.heap.size w ((w.alloc o1).alloc o2) :=
 ⟨heap_alloc2_old w o1 o2, heap_alloc2_new w o1 o2, ((Below.refl _ _).alloc (Nat.le_refl _) o1).alloc (by simp) o2⟩
def nearF (h1 h2 : Int × ByteArray × S40 × Int) : Bool := decide (h1.1 = h2.1) && decide (h1.2.1 = h2.2.1)
def copenF (es : List Ent) (d c : Int) : Bool × Int :=
 if (homeF es d).2.2.2 ≠ 0 then (false, (homeF es d).2.2.2) else if (homeF es c).2.2.2 ≠ 0 then (false, (homeF es c).2.2.2) else
 ((Go.bits .and .i64 (homeF es c).2.2.1.f3 1 != 0) || nearF (homeF es d) (homeF es c), 0)
def access_ClassOpen.f (a0 : List Hi.Ent) (a1 : Int) (a2 : Int) : Option (Bool × Int) := some (copenF a0 a1 a2)
end Go.Proofs.YtaipkdglhfhhiaaDoor.Pt

namespace Go.Proofs.YtaipkdglhfhhiaaDoor.Pt
open Go Go.RowKit Go.Proofs.YtaipkdglhfhhiaaDoor.Nm Go.Proofs.YtaipkdglhfhhiaaDoor.Hi Go.Proofs.YtaipkdglhfhhiaaDoorW.PrintWords Go.Proofs.YtaipkdglhfhhiaaDoorW.PrintLast Go.Proofs.YtaipkdglhfhhiaaDoorW.PrintMore
set_option linter.unusedVariables false
set_option linter.unusedSimpArgs false
set_option maxHeartbeats 2000000
set_option maxRecDepth 100000
def topenF (es : List Ent) (d a : Int) (s : ByteArray) : Bool × Int :=
 if (homeF es d).2.2.2 ≠ 0 then (false, (homeF es d).2.2.2) else if loadF es a s ≠ 0 then (false, loadF es a s) else if s.toList = [] then (true, 0) else copenF es d (nameF es s).1
def access_TypeOpen.f (a0 : List Hi.Ent) (a1 : Int) (a2_0 : Int) (a2_1 : ByteArray) : Option (Bool × Int) := some (topenF a0 a1 a2_0 a2_1)
end Go.Proofs.YtaipkdglhfhhiaaDoor.Pt

namespace Go.Proofs.YtaipkdglhfhhiaaDoor.Pt
open Go Go.RowKit Go.Proofs.YtaipkdglhfhhiaaDoor.Nm Go.Proofs.YtaipkdglhfhhiaaDoor.Ty Go.Proofs.YtaipkdglhfhhiaaDoor.Hi Go.Proofs.YtaipkdglhfhhiaaDoorW.PrintWords Go.Proofs.YtaipkdglhfhhiaaDoorW.PrintLast Go.Proofs.YtaipkdglhfhhiaaDoorW.PrintMore
set_option linter.unusedVariables false
set_option linter.unusedSimpArgs false
set_option maxRecDepth 100000
theorem classF_in {es : List Ent} {i : Int} (h : 0 ≤ i ∧ i < es.length) : classF es i = ((ent es i).c, 0) := if_pos h
theorem _root_.Go.Proofs.YtaipkdglhfhhiaaDoor.Hi.Thy.valid {es : List Ent} (h : Thy es) {i : Int} (hi : 0 ≤ i ∧ i < es.length) : validB (ent es i).c.f0 = true := by
 by_cases h3 : 3 ≤ i
 ·have ht := h.src _ _ (get_ent hi.1 hi.2) (by omega)
  have hs : soundB (ent es i).c = true := by
   cases hb : soundB (ent es i).c with
   | true => rfl
   | false =>
    have := ht.sound; unfold chkC at this; rw [hb] at this
    cases this
  unfold soundB headB at hs; simp only [Bool.and_eq_true] at hs
  exact hs.2.2.1.1
 ·obtain ⟨o0, o1, o2⟩ := h.obj
  have : i = 0 ∨ i = 1 ∨ i = 2 := by omega
  rcases this with rfl | rfl | rfl
  ·rw [o0]; decide +kernel
  ·rw [o1]; decide +kernel
  ·rw [o2]; decide +kernel
theorem valid_ne {s : ByteArray} (h : validB s = true) : s.toList ≠ [] := by
 intro e; have : s = ⟨#[]⟩ := tl_eq (e.trans (by decide +kernel)); subst this
 revert h
 decide +kernel
theorem load_at {es : List Ent} (h : Thy es) {i : Int} (hi : 0 ≤ i ∧ i < es.length) {d : Int} (h0 : 0 ≤ d) (h1 : d ≤ 255) : loadF es d (ent es i).c.f0 = 0 := by
 have hv := h.valid hi
 have hc : chk d (ent es i).c.f0.data.toList = 0 := by
  unfold chk; rw [if_neg (by omega), mk_data, if_neg (fun hh => by rw [hv] at hh; cases hh.2)]
 unfold loadF; rw [if_pos hc, if_neg (valid_ne hv), nameF_of h hi.1 hi.2]
 rfl
end Go.Proofs.YtaipkdglhfhhiaaDoor.Pt

namespace Go.Proofs.YtaipkdglhfhhiaaDoor.Pt
open Go Go.RowKit Go.Proofs.YtaipkdglhfhhiaaDoor.Nm Go.Proofs.YtaipkdglhfhhiaaDoor.Hi Go.Proofs.YtaipkdglhfhhiaaDoorW.PrintWords Go.Proofs.YtaipkdglhfhhiaaDoorW.PrintLast Go.Proofs.YtaipkdglhfhhiaaDoorW.PrintMore
set_option linter.unusedVariables false
set_option linter.unusedSimpArgs false
set_option maxHeartbeats 2000000
set_option maxRecDepth 100000
theorem index_two (a : Int) (s : ByteArray) (b : Int) (t : ByteArray) (w : World) : (Instr.index 67 (.agg #[.int .i64 a, .string s, .int .i64 b, .string t]) (.int .i64 0)).run Tryd.prog w = .ok (.agg #[.int .i64 a, .string s]) w := by rfl
theorem index_two1 (a : Int) (s : ByteArray) (b : Int) (t : ByteArray) (w : World) : (Instr.index 67 (.agg #[.int .i64 a, .string s, .int .i64 b, .string t]) (.int .i64 1)).run Tryd.prog w = .ok (.agg #[.int .i64 b, .string t]) w := by rfl
def arrays_Sub.f (a0 : List Hi.Ent) (a1_0 : Int) (a1_1 : ByteArray) (a2_0 : Int) (a2_1 : ByteArray) : Option (Bool × Int) := some (subF a0 a1_0 a1_1 a2_0 a2_1)
theorem arrays_Sub.calls (G_ : Nat) (a0 : List Hi.Ent) (a1_0 : Int) (a1_1 : ByteArray) (a2_0 : Int) (a2_1 : ByteArray) (r1 : Bool) (r2 : Int) (w : World) (hq0 : WOK w G_ a0) (h : arrays_Sub.f a0 a1_0 a1_1 a2_0 a2_1 = some (r1, r2)) :
  Calls Tryd.prog 9 #[.pointer (some ⟨G_, 0, none⟩), .agg #[.int .i64 a1_0, .string a1_1], .agg #[.int .i64 a2_0, .string a2_1]] w fun e w' => e = .returned (.tuple #[.bool r1, .int .i64 r2]) ∧ Below w.heap.size w w' := by
 have hF := Lib.hid (Option.some.inj h); have B0 := heap_alloc2_old w (.cells #[.int .i64 a1_0, .string a1_1] 31) (.cells #[.int .i64 a2_0, .string a2_1] 31); have B1 := heap_alloc2_new w (.cells #[.int .i64 a1_0, .string a1_1] 31) (.cells #[.int .i64 a2_0, .string a2_1] 31); have BB := ((Below.refl w.heap.size w).alloc (Nat.le_refl _) (.cells #[.int .i64 a1_0, .string a1_1] 31)).alloc (by simp) (.cells #[.int .i64 a2_0, .string a2_1] 31); replace B0 := Lib.hid B0; replace B1 := Lib.hid B1; replace BB := Lib.hid BB; have LD := Lib.hid (fun (W : World) (hb : Below w.heap.size w W) (d : Int) (s : ByteArray) => arrays_Loaded.calls G_ a0 d s _ W (hq0.below hb) (load_tot a0 d s)); have BL := Lib.hid (fun (W : World) (hb : Below w.heap.size w W) (h1 : loadF a0 a1_0 a1_1 = 0) (h2 : loadF a0 a2_0 a2_1 = 0) => arrays_below.calls 300 G_ a0 a1_0 a1_1 a2_0 a2_1 _ W (hq0.below hb) (below_all h1 h2)); have I0 := fun w => index_two a1_0 a1_1 a2_0 a2_1 w; have I1 := fun w => index_two1 a1_0 a1_1 a2_0 a2_1 w; clear h hq0; unfold subF at hF; go_enter Tryd.func9, Tryd.ntmps9; go_wp2_with fail; change Code.wp _ _ _ _ ((w.alloc (.cells #[.int .i64 a1_0, .string a1_1] 31)).alloc (.cells #[.int .i64 a2_0, .string a2_1] 31)); generalize (w.alloc (.cells #[.int .i64 a1_0, .string a1_1] 31)).alloc (.cells #[.int .i64 a2_0, .string a2_1] 31) = w0 at *; have Z1 := Lib.hid ((Below.refl w0.heap.size w0).alloc (Nat.le_refl _) (.cells #[.int .i64 a1_0, .string a1_1] 31)); have N1 := Lib.hid (BB.out.alloc BB.out.size (.cells #[.int .i64 a1_0, .string a1_1] 31)); have L1 := Lib.hid (LD.out _ N1.out a1_0 a1_1); refine wp_loop_rounds 3 ?_; rw [rounds_succ]; go_wp2_with fail; refine L1.out.mono ?_; rintro e w1 ⟨rfl, hb1⟩; have M1 := Lib.hid (N1.out.trans (hb1.mono N1.out.size)); have Z2 := Lib.hid (Z1.out.trans (hb1.mono Z1.out.size)); clear L1 hb1 N1 Z1
 by_cases he1 : loadF a0 a1_0 a1_1 = 0
 ·rw [if_neg (fun h => h he1)] at hF
  have hk1 := Lib.hid he1; rw [he1]; clear he1; go_wp2_with fail; rw [rounds_succ]; have N2 := Lib.hid (M1.out.alloc M1.out.size (.cells #[.int .i64 a2_0, .string a2_1] 31)); have Z3 := Lib.hid (Z2.out.alloc Z2.out.size (.cells #[.int .i64 a2_0, .string a2_1] 31)); have L2 := Lib.hid (LD.out _ N2.out a2_0 a2_1); go_wp2_with fail; refine L2.out.mono ?_; rintro e w2 ⟨rfl, hb2⟩; have M2 := Lib.hid (N2.out.trans (hb2.mono N2.out.size)); have Z4 := Lib.hid (Z3.out.trans (hb2.mono Z3.out.size)); clear L2 hb2 N2 M1 Z2 Z3
  by_cases he2 : loadF a0 a2_0 a2_1 = 0
  ·rw [if_neg (fun h => h he2)] at hF
   have hk2 := Lib.hid he2; rw [he2]; clear he2; have C0 := Lib.hid (blk_below B0.out Z4.out); have C1 := Lib.hid (blk_below B1.out Z4.out); have q0 : w2.cell? ⟨w.heap.size, 0, none⟩ = some (.int .i64 a1_0) := (blk_cell C0.out 0).trans rfl; have q1 : w2.cell? ⟨w.heap.size, 1, none⟩ = some (.string a1_1) := (blk_cell C0.out 1).trans rfl; have q2 : w2.cell? ⟨w.heap.size + 1, 0, none⟩ = some (.int .i64 a2_0) := (blk_cell C1.out 0).trans rfl; have q3 : w2.cell? ⟨w.heap.size + 1, 1, none⟩ = some (.string a2_1) := (blk_cell C1.out 1).trans rfl; have L3 := Lib.hid (BL.out _ M2.out hk1.out hk2.out); go_wp2_with fail; rw [rounds_succ]; go_wp2_with fail; refine L3.out.mono ?_; rintro e w3 ⟨rfl, hb3⟩; have M3 := Lib.hid (M2.out.trans (hb3.mono M2.out.size)); clear L3 hb3 M2; go_wp2; go_ret2; have := hF.out
   cases this
   exact ⟨rfl, M3.out⟩
  ·have hne : (loadF a0 a2_0 a2_1 != 0) = true := bne_iff_ne.2 he2
   rw [if_pos he2] at hF; clear he2; go_wp2; go_ret2; have := hF.out
   cases this
   exact ⟨rfl, M2.out⟩
 ·have hne : (loadF a0 a1_0 a1_1 != 0) = true := bne_iff_ne.2 he1
  rw [if_pos he1] at hF; clear he1; go_wp2; go_ret2; have := hF.out
  cases this
  exact ⟨rfl, M1.out⟩
end Go.Proofs.YtaipkdglhfhhiaaDoor.Pt

namespace Go.Proofs.YtaipkdglhfhhiaaDoor.Pt
open Go Go.RowKit Go.Proofs.YtaipkdglhfhhiaaDoor.Nm Go.Proofs.YtaipkdglhfhhiaaDoor.Hi Go.Proofs.YtaipkdglhfhhiaaDoorW.PrintWords Go.Proofs.YtaipkdglhfhhiaaDoorW.PrintLast Go.Proofs.YtaipkdglhfhhiaaDoorW.PrintMore
set_option linter.unusedVariables false
set_option linter.unusedSimpArgs false
set_option maxHeartbeats 2000000
set_option maxRecDepth 100000
theorem info_T : (Tryd.prog.info? 31).map (fun i => (i.zero, i.size, i.bytes)) = some (some (.agg #[.int .i64 0, .string ⟨#[]⟩]), k31.sz, 24) := by kernel_rfl
def KeptL (w w' : World) : Prop := ∀ (k : Nat) (cells : Array Value) (t : Nat), w.heap[k]? = some (.cells cells t (0, 0)) → t ≠ 23 → t ≠ 31 → w'.heap[k]? = some (.cells cells t (0, 0))
theorem KeptL.trans {w w1 w2 : World} (h : KeptL w w1) (h2 : KeptL w1 w2) : KeptL w w2 := fun k cells t hk h3 h4 => h2 k cells t (h k cells t hk h3 h4) h3 h4
theorem KeptL.refl (w : World) : KeptL w w := fun _ _ _ h _ _ => h
theorem KeptL.str {w w' : World} (h : KeptL w w') {b : Nat} {v : Value} {xs : List ByteArray} (hr : Kd.R Kd.string 9 w b (fun _ => True) v xs) : Kd.R Kd.string 9 w' b (fun _ => True) v xs := by
 refine Kd.R_mono (Kd.R_move (Kd.R_bound hr) (fun k hk => ?_)) (fun _ _ => trivial); obtain ⟨_, _, _, q, hq, cells, hc⟩ := hk
 have hq : q = 9 := by
  rcases List.mem_cons.1 hq with rfl | hq
  ·rfl
  ·cases hq
 subst hq; rw [hc]
 exact h k cells _ hc (by decide) (by decide)
structure Stp (w wr : World) (gl gd : Nat) (dims : Int) (ts : List S31) : Prop where
 bl : ∃ v, wr.heap[gl]? = some (.cells #[v] 23 (0, 0)) ∧ Kd.R k31 31 wr w.heap.size (fun _ => True) v ts
 bd : wr.heap[gd]? = some (.cells #[.int .i64 dims] 3 (0, 0))
 hb : Below w.heap.size w wr
 le : w.heap.size ≤ gl
theorem step_any {w wr : World} {gl gd : Nat} {dims : Int} {ts : List S31} (h : Stp w wr gl gd dims ts) (name : ByteArray) (hl : ts.length ≤ 1000) :
  Calls Tryd.prog 45 #[.string name, .pointer (some ⟨gl, 0, none⟩), .pointer (some ⟨gd, 0, none⟩)] wr fun e w' => e = .returned (.tuple #[]) ∧ Stp w w' gl gd dims (ts ++ [⟨dims, name⟩]) ∧ KeptL wr w' := by
 obtain ⟨⟨v, hg, hR⟩, hd, hb, hle⟩ := h; obtain ⟨A, c, rfl⟩ := Kd.R_slice hR; have q0 : wr.cell? ⟨gl, 0, none⟩ = some (.slice A ts.length c) := (blk_cell hg 0).trans rfl; have q1 : wr.cell? ⟨gd, 0, none⟩ = some (.int .i64 dims) := (blk_cell hd 0).trans rfl; have k0 := blk_frozen hg 0; have HG := Lib.hid hg; have HD := Lib.hid hd; have HR := Lib.hid hR; have HB := Lib.hid hb; have hng := Lib.hid (Kd.R_ne hR hg (by decide)); have hnd := Lib.hid (Kd.R_ne hR hd (by decide)); have hne : gd ≠ gl := blk_ne hd hg (by decide); have hgl := blk_lt hg; have hgdl := blk_lt hd; clear hg hd hR hb; go_enter Tryd.func45, Tryd.ntmps45; go_wp2_with (at_builtin; refine Kd.R_append k31 (w0 := w) (W := wr) w.heap.size rfl (.tmp 4) (.tmp 8) 23 31 (.agg #[.int .i64 0, .string ⟨#[]⟩]) 24 rfl Tryd.underlying23 info_T rfl (by decide) (by omega) _ ts ⟨dims, name⟩ [.int .i64 dims, .string name] (fun _ => True) (fun _ => False) rfl rfl (k31_mkM _ _ _ ⟨dims, name⟩) (fun _ h => h.elim) (fun _ _ => trivial) HR.out HB.out HB.out.size (by omega) ?_; intro v1 w2 h1 h2 h3 h4; obtain ⟨A9, c9, rfl⟩ := Kd.R_slice h1; rw [show (ts ++ [(⟨dims, name⟩ : S31)]).length = ts.length + 1 by simp] at h1; replace h1 := Lib.hid h1; replace h2 := Lib.hid h2; replace h3 := Lib.hid h3; have kx := (h3.out.frozen_far ⟨gl, 0, none⟩ hgl hng.out).trans k0; have qg := (h3.out.cell_far ⟨gl, 0, none⟩ hgl hng.out).trans q0; clear h4)
 go_end0
 refine ⟨rfl, ⟨⟨_, blk_put (blk_grown (w := wr) HG.out h3.out hng.out) 0 _ rfl, Kd.R_set h1.out (blk_grown (w := wr) HG.out h3.out hng.out) (by decide) 0 _⟩, blk_far (p := ⟨gl, 0, none⟩) (blk_grown (w := wr) HD.out h3.out hnd.out) hne _, h2.out.setCell (p := ⟨gl, 0, none⟩) hle _, hle⟩, fun k cells t hk ht1 ht2 => ?_⟩
 exact blk_far (p := ⟨gl, 0, none⟩) (blk_grown (w := wr) hk h3.out (Kd.R_ne HR.out hk (Ne.symm ht2))) (blk_ne hk HG.out ht1) _
theorem Stp.below {w wr w1 : World} {gl gd : Nat} {dims : Int} {ts : List S31} (h : Stp w wr gl gd dims ts) (hb : Below wr.heap.size wr w1) : Stp w w1 gl gd dims ts := by
 obtain ⟨⟨v, h1, h2⟩, h3, h4, h5⟩ := h
 exact ⟨⟨v, blk_below h1 hb, Kd.R_below h2 hb⟩, blk_below h3 hb, h4.trans (hb.mono h4.size), h5⟩
def aCond (d : Int) (s : ByteArray) : Bool := decide (d > 0) && ((s.toList == ([] : List UInt8)) || (s.toList == ([79, 98, 106, 101, 99, 116] : List UInt8)))
def aboveTF (es : List Ent) (d : Int) (s : ByteArray) : List S31 × Int :=
 if loadF es d s ≠ 0 then ([], loadF es d s) else if aCond d s = true then ([⟨d - 1, sObject⟩, ⟨d - 1, sCloneable⟩, ⟨d - 1, sSerializable⟩], 0) else if s.toList = [] then ([], 0) else
 ((if (classF es (nameF es s).1).1.f1.toList = [] then [] else [⟨d, (classF es (nameF es s).1).1.f1⟩]) ++ (classF es (nameF es s).1).1.f2.map (fun n => ⟨d, n⟩), 0)
def arrays_Above.f (a0 : List Hi.Ent) (a1_0 : Int) (a1_1 : ByteArray) : Option (List S31 × Int) := if (classF a0 (nameF a0 a1_1).1).1.f2.length ≤ 900 then some (aboveTF a0 a1_0 a1_1) else none
theorem arrays_Above.calls (G_ : Nat) (a0 : List Hi.Ent) (a1_0 : Int) (a1_1 : ByteArray) (r1 : List S31) (r2 : Int) (w : World) (hq0 : WOK w G_ a0) (h : arrays_Above.f a0 a1_0 a1_1 = some (r1, r2)) :
  Calls Tryd.prog 31 #[.pointer (some ⟨G_, 0, none⟩), .agg #[.int .i64 a1_0, .string a1_1]] w fun e w' => ∃ v0_ : Value, e = .returned (.tuple #[v0_, .int .i64 r2]) ∧ Kd.R k31 31 w' w.heap.size (fun _ => True) v0_ r1 ∧ Below w.heap.size w w' := by
 unfold arrays_Above.f at h; obtain ⟨hlen, h⟩ := if_some h; have hF := Lib.hid (Option.some.inj h); have B0 := Lib.hid (blk_new w (.cells #[.int .i64 a1_0, .string a1_1] 31)); have AB := Lib.hid ((Below.refl w.heap.size w).alloc (Nat.le_refl _) (.cells #[.int .i64 a1_0, .string a1_1] 31)); have C1 := Lib.hid (arrays_Loaded.calls G_ a0 a1_0 a1_1 _ _ (hq0.below AB.out) (load_tot a0 a1_0 a1_1)); have HN := Lib.hid (fun (W : World) (hb : Below w.heap.size w W) (hl : loadF a0 a1_0 a1_1 = 0) => hier_World_ByName.calls G_ a0 a1_1 (nameF a0 a1_1).1 (nameF a0 a1_1).2 W (hq0.below hb) (byName_tot a0 a1_1 (load_size hl).1)); have HC := Lib.hid (fun (W : World) (hb : Below w.heap.size w W) => hier_World_Class.calls G_ a0 (nameF a0 a1_1).1 _ _ _ _ _ _ _ W (hq0.below hb) rfl); have HS := Lib.hid (fun h : loadF a0 a1_0 a1_1 = 0 => load_size h); clear h hq0; unfold aboveTF at hF; generalize loadF a0 a1_0 a1_1 = e1 at *; generalize nameF a0 a1_1 = nf at *; generalize classF a0 nf.1 = cf at *; obtain ⟨x, xe⟩ := cf; obtain ⟨x0, x1, x2, x3, x4, x5⟩ := x; simp only at hF HC hlen; go_enter Tryd.func31, Tryd.ntmps31; go_wp2_with fail; refine C1.out.mono ?_; rintro e w1 ⟨rfl, hb1⟩; have B1 := Lib.hid (blk_below B0.out hb1); have H1 := Lib.hid (AB.out.trans (hb1.mono AB.out.size)); clear C1 B0 AB hb1
 by_cases h1 : e1 = 0
 ·subst h1
  rw [if_neg (fun h => h rfl)] at hF; obtain ⟨ss, d0, d1⟩ := HS.out rfl; have q0 : w1.cell? ⟨w.heap.size, 0, none⟩ = some (.int .i64 a1_0) := (blk_cell B1.out 0).trans rfl; have q0a := cell_allocs q0
  go_upto_region 7 with (fail)
  change Code.wp _ _ _ _ ((w1.alloc (.cells #[.slice none 0 0] 23)).alloc (.cells #[.int .i64 a1_0] 3)); have t3 := two_new w1 (.cells #[.slice none 0 0] 23) (.cells #[.int .i64 a1_0] 3); generalize (w1.alloc (.cells #[.slice none 0 0] 23)).alloc (.cells #[.int .i64 a1_0] 3) = W at *; have ST : Hid (Stp w W w1.heap.size (w1.heap.size + 1) a1_0 []) := Lib.hid ⟨⟨_, t3.1, Kd.R_nil _ _ _ _ _⟩, t3.2.1, H1.out.trans (t3.2.2.mono H1.out.size), H1.out.size⟩; have B2 := Lib.hid (blk_below B1.out t3.2.2); clear t3 q0 q0a B1 H1; have q0 : W.cell? ⟨w.heap.size, 0, none⟩ = some (.int .i64 a1_0) := (blk_cell B2.out 0).trans rfl; have q1 : W.cell? ⟨w.heap.size, 1, none⟩ = some (.string a1_1) := (blk_cell B2.out 1).trans rfl; generalize hgl : w1.heap.size = gl at *; clear hgl
  go_cut [0, 3, 7, 8, 9, 37] (fun v0 v3 v7 v8 v9 v37 wr => v0 = .pointer (some ⟨G_, 0, none⟩) ∧ v3 = .pointer (some ⟨w.heap.size, 0, none⟩) ∧ v7 = .pointer (some ⟨gl, 0, none⟩) ∧ v8 = .pointer (some ⟨gl + 1, 0, none⟩) ∧ v9 = .func (.func 45) #[] #[.pointer (some ⟨gl, 0, none⟩), .pointer (some ⟨gl + 1, 0, none⟩)] ∧ v37 = .bool (aCond a1_0 a1_1) ∧
   Hid (wr.heap[w.heap.size]? = some (.cells #[.int .i64 a1_0, .string a1_1] 31 (0, 0))) ∧ Hid (Stp w wr gl (gl + 1) a1_0 []))
  case first =>
   cases hd : decide (a1_0 > 0) with
   | false =>
    have hc : Hid (aCond a1_0 a1_1 = false) := Lib.hid (by unfold aCond; rw [hd]; rfl); go_wp2; go_meet
    case rel => exact ⟨rfl, rfl, rfl, rfl, rfl, by rw [hc.out], B2, ST⟩
   | true =>
    cases hs : (a1_1.toList == ([] : List UInt8)) with
    | true =>
     have hc : Hid (aCond a1_0 a1_1 = true) := Lib.hid (by unfold aCond; rw [hd, hs]; rfl); go_wp2; go_meet
     case rel => exact ⟨rfl, rfl, rfl, rfl, rfl, by rw [hc.out], B2, ST⟩
    | false =>
     cases ho : (a1_1.toList == ([79, 98, 106, 101, 99, 116] : List UInt8)) with
     | true =>
      have hc : Hid (aCond a1_0 a1_1 = true) := Lib.hid (by unfold aCond; rw [hd, hs, ho]; rfl); go_wp2; go_meet
      case rel => exact ⟨rfl, rfl, rfl, rfl, rfl, by rw [hc.out], B2, ST⟩
     | false =>
      have hc : Hid (aCond a1_0 a1_1 = false) := Lib.hid (by unfold aCond; rw [hd, hs, ho]; rfl); go_wp2; go_meet
      case rel => exact ⟨rfl, rfl, rfl, rfl, rfl, by rw [hc.out], B2, ST⟩
  case rest =>
   clear q0 q1 B2 ST; obtain ⟨rfl, rfl, rfl, rfl, rfl, rfl, B2, ST⟩ := hcut
   cases hA : aCond a1_0 a1_1 with
   | true =>
    rw [hA, if_pos rfl] at hF
    have hd : 0 < a1_0 := by
     unfold aCond at hA; rw [Bool.and_eq_true, decide_eq_true_eq] at hA
     exact hA.1
    have qd : wc.cell? ⟨gl + 1, 0, none⟩ = some (.int .i64 a1_0) := (blk_cell ST.out.bd 0).trans rfl; have kd := blk_frozen ST.out.bd 0; clear HN HC hA
    go_upto_region 9 with (fail)
    have S1 : Hid (Stp w (wc.setCell ⟨gl + 1, 0, none⟩ (.int .i64 (a1_0 - 1))) gl (gl + 1) (a1_0 - 1) []) := by
     obtain ⟨⟨v, s1, s2⟩, s3, s4, s5⟩ := ST.out
     exact Lib.hid ⟨⟨v, blk_far (p := ⟨gl + 1, 0, none⟩) s1 (by simp) _, Kd.R_set s2 s3 (by decide) 0 _⟩, blk_put s3 0 _ rfl, s4.setCell (p := ⟨gl + 1, 0, none⟩) (Nat.le_succ_of_le s5) _, s5⟩
    clear qd kd ST B2; generalize wc.setCell ⟨gl + 1, 0, none⟩ (.int .i64 (a1_0 - 1)) = W1 at *; have P1 := Lib.hid (step_any S1.out sObject (by simp)); clear S1; go_wp2_with fail; refine P1.out.mono ?_; rintro e w2 ⟨rfl, S2, _⟩; have P2 := Lib.hid (step_any S2 sCloneable (by simp)); clear P1 S2; go_wp2_with fail; refine P2.out.mono ?_; rintro e w3 ⟨rfl, S3, _⟩; have P3 := Lib.hid (step_any S3 sSerializable (by simp)); clear P2 S3; go_wp2_with fail; refine P3.out.mono ?_; rintro e w4 ⟨rfl, S4, _⟩; obtain ⟨⟨v, s1, s2⟩, _, s4, _⟩ := S4; obtain ⟨A9, c9, rfl⟩ := Kd.R_slice s2; have q9 : w4.cell? ⟨gl, 0, none⟩ = some (.slice A9 _ c9) := (blk_cell s1 0).trans rfl; replace s2 := Lib.hid s2; replace s4 := Lib.hid s4; clear P3 s1; go_wp2; go_ret2; have := hF.out
    cases this
    exact ⟨_, rfl, s2.out, s4.out⟩
   | false =>
    rw [hA, if_neg (by simp)] at hF; have q1 : wc.cell? ⟨w.heap.size, 1, none⟩ = some (.string a1_1) := (blk_cell B2.out 1).trans rfl; clear hA
    by_cases hs : a1_1.toList = []
    ·rw [if_pos hs] at hF
     have hs2 : (a1_1.toList == ([] : List UInt8)) = true := beq_iff_eq.2 hs; clear HN HC hs; go_wp2; go_ret2; have := hF.out
     cases this
     exact ⟨_, rfl, Kd.R_nil _ _ _ _ _, ST.out.hb⟩
    ·rw [if_neg hs] at hF
     have hs2 : (a1_1.toList == ([] : List UInt8)) = false := beq_eq_false_iff_ne.2 hs; have C3 := Lib.hid (HN.out wc ST.out.hb trivial); clear HN hs; go_wp2_with fail; refine C3.out.mono ?_; rintro e w2 ⟨rfl, hb2⟩; have ST2 := Lib.hid (ST.out.below hb2); clear C3 hb2 ST B2 q1; have C4 := Lib.hid (HC.out w2 ST2.out.hb); clear HC
     go_upto_region 16 with (fail)
     go_cut [0, 7, 8, 9, 12] (fun v0 v7 v8 v9 v12 wr => v7 = .pointer (some ⟨gl, 0, none⟩) ∧ v8 = .pointer (some ⟨gl + 1, 0, none⟩) ∧ v9 = .func (.func 45) #[] #[.pointer (some ⟨gl, 0, none⟩), .pointer (some ⟨gl + 1, 0, none⟩)] ∧ ∃ gc A2 c2 y0 y3 y4 y5, v12 = .pointer (some ⟨gc, 0, none⟩) ∧ Hid (wr.heap[gc]? = some (.cells #[y0, .string x1, .slice A2 x2.length c2, y3, y4, y5] 40 (0, 0))) ∧ Hid (Kd.R Kd.string 9 wr w.heap.size (fun _ => True) (.slice A2 x2.length c2) x2) ∧ Hid (Stp w wr gl (gl + 1) a1_0 []))
     case first =>
      go_wp2_with fail; refine C4.out.mono ?_; rintro e w3 ⟨v2, v5, rfl, R2, R5, hb3⟩; obtain ⟨A2, c2, rfl⟩ := Kd.R_slice R2; obtain ⟨A5, c5, rfl⟩ := Kd.R_slice R5; clear C4; go_wp2; go_meet
      case rel =>
       have hal := (Below.refl w3.heap.size w3).alloc (Nat.le_refl _) (.cells #[.string x0, .string x1, .slice A2 x2.length c2, .int .i64 x3, .int .i64 x4, .slice A5 x5.length c5] 40)
       exact ⟨rfl, rfl, rfl, _, _, _, _, _, _, _, rfl, Lib.hid (blk_new _ _), Lib.hid (Kd.R_below (Kd.R_lower R2 ST2.out.hb.size) hal), Lib.hid ((ST2.out.below hb3).below hal)⟩
     case rest =>
      clear C4 ST2; obtain ⟨rfl, rfl, rfl, gc, A2, c2, y0, y3, y4, y5, rfl, BC, R2, ST⟩ := hcut; have p1 : wc.cell? ⟨gc, 1, none⟩ = some (.string x1) := (blk_cell BC.out 1).trans rfl
      go_upto_region 17 with (fail)
      go_cut [0, 7, 8, 9, 12, 65] (fun v0 v7 v8 v9 v12 v65 wr => v7 = .pointer (some ⟨gl, 0, none⟩) ∧ v9 = .func (.func 45) #[] #[.pointer (some ⟨gl, 0, none⟩), .pointer (some ⟨gl + 1, 0, none⟩)] ∧ v12 = .pointer (some ⟨gc, 0, none⟩) ∧ v65 = .bool (!x1.toList.isEmpty) ∧ Hid (wr.heap[gc]? = some (.cells #[y0, .string x1, .slice A2 x2.length c2, y3, y4, y5] 40 (0, 0))) ∧ Hid (Kd.R Kd.string 9 wr w.heap.size (fun _ => True) (.slice A2 x2.length c2) x2) ∧ Hid (Stp w wr gl (gl + 1) a1_0 []))
      case first =>
       go_wp2
       all_goals
        go_meet
        case rel => exact ⟨rfl, rfl, rfl, by simp [*], BC, R2, ST⟩
      case rest =>
      clear p1 BC R2 ST; obtain ⟨rfl, rfl, rfl, rfl, BC, R2, ST⟩ := hcut; generalize hbb : (!x1.toList.isEmpty) = bb at *; have p1 : wc.cell? ⟨gc, 1, none⟩ = some (.string x1) := (blk_cell BC.out 1).trans rfl
      go_upto_if 65 with (fail)
      go_cut [7, 8, 9, 12] (fun v7 v8 v9 v12 wr => v7 = .pointer (some ⟨gl, 0, none⟩) ∧ v9 = .func (.func 45) #[] #[.pointer (some ⟨gl, 0, none⟩), .pointer (some ⟨gl + 1, 0, none⟩)] ∧ v12 = .pointer (some ⟨gc, 0, none⟩) ∧ Hid (wr.heap[gc]? = some (.cells #[y0, .string x1, .slice A2 x2.length c2, y3, y4, y5] 40 (0, 0))) ∧ Hid (Kd.R Kd.string 9 wr w.heap.size (fun _ => True) (.slice A2 x2.length c2) x2) ∧ Hid (Stp w wr gl (gl + 1) a1_0 (if x1.toList = [] then [] else [⟨a1_0, x1⟩])))
      case first =>
       cases bb with
       | false =>
        have he : x1.toList = [] := by simpa using hbb
        clear hbb p1; go_wp2; go_meet
        case rel => exact ⟨rfl, rfl, rfl, BC, R2, by rw [if_pos he]; exact ST⟩
       | true =>
        have he : ¬ x1.toList = [] := by simpa using hbb
        clear hbb; have P1 := Lib.hid (step_any ST.out x1 (by simp)); go_wp2_with fail; refine P1.out.mono ?_; rintro e w2 ⟨rfl, S2, K2⟩; have hk2 := K2 _ _ _ BC.out (by decide) (by decide); have hr2 := K2.str R2.out; go_wp2; go_meet
        case rel => exact ⟨rfl, rfl, rfl, Lib.hid hk2, Lib.hid hr2, by rw [if_neg he]; exact Lib.hid S2⟩
      case rest =>
       clear BC R2 ST p1 hbb; obtain ⟨rfl, rfl, rfl, BC, R2, ST⟩ := hcut
       have hpre : (if x1.toList = [] then ([] : List S31) else [⟨a1_0, x1⟩]).length ≤ 1 := by split <;> simp
       generalize (if x1.toList = [] then ([] : List S31) else [⟨a1_0, x1⟩]) = pre at *; have p2 : wc.cell? ⟨gc, 2, none⟩ = some (.slice A2 x2.length c2) := (blk_cell BC.out 2).trans rfl; have hpre := Lib.hid hpre; go_wp2_with fail
       go_loopw [73] (fun v73 wr => ∃ j : Nat, j ≤ x2.length ∧ v73 = .int .i64 j ∧ Hid (Kd.R Kd.string 9 wr w.heap.size (fun _ => True) (.slice A2 x2.length c2) x2) ∧ Hid (Stp w wr gl (gl + 1) a1_0 (pre ++ (x2.take j).map (fun n => (⟨a1_0, n⟩ : S31))))) (fun v73 _ => x2.length - (intOf v73).toNat)
       case atStart => exact ⟨0, Nat.zero_le _, rfl, R2, by simpa using ST⟩
       case round =>
        clear R2 ST BC p2; obtain ⟨j, hj, rfl, R2, ST⟩ := hrel
        by_cases hlt : j < x2.length
        ·have hjd : decide (j < x2.length) = true := decide_eq_true hlt
         obtain ⟨ad0, cc, rfl, hcl, hKK, hic⟩ := Kd.C_get (Kd.R_reads' R2.out).2.2 ⟨#[]⟩ (j : Int) (by omega) (by omega); obtain rfl : cc = [.string (x2.getD j ⟨#[]⟩)] := hKK; have hic := hic 0 _ rfl; rw [show Kd.string.sz = 1 from rfl, Nat.mul_one, Nat.add_zero, Int.toNat_natCast] at hic
         have hx2 : x2[j]? = some (x2.getD j ⟨#[]⟩) := by rw [List.getD_eq_getElem?_getD, List.getElem?_eq_getElem hlt]; rfl
         generalize x2.getD j ⟨#[]⟩ = n at *
         have hst : Hid (pre ++ (x2.take (j + 1)).map (fun n => (⟨a1_0, n⟩ : S31)) = (pre ++ (x2.take j).map (fun n => (⟨a1_0, n⟩ : S31))) ++ [⟨a1_0, n⟩]) := Lib.hid (by
          rw [List.take_add_one, hx2, List.map_append, List.append_assoc]; rfl)
         have P1 := Lib.hid (step_any ST.out n (by
          have := hpre.out
          rw [List.length_append, List.length_map, List.length_take]; omega))
         clear ST hx2 hcl; go_wp2_with fail; refine P1.out.mono ?_; rintro e w2 ⟨rfl, S2, K2⟩; have hr2 := Lib.hid (K2.str R2.out); replace S2 := Lib.hid S2; clear P1 K2 R2 hic; go_wp2
         exact ⟨⟨j + 1, by omega, by push_cast; rfl, hr2, Lib.hid (by rw [hst.out]; exact S2.out)⟩, by simp [intOf]; omega⟩
        ·have hjd : decide (j < x2.length) = false := decide_eq_false hlt
         have e1 : j = x2.length := by omega
         subst e1; have S4 := ST.out; rw [List.take_length] at S4; generalize pre ++ x2.map (fun n => (⟨a1_0, n⟩ : S31)) = ts at *; obtain ⟨⟨v, s1, s2⟩, _, s4, _⟩ := S4; obtain ⟨A9, c9, rfl⟩ := Kd.R_slice s2; have q9 : wr.cell? ⟨gl, 0, none⟩ = some (.slice A9 _ c9) := (blk_cell s1 0).trans rfl; replace s2 := Lib.hid s2; replace s4 := Lib.hid s4; clear s1 ST R2; go_wp2; go_ret2; have hz := hF.out
         cases hz
         exact ⟨_, rfl, s2.out, s4.out⟩
 ·have hne : (e1 != 0) = true := bne_iff_ne.2 h1
  rw [if_pos h1] at hF; have := hF.out
  cases this
  clear h1 HC HN HS; go_wp2; go_ret2
  exact ⟨_, rfl, Kd.R_nil _ _ _ _ _, H1.out⟩
end Go.Proofs.YtaipkdglhfhhiaaDoor.Pt

namespace Go.Proofs.YtaipkdglhfhhiaaDoor.Hi
open Go Go.RowKit Go.Proofs.YtaipkdglhfhhiaaDoor.Nm Go.Proofs.YtaipkdglhfhhiaaDoorW.PrintWords Go.Proofs.YtaipkdglhfhhiaaDoorW.PrintLast Go.Proofs.YtaipkdglhfhhiaaDoorW.PrintMore Go.Proofs.YtaipkdglhfhhiaaDoor.Pt
set_option linter.unusedVariables false
set_option linter.unusedSimpArgs false
set_option maxRecDepth 100000
theorem ent_take {es : List Ent} {n : Nat} {k : Int} (h0 : 0 ≤ k) (h1 : k < n) : ent (es.take n) k = ent es k := by
 unfold ent; rw [List.getD_eq_getElem?_getD, List.getD_eq_getElem?_getD, List.getElem?_take_of_lt (by omega)]
structure Src (es : List Ent) (i : Int) : Prop where
 len : (ent es i).c.f2.length ≤ 20
 sup : 1 ≤ i → (ent es (ent es i).above).c.f0 = (ent es i).c.f1
 ifs : ∀ n ∈ (ent es i).c.f2, ∃ k, 0 ≤ k ∧ k < i ∧ (ent es k).c.f0 = n ∧ isI (ent es k).c = true ∧ k ∈ (ent es i).clo
 clo : 1 ≤ i → ∀ j ∈ (ent es i).clo, j ∈ (ent es (ent es i).above).clo ∨ ∃ n ∈ (ent es i).c.f2, ∃ k, 0 ≤ k ∧ k < i ∧ (ent es k).c.f0 = n ∧ (j = k ∨ j ∈ (ent es k).clo)
theorem Thy.src_ {es : List Ent} (h : Thy es) {i : Int} (h0 : 0 ≤ i) (h1 : i < es.length) : Src es i := by
 by_cases h3 : 3 ≤ i
 ·have hx := get_ent h0 h1
  have ht := h.src _ _ hx (by omega); obtain ⟨s0, s1, s2, s3, s5⟩ := sound_sizes ht.sound; have hsp := aboveF_in ht.sup
  have hl : (es.take i.toNat).length = i.toNat := by rw [List.length_take]; omega
  rw [hl] at hsp
  have ha : (ent es i).above = (aboveF (es.take i.toNat) (ent es i).c (ent es i).c.f1 false).1 := by
   have := ht.isx; rw [this]
   rfl
  have hclo : (ent es i).clo = closF (es.take i.toNat) (ent (es.take i.toNat) (ent es i).above).clo ((ent es i).c.f2.map fun n => (aboveF (es.take i.toNat) (ent es i).c n true).1) := by
   have := congrArg Ent.clo ht.isx; rw [this, ha]
   show closF _ _ _ = _
   rw [if_pos hsp.1]
  have hif : ∀ n ∈ (ent es i).c.f2, 0 ≤ (aboveF (es.take i.toNat) (ent es i).c n true).1 ∧ (aboveF (es.take i.toNat) (ent es i).c n true).1 < i ∧ (ent es (aboveF (es.take i.toNat) (ent es i).c n true).1).c.f0 = n ∧ isI (ent es (aboveF (es.take i.toNat) (ent es i).c n true).1).c = true := by
   intro n hn; have h4 := aboveF_in (ht.ifs n hn); have h5 := (aboveF_fit (ht.ifs n hn)).1; rw [hl] at h4; have h6 := (nameF_in h4.2.2.2).2.2; rw [← h4.2.2.1] at h6; rw [ent_take h4.1 h4.2.1] at h5 h6
   exact ⟨h4.1, by omega, h6, h5⟩
  refine ⟨s2, fun _ => ?_, fun n hn => ?_, fun _ j hj => ?_⟩
  ·rw [ha]
   have h6 := (nameF_in hsp.2.2.2).2.2; rw [← hsp.2.2.1, ent_take hsp.1 hsp.2.1] at h6
   exact h6
  ·obtain ⟨a1, a2, a3, a4⟩ := hif n hn
   refine ⟨_, a1, a2, a3, a4, ?_⟩; rw [hclo]
   exact mem_closF.2 (.inr ⟨_, List.mem_map_of_mem hn, .inl rfl⟩)
  ·rw [hclo] at hj
   rcases mem_closF.1 hj with hj | ⟨k, hk, hj⟩
   ·rw [ent_take (by rw [ha]; exact hsp.1) (by rw [ha]; exact hsp.2.1)] at hj
    exact .inl hj
   ·obtain ⟨n, hn, rfl⟩ := List.mem_map.1 hk
    obtain ⟨a1, a2, a3, a4⟩ := hif n hn; rw [ent_take a1 (by omega)] at hj
    exact .inr ⟨n, hn, _, a1, a2, a3, hj⟩
 ·obtain ⟨o0, o1, o2⟩ := h.obj
  have : i = 0 ∨ i = 1 ∨ i = 2 := by omega
  rcases this with rfl | rfl | rfl
  ·refine ⟨by rw [o0]; decide, fun h => absurd h (by omega), fun n hn => ?_, fun h => absurd h (by omega)⟩
   rw [o0] at hn
   cases hn
  ·refine ⟨by rw [o1]; decide, fun _ => by rw [o1]; show (ent es 0).c.f0 = _; rw [o0]; rfl, fun n hn => ?_, fun _ j hj => ?_⟩
   ·rw [o1] at hn
    cases hn
   ·rw [o1] at hj
    cases hj
  ·refine ⟨by rw [o2]; decide, fun _ => by rw [o2]; show (ent es 0).c.f0 = _; rw [o0]; rfl, fun n hn => ?_, fun _ j hj => ?_⟩
   ·rw [o2] at hn
    cases hn
   ·rw [o2] at hj
    cases hj
theorem Thy.ext_step {es : List Ent} (h : Thy es) {i j : Int} (h0 : 0 ≤ i) (h1 : i < es.length) (hij : Ext es i j) (hne : i ≠ j) :
  1 ≤ i ∧ (Ext es (ent es i).above j ∨ ∃ n ∈ (ent es i).c.f2, ∃ k, 0 ≤ k ∧ k < i ∧ (ent es k).c.f0 = n ∧ Ext es k j) := by
 have hle := h.ext_le h0 h1 hij
 have hi : 1 ≤ i := by omega
 refine ⟨hi, ?_⟩; have hs := h.src_ h0 h1
 rcases hij with ⟨hj, rfl | hj2⟩ | ⟨hj, hj2⟩
 ·exact absurd rfl hne
 ·rcases hs.clo hi j hj2 with h2 | ⟨n, hn, k, k0, k1, k2, h2⟩
  ·exact .inl (.inl ⟨hj, .inr h2⟩)
  ·refine .inr ⟨n, hn, k, k0, k1, k2, .inl ⟨hj, ?_⟩⟩
   rcases h2 with rfl | h2
   ·exact .inl rfl
   ·exact .inr h2
 ·cases hj2 with
  | refl => exact absurd rfl hne
  | up _ _ _ h2 => exact .inl (.inr ⟨hj, h2⟩)
end Go.Proofs.YtaipkdglhfhhiaaDoor.Hi

namespace Go.Proofs.YtaipkdglhfhhiaaDoor.Pt
open Go Go.RowKit Go.Proofs.YtaipkdglhfhhiaaDoor.Nm Go.Proofs.YtaipkdglhfhhiaaDoor.Ty Go.Proofs.YtaipkdglhfhhiaaDoor.Hi Go.Proofs.YtaipkdglhfhhiaaDoorW.PrintWords Go.Proofs.YtaipkdglhfhhiaaDoorW.PrintLast Go.Proofs.YtaipkdglhfhhiaaDoorW.PrintMore
set_option linter.unusedVariables false
set_option linter.unusedSimpArgs false
set_option maxRecDepth 100000
theorem sub_ok {es : List Ent} {a b : Int} {s t : ByteArray} (hs : loadF es a s = 0) (ht : loadF es b t = 0) : arrays_Sub.f es a s b t = some (belowF es a s b t, 0) := by
 unfold arrays_Sub.f subF; rw [if_neg (fun h => h hs), if_neg (fun h => h ht)]
def StepOk (es : List Ent) (a : Int) (s : ByteArray) (u : S31) : Prop := loadF es u.f0 u.f1 = 0 ∧ BelP es a s u.f0 u.f1 ∧ ¬ (a = u.f0 ∧ s.data.toList = u.f1.data.toList)
theorem at_name {es : List Ent} (h : Thy es) {i : Int} (h0 : 0 ≤ i) (h1 : i < es.length) {d : Int} (hd : 0 ≤ d) (hd2 : d ≤ 255) {s : ByteArray} (hs : (ent es i).c.f0 = s) : loadF es d s = 0 ∧ (nameF es s).1 = i ∧ s.toList ≠ [] := by
 subst hs
 exact ⟨load_at h ⟨h0, h1⟩ hd hd2, by rw [nameF_of h h0 h1], valid_ne (h.valid ⟨h0, h1⟩)⟩
theorem cond_iff {a : Int} {s : ByteArray} : aCond a s = true ↔ 0 < a ∧ (s.toList = [] ∨ s.toList = [79, 98, 106, 101, 99, 116]) := by
 unfold aCond; simp
theorem up_tops {es : List Ent} (h : Thy es) {a : Int} {s : ByteArray} (hs : loadF es a s = 0) (ha : 0 < a) {i : Int} (h0 : 0 ≤ i) (h2 : i ≤ 2) {n : ByteArray} (hn : (ent es i).c.f0 = n) : StepOk es a s ⟨a - 1, n⟩ := by
 have h3 := len_base h.base; have hd := (load_size hs).2; have h4 := at_name h h0 (by omega) (d := a - 1) (by omega) (by omega) hn; refine ⟨h4.1, .inr ⟨by show a - 1 < a; omega, ?_⟩, fun e => by have : a = a - 1 := e.1; omega⟩; have := h.le_top h0 h2; rw [hn] at this
 exact this
theorem up_class {es : List Ent} (h : Thy es) {a : Int} {s : ByteArray} (hs : loadF es a s = 0) (hne : s.toList ≠ []) {k : Int} (k0 : 0 ≤ k) (k1 : k < (nameF es s).1) (hx : Ext es (nameF es s).1 k) {n : ByteArray} (hn : (ent es k).c.f0 = n) : StepOk es a s ⟨a, n⟩ := by
 have hd := (load_size hs).2; have hi := name_at hs hne; have h4 := at_name h k0 (by omega) (d := a) hd.1 hd.2 hn; refine ⟨h4.1, .inl ⟨rfl, .inr ⟨hne, h4.2.2, ?_⟩⟩, fun e => ?_⟩
 ·rw [h4.2.1]
  exact hx
 ·have e2 : s = n := ByteArray.ext (Array.toList_inj.1 e.2)
  have := h4.2.1; rw [← e2] at this
  omega
theorem above_ok {es : List Ent} (h : Thy es) {a : Int} {s : ByteArray} (hs : loadF es a s = 0) : ∀ u ∈ (aboveTF es a s).1, StepOk es a s u := by
 obtain ⟨o0, o1, o2⟩ := h.obj; have h3 := len_base h.base; unfold aboveTF; rw [if_neg (fun hh => hh hs)]
 by_cases hc : aCond a s = true
 ·rw [if_pos hc]
  have ha := (cond_iff.1 hc).1; intro u hu; simp only [List.mem_cons, List.not_mem_nil, or_false] at hu
  rcases hu with rfl | rfl | rfl
  ·exact up_tops h hs ha (i := 0) (by omega) (by omega) (by rw [o0]; rfl)
  ·exact up_tops h hs ha (i := 1) (by omega) (by omega) (by rw [o1]; rfl)
  ·exact up_tops h hs ha (i := 2) (by omega) (by omega) (by rw [o2]; rfl)
 ·rw [if_neg hc]
  by_cases he : s.toList = []
  ·rw [if_pos he]
   intro u hu
   cases hu
  ·rw [if_neg he]
   have hi := name_at hs he; have hsr := h.src_ hi.1 hi.2.1; rw [classF_in ⟨hi.1, hi.2.1⟩]; intro u hu
   rcases List.mem_append.1 hu with hu | hu
   ·split at hu
    ·cases hu
    ·rename_i hf
     rw [List.mem_singleton.1 hu]
     have h1 : 1 ≤ (nameF es s).1 := by
      apply Classical.byContradiction
      intro hn
      have h0 : (nameF es s).1 = 0 := by omega
      rw [h0, o0] at hf
      exact hf (by decide +kernel)
     have hsp := h.sup _ _ (get_ent hi.1 hi.2.1) (by omega)
     exact up_class h hs he hsp.1 (by omega) (.inr ⟨hsp.2.2.1, .up _ _ hsp.1 (.refl _)⟩) (hsr.sup h1)
   ·obtain ⟨n, hn, rfl⟩ := List.mem_map.1 hu
    obtain ⟨k, k0, k1, k2, k3, k4⟩ := hsr.ifs n hn
    exact up_class h hs he k0 k1 (.inl ⟨k3, .inr k4⟩) k2
theorem above_err {es : List Ent} {a : Int} {s : ByteArray} (hs : loadF es a s = 0) : (aboveTF es a s).2 = 0 := by
 unfold aboveTF; rw [if_neg (fun hh => hh hs)]
 split
 ·rfl
 ·split <;> rfl
theorem above_meets {es : List Ent} (h : Thy es) {a b : Int} {s t : ByteArray} (hs : loadF es a s = 0) (ht : loadF es b t = 0) (hb : BelP es a s b t) (hne : ¬ (a = b ∧ s.data.toList = t.data.toList)) : ∃ u ∈ (aboveTF es a s).1, BelP es u.f0 u.f1 b t := by
  obtain ⟨o0, o1, o2⟩ := h.obj
  have h3 := len_base h.base
  have hd := (load_size hs).2
  have hd2 := (load_size ht).2
  have hse : ∀ {x y : ByteArray}, x = y → x.data.toList = y.data.toList := fun e => by rw [e]
  unfold aboveTF
  rw [if_neg (fun hh => hh hs)]
  by_cases hc : aCond a s = true
  · rw [if_pos hc]
    have hc2 := cond_iff.1 hc
    -- an array over int, or over Object
    have htop : b < a → topB t = true → ∃ u ∈ ([⟨a - 1, sObject⟩, ⟨a - 1, sCloneable⟩, ⟨a - 1, sSerializable⟩] : List S31), BelP es u.f0 u.f1 b t := by
      intro hba htp
      have hk : ∀ n : ByteArray, t = n → BelP es (a - 1) n b t := by
        intro n hn
        subst hn
        by_cases hb1 : a - 1 = b
        · exact .inl ⟨hb1, .inr ⟨top_ne htp, top_ne htp, h.ext_refl _⟩⟩
        · exact .inr ⟨by omega, htp⟩
      rcases top_cases htp with e | e | e
      · exact ⟨⟨a - 1, sObject⟩, by simp, hk _ e⟩
      · exact ⟨⟨a - 1, sCloneable⟩, by simp, hk _ e⟩
      · exact ⟨⟨a - 1, sSerializable⟩, by simp, hk _ e⟩
    rcases hb with ⟨rfl, hb⟩ | ⟨hba, hb⟩
    · exfalso
      rcases hb with ⟨e1, e2⟩ | ⟨e1, e2, hx⟩
      · exact hne ⟨rfl, hse (tl_eq (e1.trans e2.symm))⟩
      · have ho := hc2.2.resolve_left e1
        have hso : s = objC.f0 := tl_eq (ho.trans (by decide +kernel))
        have n1 := name_at hs e1
        have n2 := name_at ht e2
        have hn0 : (nameF es s).1 = 0 := by
          have := nameF_of h (i := 0) (by omega) (by omega)
          rw [o0] at this
          rw [hso]
          exact congrArg Prod.fst this
        rw [hn0] at hx
        have hle := h.ext_le (a := 0) (by omega) (by omega) hx
        have hj : (nameF es t).1 = 0 := by omega
        refine hne ⟨rfl, hse ?_⟩
        rw [← n1.2.2, ← n2.2.2, hn0, hj]
    · exact htop hba hb
  · rw [if_neg hc]
    by_cases he : s.toList = []
    · exfalso
      rcases hb with ⟨rfl, hb⟩ | ⟨hba, hb⟩
      · rcases hb with ⟨e1, e2⟩ | ⟨e1, e2, hx⟩
        · exact hne ⟨rfl, hse (tl_eq (e1.trans e2.symm))⟩
        · exact e1 he
      · exact hc (cond_iff.2 ⟨by omega, .inl he⟩)
    · rw [if_neg he]
      have hi := name_at hs he
      have hsr := h.src_ hi.1 hi.2.1
      rw [classF_in ⟨hi.1, hi.2.1⟩]
      have hsup : 1 ≤ (nameF es s).1 → (ent es (nameF es s).1).c.f1.toList ≠ [] ∧ (nameF es (ent es (nameF es s).1).c.f1).1 = (ent es (nameF es s).1).above := by
        intro h1
        have hsp := h.sup _ _ (get_ent hi.1 hi.2.1) (by omega)
        have := at_name h hsp.1 (by omega) (d := 0) (by omega) (by omega) (hsr.sup h1)
        exact ⟨this.2.2, this.2.1⟩
      rcases hb with ⟨rfl, hb⟩ | ⟨hba, hb⟩
      · rcases hb with ⟨e1, e2⟩ | ⟨e1, e2, hx⟩
        · exact absurd e1 he
        · have n2 := name_at ht e2
          have hij : (nameF es s).1 ≠ (nameF es t).1 := by
            intro e
            refine hne ⟨rfl, hse ?_⟩
            rw [← hi.2.2, ← n2.2.2, e]
          obtain ⟨h1, hst⟩ := h.ext_step hi.1 hi.2.1 hx hij
          rcases hst with hst | ⟨n, hn, k, k0, k1, k2, hst⟩
          · refine ⟨⟨a, (ent es (nameF es s).1).c.f1⟩, ?_, .inl ⟨rfl, .inr ⟨(hsup h1).1, e2, ?_⟩⟩⟩
            · rw [if_neg (hsup h1).1]
              simp
            · show Ext es (nameF es (ent es (nameF es s).1).c.f1).1 _
              rw [(hsup h1).2]
              exact hst
          · have hk := at_name h k0 (by omega) (d := 0) (by omega) (by omega) k2
            refine ⟨⟨a, n⟩, List.mem_append.2 (.inr (List.mem_map_of_mem hn)), .inl ⟨rfl, .inr ⟨hk.2.2, e2, ?_⟩⟩⟩
            show Ext es (nameF es n).1 _
            rw [hk.2.1]
            exact hst
      · have h1 : 1 ≤ (nameF es s).1 := by
          apply Classical.byContradiction
          intro hn
          have h0 : (nameF es s).1 = 0 := by omega
          have hn2 := hi.2.2
          rw [h0, o0] at hn2
          exact hc (cond_iff.2 ⟨by omega, .inr (by rw [← hn2]; decide +kernel)⟩)
        refine ⟨⟨a, (ent es (nameF es s).1).c.f1⟩, ?_, .inr ⟨hba, hb⟩⟩
        rw [if_neg (hsup h1).1]
        simp
theorem above_some {es : List Ent} (h : Thy es) {a : Int} {s : ByteArray} (hs : loadF es a s = 0) : arrays_Above.f es a s = some ((aboveTF es a s).1, 0) := by
 have h3 := len_base h.base
 have hr : 0 ≤ (nameF es s).1 ∧ (nameF es s).1 < es.length := by
  by_cases h2 : (nameF es s).2 = 0
  ·have := nameF_in h2
   exact ⟨this.1, this.2.1⟩
  ·rw [(nameF_not h2).1]
   exact ⟨by decide, by show (0 : Int) < _; omega⟩
 unfold arrays_Above.f; rw [classF_in hr, if_pos (show (ent es (nameF es s).1).c.f2.length ≤ 900 by have := (h.src_ hr.1 hr.2).len; omega), ← above_err hs]
theorem above_len {es : List Ent} (h : Thy es) {a : Int} {s : ByteArray} (hs : loadF es a s = 0) : (aboveTF es a s).1.length ≤ 1000 := by
 unfold aboveTF; rw [if_neg (fun hh => hh hs)]
 split
 ·simp
 ·by_cases he : s.toList = []
  ·rw [if_pos he]; simp
  ·rw [if_neg he]
   have hi := name_at hs he; have := (h.src_ hi.1 hi.2.1).len; rw [classF_in ⟨hi.1, hi.2.1⟩]; rw [List.length_append, List.length_map]
   split
   ·simp; omega
   ·simp; omega
theorem rd28 {l : List S31} {i : Nat} (h : i < l.length) : l[i]? = some (rd_T31 l (i : Int)) := by
 simp [rd_T31, List.getD_eq_getElem?_getD, List.getElem?_eq_getElem h]
end Go.Proofs.YtaipkdglhfhhiaaDoor.Pt
