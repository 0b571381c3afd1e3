/- Lemmas and contracts for the statement of PwDisplayTests: joined by program out of this session's texts. -/
import Derived.Test.YtaipkdglhfhhiaaGreatDoorBdPwDisplayTests4
import Derived.Outline
namespace Go.Proofs.YtaipkdglhfhhiaaGreatDoor.Pt
open Go.RowKit Go.Proofs.YtaipkdglhfhhiaaGreatDoorW.PrintWords Go.Proofs.YtaipkdglhfhhiaaGreatDoorW.PrintLast Go.Proofs.YtaipkdglhfhhiaaGreatDoorW.PrintMore
attribute [local go_sem] max2_int min2_int max_two min_two max_three min_three max_four min_four   -- for this text's walks alone
set_option linter.unusedVariables false
set_option linter.unusedSimpArgs false
def arbiterref07_IsInt.f (a0_0 : Int) (a0_1 : ByteArray) : Option (Bool) := if a0_0 = 0 then (some (a0_1.toList == ([] : List UInt8))) else (some false)
def arbiterref07_Holder.f (k : Nat) (a0 : List S85) (a1_0 : Int) (a1_1 : ByteArray) : Option (Int × Int) := (arbiterref07_Loaded.f k a0 a1_0 a1_1).bind fun t313 => (if t313 = 0 then ((arbiterref07_IsInt.f a1_0 a1_1).bind fun t314 => (if t314 = true then (some (0, 2)) else (if a1_0 > 0 then (some (0, 0)) else ((arbiterref06_ByName.f k a0 a1_1).bind fun bt315 => (some (bt315.1, 0)))))) else (some (0, t313)))
def arbiterref07_lower.f (a0_0 : Int) (a0_1 : ByteArray) : Option (Int × ByteArray) := some (wrap64 (a0_0 - 1), a0_1)
end Go.Proofs.YtaipkdglhfhhiaaGreatDoor.Pt

namespace Go.Proofs.YtaipkdglhfhhiaaGreatDoor.Pt
open Go.RowKit Go.Proofs.YtaipkdglhfhhiaaGreatDoorW.PrintWords Go.Proofs.YtaipkdglhfhhiaaGreatDoorW.PrintLast Go.Proofs.YtaipkdglhfhhiaaGreatDoorW.PrintMore
attribute [local go_sem] max2_int min2_int max_two min_two max_three min_three max_four min_four   -- for this text's walks alone
set_option linter.unusedVariables false
set_option linter.unusedSimpArgs false
mutual
def arbiterref07_below.j0 : Nat → List S85 → Bool → Int → ByteArray → Int → ByteArray → Option (Bool)
 | 0, _, _, _, _, _, _ => none
 | k + 1, x0, x16, x502000, x502001, x503000, x503001 => if x16 = true then ((arbiterref07_IsInt.f x502000 x502001).bind fun t505 => (if t505 = true then ((arbiterref07_IsInt.f x503000 x503001).bind fun t506 => (some t506)) else (some false))) else (if x502000 = 0 then (arbiterref07_below.j1 k x0 (x503000 == 0) x502000 x502001 x503000 x503001) else (arbiterref07_below.j1 k x0 false x502000 x502001 x503000 x503001))
def arbiterref07_below.j1 : Nat → List S85 → Bool → Int → ByteArray → Int → ByteArray → Option (Bool)
 | 0, _, _, _, _, _, _ => none
 | k + 1, x0, x30, x502000, x502001, x503000, x503001 => if x30 = true then ((arbiterref06_ByName.f k x0 x502001).bind fun bt507 => ((arbiterref06_ByName.f k x0 x503001).bind fun bt509 => ((arbiterref06_Extends.f k x0 bt507.1 bt509.1).bind fun t511 => (some t511)))) else (if x502000 = 0 then (some false) else (if x503000 = 0 then (if x503001.toList = ([79, 98, 106, 101, 99, 116] : List UInt8) then (some true) else (if x503001.toList = ([67, 108, 111, 110, 101, 97, 98, 108, 101] : List UInt8) then (some true) else (some (x503001.toList == ([83, 101, 114, 105, 97, 108, 105, 122, 97, 98, 108, 101] : List UInt8))))) else ((arbiterref07_lower.f x502000 x502001).bind fun bt512 => ((arbiterref07_lower.f x503000 x503001).bind fun bt514 => ((arbiterref07_below.f k x0 bt512.1 bt512.2 bt514.1 bt514.2).bind fun t516 => (some t516))))))
def arbiterref07_below.f : Nat → List S85 → Int → ByteArray → Int → ByteArray → Option (Bool)
 | 0, _, _, _, _, _ => none
 | k + 1, a0, a1_0, a1_1, a2_0, a2_1 => (arbiterref07_IsInt.f a1_0 a1_1).bind fun t503 => (if t503 = true then (arbiterref07_below.j0 k a0 true a1_0 a1_1 a2_0 a2_1) else ((arbiterref07_IsInt.f a2_0 a2_1).bind fun t504 => (arbiterref07_below.j0 k a0 t504 a1_0 a1_1 a2_0 a2_1)))
end
end Go.Proofs.YtaipkdglhfhhiaaGreatDoor.Pt

namespace Go.Proofs.YtaipkdglhfhhiaaGreatDoor.Pt
open Go.RowKit Go.Proofs.YtaipkdglhfhhiaaGreatDoorW.PrintWords Go.Proofs.YtaipkdglhfhhiaaGreatDoorW.PrintLast Go.Proofs.YtaipkdglhfhhiaaGreatDoorW.PrintMore
attribute [local go_sem] max2_int min2_int max_two min_two max_three min_three max_four min_four   -- for this text's walks alone
set_option linter.unusedVariables false
set_option linter.unusedSimpArgs false
def arbiterref07_Sub.f (k : Nat) (a0 : List S85) (a1_0 : Int) (a1_1 : ByteArray) (a2_0 : Int) (a2_1 : ByteArray) : Option (Bool × Int) := (arbiterref07_Loaded.f k a0 a1_0 a1_1).bind fun t519 => (if t519 = 0 then ((arbiterref07_Loaded.f k a0 a2_0 a2_1).bind fun t520 => (if t520 = 0 then ((arbiterref07_below.f k a0 a1_0 a1_1 a2_0 a2_1).bind fun t521 => (some (t521, 0))) else (some (false, t520)))) else (some (false, t519)))
def arbiterref15_TestTypes.j0 : Nat → List S85 → Bool → Bool → Int → ByteArray → Int → ByteArray → Option (Bool × Int × Int)
 | 0, _, _, _, _, _, _, _ => none
 | k + 1, x0, x6, x37, x523000, x523001, x524000, x524001 => if x37 = true then ((arbiterref06_ByName.f k x0 x523001).bind fun bt526 => ((arbiterref06_ByName.f k x0 x524001).bind fun bt528 => ((arbiterref15_Test.f k x0 bt526.1 bt528.1).bind fun bt530 => (some (x6, bt530.2.1, 0))))) else (some (x6, 1, 0))
def arbiterref15_TestTypes.f (k : Nat) (a0 : List S85) (a1_0 : Int) (a1_1 : ByteArray) (a2_0 : Int) (a2_1 : ByteArray) : Option (Bool × Int × Int) := (arbiterref07_Sub.f k a0 a1_0 a1_1 a2_0 a2_1).bind fun bt524 => (if bt524.2 = 0 then (if a1_0 = a2_0 then (if a1_1.toList = ([] : List UInt8) then (arbiterref15_TestTypes.j0 k a0 bt524.1 false a1_0 a1_1 a2_0 a2_1) else (arbiterref15_TestTypes.j0 k a0 bt524.1 (a2_1.toList != ([] : List UInt8)) a1_0 a1_1 a2_0 a2_1)) else (arbiterref15_TestTypes.j0 k a0 bt524.1 false a1_0 a1_1 a2_0 a2_1)) else (some (false, 0, bt524.2)))
def arbiterref06_Depth.f (k : Nat) (a0 : List S85) (a1 : Int) : Option (Int × Int) := (arbiterref06_Chain.f k a0 a1).bind fun bt533 => (if bt533.2 = 0 then (some (wrap64 ((bt533.1.length : Int) - 1), 0)) else (some (0, bt533.2)))
def arbiterref15_Deepest.l0 : Nat → List S85 → Int → Int → Option (Int)
 | 0, _, _, _ => none
 | k + 1, x0, x3, x4 => if x4 < (x0.length : Int) then ((arbiterref06_Depth.f k x0 x4).bind fun bt537 => (if bt537.1 > x3 then (arbiterref15_Deepest.l0 k x0 bt537.1 (wrap64 (x4 + 1))) else (arbiterref15_Deepest.l0 k x0 x3 (wrap64 (x4 + 1))))) else (some x3)
def arbiterref15_Deepest.f (k : Nat) (a0 : List S85) : Option (Int) := arbiterref15_Deepest.l0 k a0 0 0
def arbiterref06_SameNums.l0 : Nat → List Int → List Int → Int → Option (Bool)
 | 0, _, _, _ => none
 | k + 1, x0, x1, x5 => if x5 < (x0.length : Int) then (if 0 ≤ x5 then (if x5 < (x1.length : Int) then (if (rd x0 x5) = (rd x1 x5) then (arbiterref06_SameNums.l0 k x0 x1 (wrap64 (x5 + 1))) else (some false)) else (none)) else (none)) else (some true)
def arbiterref06_SameNums.f (k : Nat) (l0 : List Int) (l1 : List Int) : Option (Bool) := if (l0.length : Int) = (l1.length : Int) then (arbiterref06_SameNums.l0 k l0 l1 0) else (some false)
def arbiterref15_Same.f (k : Nat) (l0_0 : List Int) (l0_1 : List Int) (l0_2 : List Int) (l1_0 : List Int) (l1_1 : List Int) (l1_2 : List Int) : Option (Bool) := (arbiterref06_SameNums.f k l0_0 l1_0).bind fun t543 => (if t543 = true then ((arbiterref06_SameNums.f k l0_1 l1_1).bind fun t544 => (if t544 = true then ((arbiterref06_SameNums.f k l0_2 l1_2).bind fun t545 => (some t545)) else (some false))) else (some false))
end Go.Proofs.YtaipkdglhfhhiaaGreatDoor.Pt

namespace Go.Proofs.YtaipkdglhfhhiaaGreatDoor.Hi
open Go Go.RowKit Go.Proofs.YtaipkdglhfhhiaaGreatDoor.Nm Go.Proofs.YtaipkdglhfhhiaaGreatDoorW.PrintWords Go.Proofs.YtaipkdglhfhhiaaGreatDoorW.PrintLast Go.Proofs.YtaipkdglhfhhiaaGreatDoorW.PrintMore Go.Proofs.YtaipkdglhfhhiaaGreatDoor.Pt
set_option linter.unusedVariables false
set_option linter.unusedSimpArgs false
set_option maxRecDepth 100000
def superF (es : List Ent) (i : Int) : Int × Int := if 0 ≤ i ∧ i < es.length then (if (ent es i).above < 0 then (0, 6) else ((ent es i).above, 0)) else (0, 3)
def depthF (es : List Ent) (i : Int) : Int × Int := if 0 ≤ i ∧ i < es.length then ((ent es i).depth, 0) else (0, 3)
def closureF (es : List Ent) (i : Int) : List Int × Int := if 0 ≤ i ∧ i < es.length then ((ent es i).clo, 0) else ([], 3)
def chainF (es : List Ent) (i : Int) : List Int × Int := if 0 ≤ i ∧ i < es.length then (chL es i, 0) else ([], 3)
def rcL (es : List Ent) (i : Int) : List Int := (chL es i).reverse
def buildF (es : List Ent) (i : Int) : List Int × List Int × List Int × Int := if 0 ≤ i ∧ i < es.length then ((rcL es i).take 8, (rcL es i).drop 8, (ent es i).clo, 0) else ([], [], [], 3)
def atF (p q : List Int) (d : Int) : Int := if d < p.length then p.getD d.toNat 0 else if 8 ≤ d ∧ d - 8 < q.length then q.getD (d - 8).toNat 0 else -1
def scanN (t : Int) : List Int → Int
 | [] => 0
 | x :: l => if x = t then 1 else 1 + scanN t l
def lookF (es : List Ent) (s t : Int) : Bool × Int :=
 if isI (ent es t).c = true ∧ s = t then (true, 1)
 else if isI (ent es t).c = false then (atF (buildF es s).1 (buildF es s).2.1 (ent es t).depth == t, 1)
 else (decide (t ∈ (ent es s).clo), 1 + scanN t (ent es s).clo)
def testF (es : List Ent) (s t : Int) : Bool × Int × Int :=
 if 0 ≤ s ∧ s < es.length then (if 0 ≤ t ∧ t < es.length then ((lookF es s t).1, (lookF es s t).2, 0) else (false, 0, 3)) else (false, 0, 3)
theorem atF_split (l : List Int) {d : Int} (h0 : 0 ≤ d) : atF (l.take 8) (l.drop 8) d = if d < l.length then l.getD d.toNat 0 else -1 := by
 unfold atF; rw [List.length_take, List.length_drop]
 by_cases h1 : d < 8
 ·by_cases h2 : d < l.length
  ·rw [if_pos (by omega), if_pos h2, List.getD_eq_getElem?_getD, List.getD_eq_getElem?_getD, List.getElem?_take_of_lt (by omega)]
  ·rw [if_neg (by omega), if_neg (by omega), if_neg h2]
 ·by_cases h2 : d < l.length
  ·rw [if_neg (by omega), if_pos (by omega), if_pos h2, List.getD_eq_getElem?_getD, List.getD_eq_getElem?_getD, List.getElem?_drop, show 8 + (d - 8).toNat = d.toNat by omega]
  ·rw [if_neg (by omega), if_neg (by omega), if_neg h2]
theorem look_ext {es : List Ent} (h : Thy es) {s t : Int} (hs0 : 0 ≤ s) (hs1 : s < es.length) (ht0 : 0 ≤ t) (ht1 : t < es.length) : (lookF es s t).1 = extF es s t := by
 have ht := h.good.tree; unfold lookF extF inB; rw [decide_eq_true (⟨hs0, hs1⟩ : 0 ≤ s ∧ s < (es.length : Int)), decide_eq_true (⟨ht0, ht1⟩ : 0 ≤ t ∧ t < (es.length : Int))]
 cases hi : isI (ent es t).c with
 | true =>
  by_cases he : s = t
  ·rw [if_pos ⟨rfl, he⟩]
   simp [he]
  ·rw [if_neg (fun h2 => he h2.2), if_neg (by decide)]
   simp [he]
 | false =>
  rw [if_neg (fun h2 => by cases h2.1), if_pos rfl]; have hd := ht.depth_ ht0 ht1; unfold buildF; rw [if_pos ⟨hs0, hs1⟩]
  show (atF ((rcL es s).take 8) ((rcL es s).drop 8) (ent es t).depth == t) = _
  rw [atF_split _ hd.1]; have hl := chL_len ht hs0 hs1
  have hrl : ((rcL es s).length : Int) = (ent es s).depth + 1 := by rw [rcL, List.length_reverse]; exact hl
  simp only [Bool.and_self, if_true, Bool.false_eq_true, if_false]
  by_cases hle : (ent es t).depth ≤ (ent es s).depth
  ·have ha := chL_at ht hs0 hs1 (ent es t).depth.toNat (by omega)
   rw [if_pos (by omega), List.getD_eq_getElem?_getD, rcL, ha, show ((ent es t).depth.toNat : Int) = (ent es t).depth by omega]
   rfl
  ·rw [if_neg (by omega), climb_end (by omega)]
   have h1 : (-1 == t) = false := beq_eq_false_iff_ne.2 (by omega); have h2 : (s == t) = false := beq_eq_false_iff_ne.2 (fun e => by rw [e] at hle; omega); rw [h1, h2]
theorem test_in {es : List Ent} (h : Thy es) {s t : Int} (hs : 0 ≤ s ∧ s < es.length) (ht : 0 ≤ t ∧ t < es.length) : testF es s t = (extF es s t, (lookF es s t).2, 0) := by
 unfold testF; rw [if_pos hs, if_pos ht, look_ext h hs.1 hs.2 ht.1 ht.2]
end Go.Proofs.YtaipkdglhfhhiaaGreatDoor.Hi

namespace Go.Proofs.YtaipkdglhfhhiaaGreatDoor.Hi
open Go Go.RowKit Go.Proofs.YtaipkdglhfhhiaaGreatDoor.Nm Go.Proofs.YtaipkdglhfhhiaaGreatDoorW.PrintWords Go.Proofs.YtaipkdglhfhhiaaGreatDoorW.PrintLast Go.Proofs.YtaipkdglhfhhiaaGreatDoorW.PrintMore Go.Proofs.YtaipkdglhfhhiaaGreatDoor.Pt
set_option linter.unusedVariables false
set_option linter.unusedSimpArgs false
set_option maxHeartbeats 2000000
set_option maxRecDepth 100000
theorem depth_any (w : World) (g : Nat) (es : List Ent) (hq : WOK w g es) (i : Int) :
  Calls Tryz.prog 75 #[.pointer (some ⟨g, 0, none⟩), .int .i64 i] w fun e w' => e = .returned (.tuple #[.int .i64 (depthF es i).1, .int .i64 (depthF es i).2]) ∧ Below w.heap.size w w' := by
 generalize hV : depthF es i = V; replace hV := Lib.hid hV; unfold depthF at hV
 by_cases hi : 0 ≤ i ∧ i < es.length
 ·obtain ⟨p, A2, c2, A5, c5, A8, c8, hb, l2, g2, l5, g5, l8, R8, HA⟩ := at_in hq hi.1 hi.2
  rw [if_pos hi] at hV; have CA := Lib.hid (HA w (Below.refl _ _)); generalize ent es i = x at *; replace hb := Lib.hid hb; have hz := hV.out; subst hz; clear HA hq l2 g2 l5 g5 l8 R8 hV; go_enter Tryz.func75, Tryz.ntmps75; go_wp2_with fail; refine CA.out.mono ?_; rintro e w1 ⟨rfl, hb1⟩; have p7 : w1.cell? ⟨p, 7, none⟩ = some (.int .i64 x.depth) := (blk_cell (blk_below hb.out hb1) 7).trans rfl; replace hb1 := Lib.hid hb1; clear CA; go_wp2; go_ret2
  exact ⟨rfl, hb1.out⟩
 ·have CA := Lib.hid (at_out hq hi w (Below.refl _ _))
  rw [if_neg hi] at hV; have hz := hV.out; subst hz; clear hq hV; go_enter Tryz.func75, Tryz.ntmps75; go_wp2_with fail; refine CA.out.mono ?_; rintro e w1 ⟨rfl, hb1⟩; replace hb1 := Lib.hid hb1; clear CA; go_wp2; go_ret2
  exact ⟨rfl, hb1.out⟩
theorem closure_any (w : World) (g : Nat) (es : List Ent) (hq : WOK w g es) (i : Int) :
  Calls Tryz.prog 71 #[.pointer (some ⟨g, 0, none⟩), .int .i64 i] w fun e w' => ∃ v, e = .returned (.tuple #[v, .int .i64 (closureF es i).2]) ∧ Kd.R (Kd.int .i64) 3 w' w.heap.size (fun _ => True) v (closureF es i).1 ∧ Below w.heap.size w w' := by
 generalize hV : closureF es i = V; replace hV := Lib.hid hV; unfold closureF at hV
 by_cases hi : 0 ≤ i ∧ i < es.length
 ·have hcl := (hq.fine _ (List.mem_of_getElem? (get_ent hi.1 hi.2))).2.2
  obtain ⟨p, A2, c2, A5, c5, A8, c8, hb, l2, g2, l5, g5, l8, ⟨base, R8⟩, HA⟩ := at_in hq hi.1 hi.2; rw [if_pos hi] at hV; have CA := Lib.hid (HA w (Below.refl _ _)); generalize ent es i = x at *; have CL := Lib.hid (fun (W : World) (hb : Below w.heap.size w W) => cloneInt A8 c8 x.clo W (Kd.C_below (Kd.R_reads' R8).2.2 hb) (by omega)); replace hb := Lib.hid hb; have hz := hV.out; subst hz; clear HA hq l2 g2 l5 g5 l8 R8 hV; go_enter Tryz.func71, Tryz.ntmps71; go_wp2_with fail; refine CA.out.mono ?_; rintro e w1 ⟨rfl, hb1⟩; have p8 : w1.cell? ⟨p, 8, none⟩ = some (.slice A8 x.clo.length c8) := (blk_cell (blk_below hb.out hb1) 8).trans rfl; have C2 := Lib.hid (CL.out w1 hb1); replace hb1 := Lib.hid hb1; clear CA CL; go_wp2_with fail; refine C2.out.mono ?_; rintro e w2 ⟨v, rfl, R2, hb2⟩; obtain ⟨A9, c9, rfl⟩ := Kd.R_slice R2; have R3 := Lib.hid (Kd.R_lower R2 hb1.out.size); replace hb2 := Lib.hid hb2; clear C2 R2; go_wp2; go_ret2
  exact ⟨_, rfl, R3.out, hb1.out.trans (hb2.out.mono hb1.out.size)⟩
 ·have CA := Lib.hid (at_out hq hi w (Below.refl _ _))
  rw [if_neg hi] at hV; have hz := hV.out; subst hz; clear hq hV; go_enter Tryz.func71, Tryz.ntmps71; go_wp2_with fail; refine CA.out.mono ?_; rintro e w1 ⟨rfl, hb1⟩; replace hb1 := Lib.hid hb1; clear CA; go_wp2; go_ret2
  exact ⟨_, rfl, Kd.R_nil _ _ _ _ _, hb1.out⟩
theorem chain_any (w : World) (g : Nat) (es : List Ent) (hq : WOK w g es) (i : Int) :
  Calls Tryz.prog 69 #[.pointer (some ⟨g, 0, none⟩), .int .i64 i] w fun e w' => ∃ v, e = .returned (.tuple #[v, .int .i64 (chainF es i).2]) ∧ Kd.R (Kd.int .i64) 3 w' w.heap.size (fun _ => True) v (chainF es i).1 ∧ Below w.heap.size w w' := by
 generalize hV : chainF es i = V; replace hV := Lib.hid hV; unfold chainF at hV
 by_cases hi : 0 ≤ i ∧ i < es.length
 ·obtain ⟨p, A2, c2, A5, c5, A8, c8, hb, l2, g2, l5, g5, l8, _, HA⟩ := at_in hq hi.1 hi.2
  rw [if_pos hi] at hV; have CA := Lib.hid (HA w (Below.refl _ _)); have HW := Lib.hid hq; have hlen := hq.len; have hz := hV.out; subst hz; clear HA hb l2 g2 l5 g5 l8 hV; have hgl := Lib.hid hq.inn; clear hq; go_enter Tryz.func69, Tryz.ntmps69; go_wp2
  go_step3
  go_wp2_with fail; refine CA.out.mono ?_; rintro e w1 ⟨rfl, hb1⟩; replace hb1 := Lib.hid hb1; clear CA; go_wp2
  go_step3
  go_wp2
  go_loopw [1, 6] (fun v1 v6 wr => ∃ (c : Int) (acc : List Int), v1 = .int .i64 c ∧ Hid (0 ≤ c ∧ c < es.length) ∧ Hid (Kd.R (Kd.int .i64) 3 wr w.heap.size (fun _ => True) v6 acc) ∧ Hid (acc ++ chL es c = chL es i) ∧ Hid (acc.length + c.toNat ≤ i.toNat) ∧ Hid (Below w.heap.size w wr)) (fun v1 _ _ => (intOf v1).toNat)
  case atStart => exact ⟨i, [], rfl, Lib.hid hi, Lib.hid (Kd.R_nil _ _ _ _ _), Lib.hid rfl, Lib.hid (by simp), hb1⟩
  case round =>
   clear hb1; obtain ⟨c, acc, rfl, hc, hR, hA, hL, hbr⟩ := hrel; obtain ⟨Aa, ca, rfl⟩ := Kd.R_slice hR.out
   have hll : acc.length ≤ 1000 := by
    have h1 := hL.out; have h2 := hc.out
    omega
   obtain ⟨base, v, mb, ps, h⟩ := hgl.out; obtain ⟨Av, cv, rfl⟩ := Kd.R_slice h.row; obtain ⟨hnl, ad, p2, A2', c2', A5', c5', A8', c8', rfl, hrow, hent, _, _, _⟩ := WIn_all_at h hc.out.1 hc.out.2; have hg0 : w.cell? ⟨g, 0, none⟩ = some (.slice (some ad) ps.length cv) := (blk_cell h.blk 0).trans rfl; have u6 : w.cell? ⟨p2, 6, none⟩ = some (.int .i64 (ent es c).above) := (blk_cell hent 6).trans rfl
   have hlt2 : c < (ps.length : Int) := by have := hc.out.2; omega
   have hge2 : 0 ≤ c := hc.out.1; have HT := Lib.hid HW.out.tree; replace hg0 := Lib.hid hg0; replace hrow := Lib.hid hrow; replace u6 := Lib.hid u6; clear h hent; have hll2 : Hid ((acc ++ [c]).length = acc.length + 1) := Lib.hid (by simp)
   by_cases ha : (ent es c).above < 0
   ·have hd : decide ((ent es c).above < 0) = true := decide_eq_true ha
    have hF : Hid (acc ++ [c] = chL es i) := Lib.hid (by rw [← hA.out, chL_top HT.out hc.out.1 hc.out.2 ha]); clear hA; generalize (ent es c).above = ab at *; clear ha; go_wp2_with (at_builtin; refine Kd.R_append (Kd.int .i64) (w0 := w) (W := wr) w.heap.size rfl (.tmp 11) (.tmp 13) 49 3 (.int .i64 0) 8 rfl Tryz.underlying49 info_int rfl (by decide) (by omega) _ acc c [.int .i64 c] (fun _ => True) (fun _ => False) rfl rfl rfl (fun _ h => h.elim) (fun _ _ => trivial) hR.out hbr.out hbr.out.size (by omega) ?_; intro v1 w4 g1 g2 g3 g4; obtain ⟨A12, c12, rfl⟩ := Kd.R_slice g1; rw [hll2.out] at g1; replace g1 := Lib.hid g1; replace g2 := Lib.hid g2; clear g3 g4; have y0 := pw_cell_below g2.out hg0.out; have y1 := pw_cell_below g2.out hrow.out; have y2 := pw_cell_below g2.out u6.out); rw [Exit.noGoto_ret]; go_ret2
    exact ⟨_, rfl, by rw [← hF.out]; exact g1.out, g2.out⟩
   ·have hd : decide ((ent es c).above < 0) = false := decide_eq_false ha
    obtain ⟨e1, e2, e3⟩ := chL_step HT.out hc.out.1 hc.out.2 ha; have hF : Hid ((acc ++ [c]) ++ chL es (ent es c).above = chL es i) := Lib.hid (by rw [← hA.out, e1]; simp); have nr : Hid (0 ≤ (ent es c).above ∧ (ent es c).above < es.length) := Lib.hid ⟨e2, by have := hc.out.2; omega⟩; have nl : Hid ((acc ++ [c]).length + (ent es c).above.toNat ≤ i.toNat) := Lib.hid (by rw [hll2.out]; have := hL.out; omega); clear hA e1; generalize (ent es c).above = ab at *; clear ha; go_wp2_with (at_builtin; refine Kd.R_append (Kd.int .i64) (w0 := w) (W := wr) w.heap.size rfl (.tmp 11) (.tmp 13) 49 3 (.int .i64 0) 8 rfl Tryz.underlying49 info_int rfl (by decide) (by omega) _ acc c [.int .i64 c] (fun _ => True) (fun _ => False) rfl rfl rfl (fun _ h => h.elim) (fun _ _ => trivial) hR.out hbr.out hbr.out.size (by omega) ?_; intro v1 w4 g1 g2 g3 g4; obtain ⟨A12, c12, rfl⟩ := Kd.R_slice g1; rw [hll2.out] at g1; replace g1 := Lib.hid g1; replace g2 := Lib.hid g2; clear g3 g4; have y0 := pw_cell_below g2.out hg0.out; have y1 := pw_cell_below g2.out hrow.out; have y2 := pw_cell_below g2.out u6.out)
    exact ⟨⟨ab, acc ++ [c], rfl, nr, g1, hF, nl, g2⟩, by simp [intOf]; omega⟩
 ·have CA := Lib.hid (at_out hq hi w (Below.refl _ _))
  rw [if_neg hi] at hV; have hz := hV.out; subst hz; clear hq hV; go_enter Tryz.func69, Tryz.ntmps69; go_wp2
  go_step3
  go_wp2_with fail; refine CA.out.mono ?_; rintro e w1 ⟨rfl, hb1⟩; replace hb1 := Lib.hid hb1; clear CA; go_wp2; rw [Exit.noGoto_ret]; go_ret2
  exact ⟨_, rfl, Kd.R_nil _ _ _ _ _, hb1.out⟩
end Go.Proofs.YtaipkdglhfhhiaaGreatDoor.Hi

namespace Go.Proofs.YtaipkdglhfhhiaaGreatDoor.Pt
open Go Go.RowKit Go.Proofs.YtaipkdglhfhhiaaGreatDoor.Nm Go.Proofs.YtaipkdglhfhhiaaGreatDoor.Hi Go.Proofs.YtaipkdglhfhhiaaGreatDoorW.PrintWords Go.Proofs.YtaipkdglhfhhiaaGreatDoorW.PrintLast Go.Proofs.YtaipkdglhfhhiaaGreatDoorW.PrintMore
set_option linter.unusedVariables false
set_option linter.unusedSimpArgs false
def hier_World_Len.f (a0 : List Hi.Ent) : Option Int := some (a0.length : Int)
def hier_World_Super.f (a0 : List Hi.Ent) (a1 : Int) : Option (Int × Int) := some (superF a0 a1)
def hier_World_Depth.f (a0 : List Hi.Ent) (a1 : Int) : Option (Int × Int) := some (depthF a0 a1)
theorem hier_World_Depth.calls (G_ : Nat) (a0 : List Hi.Ent) (a1 : Int) (r1 : Int) (r2 : Int) (w : World) (hq0 : WOK w G_ a0) (h : hier_World_Depth.f a0 a1 = some (r1, r2)) :
  Calls Tryz.prog 75 #[.pointer (some ⟨G_, 0, none⟩), .int .i64 a1] w fun e w' => e = .returned (.tuple #[.int .i64 r1, .int .i64 r2]) ∧ Below w.heap.size w w' := by
 have h := Option.some.inj h
 obtain rfl : (depthF a0 a1).1 = r1 := by rw [h]
 obtain rfl : (depthF a0 a1).2 = r2 := by rw [h]
 exact depth_any w G_ a0 hq0 a1
def hier_World_Closure.f (a0 : List Hi.Ent) (a1 : Int) : Option (List Int × Int) := some (closureF a0 a1)
theorem hier_World_Closure.calls (G_ : Nat) (a0 : List Hi.Ent) (a1 : Int) (r1 : List Int) (r2 : Int) (w : World) (hq0 : WOK w G_ a0) (h : hier_World_Closure.f a0 a1 = some (r1, r2)) :
  Calls Tryz.prog 71 #[.pointer (some ⟨G_, 0, none⟩), .int .i64 a1] w fun e w' => ∃ v0_ : Value, e = .returned (.tuple #[v0_, .int .i64 r2]) ∧ Kd.R (Kd.int .i64) 3 w' w.heap.size (fun _ => True) v0_ r1 ∧ Below w.heap.size w w' := by
 have h := Option.some.inj h
 obtain rfl : (closureF a0 a1).1 = r1 := by rw [h]
 obtain rfl : (closureF a0 a1).2 = r2 := by rw [h]
 exact closure_any w G_ a0 hq0 a1
def hier_World_Chain.f (a0 : List Hi.Ent) (a1 : Int) : Option (List Int × Int) := some (chainF a0 a1)
theorem hier_World_Chain.calls (G_ : Nat) (a0 : List Hi.Ent) (a1 : Int) (r1 : List Int) (r2 : Int) (w : World) (hq0 : WOK w G_ a0) (h : hier_World_Chain.f a0 a1 = some (r1, r2)) :
  Calls Tryz.prog 69 #[.pointer (some ⟨G_, 0, none⟩), .int .i64 a1] w fun e w' => ∃ v0_ : Value, e = .returned (.tuple #[v0_, .int .i64 r2]) ∧ Kd.R (Kd.int .i64) 3 w' w.heap.size (fun _ => True) v0_ r1 ∧ Below w.heap.size w w' := by
 have h := Option.some.inj h
 obtain rfl : (chainF a0 a1).1 = r1 := by rw [h]
 obtain rfl : (chainF a0 a1).2 = r2 := by rw [h]
 exact chain_any w G_ a0 hq0 a1
def slices_Clone_int_int.f (l0 : List Int) : Option (List Int) := if l0.length ≤ 1000000 then some l0 else none
theorem slices_Clone_int_int.calls (A0 : Option Addr) (c0 : Nat) (l0 : List Int) (r : List Int) (w : World) (hr0 : Kd.C (Kd.int .i64) w A0 l0.length l0) (hc0 : l0.length ≤ c0) (h : slices_Clone_int_int.f l0 = some r) :
  Calls Tryz.prog 72 #[.slice A0 l0.length c0] w fun e w' => ∃ v_ : Value, e = .returned v_ ∧ Kd.R (Kd.int .i64) 3 w' w.heap.size (fun _ => True) v_ r ∧ Below w.heap.size w w' := by
 obtain ⟨hl, h⟩ := if_some h; obtain rfl := Option.some.inj h
 exact cloneInt A0 c0 l0 w hr0 (by omega)
end Go.Proofs.YtaipkdglhfhhiaaGreatDoor.Pt

namespace Go.Proofs.YtaipkdglhfhhiaaGreatDoor.Pt
open Go.RowKit Go.Proofs.YtaipkdglhfhhiaaGreatDoorW.PrintWords Go.Proofs.YtaipkdglhfhhiaaGreatDoorW.PrintLast Go.Proofs.YtaipkdglhfhhiaaGreatDoorW.PrintMore
attribute [local go_sem] max2_int min2_int max_two min_two max_three min_three max_four min_four   -- for this text's walks alone
set_option linter.unusedVariables false
set_option linter.unusedSimpArgs false
def display_at.f (l0_0 : List Int) (l0_1 : List Int) (l0_2 : List Int) (a1 : Int) : Option (Int) := if a1 < (l0_0.length : Int) then (if 0 ≤ a1 then (some (rd l0_0 a1)) else (none)) else (if a1 ≥ 8 then (if (wrap64 (a1 - 8)) < (l0_1.length : Int) then (if 0 ≤ (wrap64 (a1 - 8)) then (some (rd l0_1 (wrap64 (a1 - 8)))) else (none)) else (some (-1))) else (some (-1)))
set_option maxHeartbeats 8000000 in
set_option maxRecDepth 100000 in
theorem display_at.calls (A0_0 : Option Addr) (c0_0 : Nat) (l0_0 : List Int) (A0_1 : Option Addr) (c0_1 : Nat) (l0_1 : List Int) (A0_2 : Option Addr) (c0_2 : Nat) (l0_2 : List Int) (a1 : Int) (r : Int) (w : World) (hr0_0 : Kd.C (Kd.int .i64) w A0_0 l0_0.length l0_0) (hc0_0 : l0_0.length ≤ c0_0) (hr0_1 : Kd.C (Kd.int .i64) w A0_1 l0_1.length l0_1) (hc0_1 : l0_1.length ≤ c0_1) (hr0_2 : Kd.C (Kd.int .i64) w A0_2 l0_2.length l0_2) (hc0_2 : l0_2.length ≤ c0_2) (h : display_at.f l0_0 l0_1 l0_2 a1 = some r) :
  Calls Tryz.prog 104 #[.agg #[.slice A0_0 l0_0.length c0_0, .slice A0_1 l0_1.length c0_1, .slice A0_2 l0_2.length c0_2], .int .i64 a1] w fun e w' => e = .returned (.int .i64 r) ∧ Below w.heap.size w w' := by
 have hu51 := Tryz.underlying51; have HR0_0 := Aside0.mk hr0_0; have HC0_0 := Aside0.mk hc0_0; clear hr0_0 hc0_0; have HR0_1 := Aside0.mk hr0_1; have HC0_1 := Aside0.mk hc0_1; clear hr0_1 hc0_1; have HR0_2 := Aside0.mk hr0_2; have HC0_2 := Aside0.mk hc0_2; clear hr0_2 hc0_2; have HB := Aside0.mk (Below.refl w.heap.size w); have H : (if a1 < (l0_0.length : Int) then (if 0 ≤ a1 then (some (rd l0_0 a1)) else (none)) else (if a1 ≥ 8 then (if (wrap64 (a1 - 8)) < (l0_1.length : Int) then (if 0 ≤ (wrap64 (a1 - 8)) then (some (rd l0_1 (wrap64 (a1 - 8)))) else (none)) else (some (-1))) else (some (-1)))) = some r := h; clear h
 by_cases c3 : a1 < (l0_0.length : Int)
 ·rw [if_pos c3] at H
  have c3b0 : decide (a1 < (l0_0.length : Int)) = true := decide_eq_true c3; clear c3
  by_cases c4 : 0 ≤ a1
  ·rw [if_pos c4] at H
   have c4b0 : decide (0 ≤ a1) = true := decide_eq_true c4; clear c4; obtain rfl := Option.some.inj H; go_enter Tryz.func104, Tryz.ntmps104; go_wp2_with (first | ((with_reducible refine gate_dst (N := 2) rfl ?_); (try (refine gate_guard (by rfl) ?_; dsimp only)); refine box_event ?hg (N := 2) ?hd (cs := #[.slice A0_0 l0_0.length c0_0, .slice A0_1 l0_1.length c0_1, .slice A0_2 l0_2.length c0_2]) (t := 51) ?hr ?_; (case hd => rfl); (case hg => rfl); (case hr => first | (go_simp; done) | (go_simp; rfl)); intro gb425 hg w5 hbox hb; have n0_ := Aside0.mk (below_step (bX HB) hb); have n1_ := Aside0.mk (hbox); have n2_ := Aside0.mk ((by rw [hg]; exact (below_size (bX HB)) : w.heap.size ≤ gb425)); have n3_ := Aside0.mk ((by rw [hg]; exact (below_size (bX HB)) : w.heap.size ≤ gb425)); clear HB; have HB := n0_; have BK425 := n1_; have GW425 := n2_; have GE425 := n3_; clear n0_ n1_ n2_ n3_; clear hb hbox hg; have hcz6_0 : w5.cell? ⟨gb425, 0, none⟩ = some (.slice A0_0 l0_0.length c0_0) := (blk_cell BK425.out 0).trans rfl; have hcz6_1 : w5.cell? ⟨gb425, 1, none⟩ = some (.slice A0_1 l0_1.length c0_1) := (blk_cell BK425.out 1).trans rfl; have hcz6_2 : w5.cell? ⟨gb425, 2, none⟩ = some (.slice A0_2 l0_2.length c0_2) := (blk_cell BK425.out 2).trans rfl; have hfz6_0 := blk_frozen BK425.out 0; have hfz6_1 := blk_frozen BK425.out 1; have hfz6_2 := blk_frozen BK425.out 2; have p426 : 0 ≤ (a1 : Int) := of_decide_eq_true (by first | (with_reducible assumption) | assumption); have q426 : a1 < (l0_0.length : Int) := of_decide_eq_true (by first | (with_reducible assumption) | assumption); obtain ⟨ad426, e426, hx426_0⟩ := Kd.at_int HR0_0.out a1 p426 q426; cases e426; replace hx426_0 := (HB.out.cell (World.block_lt_of_cell? w _ hx426_0)).trans hx426_0; replace p426 := eq_true p426; replace q426 := eq_true q426)); go_ret
   exact ⟨by first | rfl | (simp [errW_none, errW_some] <;> rfl) | (simp [*, errW_none, errW_some] <;> rfl), bX1 HB GE425⟩
  ·rw [if_neg c4] at H
   exact absurd H (by simp)
 ·rw [if_neg c3] at H
  have c3b0 : decide (a1 < (l0_0.length : Int)) = false := decide_eq_false c3; clear c3
  by_cases c7 : a1 ≥ 8
  ·rw [if_pos c7] at H
   have c7b0 : decide (8 ≤ a1) = true := decide_eq_true c7; clear c7
   by_cases c8 : (wrap64 (a1 - 8)) < (l0_1.length : Int)
   ·rw [if_pos c8] at H
    have c8b0 : decide ((wrap64 (a1 - 8)) < (l0_1.length : Int)) = true := decide_eq_true c8; clear c8
    obtain ⟨ji9, hji9⟩ : ∃ j_ : Int, (wrap64 (a1 - 8)) = j_ := ⟨_, rfl⟩
    replace H : (if 0 ≤ (ji9) then (some (rd l0_1 (ji9))) else (none)) = some r := by first | (rw [hji9] at H; exact H) | (simp only [hji9] at H ⊢; exact H)
    (try rw [hji9] at c8b0)
    have hji9w : (IntKind.i64.wrap (a1 - 8)) = ji9 := (i64_w _).trans hji9
    by_cases c10 : 0 ≤ (ji9)
    ·rw [if_pos c10] at H
     have c10b0 : decide (0 ≤ (ji9)) = true := decide_eq_true c10; clear c10; obtain rfl := Option.some.inj H; go_enter Tryz.func104, Tryz.ntmps104; go_wp2_with (first | ((with_reducible refine gate_dst (N := 2) rfl ?_); (try (refine gate_guard (by rfl) ?_; dsimp only)); refine box_event ?hg (N := 2) ?hd (cs := #[.slice A0_0 l0_0.length c0_0, .slice A0_1 l0_1.length c0_1, .slice A0_2 l0_2.length c0_2]) (t := 51) ?hr ?_; (case hd => rfl); (case hg => rfl); (case hr => first | (go_simp; done) | (go_simp; rfl)); intro gb425 hg w11 hbox hb; have n0_ := Aside0.mk (below_step (bX HB) hb); have n1_ := Aside0.mk (hbox); have n2_ := Aside0.mk ((by rw [hg]; exact (below_size (bX HB)) : w.heap.size ≤ gb425)); have n3_ := Aside0.mk ((by rw [hg]; exact (below_size (bX HB)) : w.heap.size ≤ gb425)); clear HB; have HB := n0_; have BK425 := n1_; have GW425 := n2_; have GE425 := n3_; clear n0_ n1_ n2_ n3_; clear hb hbox hg; have hcz12_0 : w11.cell? ⟨gb425, 0, none⟩ = some (.slice A0_0 l0_0.length c0_0) := (blk_cell BK425.out 0).trans rfl; have hcz12_1 : w11.cell? ⟨gb425, 1, none⟩ = some (.slice A0_1 l0_1.length c0_1) := (blk_cell BK425.out 1).trans rfl; have hcz12_2 : w11.cell? ⟨gb425, 2, none⟩ = some (.slice A0_2 l0_2.length c0_2) := (blk_cell BK425.out 2).trans rfl; have hfz12_0 := blk_frozen BK425.out 0; have hfz12_1 := blk_frozen BK425.out 1; have hfz12_2 := blk_frozen BK425.out 2; have p427 : 0 ≤ ((ji9) : Int) := of_decide_eq_true (by first | (with_reducible assumption) | assumption); have q427 : (ji9) < (l0_1.length : Int) := of_decide_eq_true (by first | (with_reducible assumption) | assumption); obtain ⟨ad427, e427, hx427_0⟩ := Kd.at_int HR0_1.out (ji9) p427 q427; cases e427; replace hx427_0 := (HB.out.cell (World.block_lt_of_cell? w _ hx427_0)).trans hx427_0; replace p427 := eq_true p427; replace q427 := eq_true q427)); go_ret
     exact ⟨by first | rfl | (simp [errW_none, errW_some] <;> rfl) | (simp only [← hji9]; first | rfl | (simp [errW_none, errW_some] <;> rfl)) | (simp [*, errW_none, errW_some] <;> rfl), bX1 HB GE425⟩
    ·rw [if_neg c10] at H
     exact absurd H (by simp)
   ·rw [if_neg c8] at H
    have c8b0 : decide ((wrap64 (a1 - 8)) < (l0_1.length : Int)) = false := decide_eq_false c8; clear c8; obtain rfl := Option.some.inj H; go_enter Tryz.func104, Tryz.ntmps104; go_wp2_with (first | ((with_reducible refine gate_dst (N := 2) rfl ?_); (try (refine gate_guard (by rfl) ?_; dsimp only)); refine box_event ?hg (N := 2) ?hd (cs := #[.slice A0_0 l0_0.length c0_0, .slice A0_1 l0_1.length c0_1, .slice A0_2 l0_2.length c0_2]) (t := 51) ?hr ?_; (case hd => rfl); (case hg => rfl); (case hr => first | (go_simp; done) | (go_simp; rfl)); intro gb425 hg w13 hbox hb; have n0_ := Aside0.mk (below_step (bX HB) hb); have n1_ := Aside0.mk (hbox); have n2_ := Aside0.mk ((by rw [hg]; exact (below_size (bX HB)) : w.heap.size ≤ gb425)); have n3_ := Aside0.mk ((by rw [hg]; exact (below_size (bX HB)) : w.heap.size ≤ gb425)); clear HB; have HB := n0_; have BK425 := n1_; have GW425 := n2_; have GE425 := n3_; clear n0_ n1_ n2_ n3_; clear hb hbox hg; have hcz14_0 : w13.cell? ⟨gb425, 0, none⟩ = some (.slice A0_0 l0_0.length c0_0) := (blk_cell BK425.out 0).trans rfl; have hcz14_1 : w13.cell? ⟨gb425, 1, none⟩ = some (.slice A0_1 l0_1.length c0_1) := (blk_cell BK425.out 1).trans rfl; have hcz14_2 : w13.cell? ⟨gb425, 2, none⟩ = some (.slice A0_2 l0_2.length c0_2) := (blk_cell BK425.out 2).trans rfl; have hfz14_0 := blk_frozen BK425.out 0; have hfz14_1 := blk_frozen BK425.out 1; have hfz14_2 := blk_frozen BK425.out 2)); go_ret
    exact ⟨by first | rfl | (simp [errW_none, errW_some] <;> rfl) | (simp [*, errW_none, errW_some] <;> rfl), bX1 HB GE425⟩
  ·rw [if_neg c7] at H
   have c7b0 : decide (8 ≤ a1) = false := decide_eq_false c7; clear c7; obtain rfl := Option.some.inj H; go_enter Tryz.func104, Tryz.ntmps104; go_wp2_with (first | ((with_reducible refine gate_dst (N := 2) rfl ?_); (try (refine gate_guard (by rfl) ?_; dsimp only)); refine box_event ?hg (N := 2) ?hd (cs := #[.slice A0_0 l0_0.length c0_0, .slice A0_1 l0_1.length c0_1, .slice A0_2 l0_2.length c0_2]) (t := 51) ?hr ?_; (case hd => rfl); (case hg => rfl); (case hr => first | (go_simp; done) | (go_simp; rfl)); intro gb425 hg w15 hbox hb; have n0_ := Aside0.mk (below_step (bX HB) hb); have n1_ := Aside0.mk (hbox); have n2_ := Aside0.mk ((by rw [hg]; exact (below_size (bX HB)) : w.heap.size ≤ gb425)); have n3_ := Aside0.mk ((by rw [hg]; exact (below_size (bX HB)) : w.heap.size ≤ gb425)); clear HB; have HB := n0_; have BK425 := n1_; have GW425 := n2_; have GE425 := n3_; clear n0_ n1_ n2_ n3_; clear hb hbox hg; have hcz16_0 : w15.cell? ⟨gb425, 0, none⟩ = some (.slice A0_0 l0_0.length c0_0) := (blk_cell BK425.out 0).trans rfl; have hcz16_1 : w15.cell? ⟨gb425, 1, none⟩ = some (.slice A0_1 l0_1.length c0_1) := (blk_cell BK425.out 1).trans rfl; have hcz16_2 : w15.cell? ⟨gb425, 2, none⟩ = some (.slice A0_2 l0_2.length c0_2) := (blk_cell BK425.out 2).trans rfl; have hfz16_0 := blk_frozen BK425.out 0; have hfz16_1 := blk_frozen BK425.out 1; have hfz16_2 := blk_frozen BK425.out 2)); go_ret
   exact ⟨by first | rfl | (simp [errW_none, errW_some] <;> rfl) | (simp [*, errW_none, errW_some] <;> rfl), bX1 HB GE425⟩
end Go.Proofs.YtaipkdglhfhhiaaGreatDoor.Pt

namespace Go.Proofs.YtaipkdglhfhhiaaGreatDoor.Pt
open Go.RowKit Go.Proofs.YtaipkdglhfhhiaaGreatDoorW.PrintWords Go.Proofs.YtaipkdglhfhhiaaGreatDoorW.PrintLast Go.Proofs.YtaipkdglhfhhiaaGreatDoorW.PrintMore
attribute [local go_sem] max2_int min2_int max_two min_two max_three min_three max_four min_four   -- for this text's walks alone
set_option linter.unusedVariables false
set_option linter.unusedSimpArgs false
def slices_Reverse_int_int.l0 : Nat → List Int → Int → Int → Option (List Int)
 | 0, _, _, _ => none
 | k + 1, x0, x2, x3 => if x2 < x3 then (if 0 ≤ x3 then (if x3 < (x0.length : Int) then (if 0 ≤ x2 then (if x2 < (x0.length : Int) then (slices_Reverse_int_int.l0 k ((x0.set (x2 : Int).toNat (rd x0 x3)).set (x3 : Int).toNat (rd x0 x2)) (wrap64 (x2 + 1)) (wrap64 (x3 - 1))) else (none)) else (none)) else (none)) else (none)) else (some x0)
def slices_Reverse_int_int.f (k : Nat) (l0 : List Int) : Option (List Int) := slices_Reverse_int_int.l0 k l0 0 (wrap64 ((l0.length : Int) - 1))
def slices_Reverse_int_int.T3 : Bool × List (List Nat × List Nat) := (true, [([], []), ([], []), ([], []), ([], []), ([], []), ([], []), ([4, 5], [4, 5]), ([6], [6]), ([], []), ([], []), ([8, 9], [8, 9]), ([10], [10]), ([0, 1, 0, 1, 4, 5, 6, 7, 11], [0, 1]), ([12, 7, 0, 1, 4, 5, 6, 7, 11], [7, 12]), ([2, 3, 0, 1, 2, 3, 4, 5, 6, 7, 8, 9, 10, 11, 12, 13], [2, 3]), ([14, 11, 13, 0, 1, 2, 3, 4, 5, 6, 7, 8, 9, 10, 11, 12, 13], [11, 14])])
def slices_Reverse_int_int.B3 : List Nat := [0, 0, 0, 0, 0, 0, 48, 112, 0, 0, 768, 1792, 4083, 8179, 16383, 32767]
theorem slices_Reverse_int_int.tab3 : rtab .any (opsOf Tryz.f70 3) = slices_Reverse_int_int.T3 := by kernel_rfl
theorem slices_Reverse_int_int.bits3 : waitsOk slices_Reverse_int_int.T3.2 slices_Reverse_int_int.B3 = true := by kernel_rfl
set_option maxHeartbeats 8000000 in
set_option maxRecDepth 100000 in
theorem slices_Reverse_int_int.calls (k : Nat) (P0_ : Nat → Prop) (u9000_ : Value) (l0 : List Int) (r : List Int) (w0 w : World) (hB : Below w0.heap.size w0 w) (ho0 : Kd.R (Kd.int .i64) 3 w w0.heap.size P0_ u9000_ l0) (h : slices_Reverse_int_int.f k l0 = some r) :
  Calls Tryz.prog 70 #[u9000_] w fun e w' => e = .returned (.tuple #[]) ∧ Kd.R (Kd.int .i64) 3 w' w0.heap.size (fun k_ => (P0_ k_ ∨ w.heap.size ≤ k_)) u9000_ r ∧ Below w0.heap.size w0 w' ∧ Kept w w' (fun k_ => P0_ k_) := by
 have HO0 := Aside0.mk (show Kd.R (Kd.int .i64) 3 w w0.heap.size (fun k_ => (P0_ k_ ∨ w.heap.size ≤ k_)) u9000_ l0 from Kd.R_mono ho0 (fun k_ hk => (.inl hk))); have HK := Aside0.mk (Kept.refl w (fun k_ => P0_ k_)); have HW0 := Aside0.mk hB.size; have HB := Aside0.mk hB; clear hB; have H : (slices_Reverse_int_int.l0 k l0 0 (wrap64 ((l0.length : Int) - 1))) = some r := h; clear h; have H' := Aside0.mk H; clear H; obtain ⟨Ao2, co2, eo2⟩ := Kd.R_slice HO0.out; subst eo2; go_enter Tryz.func70, Tryz.ntmps70; go_wp2
 go_loopg [2, 3] k (fun kq v2 v3 w' => ∃ (x0_1 : List Int) (x2_1 : Int) (x3_1 : Int), v2 = .int .i64 x2_1 ∧ v3 = .int .i64 x3_1 ∧ Aside0 (slices_Reverse_int_int.l0 kq x0_1 x2_1 x3_1 = some r) ∧ Aside0 (kq ≤ k) ∧ Aside0 (Kd.R (Kd.int .i64) 3 w' w0.heap.size (fun k_ => (P0_ k_ ∨ w.heap.size ≤ k_)) (.slice Ao2 l0.length co2) x0_1) ∧ Aside0 (Kept w w' (fun k_ => P0_ k_)) ∧ Aside0 (Below w0.heap.size w0 w'))
 case atStart => exact ⟨(l0), (0), (wrap64 ((l0.length : Int) - 1)), (by first | rfl | (simp; done) | (simp [*]; done)), (by first | rfl | (simp; done) | (simp [*]; done)), H', ⟨Nat.le_refl _⟩, ⟨rX HO0⟩, ⟨by repeat (first | (with_reducible first | exact HK.out | apply Kept.alloc | apply Kept.drewN | apply Kept.drew) | exact HK.out)⟩, ⟨bX HB⟩⟩
 case round =>
  clear H'
  try clear p2
  obtain ⟨x0_1, x2_1, x3_1, rfl, rfl, HA, HK1, HO_0, HK, HB⟩ := hrel; have hl0_1 := (Kd.R_reads' HO_0.out).1; rw [hl0_1] at HO_0
  (try simp only [hl0_1])
  cases gk with
  | zero => exact absurd HA.out (by simp [slices_Reverse_int_int.l0])
  | succ k1 =>
   have H := HA.out; clear HA; simp only [slices_Reverse_int_int.l0] at H
   by_cases c3 : x2_1 < x3_1
   ·rw [if_pos c3] at H
    have c3b0 : decide (x2_1 < x3_1) = true := decide_eq_true c3; clear c3
    by_cases c4 : 0 ≤ x3_1
    ·rw [if_pos c4] at H
     have c4b0 : decide (0 ≤ x3_1) = true := decide_eq_true c4; clear c4
     by_cases c5 : x3_1 < (x0_1.length : Int)
     ·rw [if_pos c5] at H
      have c5b0 : decide (x3_1 < (x0_1.length : Int)) = true := decide_eq_true c5; clear c5
      by_cases c6 : 0 ≤ x2_1
      ·rw [if_pos c6] at H
       have c6b0 : decide (0 ≤ x2_1) = true := decide_eq_true c6; clear c6
       by_cases c7 : x2_1 < (x0_1.length : Int)
       ·rw [if_pos c7] at H
        have c7b0 : decide (x2_1 < (x0_1.length : Int)) = true := decide_eq_true c7; clear c7
        obtain ⟨y430, hy430⟩ : ∃ y_ : List Int, y_ = (x0_1.set (x2_1 : Int).toNat (rd x0_1 x3_1)) := ⟨_, rfl⟩
        replace H : (slices_Reverse_int_int.l0 k1 (y430.set (x3_1 : Int).toNat (rd x0_1 x2_1)) (wrap64 (x2_1 + 1)) (wrap64 (x3_1 - 1))) = some r := by first | (rw [hy430]; with_reducible exact H) | (have H2_ := (Option.bind_some _ _).symm.trans H; rw [hy430]; with_reducible exact H2_) | (have H2_ := (Option.bind_some _ _).symm.trans H; with_reducible exact H2_) | with_reducible exact H | (rw [hy430]; exact H) | exact H
        have Ny430 := Aside0.mk hy430; clear hy430
        obtain ⟨y431, hy431⟩ : ∃ y_ : List Int, y_ = (y430.set (x3_1 : Int).toNat (rd x0_1 x2_1)) := ⟨_, rfl⟩
        replace H : (slices_Reverse_int_int.l0 k1 y431 (wrap64 (x2_1 + 1)) (wrap64 (x3_1 - 1))) = some r := by first | (rw [hy431]; with_reducible exact H) | (have H2_ := (Option.bind_some _ _).symm.trans H; rw [hy431]; with_reducible exact H2_) | (have H2_ := (Option.bind_some _ _).symm.trans H; with_reducible exact H2_) | with_reducible exact H | (rw [hy431]; exact H) | exact H
        have Ny431 := Aside0.mk hy431; clear hy431; have H' := Aside0.mk H; clear H
        try go_wp2
        have n0_ := Aside0.mk (Kd.R_drew HO_0.out); have n1_ := Aside0.mk (Kept.drew HK.out); have n2_ := Aside0.mk (below_drew1 HB.out); clear HO_0; clear HK; clear HB; have HO_0 := n0_; have HK := n1_; have HB := n2_; clear n0_ n1_ n2_; have p428 : 0 ≤ (x3_1 : Int) := of_decide_eq_true (by first | (with_reducible assumption) | assumption); have q428 : x3_1 < (x0_1.length : Int) := of_decide_eq_true (by first | (with_reducible assumption) | assumption); obtain ⟨ad428, e428, hx428_0⟩ := Kd.at_int (Kd.R_reads' HO_0.out).2.2 x3_1 p428 q428
        cases e428
        replace p428 := eq_true p428; replace q428 := eq_true q428; have p429 : 0 ≤ (x2_1 : Int) := of_decide_eq_true (by first | (with_reducible assumption) | assumption); have q429 : x2_1 < (x0_1.length : Int) := of_decide_eq_true (by first | (with_reducible assumption) | assumption); obtain ⟨ad429, e429, hx429_0⟩ := Kd.at_int (Kd.R_reads' HO_0.out).2.2 x2_1 p429 q429
        obtain rfl : ad428 = ad429 := (by injection e429)
        replace p429 := eq_true p429; replace q429 := eq_true q429; have p8 : 0 ≤ (x2_1 : Int) := of_decide_eq_true (by first | (with_reducible assumption) | assumption); have q8 : (x2_1 : Int) < ((x0_1.length : Int) : Int) := of_decide_eq_true (by first | (with_reducible assumption) | assumption); obtain ⟨go8, co8, eo8, gb8, gl8, cl8, HG8⟩ := Kd.R_form HO_0.out (by omega)
        (first | cases eo8 | (injection eo8 with ea_ en_ ec_; (first | subst ea_ | (injection ea_ with ea_; subst ea_)); subst ec_; clear en_))
        have GB8 := Aside0.mk gb8; have GG8 := Aside0.mk HG8; clear gb8 gl8 HG8; have HMgo8 := Aside0.mk (show (P0_ go8 ∨ w.heap.size ≤ go8) from (HO_0.out.1 _ rfl))
        (first | simp only [add_plain] at hx428_0 | skip)
        (first | simp only [add_plain] at hx429_0 | skip)
        obtain ⟨hx8_0, hf8_0⟩ := Kd.R_celln 0 HO_0.out (x2_1 : Int) p8 q8; replace p8 := eq_true p8; replace q8 := eq_true q8; have HP11 := Kd.R_putn HO_0.out (x2_1 : Int) (rd x0_1 x3_1); rw [← Ny430.out] at HP11; have HQ11 := Aside0.mk HP11; clear HP11; have p9 : 0 ≤ (x3_1 : Int) := of_decide_eq_true (by first | (with_reducible assumption) | assumption); have q9 : (x3_1 : Int) < ((x0_1.length : Int) : Int) := of_decide_eq_true (by first | (with_reducible assumption) | assumption); obtain ⟨hx9_0, hf9_0⟩ := Kd.R_celln 0 HQ11.out (x3_1 : Int) p9 q9; replace p9 := eq_true p9; replace q9 := eq_true q9; have HP12 := Kd.R_putn HQ11.out (x3_1 : Int) (rd x0_1 x2_1); rw [← Ny431.out] at HP12; have HQ12 := Aside0.mk HP12; clear HP12; refine start_ (n := 16) (S := fun w' => w'.cell? ⟨go8, (x3_1).toNat, none⟩ = some (.int .i64 (rd x0_1 x3_1)) ∧ w'.cell? ⟨go8, (x2_1).toNat, none⟩ = some (.int .i64 (rd x0_1 x2_1))) (ds := [13, 15]) #[false, false, false, false, false, false, false, false, false, false, false, false, false, false, false, false] (by kernel_rfl) rfl rfl ⟨hx428_0, hx429_0⟩ (fun hHeld => ?_); refine with_tabW slices_Reverse_int_int.tab3 slices_Reverse_int_int.bits3 (fun HT_ HW_ => ?_); generalize wr.drew = w10 at HO_0 HK HB GG8 HQ11 HQ12 hf8_0 hf9_0 hx428_0 hx429_0 hx8_0 hx9_0 hHeld ⊢; refine pX HT_ 0 (some 14) ?_; refine pX HT_ 1 (some 15) ?_; refine pX HT_ 2 (some 16) ?_; refine pX HT_ 3 (some 17) ?_; refine pX HT_ 4 (some 18) ?_; refine pX HT_ 5 (some 19) ?_; refine pX HT_ 6 (some 20) ?_; refine pX HT_ 8 (some 22) ?_; refine pX HT_ 9 (some 23) ?_; refine pX HT_ 10 (some 24) ?_; refine tX HT_ HW_ hHeld 7 (some 21) ?_; refine tX HT_ HW_ hHeld 11 (some 25) ?_; refine pX HT_ 12 (some 26) ?_; refine last_ (i := 13) (N := none) #[true, true, true, true, true, true, true, true, true, true, true, true, true, true, false, false] rfl rfl (one_of HT_.out (by kernel_rfl)) (by decide) (fun K hK => ?_); refine skip_ (w1 := ?_) (by rfl) rfl ?_ ?_; rotate_left
        ·go_simp
         rfl
        refine hK.out _ _ ?_; clear hK K; refine pX HT_ 14 (some 27) ?_; refine last_ (i := 15) (N := none) #[true, true, true, true, true, true, true, true, true, true, true, true, true, true, true, true] rfl rfl (one_of HT_.out (by kernel_rfl)) (by decide) (fun K hK => ?_); refine skip_ (w1 := ?_) (by rfl) rfl ?_ ?_; rotate_left
        ·go_simp
         rfl
        refine hK.out _ _ ?_; clear hK K; refine done_ (done_of HT_.out (by kernel_rfl)) ?_
        try go_wp2
        (try simp only [← hl0_1])
        go_roundg k1
        case measure => have := HK1.out; omega
        case rel => exact ⟨(y431), (wrap64 (x2_1 + 1)), (wrap64 (x3_1 - 1)), (by first | rfl | (simp; done) | (simp [*]; done)), (by first | rfl | (simp; done) | (simp [*]; done)), H', ⟨by have := HK1.out; omega⟩, ⟨by (try simp only [hl0_1]); (with_reducible repeat (first | apply Kd.R_alloc | apply Kd.R_drewN | apply Kd.R_drew)); exact HQ12.out⟩, ⟨by repeat (first | (with_reducible first | exact HK.out | apply Kept.alloc | apply Kept.drewN | apply Kept.drew | refine Kept.setCell ?_ HMgo8.out _ | refine Kept.setCell ?_ HMgo8.out _) | exact HK.out)⟩, ⟨by repeat (first | (with_reducible first | exact HB.out | apply below_alloc | apply pw_below_drewN | apply below_drew1 | refine below_set ?_ GB8.out | refine below_set ?_ GB8.out) | exact HB.out)⟩⟩
       ·rw [if_neg c7] at H
        exact absurd H (by simp)
      ·rw [if_neg c6] at H
       exact absurd H (by simp)
     ·rw [if_neg c5] at H
      exact absurd H (by simp)
    ·rw [if_neg c4] at H
     exact absurd H (by simp)
   ·rw [if_neg c3] at H
    have c3b0 : decide (x2_1 < x3_1) = false := decide_eq_false c3; clear c3; obtain rfl := Option.some.inj H; go_wp2
    first | go_end0 | ((try simp only [Exit.inBlock, Exit.then]); refine bodyPost_ret (results_none rfl _ _ _) rfl ?_)
    exact ⟨by first | rfl | (simp [errW_none, errW_some] <;> rfl) | (simp [*, errW_none, errW_some] <;> rfl), (by first | exact (rX HO_0) | (simp only [hl0_1]; exact (rX HO_0))), bX HB, by repeat (first | (with_reducible first | exact HK.out | apply Kept.alloc | apply Kept.drewN | apply Kept.drew) | exact HK.out)⟩
def display_Build.f (k : Nat) (a0 : List Hi.Ent) (a1 : Int) : Option (List Int × List Int × List Int × Int) := (hier_World_Chain.f a0 a1).bind fun bt433 => (if bt433.2 = 0 then ((slices_Reverse_int_int.f k bt433.1).bind fun t437 => ((hier_World_Closure.f a0 a1).bind fun bt438 => (if 0 ≤ (mn (bt433.1.length : Int) 8) then (if (mn (bt433.1.length : Int) 8) ≤ (bt433.1.length : Int) then ((slices_Clone_int_int.f (t437.take ((mn (bt433.1.length : Int) 8) : Int).toNat)).bind fun t446 => ((slices_Clone_int_int.f (t437.drop ((mn (bt433.1.length : Int) 8) : Int).toNat)).bind fun t453 => (some (t446, t453, bt438.1, 0)))) else (none)) else (none)))) else (some (([] : List Int), ([] : List Int), ([] : List Int), bt433.2)))
def display_Build.T9 : Bool × List (List Nat × List Nat) := (true, [([], []), ([], []), ([0, 1], [0, 1]), ([2], [2]), ([], []), ([], []), ([4, 5], [4, 5]), ([6, 3], [6]), ([], []), ([3, 7, 8], [3, 7, 8]), ([9, 7, 0, 1, 2, 3, 4, 5, 6, 7, 8, 9], [9]), ([10, 0, 1, 2, 3, 4, 5, 6, 7, 8, 9, 10], [])])
def display_Build.B9 : List Nat := [0, 0, 3, 7, 0, 0, 48, 127, 0, 511, 1023, 2047]
theorem display_Build.tab9 : rtab .any (opsOf Tryz.f26 9) = display_Build.T9 := by kernel_rfl
theorem display_Build.bits9 : waitsOk display_Build.T9.2 display_Build.B9 = true := by kernel_rfl
set_option maxHeartbeats 8000000 in
set_option maxRecDepth 100000 in
theorem display_Build.calls (k : Nat) (G_ : Nat) (a0 : List Hi.Ent) (a1 : Int) (r1 : List Int) (r2 : List Int) (r3 : List Int) (r4 : Int) (w : World) (hq0 : WOK w G_ a0) (h : display_Build.f k a0 a1 = some (r1, r2, r3, r4)) :
  Calls Tryz.prog 26 #[.pointer (some ⟨G_, 0, none⟩), .int .i64 a1] w fun e w' => ∃ v0_ v1_ v2_ : Value, e = .returned (.tuple #[.agg #[v0_, v1_, v2_], .int .i64 r4]) ∧ Kd.R (Kd.int .i64) 3 w' w.heap.size (fun k_ => some k_ ≠ (v1_ : Value).ownBlock ∧ some k_ ≠ (v2_ : Value).ownBlock) v0_ r1 ∧ Kd.R (Kd.int .i64) 3 w' w.heap.size (fun k_ => some k_ ≠ (v0_ : Value).ownBlock ∧ some k_ ≠ (v2_ : Value).ownBlock) v1_ r2 ∧ Kd.R (Kd.int .i64) 3 w' w.heap.size (fun k_ => some k_ ≠ (v0_ : Value).ownBlock ∧ some k_ ≠ (v1_ : Value).ownBlock) v2_ r3 ∧ Below w.heap.size w w' := by
 have hu51 := Tryz.underlying51; have HQa0 := Aside0.mk hq0; clear hq0; have HB := Aside0.mk (Below.refl w.heap.size w); have H : ((hier_World_Chain.f a0 a1).bind fun bt433 => (if bt433.2 = 0 then ((slices_Reverse_int_int.f k bt433.1).bind fun t437 => ((hier_World_Closure.f a0 a1).bind fun bt438 => (if 0 ≤ (mn (bt433.1.length : Int) 8) then (if (mn (bt433.1.length : Int) 8) ≤ (bt433.1.length : Int) then ((slices_Clone_int_int.f (t437.take ((mn (bt433.1.length : Int) 8) : Int).toNat)).bind fun t446 => ((slices_Clone_int_int.f (t437.drop ((mn (bt433.1.length : Int) 8) : Int).toNat)).bind fun t453 => (some (t446, t453, bt438.1, 0)))) else (none)) else (none)))) else (some (([] : List Int), ([] : List Int), ([] : List Int), bt433.2)))) = some (r1, r2, r3, r4) := h; clear h; replace H := Option.bind_eq_some_iff.mp H; obtain ⟨⟨t433, t434⟩, A30, H⟩ := H; replace H : (if t434 = 0 then ((slices_Reverse_int_int.f k t433).bind fun t437 => ((hier_World_Closure.f a0 a1).bind fun bt438 => (if 0 ≤ (mn (t433.length : Int) 8) then (if (mn (t433.length : Int) 8) ≤ (t433.length : Int) then ((slices_Clone_int_int.f (t437.take ((mn (t433.length : Int) 8) : Int).toNat)).bind fun t446 => ((slices_Clone_int_int.f (t437.drop ((mn (t433.length : Int) 8) : Int).toNat)).bind fun t453 => (some (t446, t453, bt438.1, 0)))) else (none)) else (none)))) else (some (([] : List Int), ([] : List Int), ([] : List Int), t434))) = some (r1, r2, r3, r4) := H; have A3 := Aside0.mk A30; clear A30
 by_cases c4 : t434 = 0
 ·rw [if_pos c4] at H
  have c4b0 : (t434 == 0) = true := beq_iff_eq.mpr c4; have c4b1 : (t434 != 0) = false := bne_eq_false_iff_eq.mpr c4; clear c4; replace H := Option.bind_eq_some_iff.mp H; obtain ⟨t437, A50, H⟩ := H; replace H : ((hier_World_Closure.f a0 a1).bind fun bt438 => (if 0 ≤ (mn (t433.length : Int) 8) then (if (mn (t433.length : Int) 8) ≤ (t433.length : Int) then ((slices_Clone_int_int.f (t437.take ((mn (t433.length : Int) 8) : Int).toNat)).bind fun t446 => ((slices_Clone_int_int.f (t437.drop ((mn (t433.length : Int) 8) : Int).toNat)).bind fun t453 => (some (t446, t453, bt438.1, 0)))) else (none)) else (none))) = some (r1, r2, r3, r4) := H; have A5 := Aside0.mk A50; clear A50
  obtain ⟨ji6, hji6⟩ : ∃ j_ : Int, (mn (t433.length : Int) 8) = j_ := ⟨_, rfl⟩
  replace H : ((hier_World_Closure.f a0 a1).bind fun bt438 => (if 0 ≤ (ji6) then (if (ji6) ≤ (t433.length : Int) then ((slices_Clone_int_int.f (t437.take ((ji6) : Int).toNat)).bind fun t446 => ((slices_Clone_int_int.f (t437.drop ((ji6) : Int).toNat)).bind fun t453 => (some (t446, t453, bt438.1, 0)))) else (none)) else (none))) = some (r1, r2, r3, r4) := by first | (rw [hji6] at H; exact H) | (simp only [hji6] at H ⊢; exact H)
  (try rw [hji6] at A3)
  (try rw [hji6] at A5)
  (try (have hji6h : ji6 ≤ 8 := by (rw [← hji6]; unfold mn; (repeat' split) <;> omega)))
  (try (have hji6g : ji6 ≤ 64 := by omega))
  (try (have hji6l : 0 ≤ ji6 := by (rw [← hji6]; unfold mn; (repeat' split) <;> omega)))
  (try (have hji6m : 0 ≤ ji6 := by omega))
  have hji6_ : (if 8 < (t433.length : Int) then 8 else (t433.length : Int)) = ji6 := hji6; replace H := Option.bind_eq_some_iff.mp H; obtain ⟨⟨t438, t439⟩, A70, H⟩ := H; replace H : (if 0 ≤ (ji6) then (if (ji6) ≤ (t433.length : Int) then ((slices_Clone_int_int.f (t437.take ((ji6) : Int).toNat)).bind fun t446 => ((slices_Clone_int_int.f (t437.drop ((ji6) : Int).toNat)).bind fun t453 => (some (t446, t453, t438, 0)))) else (none)) else (none)) = some (r1, r2, r3, r4) := H; have A7 := Aside0.mk A70; clear A70
  by_cases c8 : 0 ≤ (ji6)
  ·rw [if_pos c8] at H
   have c8b0 := eq_true c8; have c8b1 : decide (0 ≤ (ji6)) = true := decide_eq_true c8; clear c8
   by_cases c9 : (ji6) ≤ (t433.length : Int)
   ·rw [if_pos c9] at H
    have c9b0 := eq_true c9; have c9b1 : decide ((ji6) ≤ (t433.length : Int)) = true := decide_eq_true c9; clear c9
    obtain ⟨y442, hy442⟩ : ∃ y_ : List Int, y_ = (t437.take ((ji6) : Int).toNat) := ⟨_, rfl⟩
    replace H : ((slices_Clone_int_int.f y442).bind fun t446 => ((slices_Clone_int_int.f (t437.drop ((ji6) : Int).toNat)).bind fun t453 => (some (t446, t453, t438, 0)))) = some (r1, r2, r3, r4) := by first | (rw [hy442]; with_reducible exact H) | (have H2_ := (Option.bind_some _ _).symm.trans H; rw [hy442]; with_reducible exact H2_) | (have H2_ := (Option.bind_some _ _).symm.trans H; with_reducible exact H2_) | with_reducible exact H | (rw [hy442]; exact H) | exact H
    have Ny442 := Aside0.mk hy442; clear hy442; replace H := Option.bind_eq_some_iff.mp H; obtain ⟨t446, A100, H⟩ := H; replace H : ((slices_Clone_int_int.f (t437.drop ((ji6) : Int).toNat)).bind fun t453 => (some (t446, t453, t438, 0))) = some (r1, r2, r3, r4) := H; have A10 := Aside0.mk A100; clear A100; have c11b0 := eq_true (of_decide_eq_true (by first | (with_reducible assumption) | assumption) : 0 ≤ (ji6)); have c12b0 := eq_true (of_decide_eq_true (by first | (with_reducible assumption) | assumption) : (ji6) ≤ (t433.length : Int))
    obtain ⟨y449, hy449⟩ : ∃ y_ : List Int, y_ = (t437.drop ((ji6) : Int).toNat) := ⟨_, rfl⟩
    replace H : ((slices_Clone_int_int.f y449).bind fun t453 => (some (t446, t453, t438, 0))) = some (r1, r2, r3, r4) := by first | (rw [hy449]; with_reducible exact H) | (have H2_ := (Option.bind_some _ _).symm.trans H; rw [hy449]; with_reducible exact H2_) | (have H2_ := (Option.bind_some _ _).symm.trans H; with_reducible exact H2_) | with_reducible exact H | (rw [hy449]; exact H) | exact H
    have Ny449 := Aside0.mk hy449; clear hy449; replace H := Option.bind_eq_some_iff.mp H; obtain ⟨t453, A130, H⟩ := H; replace H : (some (t446, t453, t438, 0)) = some (r1, r2, r3, r4) := H; have A13 := Aside0.mk A130; clear A130; simp only [Option.some.injEq, Prod.mk.injEq] at H; obtain ⟨rfl, rfl, rfl, rfl⟩ := H; go_enter Tryz.func26, Tryz.ntmps26
    try go_wp2_with (first | ((with_reducible refine gate_dst (N := 4) rfl ?_); refine box_event ?hg (N := 4) ?hd (cs := #[.slice none 0 0, .slice none 0 0, .slice none 0 0]) (t := 51) ?hr ?_; (case hd => rfl); (case hg => rfl); (case hr => first | (go_simp; done) | (go_simp; rfl)); intro gb432 hg w14 hbox hb; have n0_ := Aside0.mk (below_step (bX HB) hb); have n1_ := Aside0.mk (hbox); have n2_ := Aside0.mk ((by rw [hg]; exact (below_size (bX HB)) : w.heap.size ≤ gb432)); have n3_ := Aside0.mk ((by rw [hg]; exact (below_size (bX HB)) : w.heap.size ≤ gb432)); clear HB; have HB := n0_; have BK432 := n1_; have GW432 := n2_; have GE432 := n3_; clear n0_ n1_ n2_ n3_; clear hb hbox hg) | ((with_reducible refine gate_callee (f := 69) rfl ?_); refine goesL_ (some 17) rfl rfl Tryz.func69 (by kernel_rfl) rfl #[.pointer (some ⟨G_, 0, none⟩), .int .i64 a1] rfl (by (try simp only [List.map_toArray, List.map_cons, List.map_nil]); first | done | rfl | (simp only [List.length_drop, List.length_take]; rfl)) ?_; (with_reducible refine (hier_World_Chain.calls G_ a0 a1 t433 t434 _ ?side1 A3.out).mono ?_); (case side1 => repeat (first | (with_reducible exact HQa0.out) | (with_reducible refine WOK.alloc ?_ _) | (with_reducible refine WOK.drewN ?_ _) | (with_reducible refine WOK.drew ?_) | exact WOK.below HQa0.out HB.out | exact WOK.below HQa0.out (bX1 HB GE432))); rintro e w15 ⟨v435, rfl, ho0, hb⟩; refine ⟨_, rfl, ?_⟩; have n0_ := Aside0.mk (Kd.R_lower ho0 (below_size (bX1 HB GE432))); have n1_ := Aside0.mk (blk_below (kX BK432) hb); have n2_ := Aside0.mk (below_step (bX1 HB GE432) hb); clear BK432; clear HB; have HO436 := n0_; have BK432 := n1_; have HB := n2_; clear n0_ n1_ n2_; (try clear hb); (try clear hb2); (try clear hk); (try clear hi); (try clear ho0); obtain ⟨Ao16, co16, eo16⟩ := Kd.R_slice HO436.out; subst eo16) | ((with_reducible refine gate_callee (f := 70) rfl ?_); refine goesL_ (some 25) rfl rfl Tryz.func70 (by kernel_rfl) rfl #[.slice Ao16 t433.length co16] rfl (by (try simp only [List.map_toArray, List.map_cons, List.map_nil]); first | done | rfl | (simp only [List.length_drop, List.length_take]; rfl)) ?_; (with_reducible refine (slices_Reverse_int_int.calls k (fun k_ => some k_ = (.slice Ao16 t433.length co16 : Value).ownBlock) (.slice Ao16 t433.length co16) t433 t437 w _ ?side1 ?side2 A5.out).mono ?_); (case side1 => repeat (first | (with_reducible first | exact HB.out | apply below_alloc | apply pw_below_drewN | apply below_drew1 | refine below_set ?_ GE432.out) | exact HB.out)); (case side2 => exact Kd.R_tight rfl HO436.out); rintro e w17 ⟨rfl, hy0, hb, hkp⟩; refine ⟨_, rfl, ?_⟩; have n0_ := Aside0.mk (blk_kept (kX BK432) hkp (fun hs_ => (fun e_ => (Kd.R_ne HO436.out BK432.out (by decide)) e_) hs_)); have n1_ := Aside0.mk (Kd.R_reok rfl hy0 (fun k_ e_ => HO436.out.1 k_ e_)); have n2_ := Aside0.mk (hb); clear BK432; clear HO436; clear HB; have BK432 := n0_; have HO436 := n1_; have HB := n2_; clear n0_ n1_ n2_; (try clear hb); (try clear hkp); (try clear hy0)) | ((with_reducible refine gate_callee (f := 71) rfl ?_); refine goesL_ (some 32) rfl rfl Tryz.func71 (by kernel_rfl) rfl #[.pointer (some ⟨G_, 0, none⟩), .int .i64 a1] rfl (by (try simp only [List.map_toArray, List.map_cons, List.map_nil]); first | done | rfl | (simp only [List.length_drop, List.length_take]; rfl)) ?_; (with_reducible refine (hier_World_Closure.calls G_ a0 a1 t438 t439 _ ?side1 A7.out).mono ?_); (case side1 => repeat (first | (with_reducible exact HQa0.out) | (with_reducible refine WOK.alloc ?_ _) | (with_reducible refine WOK.drewN ?_ _) | (with_reducible refine WOK.drew ?_) | exact WOK.below HQa0.out HB.out | exact WOK.below HQa0.out (bX1 HB GE432))); rintro e w18 ⟨v440, rfl, ho0, hb⟩; refine ⟨_, rfl, ?_⟩; have n0_ := Aside0.mk (Kd.R_elder' (rX HO436) (Kd.R_base ho0) hb); have n1_ := Aside0.mk (Kd.R_lower (Kd.R_new' ho0 (Kd.R_lt (rX HO436))) (below_size (bX1 HB GE432))); have n2_ := Aside0.mk (blk_below (kX BK432) hb); have n3_ := Aside0.mk (below_step (bX1 HB GE432) hb); clear HO436; clear BK432; clear HB; have HO436 := n0_; have HO441 := n1_; have BK432 := n2_; have HB := n3_; clear n0_ n1_ n2_ n3_; (try clear hb); (try clear hb2); (try clear hk); (try clear hi); (try clear ho0)))
    have n0_ := Aside0.mk (Kd.R_drew HO436.out); have n1_ := Aside0.mk (Kd.R_drew HO441.out); have n2_ := Aside0.mk (blk_drew BK432.out); have n3_ := Aside0.mk (below_drew1 HB.out); clear HO436; clear HO441; clear BK432; clear HB; have HO436 := n0_; have HO441 := n1_; have BK432 := n2_; have HB := n3_; clear n0_ n1_ n2_ n3_; have hlx20 := (Kd.R_reads' HO436.out).1; have q20 : ((ji6) : Int) ≤ ((t433.length : Int) : Int) := of_decide_eq_true (by first | (with_reducible assumption) | assumption); obtain ⟨i020, hi020, _, hsz20, _⟩ := info_parts info3; have hroom20 : t433.length ≤ co16 := (Kd.R_reads' HO436.out).2.1
    have hroomc20 : t437.length ≤ co16 := (by rw [← hlx20]; exact hroom20)
    have hC20 : Kd.C (Kd.int .i64) _ Ao16 t437.length t437 := (Kd.R_reads' HO436.out).2.2; have hcut20 := cut_to (P := Tryz.prog) 49 3 .i64 Tryz.underlying49 hi020 Ao16 t433.length co16 (ji6) (of_decide_eq_true (by first | (with_reducible assumption) | assumption)) q20 hroom20; have hr20 := Kd.C_take (m := ((ji6) : Int).toNat) hC20 (by omega)
    have hy20 : y442.length = ((ji6) : Int).toNat := (by rw [Ny442.out, List.length_take]; omega)
    rw [← Ny442.out] at hr20; rw [← hy20] at hcut20; have HR445 := Aside0.mk hr20; have HC445 := Aside0.mk (show y442.length ≤ co16 from by omega); clear hr20 hC20 hroom20 hi020 hsz20 hroomc20; have KY20 := Aside0.mk hy20; clear hy20; have KE20 := Aside0.mk hlx20; have KL20 := Aside0.mk (show ((ji6) : Int).toNat ≤ t437.length from by omega); clear hlx20; replace q20 := eq_true q20; have hlx21 := (Kd.R_reads' HO436.out).1; have q21 : ((ji6) : Int) ≤ ((t433.length : Int) : Int) := of_decide_eq_true (by first | (with_reducible assumption) | assumption); obtain ⟨i021, hi021, _, hsz21, _⟩ := info_parts info3; have hroom21 : t433.length ≤ co16 := (Kd.R_reads' HO436.out).2.1
    have hroomc21 : t437.length ≤ co16 := (by rw [← hlx21]; exact hroom21)
    have hC21 : Kd.C (Kd.int .i64) _ Ao16 t437.length t437 := (Kd.R_reads' HO436.out).2.2; have q021 : (0 : Int) ≤ ((ji6) : Int) := of_decide_eq_true (by first | (with_reducible assumption) | assumption); have hcut21 := cut_from (P := Tryz.prog) 49 3 .i64 Tryz.underlying49 hi021 1 hsz21 Ao16 t433.length co16 (ji6) q021 q21; have hr21 := Kd.C_drop (m := ((ji6) : Int).toNat) (c := co16) hC21 (by omega) hroomc21
    obtain ⟨A21, hA21⟩ : ∃ A1, A1 = (if co16 = ((ji6) : Int).toNat then Ao16 else (Ao16 : Option Addr).map (·.add (((ji6) : Int).toNat * 1))) := ⟨_, rfl⟩
    obtain ⟨c21, hc21⟩ : ∃ c1, c1 = co16 - ((ji6) : Int).toNat := ⟨_, rfl⟩
    have hy21 : y449.length = t433.length - ((ji6) : Int).toNat := (by rw [Ny449.out, List.length_drop] <;> omega)
    rw [show (t437).drop ((ji6) : Int).toNat = y449 from Ny449.out.symm] at hr21
    replace hr21 : Kd.C (Kd.int .i64) _ A21 y449.length y449 := (by rw [hA21]; exact hr21)
    rw [← hy21, ← hA21, ← hc21] at hcut21; have HR452 := Aside0.mk hr21; have HC452 := Aside0.mk (show y449.length ≤ c21 from by rw [hy21, hc21]; exact Nat.sub_le_sub_right hroom21 _); clear hr21 hC21 hroom21 hi021 hsz21 hc21 hroomc21; have KY21 := Aside0.mk hy21; have KA21 := Aside0.mk hA21; clear hy21 hA21; have KE21 := Aside0.mk hlx21; have KL21 := Aside0.mk (show ((ji6) : Int).toNat ≤ t437.length from by omega); clear hlx21; replace q21 := eq_true q21; refine start_ (n := 12) (S := fun w' => True) (ds := []) #[false, false, false, false, false, false, false, false, false, false, false, false] (by kernel_rfl) rfl rfl trivial (fun hHeld => ?_); refine with_tabW display_Build.tab9 display_Build.bits9 (fun HT_ HW_ => ?_); generalize w18.drew = w19 at HO436 HO441 BK432 HB HR445 HR452 hHeld ⊢; refine pX HT_ 0 (some 35) ?_; refine pX HT_ 1 (some 36) ?_; refine pX HT_ 2 (some 37) ?_; refine pX HT_ 4 (some 39) ?_; refine pX HT_ 5 (some 40) ?_; refine pX HT_ 6 (some 41) ?_; refine pX HT_ 8 (some 43) ?_; refine oX HT_ 3 (some 38) (fun K hK => ?_); refine goes_ Tryz.func72 (by kernel_rfl) rfl #[.slice Ao16 y442.length co16] (by rfl) rfl rfl (by (try simp only [List.map_toArray, List.map_cons, List.map_nil]); first | done | rfl | (simp only [List.length_drop, List.length_take]; rfl)) ?_
    with_reducible refine (slices_Clone_int_int.calls _ _ y442 t446 _ ?side1 ?side2 A10.out).mono ?_
    (case side1 => repeat (first | exact (by repeat (first | (with_reducible exact HR445.out) | (with_reducible refine Kd.C_alloc ?_ _) | (with_reducible refine Kd.C_drewN ?_ _) | (with_reducible refine Kd.C_drew ?_) | exact HR445.out)) | (with_reducible refine Kd.C_alloc ?_ _) | (with_reducible refine Kd.C_drewN ?_ _) | (with_reducible refine Kd.C_drew ?_)))
    (case side2 => exact HC445.out)
    rintro e w22 ⟨v447, rfl, ho0, hb⟩; refine ⟨_, rfl, ?_⟩; have n0_ := Aside0.mk (Kd.R_elder' (rX HO436) (Kd.R_base ho0) hb); have n1_ := Aside0.mk (Kd.R_elder' (rX HO441) (Kd.R_base ho0) hb); have n2_ := Aside0.mk (Kd.R_lower (Kd.R_new' (Kd.R_new' ho0 (Kd.R_lt (rX HO436))) (Kd.R_lt (rX HO441))) (below_size (bX1 HB GE432))); have n3_ := Aside0.mk (blk_below (kX BK432) hb); have n4_ := Aside0.mk (Kd.C_below (by repeat (first | (with_reducible exact HR445.out) | (with_reducible refine Kd.C_alloc ?_ _) | (with_reducible refine Kd.C_drewN ?_ _) | (with_reducible refine Kd.C_drew ?_) | exact HR445.out)) hb); have n5_ := Aside0.mk (Kd.C_below (by repeat (first | (with_reducible exact HR452.out) | (with_reducible refine Kd.C_alloc ?_ _) | (with_reducible refine Kd.C_drewN ?_ _) | (with_reducible refine Kd.C_drew ?_) | exact HR452.out)) hb); have n6_ := Aside0.mk (below_step (bX1 HB GE432) hb); clear HO436; clear HO441; clear BK432; clear HR445; clear HR452; clear HB; have HO436 := n0_; have HO441 := n1_; have HO448 := n2_; have BK432 := n3_; have HR445 := n4_; have HR452 := n5_; have HB := n6_; clear n0_ n1_ n2_ n3_ n4_ n5_ n6_
    (try clear hb)
    (try clear hb2)
    (try clear hk)
    (try clear hi)
    (try clear ho0)
    refine hK.out _ _ trivial (fun hHeld => ?_); clear hK K; refine nX (some 38) ?_; refine oX HT_ 7 (some 42) (fun K hK => ?_); refine goes_ Tryz.func72 (by kernel_rfl) rfl #[.slice A21 y449.length c21] (by rfl) rfl rfl (by (try simp only [List.map_toArray, List.map_cons, List.map_nil]); first | done | rfl | (simp only [List.length_drop, List.length_take]; rfl)) ?_
    with_reducible refine (slices_Clone_int_int.calls _ _ y449 t453 _ ?side1 ?side2 A13.out).mono ?_
    (case side1 => repeat (first | exact (by repeat (first | (with_reducible exact HR452.out) | (with_reducible refine Kd.C_alloc ?_ _) | (with_reducible refine Kd.C_drewN ?_ _) | (with_reducible refine Kd.C_drew ?_) | exact HR452.out)) | (with_reducible refine Kd.C_alloc ?_ _) | (with_reducible refine Kd.C_drewN ?_ _) | (with_reducible refine Kd.C_drew ?_)))
    (case side2 => exact HC452.out)
    rintro e w23 ⟨v454, rfl, ho0, hb⟩; refine ⟨_, rfl, ?_⟩; have n0_ := Aside0.mk (Kd.R_elder' (rX HO436) (Kd.R_base ho0) hb); have n1_ := Aside0.mk (Kd.R_elder' (rX HO441) (Kd.R_base ho0) hb); have n2_ := Aside0.mk (Kd.R_elder' (rX HO448) (Kd.R_base ho0) hb); have n3_ := Aside0.mk (Kd.R_lower (Kd.R_new' (Kd.R_new' (Kd.R_new' ho0 (Kd.R_lt (rX HO436))) (Kd.R_lt (rX HO441))) (Kd.R_lt (rX HO448))) (below_size (bX1 HB GE432))); have n4_ := Aside0.mk (blk_below (kX BK432) hb); have n5_ := Aside0.mk (Kd.C_below (by repeat (first | (with_reducible exact HR445.out) | (with_reducible refine Kd.C_alloc ?_ _) | (with_reducible refine Kd.C_drewN ?_ _) | (with_reducible refine Kd.C_drew ?_) | exact HR445.out)) hb); have n6_ := Aside0.mk (Kd.C_below (by repeat (first | (with_reducible exact HR452.out) | (with_reducible refine Kd.C_alloc ?_ _) | (with_reducible refine Kd.C_drewN ?_ _) | (with_reducible refine Kd.C_drew ?_) | exact HR452.out)) hb); have n7_ := Aside0.mk (below_step (bX1 HB GE432) hb); clear HO436; clear HO441; clear HO448; clear BK432; clear HR445; clear HR452; clear HB; have HO436 := n0_; have HO441 := n1_; have HO448 := n2_; have HO455 := n3_; have BK432 := n4_; have HR445 := n5_; have HR452 := n6_; have HB := n7_; clear n0_ n1_ n2_ n3_ n4_ n5_ n6_ n7_
    (try clear hb)
    (try clear hb2)
    (try clear hk)
    (try clear hi)
    (try clear ho0)
    obtain ⟨Ao24, co24, eo24⟩ := Kd.R_slice HO441.out
    (first | subst eo24 | (injection eo24 with f1_ f2_ f3_; have f4_ := f1_.symm; have f5_ := f3_.symm; clear f1_ f2_ f3_; subst f4_; subst f5_))
    obtain ⟨Ao25, co25, eo25⟩ := Kd.R_slice HO455.out
    (first | subst eo25 | (injection eo25 with f1_ f2_ f3_; have f4_ := f1_.symm; have f5_ := f3_.symm; clear f1_ f2_ f3_; subst f4_; subst f5_))
    obtain ⟨Ao26, co26, eo26⟩ := Kd.R_slice HO448.out
    (first | subst eo26 | (injection eo26 with f1_ f2_ f3_; have f4_ := f1_.symm; have f5_ := f3_.symm; clear f1_ f2_ f3_; subst f4_; subst f5_))
    refine hK.out _ _ trivial (fun hHeld => ?_); clear hK K; refine nX (some 42) ?_; refine pX HT_ 9 (some 44) ?_; refine oX HT_ 10 none (fun K hK => ?_); have hs27 : w23.cell? ⟨gb432, 0, none⟩ = some (.slice none 0 0) := (blk_cell BK432.out 0).trans rfl; have hfs27 := blk_frozen BK432.out 0; have hs28 : w23.cell? ⟨gb432, 1, none⟩ = some (.slice none 0 0) := (blk_cell BK432.out 1).trans rfl; have hfs28 := blk_frozen BK432.out 1; have hs29 : w23.cell? ⟨gb432, 2, none⟩ = some (.slice none 0 0) := (blk_cell BK432.out 2).trans rfl; have hfs29 := blk_frozen BK432.out 2; refine skip_ (w1 := ?_) (by rfl) rfl ?_ ?_; rotate_left
    ·go_simp
     rfl
    refine hK.out _ _ trivial (fun hHeld => ?_); clear hK K; refine pX HT_ 11 (some 5) ?_; refine done_ (done_of HT_.out (by kernel_rfl)) ?_
    try go_wp2
    refine bodyPost_ret (results_ct rfl _ _ gb432 51 #[.slice Ao26 t446.length co26, .slice Ao25 t453.length co25, .slice Ao24 t438.length co24] (0, 0) _ rfl (by (with_reducible repeat (first | refine blk_drewN ?_ _ | refine blk_drew ?_ | refine blk_alloc ?_ _)); refine blk_put (cs := #[.slice Ao26 t446.length co26, .slice Ao25 t453.length co25, .slice none 0 0]) ?_ 2 _ rfl; (with_reducible repeat (first | refine blk_drewN ?_ _ | refine blk_drew ?_ | refine blk_alloc ?_ _)); refine blk_put (cs := #[.slice Ao26 t446.length co26, .slice none 0 0, .slice none 0 0]) ?_ 1 _ rfl; (with_reducible repeat (first | refine blk_drewN ?_ _ | refine blk_drew ?_ | refine blk_alloc ?_ _)); refine blk_put (cs := #[.slice none 0 0, .slice none 0 0, .slice none 0 0]) ?_ 0 _ rfl; (with_reducible repeat (first | refine blk_drewN ?_ _ | refine blk_drew ?_ | refine blk_alloc ?_ _)); exact BK432.out) Tryz.underlying51 rfl (by kernel_rfl)) rfl ?_
    exact ⟨_, _, _, by first | rfl | (simp [errW_none, errW_some] <;> rfl) | (simp only [← hji6]; first | rfl | (simp [errW_none, errW_some] <;> rfl)) | (simp [*, errW_none, errW_some] <;> rfl), by (with_reducible repeat (first | apply Kd.R_alloc | apply Kd.R_drewN | apply Kd.R_drew)); exact Kd.R_mono (Kd.R_far (p := ⟨gb432, 2, none⟩) (Kd.R_far (p := ⟨gb432, 1, none⟩) (Kd.R_far (p := ⟨gb432, 0, none⟩) (Kd.R_types HO448.out BK432.out (by decide)) (fun _ hk => hk.2) (.slice Ao26 t446.length co26)) (fun _ hk => hk.2) (.slice Ao25 t453.length co25)) (fun _ hk => hk.2) (.slice Ao24 t438.length co24)) (fun _ hk => ⟨hk.1.2, hk.1.1.2⟩), by (with_reducible repeat (first | apply Kd.R_alloc | apply Kd.R_drewN | apply Kd.R_drew)); exact Kd.R_mono (Kd.R_far (p := ⟨gb432, 2, none⟩) (Kd.R_far (p := ⟨gb432, 1, none⟩) (Kd.R_far (p := ⟨gb432, 0, none⟩) (Kd.R_types HO455.out BK432.out (by decide)) (fun _ hk => hk.2) (.slice Ao26 t446.length co26)) (fun _ hk => hk.2) (.slice Ao25 t453.length co25)) (fun _ hk => hk.2) (.slice Ao24 t438.length co24)) (fun _ hk => ⟨hk.1.2, hk.1.1.2⟩), by (with_reducible repeat (first | apply Kd.R_alloc | apply Kd.R_drewN | apply Kd.R_drew)); exact Kd.R_mono (Kd.R_far (p := ⟨gb432, 2, none⟩) (Kd.R_far (p := ⟨gb432, 1, none⟩) (Kd.R_far (p := ⟨gb432, 0, none⟩) (Kd.R_types HO441.out BK432.out (by decide)) (fun _ hk => hk.2) (.slice Ao26 t446.length co26)) (fun _ hk => hk.2) (.slice Ao25 t453.length co25)) (fun _ hk => hk.2) (.slice Ao24 t438.length co24)) (fun _ hk => ⟨hk.1.1.2, hk.1.2⟩), bX1 HB GE432⟩
   ·rw [if_neg c9] at H
    exact absurd H (by simp)
  ·rw [if_neg c8] at H
   exact absurd H (by simp)
 ·rw [if_neg c4] at H
  have c4b0 : (t434 == 0) = false := beq_eq_false_iff_ne.mpr c4; have c4b1 : (t434 != 0) = true := bne_iff_ne.mpr c4; simp only [Option.some.injEq, Prod.mk.injEq] at H; obtain ⟨rfl, rfl, rfl, rfl⟩ := H; go_enter Tryz.func26, Tryz.ntmps26; go_wp2_with (first | ((with_reducible refine gate_dst (N := 4) rfl ?_); refine box_event ?hg (N := 4) ?hd (cs := #[.slice none 0 0, .slice none 0 0, .slice none 0 0]) (t := 51) ?hr ?_; (case hd => rfl); (case hg => rfl); (case hr => first | (go_simp; done) | (go_simp; rfl)); intro gb432 hg w30 hbox hb; have n0_ := Aside0.mk (below_step (bX HB) hb); have n1_ := Aside0.mk (hbox); have n2_ := Aside0.mk ((by rw [hg]; exact (below_size (bX HB)) : w.heap.size ≤ gb432)); have n3_ := Aside0.mk ((by rw [hg]; exact (below_size (bX HB)) : w.heap.size ≤ gb432)); clear HB; have HB := n0_; have BK432 := n1_; have GW432 := n2_; have GE432 := n3_; clear n0_ n1_ n2_ n3_; clear hb hbox hg) | ((with_reducible refine gate_callee (f := 69) rfl ?_); refine goesL_ (some 17) rfl rfl Tryz.func69 (by kernel_rfl) rfl #[.pointer (some ⟨G_, 0, none⟩), .int .i64 a1] rfl (by (try simp only [List.map_toArray, List.map_cons, List.map_nil]); first | done | rfl | (simp only [List.length_drop, List.length_take]; rfl)) ?_; (with_reducible refine (hier_World_Chain.calls G_ a0 a1 t433 t434 _ ?side1 A3.out).mono ?_); (case side1 => repeat (first | (with_reducible exact HQa0.out) | (with_reducible refine WOK.alloc ?_ _) | (with_reducible refine WOK.drewN ?_ _) | (with_reducible refine WOK.drew ?_) | exact WOK.below HQa0.out HB.out | exact WOK.below HQa0.out (bX1 HB GE432))); rintro e w31 ⟨v435, rfl, ho0, hb⟩; refine ⟨_, rfl, ?_⟩; have n0_ := Aside0.mk (Kd.R_lower ho0 (below_size (bX1 HB GE432))); have n1_ := Aside0.mk (blk_below (kX BK432) hb); have n2_ := Aside0.mk (below_step (bX1 HB GE432) hb); clear BK432; clear HB; have HO436 := n0_; have BK432 := n1_; have HB := n2_; clear n0_ n1_ n2_; (try clear hb); (try clear hb2); (try clear hk); (try clear hi); (try clear ho0); have hcz32_0 : w31.cell? ⟨gb432, 0, none⟩ = some (.slice none 0 0) := (blk_cell BK432.out 0).trans rfl; have hcz32_1 : w31.cell? ⟨gb432, 1, none⟩ = some (.slice none 0 0) := (blk_cell BK432.out 1).trans rfl; have hcz32_2 : w31.cell? ⟨gb432, 2, none⟩ = some (.slice none 0 0) := (blk_cell BK432.out 2).trans rfl; have hfz32_0 := blk_frozen BK432.out 0; have hfz32_1 := blk_frozen BK432.out 1; have hfz32_2 := blk_frozen BK432.out 2)); refine bodyPost_ret (results_ct rfl _ _ gb432 51 #[.slice none 0 0, .slice none 0 0, .slice none 0 0] (0, 0) _ rfl (by (with_reducible repeat (first | refine blk_drewN ?_ _ | refine blk_drew ?_ | refine blk_alloc ?_ _)); refine blk_put (cs := #[.slice none 0 0, .slice none 0 0, .slice none 0 0]) ?_ 2 _ rfl; (with_reducible repeat (first | refine blk_drewN ?_ _ | refine blk_drew ?_ | refine blk_alloc ?_ _)); refine blk_put (cs := #[.slice none 0 0, .slice none 0 0, .slice none 0 0]) ?_ 1 _ rfl; (with_reducible repeat (first | refine blk_drewN ?_ _ | refine blk_drew ?_ | refine blk_alloc ?_ _)); refine blk_put (cs := #[.slice none 0 0, .slice none 0 0, .slice none 0 0]) ?_ 0 _ rfl; (with_reducible repeat (first | refine blk_drewN ?_ _ | refine blk_drew ?_ | refine blk_alloc ?_ _)); exact BK432.out) Tryz.underlying51 rfl (by kernel_rfl)) rfl ?_
  exact ⟨_, _, _, by first | rfl | (simp [errW_none, errW_some] <;> rfl) | (simp [*, errW_none, errW_some] <;> rfl), by first | exact Kd.R_nil _ _ _ _ _ | exact Kd.N_nil _ _ _ _ _ | exact Kd.V_nil _ _ _ _ _ | exact Kd.Q_nil _ _ _ _ _ | exact Kd.S_nil _ _ _ _ _, by first | exact Kd.R_nil _ _ _ _ _ | exact Kd.N_nil _ _ _ _ _ | exact Kd.V_nil _ _ _ _ _ | exact Kd.Q_nil _ _ _ _ _ | exact Kd.S_nil _ _ _ _ _, by first | exact Kd.R_nil _ _ _ _ _ | exact Kd.N_nil _ _ _ _ _ | exact Kd.V_nil _ _ _ _ _ | exact Kd.Q_nil _ _ _ _ _ | exact Kd.S_nil _ _ _ _ _, bX1 HB GE432⟩
def display_Deepest.l0 : Nat → List Hi.Ent → Int → Int → Int → Option (Int × Int)
 | 0, _, _, _, _ => none
 | k + 1, x0, x4, x11, x12 => if x12 < x11 then ((hier_World_Depth.f x0 x12).bind fun bt457 => (display_Deepest.l0 k x0 (mx x4 bt457.1) x11 (wrap64 (x12 + 1)))) else (some (x4, 0))
def display_Deepest.f (k : Nat) (a0 : List Hi.Ent) : Option (Int × Int) := (hier_World_Len.f a0).bind fun t456 => (display_Deepest.l0 k a0 0 t456 0)
end Go.Proofs.YtaipkdglhfhhiaaGreatDoor.Pt

namespace Go.Proofs.YtaipkdglhfhhiaaGreatDoor.Pt
open Go Go.RowKit Go.Proofs.YtaipkdglhfhhiaaGreatDoor.Nm Go.Proofs.YtaipkdglhfhhiaaGreatDoor.Hi Go.Proofs.YtaipkdglhfhhiaaGreatDoorW.PrintWords Go.Proofs.YtaipkdglhfhhiaaGreatDoorW.PrintLast Go.Proofs.YtaipkdglhfhhiaaGreatDoorW.PrintMore
set_option linter.unusedVariables false
set_option linter.unusedSimpArgs false
set_option maxHeartbeats 2000000
set_option maxRecDepth 100000
theorem rev_l0 (l : List Int) (hl : l.length ≤ 1000) : ∀ (k i : Nat) (acc : List Int), acc.length = l.length → l.length < k + i → i ≤ l.length →
  (∀ j, j < l.length → acc[j]? = if j < i ∨ l.length ≤ j + i then l[l.length - 1 - j]? else l[j]?) → slices_Reverse_int_int.l0 k acc (i : Int) ((l.length : Int) - 1 - i) = some l.reverse := by
 intro k
 induction k with
 | zero => intro i acc _ h1 h2 _; omega
 | succ k ih =>
  intro i acc ha h1 h2 hp; rw [slices_Reverse_int_int.l0]
  by_cases h : (i : Int) < (l.length : Int) - 1 - i
  ·obtain ⟨q, hq⟩ : ∃ q : Nat, (l.length : Int) - 1 - i = q := ⟨l.length - 1 - i, by omega⟩
   have hr : ∀ j : Nat, j < l.length → rd acc (j : Int) = (acc[j]?).getD 0 := fun j _ => by simp [rd, List.getD_eq_getElem?_getD]
   rw [if_pos h, hq, if_pos (by omega), if_pos (by omega), if_pos (by omega), if_pos (by omega), Int.toNat_natCast, Int.toNat_natCast, hr q (by omega), hr i (by omega), hp q (by omega), hp i (by omega)]; rw [if_neg (by omega), if_neg (by omega), show wrap64 ((i : Int) + 1) = ((i + 1 : Nat) : Int) by unfold wrap64; omega, show wrap64 ((q : Int) - 1) = (l.length : Int) - 1 - ((i + 1 : Nat) : Int) by unfold wrap64; omega]; refine ih (i + 1) _ (by simp [ha]) (by omega) (by omega) fun j hj => ?_
   have hg : ∀ m : Nat, m < l.length → some ((l[m]?).getD 0) = l[m]? := fun m hm => by rw [List.getElem?_eq_getElem hm]; rfl
   rw [List.getElem?_set, List.getElem?_set, List.length_set, ha]
   by_cases c1 : q = j
   ·subst c1
    rw [if_pos rfl, if_pos hj, if_pos (by omega), hg i (by omega)]
    congr 1
    omega
   ·rw [if_neg c1]
    by_cases c2 : i = j
    ·subst c2
     rw [if_pos rfl, if_pos hj, if_pos (by omega), hg q (by omega)]
     congr 1
     omega
    ·rw [if_neg c2, hp j hj]
     by_cases c3 : j < i ∨ l.length ≤ j + i
     ·rw [if_pos c3, if_pos (by omega)]
     ·rw [if_neg c3, if_neg (by omega)]
  ·rw [if_neg h]
   congr 1
   refine List.ext_getElem? fun j => ?_
   by_cases hj : j < l.length
   ·rw [hp j hj, List.getElem?_reverse hj]
    by_cases c3 : j < i ∨ l.length ≤ j + i
    ·rw [if_pos c3]
    ·rw [if_neg c3]
     congr 1
     omega
   ·rw [List.getElem?_eq_none (by omega), List.getElem?_eq_none (by rw [List.length_reverse]; omega)]
theorem rev_tot (l : List Int) (hl : l.length ≤ 1000) (k : Nat) (hk : l.length < k) : slices_Reverse_int_int.f k l = some l.reverse := by
 unfold slices_Reverse_int_int.f
 have := rev_l0 l hl k 0 l rfl (by omega) (by omega) fun j hj => by rw [if_neg (by omega)]
 rw [show wrap64 ((l.length : Int) - 1) = (l.length : Int) - 1 - ((0 : Nat) : Int) by unfold wrap64; omega]
 exact this
theorem build_tot (es : List Ent) (ht : Tree es) (hl : es.length ≤ 1000) (hc : ∀ x ∈ es, x.clo.length ≤ 1000) (k : Nat) (hk : 1000 < k) (i : Int) : display_Build.f k es i = some (buildF es i) := by
 unfold display_Build.f; rw [show hier_World_Chain.f es i = some (chainF es i) from rfl, Option.bind_some, show hier_World_Closure.f es i = some (closureF es i) from rfl]
 by_cases hi : 0 ≤ i ∧ i < es.length
 ·have h1 := chL_len ht hi.1 hi.2
  have h2 := ht.depth_ hi.1 hi.2
  have hcl : (chL es i).length ≤ 1000 := by omega
  rw [show chainF es i = (chL es i, 0) from if_pos hi, show closureF es i = ((ent es i).clo, 0) from if_pos hi, buildF, if_pos hi]
  show (if (0 : Int) = 0 then (slices_Reverse_int_int.f k (chL es i)).bind _ else _) = _
  rw [if_pos rfl, rev_tot _ hcl k (by omega), Option.bind_some, Option.bind_some]
  obtain ⟨m, hm, hm2⟩ : ∃ m : Nat, mn ((chL es i).length : Int) 8 = m ∧ m = min (chL es i).length 8 := ⟨_, by unfold mn; omega, rfl⟩
  show (if 0 ≤ mn ((chL es i).length : Int) 8 then _ else _) = _
  rw [hm, if_pos (by omega), if_pos (show (m : Int) ≤ ((chL es i).length : Int) by omega), Int.toNat_natCast]; unfold slices_Clone_int_int.f; rw [if_pos (by rw [List.length_take, List.length_reverse]; omega), Option.bind_some, if_pos (by rw [List.length_drop, List.length_reverse]; omega), Option.bind_some]
  have e1 : (chL es i).reverse.take m = (rcL es i).take 8 := by
   rw [hm2]; unfold rcL
   by_cases h8 : (chL es i).length ≤ 8
   ·rw [show min (chL es i).length 8 = (chL es i).reverse.length by rw [List.length_reverse]; omega, List.take_length, List.take_of_length_le (by rw [List.length_reverse]; exact h8)]
   ·rw [show min (chL es i).length 8 = 8 by omega]
  have e2 : (chL es i).reverse.drop m = (rcL es i).drop 8 := by
   rw [hm2]; unfold rcL
   by_cases h8 : (chL es i).length ≤ 8
   ·rw [List.drop_eq_nil_of_le (by rw [List.length_reverse]; omega), List.drop_eq_nil_of_le (by rw [List.length_reverse]; omega)]
   ·rw [show min (chL es i).length 8 = 8 by omega]
  rw [e1, e2]
 ·rw [show chainF es i = ([], 3) from if_neg hi, buildF, if_neg hi]
  rfl
theorem at_tot (p q r : List Int) (hp : p.length ≤ 1000) (hq : q.length ≤ 1000) (d : Int) (h0 : 0 ≤ d) (h1 : d ≤ 1000) : display_at.f p q r d = some (atF p q d) := by
 unfold display_at.f atF
 by_cases c1 : d < p.length
 ·rw [if_pos c1, if_pos h0, if_pos c1]
  rfl
 ·rw [if_neg c1, if_neg c1]
  by_cases c2 : d ≥ 8
  ·rw [if_pos c2, show wrap64 (d - 8) = d - 8 by unfold wrap64; omega]
   by_cases c3 : d - 8 < q.length
   ·rw [if_pos c3, if_pos (by omega), if_pos ⟨c2, c3⟩]
    rfl
   ·rw [if_neg c3, if_neg (fun h => c3 h.2)]
  ·rw [if_neg c2, if_neg (fun h => c2 h.1)]
theorem cell_heap {w w' : World} {ad : Addr} {i : Nat} (h : w'.heap[ad.block]? = w.heap[ad.block]?) : w'.cell? (ad.add i) = w.cell? (ad.add i) := by
 unfold World.cell?; rw [add_block, h]
theorem scan_at (l : List Int) (t : Int) (j : Nat) : ((∀ i, i < j → l[i]? ≠ some t) → l[j]? = some t → decide (t ∈ l) = true ∧ scanN t l = (j : Int) + 1) ∧ ((∀ i, i < j → l[i]? ≠ some t) → l.length ≤ j → decide (t ∈ l) = false ∧ scanN t l = (l.length : Int)) := by
 constructor
 ·intro h1 h2
  refine ⟨decide_eq_true (List.mem_of_getElem? h2), ?_⟩
  induction l generalizing j with
  | nil => simp at h2
  | cons x l ih =>
   rw [scanN]
   cases j with
   | zero =>
    rw [if_pos (by simpa using h2)]
    rfl
   | succ j =>
    have h0 := h1 0 (by omega); rw [if_neg (by simpa using h0), ih j (fun i hi => by have := h1 (i + 1) (by omega); simpa using this) (by simpa using h2)]; push_cast
    omega
 ·intro h1 h2
  refine ⟨decide_eq_false (fun hm => ?_), ?_⟩
  ·obtain ⟨i, hi⟩ := List.getElem?_of_mem hm
   have : i < l.length := by
    rcases Nat.lt_or_ge i l.length with h | h
    ·exact h
    ·rw [List.getElem?_eq_none h] at hi; cases hi
   exact h1 i (by omega) hi
  ·induction l generalizing j with
   | nil => rfl
   | cons x l ih =>
    rw [List.length_cons] at h2 ⊢; have h0 := h1 0 (by omega); rw [scanN, if_neg (by simpa using h0), ih (j - 1) (fun i hi => by have := h1 (i + 1) (by omega); simpa using this) (by omega)]; push_cast
    omega
theorem look_any (w wr : World) (g : Nat) (es : List Ent) (hq : WOK w g es) (hb : Below w.heap.size w wr) (br : Nat) (hbr : w.heap.size ≤ br) (n : Int) (h0 : 0 ≤ n) (h1 : n ≤ 1000) (hblk : wr.heap[br]? = some (.cells #[.int .i64 n] 3 (0, 0)))
  (s t : Int) (hs : 0 ≤ s ∧ s < es.length) (ht : 0 ≤ t ∧ t < es.length) :
  Calls Tryz.prog 67 #[.pointer (some ⟨g, 0, none⟩), .int .i64 s, .int .i64 t, .pointer (some ⟨br, 0, none⟩)] wr fun e w' => e = .returned (.bool (lookF es s t).1) ∧ w'.heap[br]? = some (.cells #[.int .i64 (n + (lookF es s t).2)] 3 (0, 0)) ∧ Below w.heap.size w w' := by
 have HW := Lib.hid hq; have IF := Lib.hid (fun (W : World) (hb : Below w.heap.size w W) => hier_World_IsIface.calls g es t (isI (ent es t).c) W (hq.below hb) (by unfold hier_World_IsIface.f; rw [show inB es t = true from decide_eq_true ht]; rfl)); have BD := Lib.hid (fun (W : World) (hb : Below w.heap.size w W) => display_Build.calls 2000 g es s (buildF es s).1 (buildF es s).2.1 (buildF es s).2.2.1 (buildF es s).2.2.2 W (hq.below hb) (build_tot es hq.tree hq.len (fun x hx => (hq.fine x hx).2.2) 2000 (by decide) s)); have DP := Lib.hid (fun (W : World) (hb : Below w.heap.size w W) => hier_World_Depth.calls g es t (ent es t).depth 0 W (hq.below hb) (by unfold hier_World_Depth.f depthF; rw [if_pos ht])); have hdt := hq.tree.depth_ ht.1 ht.2; have hlen := hq.len; have hcl := (hq.fine _ (List.mem_of_getElem? (get_ent hs.1 hs.2))).2.2
 have hbs : (buildF es s).1.length ≤ 1000 ∧ (buildF es s).2.1.length ≤ 1000 ∧ (buildF es s).2.2.1 = (ent es s).clo := by
  have hc := chL_len hq.tree hs.1 hs.2; have hd := hq.tree.depth_ hs.1 hs.2; unfold buildF; rw [if_pos hs]; refine ⟨?_, ?_, rfl⟩
  ·show ((rcL es s).take 8).length ≤ 1000
   rw [List.length_take, rcL, List.length_reverse]; omega
  ·show ((rcL es s).drop 8).length ≤ 1000
   rw [List.length_drop, rcL, List.length_reverse]; omega
 have AT := Lib.hid (at_tot (buildF es s).1 (buildF es s).2.1 (buildF es s).2.2.1 hbs.1 hbs.2.1 (ent es t).depth hdt.1 (by omega)); have hL : Hid (lookF es s t = if isI (ent es t).c = true ∧ s = t then (true, 1) else if isI (ent es t).c = false then (atF (buildF es s).1 (buildF es s).2.1 (ent es t).depth == t, 1) else (decide (t ∈ (buildF es s).2.2.1), 1 + scanN t (buildF es s).2.2.1)) := Lib.hid (by rw [hbs.2.2]; rfl)
 have hclo : (buildF es s).2.2.1.length ≤ 1000 := by rw [hbs.2.2]; exact hcl
 generalize lookF es s t = L at *; generalize buildF es s = B at *; generalize isI (ent es t).c = iI at *; generalize (ent es t).depth = dt at *; obtain ⟨bp, bd, bc, be⟩ := B; have q0 : wr.cell? ⟨br, 0, none⟩ = some (.int .i64 n) := (blk_cell hblk 0).trans rfl; have f0 := blk_frozen hblk 0; have B1 := Lib.hid (blk_put hblk 0 (.int .i64 (n + 1)) rfl); have H1 := Lib.hid (hb.setCell (p := ⟨br, 0, none⟩) hbr (.int .i64 (n + 1))); clear hblk hb hq hbs; go_enter Tryz.func67, Tryz.ntmps67
 go_upto_region 2 with (fail)
 generalize wr.setCell ⟨br, 0, none⟩ (.int .i64 (n + 1)) = w1 at *; have C1 := Lib.hid (IF.out w1 H1.out); clear q0 f0
 cases iI with
 | false =>
  have hL2 : Hid (L = (atF bp bd dt == t, 1)) := Lib.hid (by rw [hL.out, if_neg (fun h => by cases h.1), if_pos rfl]); clear hL; go_wp2_with fail; refine C1.out.mono ?_; rintro e w2 ⟨rfl, hb2⟩; have H2 := Lib.hid (H1.out.trans (hb2.mono H1.out.size)); have B2 := Lib.hid (blk_below B1.out hb2); have CB := Lib.hid (BD.out w2 H2.out); clear C1 hb2 B1 H1; go_wp2_with fail; refine CB.out.mono ?_; rintro e w3 ⟨v0, v1, v2, rfl, R0, R1, R2, hb3⟩; obtain ⟨A0, c0, rfl⟩ := Kd.R_slice R0; obtain ⟨A1, c1, rfl⟩ := Kd.R_slice R1; obtain ⟨A2, c2, rfl⟩ := Kd.R_slice R2; have L0 := Lib.hid (Kd.R_reads' R0).2.1; have L1 := Lib.hid (Kd.R_reads' R1).2.1; have L2 := Lib.hid (Kd.R_reads' R2).2.1; have H3 := Lib.hid (H2.out.trans (hb3.mono H2.out.size)); have B3 := Lib.hid (blk_below B2.out hb3); replace R0 := Lib.hid R0; replace R1 := Lib.hid R1; replace R2 := Lib.hid R2; clear CB hb3 B2 H2; have H4 := Lib.hid (H3.out.alloc H3.out.size (.cells #[.slice A0 bp.length c0, .slice A1 bd.length c1, .slice A2 bc.length c2] 51)); have D4 := Lib.hid (blk_new w3 (.cells #[.slice A0 bp.length c0, .slice A1 bd.length c1, .slice A2 bc.length c2] 51)); have A4 := (Below.refl w3.heap.size w3).alloc (Nat.le_refl _) (.cells #[.slice A0 bp.length c0, .slice A1 bd.length c1, .slice A2 bc.length c2] 51); have B4 := Lib.hid (blk_below B3.out A4); replace R0 := Lib.hid (Kd.C_below (Kd.R_reads' R0.out).2.2 A4); replace R1 := Lib.hid (Kd.C_below (Kd.R_reads' R1.out).2.2 A4); replace R2 := Lib.hid (Kd.C_below (Kd.R_reads' R2.out).2.2 A4); have C4 := Lib.hid (IF.out _ H4.out); clear A4 B3 H3; go_wp2_with fail; refine C4.out.mono ?_; rintro e w5 ⟨rfl, hb5⟩; have H5 := Lib.hid (H4.out.trans (hb5.mono H4.out.size)); have B5 := Lib.hid (blk_below B4.out hb5); have D5 := Lib.hid (blk_below D4.out hb5); replace R0 := Lib.hid (Kd.C_below R0.out hb5); replace R1 := Lib.hid (Kd.C_below R1.out hb5); replace R2 := Lib.hid (Kd.C_below R2.out hb5); have C5 := Lib.hid (DP.out _ H5.out); clear C4 hb5 B4 D4 H4; go_wp2_with fail; refine C5.out.mono ?_; rintro e w6 ⟨rfl, hb6⟩; have H6 := Lib.hid (H5.out.trans (hb6.mono H5.out.size)); have B6 := Lib.hid (blk_below B5.out hb6); have D6 := Lib.hid (blk_below D5.out hb6); replace R0 := Lib.hid (Kd.C_below R0.out hb6); replace R1 := Lib.hid (Kd.C_below R1.out hb6); replace R2 := Lib.hid (Kd.C_below R2.out hb6); clear C5 hb6 B5 D5 H5; have x0 : w6.cell? ⟨w3.heap.size, 0, none⟩ = some (.slice A0 bp.length c0) := (blk_cell D6.out 0).trans rfl; have x1 : w6.cell? ⟨w3.heap.size, 1, none⟩ = some (.slice A1 bd.length c1) := (blk_cell D6.out 1).trans rfl; have x2 : w6.cell? ⟨w3.heap.size, 2, none⟩ = some (.slice A2 bc.length c2) := (blk_cell D6.out 2).trans rfl; have C6 := Lib.hid (display_at.calls A0 c0 bp A1 c1 bd A2 c2 bc dt (atF bp bd dt) w6 R0.out L0.out R1.out L1.out R2.out L2.out AT.out); go_wp2_with fail; refine C6.out.mono ?_; rintro e w7 ⟨rfl, hb7⟩; go_wp2; go_ret
  exact ⟨by rw [hL2.out]; rfl, by rw [hL2.out]; exact blk_below B6.out hb7, H6.out.trans (hb7.mono H6.out.size)⟩
 | true =>
  by_cases hst : s = t
  ·have hst2 : (s == t) = true := beq_iff_eq.2 hst
   have hL2 : Hid (L = (true, 1)) := Lib.hid (by rw [hL.out, if_pos ⟨rfl, hst⟩]); clear hL hst; go_wp2_with fail; refine C1.out.mono ?_; rintro e w2 ⟨rfl, hb2⟩; go_wp2; go_ret
   exact ⟨by rw [hL2.out]; rfl, by rw [hL2.out]; exact blk_below B1.out hb2, H1.out.trans (hb2.mono H1.out.size)⟩
  ·have hst2 : (s == t) = false := beq_eq_false_iff_ne.2 hst
   have hL2 : Hid (L = (decide (t ∈ bc), 1 + scanN t bc)) := Lib.hid (by rw [hL.out, if_neg (fun h => hst h.2), if_neg (by decide)]); clear hL hst; go_wp2_with fail; refine C1.out.mono ?_; rintro e w2 ⟨rfl, hb2⟩; have H2 := Lib.hid (H1.out.trans (hb2.mono H1.out.size)); have B2 := Lib.hid (blk_below B1.out hb2); have CB := Lib.hid (BD.out w2 H2.out); clear C1 hb2 B1 H1; go_wp2_with fail; refine CB.out.mono ?_; rintro e w3 ⟨v0, v1, v2, rfl, R0, R1, R2, hb3⟩; obtain ⟨A0, c0, rfl⟩ := Kd.R_slice R0; obtain ⟨A1, c1, rfl⟩ := Kd.R_slice R1; obtain ⟨A2, c2, rfl⟩ := Kd.R_slice R2
   have hne : Hid (∀ ad, A2 = some ad → ad.block ≠ br) := Lib.hid (by
    rintro ad rfl he; have h1 := ((Kd.R_bound R2).1 ad.block rfl).2.1; have h2 := blk_lt B2.out
    omega)
   have H3 := Lib.hid (H2.out.trans (hb3.mono H2.out.size)); have B3 := Lib.hid (blk_below B2.out hb3); replace R0 := Lib.hid R0; replace R1 := Lib.hid R1; replace R2 := Lib.hid R2; clear CB hb3 B2 H2; have H4 := Lib.hid (H3.out.alloc H3.out.size (.cells #[.slice A0 bp.length c0, .slice A1 bd.length c1, .slice A2 bc.length c2] 51)); have D4 := Lib.hid (blk_new w3 (.cells #[.slice A0 bp.length c0, .slice A1 bd.length c1, .slice A2 bc.length c2] 51)); have A4 := (Below.refl w3.heap.size w3).alloc (Nat.le_refl _) (.cells #[.slice A0 bp.length c0, .slice A1 bd.length c1, .slice A2 bc.length c2] 51); have B4 := Lib.hid (blk_below B3.out A4); replace R0 := Lib.hid (Kd.C_below (Kd.R_reads' R0.out).2.2 A4); replace R1 := Lib.hid (Kd.C_below (Kd.R_reads' R1.out).2.2 A4); replace R2 := Lib.hid (Kd.C_below (Kd.R_reads' R2.out).2.2 A4); have C4 := Lib.hid (IF.out _ H4.out); clear A4 B3 H3; go_wp2_with fail; refine C4.out.mono ?_; rintro e w5 ⟨rfl, hb5⟩; have H5 := Lib.hid (H4.out.trans (hb5.mono H4.out.size)); have B5 := Lib.hid (blk_below B4.out hb5); have D5 := Lib.hid (blk_below D4.out hb5); have M5 := Lib.hid (Kd.C_below R2.out hb5); clear C4 hb5 B4 D4 H4 R0 R1 R2; have x2 : w5.cell? ⟨w3.heap.size, 2, none⟩ = some (.slice A2 bc.length c2) := (blk_cell D5.out 2).trans rfl; go_wp2
   go_loopw [52] (fun v52 wx => ∃ j : Nat, j ≤ bc.length ∧ v52 = .int .i64 j ∧ Hid (∀ i, i < j → bc[i]? ≠ some t) ∧ Hid (wx.heap[br]? = some (.cells #[.int .i64 (n + 1 + j)] 3 (0, 0))) ∧ Hid (∀ ad, A2 = some ad → wx.heap[ad.block]? = w5.heap[ad.block]?) ∧ Hid (Below w.heap.size w wx)) (fun v52 _ => bc.length - (intOf v52).toNat)
   case atStart => exact ⟨0, Nat.zero_le _, rfl, Lib.hid (fun i hi => absurd hi (by omega)), Lib.hid (by simpa using B5.out), Lib.hid (fun _ _ => rfl), H5⟩
   case round =>
    clear B5 D5 H5 x2; obtain ⟨j, hj, rfl, HN, BX, MX, HX⟩ := hrel; have hsc := scan_at bc t j
    by_cases hlt : j < bc.length
    ·have hjd : decide (j < bc.length) = true := decide_eq_true hlt
     obtain ⟨ad, rfl, hcell⟩ := Kd.at_int M5.out (j : Int) (by omega) (by omega)
     have hgj : bc[j]? = some (rd bc (j : Int)) := by simp [rd, List.getD_eq_getElem?_getD, List.getElem?_eq_getElem hlt]
     have hcell : wr.cell? (ad.add (j : Int).toNat) = some (.int .i64 (rd bc (j : Int))) := by rw [cell_heap (MX.out ad rfl)]; exact hcell
     rw [Int.toNat_natCast] at hcell; have q0 : wr.cell? ⟨br, 0, none⟩ = some (.int .i64 (n + 1 + j)) := (blk_cell BX.out 0).trans rfl; have f0 := blk_frozen BX.out 0; have B1 := Lib.hid (blk_put BX.out 0 (.int .i64 (n + 1 + j + 1)) rfl); have H1 := Lib.hid (HX.out.setCell (p := ⟨br, 0, none⟩) hbr (.int .i64 (n + 1 + j + 1)))
     have M1 : Hid (∀ ad', some ad = some ad' → (wr.setCell ⟨br, 0, none⟩ (.int .i64 (n + 1 + j + 1))).heap[ad'.block]? = w5.heap[ad'.block]?) := Lib.hid (by
      intro ad' he
      cases he
      exact (Below.heap_setCell wr ⟨br, 0, none⟩ _ _ (hne.out _ rfl)).trans (MX.out _ rfl))
     generalize hx : rd bc (j : Int) = x at *; clear BX HX MX hx
     by_cases hxt : x = t
     ·have e1 : (x == t) = true := beq_iff_eq.2 hxt
      have hs2 := hsc.1 HN.out (by rw [hgj, hxt]); replace hs2 := Lib.hid hs2; clear hxt hsc; go_wp2; go_ret
      exact ⟨by rw [hL2.out, hs2.out.1]; rfl, by rw [hL2.out]; show _ = some (Obj.cells #[.int .i64 (n + (1 + scanN t bc))] _ _); rw [hs2.out.2, show n + (1 + ((j : Int) + 1)) = n + 1 + j + 1 by omega]; exact B1.out, H1.out⟩
     ·have e1 : (x == t) = false := beq_eq_false_iff_ne.2 hxt
      have hN2 : Hid (∀ i, i < j + 1 → bc[i]? ≠ some t) := Lib.hid (by
       intro i hi
       by_cases hij : i = j
       ·subst hij
        rw [hgj]
        exact fun h => hxt (Option.some.inj h)
       ·exact HN.out i (by omega))
      clear hxt hsc hgj; go_wp2; refine ⟨⟨j + 1, by omega, by push_cast; rfl, hN2, Lib.hid (by rw [show n + 1 + ((j + 1 : Nat) : Int) = n + 1 + j + 1 by omega]; exact B1.out), M1, H1⟩, by simp [intOf]; omega⟩
    ·have hjd : decide (j < bc.length) = false := decide_eq_false hlt
     have hs2 := hsc.2 HN.out (by omega); replace hs2 := Lib.hid hs2
     have hje : j = bc.length := by omega
     replace hje := Lib.hid hje; clear hsc; go_wp2; go_ret
     exact ⟨by rw [hL2.out, hs2.out.1]; rfl, by rw [hL2.out]; show _ = some (Obj.cells #[.int .i64 (n + (1 + scanN t bc))] _ _); rw [hs2.out.2, show n + (1 + (bc.length : Int)) = n + 1 + j by have := hje.out; omega]; exact BX.out, HX.out⟩
theorem index_i0 (s t : Int) (w : World) : (Instr.index 111 (.agg #[.int .i64 s, .int .i64 t]) (.int .i64 0)).run Tryz.prog w = .ok (.int .i64 s) w := by rfl
theorem index_i1 (s t : Int) (w : World) : (Instr.index 111 (.agg #[.int .i64 s, .int .i64 t]) (.int .i64 1)).run Tryz.prog w = .ok (.int .i64 t) w := by rfl
def display_Test.f (a0 : List Hi.Ent) (a1 : Int) (a2 : Int) : Option (Bool × Int × Int) := some (testF a0 a1 a2)
theorem display_Test.calls (G_ : Nat) (a0 : List Hi.Ent) (a1 : Int) (a2 : Int) (r1 : Bool) (r2 : Int) (r3 : Int) (w : World) (hq0 : WOK w G_ a0) (h : display_Test.f a0 a1 a2 = some (r1, r2, r3)) :
  Calls Tryz.prog 23 #[.pointer (some ⟨G_, 0, none⟩), .int .i64 a1, .int .i64 a2] w fun e w' => e = .returned (.tuple #[.bool r1, .int .i64 r2, .int .i64 r3]) ∧ Below w.heap.size w w' := by
 have hF := Lib.hid (Option.some.inj h); have BB := Lib.hid ((Below.refl w.heap.size w).alloc (Nat.le_refl _) (.cells #[.int .i64 0] 3)); have B0 := Lib.hid (blk_new w (.cells #[.int .i64 0] 3)); have CL := Lib.hid (fun (W : World) (hb : Below w.heap.size w W) (i : Int) => hier_World_Class.calls G_ a0 i (classF a0 i).1.f0 (classF a0 i).1.f1 (classF a0 i).1.f2 (classF a0 i).1.f3 (classF a0 i).1.f4 (classF a0 i).1.f5 (classF a0 i).2 W (hq0.below hb) rfl); have LK := Lib.hid (fun (wr : World) (hb : Below w.heap.size w wr) (hblk : wr.heap[w.heap.size]? = some (.cells #[.int .i64 0] 3 (0, 0))) (h1 : 0 ≤ a1 ∧ a1 < a0.length) (h2 : 0 ≤ a2 ∧ a2 < a0.length) => look_any w wr G_ a0 hq0 hb w.heap.size (Nat.le_refl _) 0 (by decide) (by decide) hblk a1 a2 h1 h2); have I0 := fun w => index_i0 a1 a2 w; have I1 := fun w => index_i1 a1 a2 w; have E1 : Hid ((classF a0 a1).2 = if 0 ≤ a1 ∧ a1 < a0.length then 0 else 3) := Lib.hid (by unfold classF; split <;> rfl); have E2 : Hid ((classF a0 a2).2 = if 0 ≤ a2 ∧ a2 < a0.length then 0 else 3) := Lib.hid (by unfold classF; split <;> rfl); have C1 := Lib.hid (CL.out _ BB.out a1); have C2 := Lib.hid (fun W hb => CL.out W hb a2); clear h hq0 CL; unfold testF at hF; generalize classF a0 a1 = K1 at *; generalize classF a0 a2 = K2 at *; obtain ⟨⟨x0, x1, x2, x3, x4, x5⟩, xe⟩ := K1; obtain ⟨⟨y0, y1, y2, y3, y4, y5⟩, ye⟩ := K2; simp only at C1 C2 E1 E2; generalize lookF a0 a1 a2 = L at *; have q0 : (w.alloc (.cells #[.int .i64 0] 3)).cell? ⟨w.heap.size, 0, none⟩ = some (.int .i64 0) := (blk_cell B0.out 0).trans rfl; have f0 := blk_frozen B0.out 0; go_enter Tryz.func23, Tryz.ntmps23; go_wp2_with fail; generalize w.alloc (.cells #[.int .i64 0] 3) = w0 at *; refine wp_loop_rounds 3 ?_; rw [rounds_succ]; go_wp2_with fail; refine C1.out.mono ?_; rintro e w1 ⟨v2, v5, rfl, R2, R5, hb1⟩; obtain ⟨A2, c2, rfl⟩ := Kd.R_slice R2; obtain ⟨A5, c5, rfl⟩ := Kd.R_slice R5; have M1 := Lib.hid ((BB.out.trans (hb1.mono BB.out.size)).alloc (BB.out.trans (hb1.mono BB.out.size)).size (.cells #[.string x0, .string x1, .slice A2 x2.length c2, .int .i64 x3, .int .i64 x4, .slice A5 x5.length c5] 85)); have Z1 := Lib.hid (blk_below (blk_below B0.out hb1) ((Below.refl w1.heap.size w1).alloc (Nat.le_refl _) (.cells #[.string x0, .string x1, .slice A2 x2.length c2, .int .i64 x3, .int .i64 x4, .slice A5 x5.length c5] 85))); have q0 : (w1.alloc (.cells #[.string x0, .string x1, .slice A2 x2.length c2, .int .i64 x3, .int .i64 x4, .slice A5 x5.length c5] 85)).cell? ⟨w.heap.size, 0, none⟩ = some (.int .i64 0) := (blk_cell Z1.out 0).trans rfl; have f0 := blk_frozen Z1.out 0; clear C1 hb1 R2 R5 BB B0
 by_cases h1 : 0 ≤ a1 ∧ a1 < a0.length
 ·have hx : xe = 0 := by rw [E1.out, if_pos h1]
  rw [if_pos h1] at hF; have hk1 := Lib.hid h1; subst hx; clear h1 E1; have L2 := Lib.hid (C2.out _ M1.out); go_wp2_with fail; rw [rounds_succ]; go_wp2_with fail; refine L2.out.mono ?_; rintro e w2 ⟨v2, v5, rfl, R2, R5, hb2⟩; obtain ⟨B2, d2, rfl⟩ := Kd.R_slice R2; obtain ⟨B5, d5, rfl⟩ := Kd.R_slice R5; have M2 := Lib.hid ((M1.out.trans (hb2.mono M1.out.size)).alloc (M1.out.trans (hb2.mono M1.out.size)).size (.cells #[.string y0, .string y1, .slice B2 y2.length d2, .int .i64 y3, .int .i64 y4, .slice B5 y5.length d5] 85)); have Z2 := Lib.hid (blk_below (blk_below Z1.out hb2) ((Below.refl w2.heap.size w2).alloc (Nat.le_refl _) (.cells #[.string y0, .string y1, .slice B2 y2.length d2, .int .i64 y3, .int .i64 y4, .slice B5 y5.length d5] 85))); have q0 : (w2.alloc (.cells #[.string y0, .string y1, .slice B2 y2.length d2, .int .i64 y3, .int .i64 y4, .slice B5 y5.length d5] 85)).cell? ⟨w.heap.size, 0, none⟩ = some (.int .i64 0) := (blk_cell Z2.out 0).trans rfl; have f0 := blk_frozen Z2.out 0; clear L2 hb2 R2 R5 M1 Z1 C2
  by_cases h2 : 0 ≤ a2 ∧ a2 < a0.length
  ·have hy : ye = 0 := by rw [E2.out, if_pos h2]
   rw [if_pos h2] at hF; subst hy; have L3 := Lib.hid (LK.out _ M2.out Z2.out hk1.out h2); clear h2 E2 LK; go_wp2_with fail; rw [rounds_succ]; go_wp2_with fail; refine L3.out.mono ?_; rintro e w3 ⟨rfl, Z3, M3⟩; have q0 : w3.cell? ⟨w.heap.size, 0, none⟩ = some (.int .i64 (0 + L.2)) := (blk_cell Z3 0).trans rfl; rw [Int.zero_add] at q0; have f0 := blk_frozen Z3 0; have Z4 := Lib.hid (blk_put Z3 0 (.int .i64 L.2) rfl); replace M3 := Lib.hid M3; clear L3 Z2 Z3 M2; go_wp2; go_region
   all_goals go_wp2
   have z4 : (w3.setCell ⟨w.heap.size, 0, none⟩ (.int .i64 L.2)).drew.cell? ⟨w.heap.size, 0, none⟩ = some (.int .i64 L.2) := (blk_cell (blk_drew Z4.out) 0).trans rfl; refine bodyPost_ret (v := .tuple #[.bool L.1, .int .i64 L.2, .int .i64 0]) (by simp [results, Tryz.results23, go_sem, z4]) rfl ⟨?_, below_drew1 (Below.setCell (p := ⟨w.heap.size, 0, none⟩) M3.out (Nat.le_refl _) _)⟩; have := hF.out
   cases this
   rfl
  ·have hy : (ye != 0) = true := by rw [E2.out, if_neg h2]; rfl
   have hye : ye = 3 := by rw [E2.out, if_neg h2]
   rw [if_neg h2] at hF; clear h2 E2 LK; go_wp2; have z4 : ((w2.alloc (.cells #[.string y0, .string y1, .slice B2 y2.length d2, .int .i64 y3, .int .i64 y4, .slice B5 y5.length d5] 85)).setCell ⟨w.heap.size, 0, none⟩ (.int .i64 0)).cell? ⟨w.heap.size, 0, none⟩ = some (.int .i64 0) := (blk_cell (blk_put Z2.out 0 (.int .i64 0) rfl) 0).trans rfl; refine bodyPost_ret (v := .tuple #[.bool false, .int .i64 0, .int .i64 3]) (by simp [results, Tryz.results23, go_sem, z4, hye]) rfl ⟨?_, Below.setCell (p := ⟨w.heap.size, 0, none⟩) M2.out (Nat.le_refl _) _⟩; have := hF.out
   cases this
   rfl
 ·have hx : (xe != 0) = true := by rw [E1.out, if_neg h1]; rfl
  have hxe : xe = 3 := by rw [E1.out, if_neg h1]
  rw [if_neg h1] at hF; clear h1 E1 LK; go_wp2; have z4 : ((w1.alloc (.cells #[.string x0, .string x1, .slice A2 x2.length c2, .int .i64 x3, .int .i64 x4, .slice A5 x5.length c5] 85)).setCell ⟨w.heap.size, 0, none⟩ (.int .i64 0)).cell? ⟨w.heap.size, 0, none⟩ = some (.int .i64 0) := (blk_cell (blk_put Z1.out 0 (.int .i64 0) rfl) 0).trans rfl; refine bodyPost_ret (v := .tuple #[.bool false, .int .i64 0, .int .i64 3]) (by simp [results, Tryz.results23, go_sem, z4, hxe]) rfl ⟨?_, Below.setCell (p := ⟨w.heap.size, 0, none⟩) M1.out (Nat.le_refl _) _⟩; have := hF.out
  cases this
  rfl
end Go.Proofs.YtaipkdglhfhhiaaGreatDoor.Pt

namespace Go.Proofs.YtaipkdglhfhhiaaGreatDoor.Pt
open Go Go.RowKit Go.Proofs.YtaipkdglhfhhiaaGreatDoor.Nm Go.Proofs.YtaipkdglhfhhiaaGreatDoor.Hi Go.Proofs.YtaipkdglhfhhiaaGreatDoorW.PrintWords Go.Proofs.YtaipkdglhfhhiaaGreatDoorW.PrintLast Go.Proofs.YtaipkdglhfhhiaaGreatDoorW.PrintMore
set_option linter.unusedVariables false
set_option linter.unusedSimpArgs false
set_option maxHeartbeats 2000000
set_option maxRecDepth 100000
def arrays_Sub.f (a0 : List Hi.Ent) (a1_0 : Int) (a1_1 : ByteArray) (a2_0 : Int) (a2_1 : ByteArray) : Option (Bool × Int) := some (subF a0 a1_0 a1_1 a2_0 a2_1)
end Go.Proofs.YtaipkdglhfhhiaaGreatDoor.Pt

namespace Go.Proofs.YtaipkdglhfhhiaaGreatDoor.Pt
open Go.RowKit Go.Proofs.YtaipkdglhfhhiaaGreatDoorW.PrintWords Go.Proofs.YtaipkdglhfhhiaaGreatDoorW.PrintLast Go.Proofs.YtaipkdglhfhhiaaGreatDoorW.PrintMore
attribute [local go_sem] max2_int min2_int max_two min_two max_three min_three max_four min_four   -- for this text's walks alone
set_option linter.unusedVariables false
set_option linter.unusedSimpArgs false
def display_TestTypes.j0 : Nat → List Hi.Ent → Bool → Bool → Int → ByteArray → Int → ByteArray → Option (Bool × Int × Int)
 | 0, _, _, _, _, _, _, _ => none
 | k + 1, x0, x6, x56, x460000, x460001, x461000, x461001 => if x56 = true then (some (x6, 1, 0)) else ((hier_World_ByName.f x0 x460001).bind fun bt463 => ((hier_World_ByName.f x0 x461001).bind fun bt465 => ((display_Test.f x0 bt463.1 bt465.1).bind fun bt467 => (some (bt467.1, bt467.2.1, bt467.2.2)))))
def display_TestTypes.f (k : Nat) (a0 : List Hi.Ent) (a1_0 : Int) (a1_1 : ByteArray) (a2_0 : Int) (a2_1 : ByteArray) : Option (Bool × Int × Int) := (arrays_Sub.f a0 a1_0 a1_1 a2_0 a2_1).bind fun bt461 => (if bt461.2 = 0 then (if (wrap64 (a1_0 - (mn a1_0 a2_0))) > 0 then (display_TestTypes.j0 k a0 bt461.1 true (wrap64 (a1_0 - (mn a1_0 a2_0))) a1_1 (wrap64 (a2_0 - (mn a1_0 a2_0))) a2_1) else (if (wrap64 (a2_0 - (mn a1_0 a2_0))) > 0 then (display_TestTypes.j0 k a0 bt461.1 true (wrap64 (a1_0 - (mn a1_0 a2_0))) a1_1 (wrap64 (a2_0 - (mn a1_0 a2_0))) a2_1) else (if a1_1.toList = ([] : List UInt8) then (display_TestTypes.j0 k a0 bt461.1 true (wrap64 (a1_0 - (mn a1_0 a2_0))) a1_1 (wrap64 (a2_0 - (mn a1_0 a2_0))) a2_1) else (display_TestTypes.j0 k a0 bt461.1 (a2_1.toList == ([] : List UInt8)) (wrap64 (a1_0 - (mn a1_0 a2_0))) a1_1 (wrap64 (a2_0 - (mn a1_0 a2_0))) a2_1)))) else (some (false, 0, bt461.2)))
end Go.Proofs.YtaipkdglhfhhiaaGreatDoor.Pt

namespace Go.Proofs.YtaipkdglhfhhiaaGreatDoor.Pt
open Go.RowKit Go.Proofs.YtaipkdglhfhhiaaGreatDoorW.PrintWords Go.Proofs.YtaipkdglhfhhiaaGreatDoorW.PrintLast Go.Proofs.YtaipkdglhfhhiaaGreatDoorW.PrintMore
attribute [local go_sem] max2_int min2_int max_two min_two max_three min_three max_four min_four   -- for this text's walks alone
set_option linter.unusedVariables false
set_option linter.unusedSimpArgs false
def arbiterref15_Build.l0 : Nat → List S85 → Int → List Int → Int → List Int → List Int → Option (List Int × List Int × List Int × Int)
 | 0, _, _, _, _, _, _ => none
 | k + 1, x0, x1, x6, x9, x480000, x480001 => if x9 ≥ 0 then (if (x480000.length : Int) < 8 then (if 0 ≤ x9 then (if x9 < (x6.length : Int) then (if x480000.length < 17592186044416 then (arbiterref15_Build.l0 k x0 x1 x6 (wrap64 (x9 - 1)) (x480000 ++ [rd x6 x9]) x480001) else (none)) else (none)) else (none)) else (if 0 ≤ x9 then (if x9 < (x6.length : Int) then (if x480001.length < 17592186044416 then (arbiterref15_Build.l0 k x0 x1 x6 (wrap64 (x9 - 1)) x480000 (x480001 ++ [rd x6 x9])) else (none)) else (none)) else (none))) else ((arbiterref06_Closure.f k x0 x1).bind fun bt488 => (some (x480000, x480001, bt488.1, 0)))
def arbiterref15_Build.f (k : Nat) (a0 : List S85) (a1 : Int) : Option (List Int × List Int × List Int × Int) := (arbiterref06_Chain.f k a0 a1).bind fun bt475 => (if bt475.2 = 0 then (arbiterref15_Build.l0 k a0 a1 bt475.1 (wrap64 ((bt475.1.length : Int) - 1)) ([] : List Int) ([] : List Int)) else (some (([] : List Int), ([] : List Int), ([] : List Int), 3)))
end Go.Proofs.YtaipkdglhfhhiaaGreatDoor.Pt

namespace Go.Proofs.YtaipkdglhfhhiaaGreatDoor.Pt
open Go Go.RowKit Go.Proofs.YtaipkdglhfhhiaaGreatDoor.Nm Go.Proofs.YtaipkdglhfhhiaaGreatDoor.Ty Go.Proofs.YtaipkdglhfhhiaaGreatDoor.Hi Go.Proofs.YtaipkdglhfhhiaaGreatDoorW.PrintWords
set_option linter.unusedVariables false
set_option linter.unusedSimpArgs false
theorem rclosure_ok {es : List Ent} (h : Thy es) (hl : es.length ≤ 1000) (i : Int) (k : Nat) (hk : 30 * es.length + 2010 < k) : arbiterref06_Closure.f k (csOf es) i = some (closureF es i) := by
 unfold arbiterref06_Closure.f closureF; rw [in_ok, Option.bind_some]
 by_cases hi : 0 ≤ i ∧ i < es.length
 ·rw [show inB es i = true from decide_eq_true hi, if_pos rfl, if_pos hi, gather_eq h hl i.toNat i [] k hi.1 hi.2 (Nat.le_refl _) (by omega) ⟨Rng.nil _, fun j hj => by cases hj⟩, Option.bind_some, foldI_nil (h.good.clo _ (List.mem_of_getElem? (get_ent hi.1 hi.2))).1.1]
 ·rw [show inB es i = false from decide_eq_false hi, if_neg (by decide), if_neg hi]
theorem rtest_l0 (t : Int) (b : Bool) (l : List Int) (hl : l.length ≤ 1000) : ∀ (d j k : Nat) (c : Int), j + d = l.length → d < k → 0 ≤ c → c ≤ 1000 + j → arbiterref15_Test.l0 k t b c l (j : Int) = some (b, c + scanN t (l.drop j), 0) := by
 intro d
 induction d with
 | zero =>
  intro j k c hj hk h0 h1
  obtain ⟨k, rfl⟩ : ∃ m, k = m + 1 := ⟨k - 1, by omega⟩
  rw [arbiterref15_Test.l0, if_neg (by omega), List.drop_eq_nil_of_le (by omega)]; simp [scanN]
 | succ d ih =>
  intro j k c hj hk h0 h1
  obtain ⟨k, rfl⟩ : ∃ m, k = m + 1 := ⟨k - 1, by omega⟩
  have hlt : j < l.length := by omega
  have he : Go.Proofs.YtaipkdglhfhhiaaGreatDoorW.PrintWords.rd l (j : Int) = l[j] := by simp [Go.Proofs.YtaipkdglhfhhiaaGreatDoorW.PrintWords.rd, List.getD_eq_getElem?_getD, List.getElem?_eq_getElem hlt]
  rw [arbiterref15_Test.l0, if_pos (by omega), if_pos (by omega), he, List.drop_eq_getElem_cons hlt, scanN, show wrap64 (c + 1) = c + 1 by unfold wrap64; omega]
  by_cases hx : l[j] = t
  ·rw [if_pos hx, if_pos hx]
  ·rw [if_neg hx, if_neg hx, show wrap64 ((j : Int) + 1) = ((j + 1 : Nat) : Int) by unfold wrap64; omega, ih (j + 1) k (c + 1) (by omega) (by omega) (by omega) (by omega)]
   congr 2
   rw [Int.add_assoc]
theorem rtest_ok {es : List Ent} (h : Thy es) (hl : es.length ≤ 1000) (s t : Int) (k : Nat) (hk : 40 * es.length + 4000 < k) : arbiterref15_Test.f k (csOf es) s t = some (testF es s t) := by
 obtain ⟨k, rfl⟩ : ∃ m, k = m + 2 := ⟨k - 2, by omega⟩
 unfold arbiterref15_Test.f; rw [in_ok, Option.bind_some]
 by_cases hs : 0 ≤ s ∧ s < es.length
 ·rw [show inB es s = true from decide_eq_true hs, if_pos rfl, in_ok, Option.bind_some]
  by_cases ht : 0 ≤ t ∧ t < es.length
  ·rw [show inB es t = true from decide_eq_true ht, arbiterref15_Test.j0, if_neg (by decide), ext_ok h hl s t (k + 1) (by omega), Option.bind_some, isif_ok, Option.bind_some, test_in h hs ht]
   have hcl := (h.good.fine _ (List.mem_of_getElem? (get_ent hs.1 hs.2))).2.2
   have hj : ∀ c : Bool, (c = true → lookF es s t = ((lookF es s t).1, 1)) → (c = false → isI (ent es t).c = true ∧ s ≠ t) → arbiterref15_Test.j1 (k + 1) (csOf es) s t (extF es s t) c = some (extF es s t, (lookF es s t).2, 0) := by
    intro c h1 h2; rw [arbiterref15_Test.j1]
    cases c with
    | true => rw [if_pos rfl, h1 rfl]
    | false =>
     obtain ⟨h3, h4⟩ := h2 rfl; rw [if_neg (by decide), rclosure_ok h hl s k (by omega), Option.bind_some]; have e : closureF es s = ((ent es s).clo, 0) := if_pos hs
     have e2 : lookF es s t = (decide (t ∈ (ent es s).clo), 1 + scanN t (ent es s).clo) := by
      unfold lookF; rw [if_neg (fun h => h4 h.2), if_neg (by rw [h3]; decide)]
     rw [e, e2]; have := rtest_l0 t (extF es s t) (ent es s).clo (by omega) (ent es s).clo.length 0 k 1 (by omega) (by omega) (by omega) (by omega); rw [List.drop_zero] at this
     exact this
   have hinb : inB es t = true := decide_eq_true ht; rw [hinb, Bool.true_and]
   cases hi : isI (ent es t).c with
   | true =>
    rw [if_pos rfl]; refine hj _ (fun hc => ?_) (fun hc => ⟨hi, by simpa using hc⟩); unfold lookF; rw [if_pos ⟨hi, by simpa using hc⟩]
   | false =>
    rw [if_neg (by decide)]; refine hj _ (fun _ => ?_) (fun hc => by cases hc); unfold lookF; rw [if_neg (fun h => by rw [hi] at h; cases h.1), if_pos hi]
  ·rw [show inB es t = false from decide_eq_false ht, arbiterref15_Test.j0]
   unfold testF; rw [if_pos hs, if_neg ht]
   rfl
 ·rw [show inB es s = false from decide_eq_false hs, if_neg (by decide), arbiterref15_Test.j0]
  unfold testF; rw [if_neg hs]
  rfl
end Go.Proofs.YtaipkdglhfhhiaaGreatDoor.Pt

namespace Go.Proofs.YtaipkdglhfhhiaaGreatDoor.Hi
open Go Go.RowKit Go.Proofs.YtaipkdglhfhhiaaGreatDoor.Nm Go.Proofs.YtaipkdglhfhhiaaGreatDoorW.PrintWords Go.Proofs.YtaipkdglhfhhiaaGreatDoorW.PrintLast Go.Proofs.YtaipkdglhfhhiaaGreatDoorW.PrintMore Go.Proofs.YtaipkdglhfhhiaaGreatDoor.Pt
theorem len_made {es : List Ent} (h : Made es) : es.length ≤ 300 := by
 induction h with
 | new => decide
 | step es c _ ih =>
  rcases stepF_cases es c with h | ⟨x, h, ht⟩
  ·rw [h]; exact ih
  ·rw [h, List.length_append]
   have := ht.len; simp
   omega
end Go.Proofs.YtaipkdglhfhhiaaGreatDoor.Hi

namespace Go.Proofs.YtaipkdglhfhhiaaGreatDoor.Pt
open Go Go.RowKit Go.Proofs.YtaipkdglhfhhiaaGreatDoor.Nm Go.Proofs.YtaipkdglhfhhiaaGreatDoor.Ty Go.Proofs.YtaipkdglhfhhiaaGreatDoor.Cd Go.Proofs.YtaipkdglhfhhiaaGreatDoorW.PrintWords Go.Proofs.YtaipkdglhfhhiaaGreatDoorW.PrintLast Go.Proofs.YtaipkdglhfhhiaaGreatDoorW.PrintMore
set_option linter.unusedVariables false
set_option linter.unusedSimpArgs false
set_option maxHeartbeats 2000000
set_option maxRecDepth 100000
theorem rpdesc_any (a0 : ByteArray) (w : World) : Calls Tryz.prog 141 #[.string a0] w fun e w' => ∃ v0_ : Value, e = .returned (.tuple #[.agg #[v0_, .bool (parseD a0.data.toList).1.void, .int .i64 (parseD a0.data.toList).1.rdims, .string (bs (parseD a0.data.toList).1.rname)], .int .i64 (parseD a0.data.toList).2]) ∧
  Kd.R k24 24 w' w.heap.size (fun _ => True) v0_ ((parseD a0.data.toList).1.args.map toS) ∧ Below w.heap.size w w' :=
 arbiterref02_ParseDesc.calls 5000 a0 _ _ _ _ _ w (pdesc_f a0 5000 (Nat.le_refl _))
theorem roper_any (op : Int) (w : World) : Calls Tryz.prog 160 #[.int .i64 op] w fun e w' => e = .returned (.int .i64 (Cd.opnd op)) ∧ w' = w := by
 have ht : ∀ k : Nat, k < 41 → k = 0 ∨ k = 1 ∨ k = 2 ∨ k = 3 ∨ k = 4 ∨ k = 5 ∨ k = 11 ∨ k = 12 ∨ k = 13 ∨ k = 14 ∨ k = 15 ∨ k = 16 ∨ k = 17 ∨ k = 18 ∨ k = 22 ∨ k = 23 ∨ k = 24 ∨ k = 30 ∨ k = 31 ∨ k = 32 ∨ k = 33 ∨ k = 34 ∨ k = 35 ∨ Cd.opTab.getD k 0 = 0 := by decide
 replace ht := Lib.hid ht; go_enter Tryz.func160, Tryz.ntmps160; go_wp2
 all_goals
  go_ret; refine ⟨ret_eq ?_, rfl⟩; simp only [beq_iff_eq, beq_eq_false_iff_ne, ne_eq, decide_eq_true_eq, decide_eq_false_iff_not, Bool.or_eq_true, Bool.or_eq_false_iff] at *
 all_goals first
  | (subst_vars; rfl)
  | (unfold Cd.opnd; rw [if_pos (by omega)])
  | (unfold Cd.opnd; rw [if_neg (by omega)]; have := ht.out op.toNat (by omega); omega)
def noRefB (ri : Bool) (rc rn rd : ByteArray) : Bool := !ri && (rc.toList == [] && (rn.toList == [] && rd.toList == []))
theorem noref_any (ri : Bool) (rc rn rd : ByteArray) (w : World) : Calls Tryz.prog 167 #[.agg #[.bool ri, .string rc, .string rn, .string rd]] w fun e w' => e = .returned (.bool (noRefB ri rc rn rd)) ∧ Below w.heap.size w w' := by
 have AB := Lib.hid ((Below.refl w.heap.size w).alloc (Nat.le_refl _) (.cells #[.bool ri, .string rc, .string rn, .string rd] 141)); generalize hr : noRefB ri rc rn rd = r; replace hr := Lib.hid hr; unfold noRefB at hr
 cases ri
 all_goals
  go_enter Tryz.func167, Tryz.ntmps167; go_wp2
  all_goals
   go_ret; refine ⟨?_, AB.out⟩; rw [← hr.out]
   simp_all
theorem rrefck_any (ri : Bool) (rc rn rd : ByteArray) (w : World) : Calls Tryz.prog 170 #[.agg #[.bool ri, .string rc, .string rn, .string rd]] w fun e w' => e = .returned (.int .i64 (refV rc rn rd)) ∧ Below w.heap.size w w' := by
 have B0 := Lib.hid (blk_new w (.cells #[.bool ri, .string rc, .string rn, .string rd] 141)); have AB := Lib.hid ((Below.refl w.heap.size w).alloc (Nat.le_refl _) (.cells #[.bool ri, .string rc, .string rn, .string rd] 141)); have C1 := Lib.hid (arbiterref02_ParseRef.calls rc _ _ _ (w.alloc (.cells #[.bool ri, .string rc, .string rn, .string rd] 141)) rfl); have C2 := Lib.hid (fun W => rpdesc_any rd W); have C3 := Lib.hid (fun W => arbiterref01_Member.calls rn _ W rfl); generalize hr : refV rc rn rd = r at *; replace hr := Lib.hid hr; unfold refV at hr; generalize parseR rc.data.toList = p1 at *; generalize parseD rd.data.toList = p2 at *; generalize memberB rn = mb at *; obtain ⟨d1, s1, e1⟩ := p1; obtain ⟨d2, e2⟩ := p2; go_enter Tryz.func170, Tryz.ntmps170; go_wp2_with fail; refine C1.out.mono ?_; rintro e w1 ⟨rfl, hb1⟩; have B1 := blk_below B0.out hb1; have q2 : w1.cell? ⟨w.heap.size, 2, none⟩ = some (.string rn) := (blk_cell B1 2).trans rfl; have q2 := cell_allocs q2; have H1 := Lib.hid (AB.out.trans (hb1.mono AB.out.size)); replace B1 := Lib.hid B1; clear B0 AB C1 hb1
 by_cases h1 : e1 = 0
 ·subst h1
  go_wp2_with fail; refine (C3.out _).mono ?_; rintro e w2 ⟨rfl, hb2⟩; have q3 : w2.cell? ⟨w.heap.size, 3, none⟩ = some (.string rd) := pw_cell_below hb2 (cell_allocs ((blk_cell B1.out 3).trans rfl) _); have H2 := Lib.hid ((H1.out.alloc H1.out.size _).trans (hb2.mono (H1.out.alloc H1.out.size _).size)); clear hb2 C3 H1 B1 q2
  cases mb with
  | false =>
   go_wp2; go_ret; have := hr.out; simp at this; subst this
   exact ⟨rfl, H2.out⟩
  | true =>
   go_wp2_with fail; refine (C2.out _).mono ?_; rintro e w3 ⟨v0, rfl, R0, hb3⟩; obtain ⟨A0, c0, rfl⟩ := Kd.R_slice R0; have H3 := Lib.hid (H2.out.trans (hb3.mono H2.out.size)); clear hb3 H2 C2 q3 R0
   by_cases h2 : e2 = 0
   ·subst h2
    go_wp2; go_ret; have := hr.out; simp at this; subst this
    exact ⟨rfl, H3.out.alloc H3.out.size _⟩
   ·have hne : (e2 != 0) = true := bne_iff_ne.2 h2
    go_wp2; go_ret; have := hr.out; simp [h2] at this; subst this
    exact ⟨rfl, H3.out.alloc H3.out.size _⟩
 ·have hne : (e1 != 0) = true := bne_iff_ne.2 h1
  go_wp2; go_ret; have := hr.out; simp [h1] at this; subst this
  exact ⟨rfl, H1.out.alloc H1.out.size _⟩
def rbare (k n : Int) (ty : ByteArray) (nr : Bool) : Bool := decide (0 ≤ k) && ((k == 8 || nr) && ((!(k == 0 || k == 4 || k == 5 || k == 6 || k == 8) || n == 0) && (!(decide (k < 4) || k == 8) || ty.toList == [])))
theorem toList_nil (s : ByteArray) : ((⟨#[]⟩ : ByteArray).toList == s.toList) = (s.toList == []) := by
 rw [show (⟨#[]⟩ : ByteArray).toList = [] from by rw [ByteArray.toList_eq]]
 cases s.toList <;> rfl
theorem rins_eq (op n : Int) (ty : ByteArray) (ri : Bool) (rc rn rd : ByteArray) : insV ⟨op, n, ty, ⟨ri, rc, rn, rd⟩⟩ = if (rbare (Cd.opnd op) n ty (noRefB ri rc rn rd) && opB op n ty rc rn rd) = true then 0 else 1 := by
 have hs : ∀ s : ByteArray, (s.toList == s.toList) = true := fun s => beq_self_eq_true _
 have hb : (bareOk op n ty ri rc rn rd && opB op n ty rc rn rd) = (rbare (Cd.opnd op) n ty (noRefB ri rc rn rd) && opB op n ty rc rn rd) := by
  unfold bareOk rbare sameI noRefB opB; have hn : (0 == n) = (n == 0) := Bool.beq_comm
  rcases opnd_cases op with h | h | h | h | h | h | h | h | h | h
  all_goals
   rw [h]; simp only [bareN, bareT, bareS, bareB]; simp [hs, toList_nil, hn, Bool.and_assoc, Bool.and_left_comm, Bool.and_comm]
 unfold insV; simp only; rw [← hb]
 cases bareOk op n ty ri rc rn rd <;> cases opB op n ty rc rn rd <;> rfl
theorem rcdck_any (op n : Int) (ty : ByteArray) (ri : Bool) (rc rn rd : ByteArray) (w : World) :
  Calls Tryz.prog 161 #[.agg #[.int .i64 op, .int .i64 n, .string ty, .bool ri, .string rc, .string rn, .string rd]] w fun e w' => e = .returned (.int .i64 (insV ⟨op, n, ty, ⟨ri, rc, rn, rd⟩⟩)) ∧ Below w.heap.size w w' := by
 have B0 := Lib.hid (blk_new w (.cells #[.int .i64 op, .int .i64 n, .string ty, .bool ri, .string rc, .string rn, .string rd] 143)); have AB := Lib.hid ((Below.refl w.heap.size w).alloc (Nat.le_refl _) (.cells #[.int .i64 op, .int .i64 n, .string ty, .bool ri, .string rc, .string rn, .string rd] 143)); have OP := Lib.hid (fun W => roper_any op W); have CN := Lib.hid (fun W => noref_any ri rc rn rd W); have CV := Lib.hid (fun W => arbiterref01_Valid.calls ty _ W rfl); have CR := Lib.hid (fun W => arbiterref02_ParseRef.calls ty _ _ _ W rfl); have CP := Lib.hid (fun W => arbiterref02_Parse.calls ty _ _ _ W rfl); have CF := Lib.hid (fun W => rrefck_any ri rc rn rd W); have K := opnd_cases op; generalize hr : insV ⟨op, n, ty, ⟨ri, rc, rn, rd⟩⟩ = r; rw [rins_eq] at hr; unfold opB rbare wthB at hr; generalize noRefB ri rc rn rd = nr at *; generalize Cd.opnd op = k at *; generalize parseR ty.data.toList = p1 at *; generalize parseT ty.data.toList = p2 at *; generalize refV rc rn rd = fv at *; generalize validB ty = vb at *; obtain ⟨d1, s1, e1⟩ := p1; obtain ⟨d2, s2, e2⟩ := p2; replace hr := Lib.hid hr; go_enter Tryz.func161, Tryz.ntmps161; go_wp2_with fail; refine (OP.out _).mono ?_; rintro e w1 ⟨rfl, rfl⟩
 by_cases h8 : k = 8
 ·subst h8
  clear CN CV CR CP K; go_wp2_with (go_at_call 170; refine (CF.out _).mono ?_; rintro e w2 ⟨rfl, hb2⟩; replace hb2 := Lib.hid (AB.out.trans (hb2.mono AB.out.size)))
  all_goals
   go_ret
  all_goals first
   | exact ⟨by rw [← hr.out]; first | (simp_all; done) | (simp_all; omega), hb2.out⟩
   | exact ⟨by rw [← hr.out]; first | (simp_all; done) | (simp_all; omega), AB.out⟩
 ·have h8b : (k != 8) = true := bne_iff_ne.2 h8
  go_wp2_with fail; refine (CN.out _).mono ?_; rintro e w2 ⟨rfl, hb2⟩; have B2 := Lib.hid (blk_below B0.out hb2); have H2 := Lib.hid (AB.out.trans (hb2.mono AB.out.size)); have q1 : w2.cell? ⟨w.heap.size, 1, none⟩ = some (.int .i64 n) := (blk_cell B2.out 1).trans rfl; have q2 : w2.cell? ⟨w.heap.size, 2, none⟩ = some (.string ty) := (blk_cell B2.out 2).trans rfl; clear CN AB hb2 OP CF
  rcases K with rfl | rfl | rfl | rfl | rfl | rfl | rfl | rfl | rfl | rfl
  case inr.inr.inr.inr.inr.inr.inr.inr.inr => exact absurd rfl h8
  case inr.inr.inr.inr.inr.inl =>
   go_wp2_with (go_at_call 116; refine (CV.out _).mono ?_; rintro e w3 ⟨rfl, hb3⟩; replace hb3 := Lib.hid (H2.out.trans (hb3.mono H2.out.size)))
   all_goals
    go_ret
   all_goals first
    | exact ⟨by rw [← hr.out]; first | (simp_all; done) | (simp_all; omega), hb3.out⟩
    | exact ⟨by rw [← hr.out]; first | (simp_all; done) | (simp_all; omega), H2.out⟩
  case inr.inr.inr.inr.inr.inr.inl =>
   go_wp2_with (go_at_call 168; refine (CR.out _).mono ?_; rintro e w3 ⟨rfl, hb3⟩; replace hb3 := Lib.hid (H2.out.trans (hb3.mono H2.out.size)))
   all_goals
    go_ret
   all_goals first
    | exact ⟨by rw [← hr.out]; first | (simp_all; done) | (simp_all; omega), hb3.out.alloc hb3.out.size _⟩
    | exact ⟨by rw [← hr.out]; first | (simp_all; done) | (simp_all; omega), H2.out⟩
  case inr.inr.inr.inr.inr.inr.inr.inl =>
   go_wp2_with (go_at_call 169; refine (CP.out _).mono ?_; rintro e w3 ⟨rfl, hb3⟩; replace hb3 := Lib.hid (H2.out.trans (hb3.mono H2.out.size)))
   all_goals
    go_ret
   all_goals first
    | exact ⟨by rw [← hr.out]; first | (simp_all; done) | (simp_all; omega), hb3.out.alloc hb3.out.size _⟩
    | exact ⟨by rw [← hr.out]; first | (simp_all; done) | (simp_all; omega), H2.out⟩
  case inr.inr.inr.inr.inr.inr.inr.inr.inl =>
   go_wp2_with (go_at_call 168; refine (CR.out _).mono ?_; rintro e w3 ⟨rfl, hb3⟩; have r1 := cell_allocs (pw_cell_below hb3 q1); replace hb3 := Lib.hid (H2.out.trans (hb3.mono H2.out.size)))
   all_goals
    go_ret
   all_goals first
    | exact ⟨by rw [← hr.out]; first | (simp_all; done) | (simp_all; omega), hb3.out.alloc hb3.out.size _⟩
    | exact ⟨by rw [← hr.out]; first | (simp_all; done) | (simp_all; omega), H2.out⟩
  all_goals
   go_wp2
   all_goals
    go_ret
    exact ⟨by rw [← hr.out]; first | (simp_all; done) | (simp_all; omega), H2.out⟩
end Go.Proofs.YtaipkdglhfhhiaaGreatDoor.Pt

namespace Go.Proofs.YtaipkdglhfhhiaaGreatDoor.Pt
open Go.RowKit Go.Proofs.YtaipkdglhfhhiaaGreatDoorW.PrintWords Go.Proofs.YtaipkdglhfhhiaaGreatDoorW.PrintLast Go.Proofs.YtaipkdglhfhhiaaGreatDoorW.PrintMore
attribute [local go_sem] max2_int min2_int max_two min_two max_three min_three max_four min_four   -- for this text's walks alone
set_option linter.unusedVariables false
set_option linter.unusedSimpArgs false
def arbiterref02_Args.f (k : Nat) (a0 : ByteArray) : Option (Int × Int) := (arbiterref02_ParseDesc.f k a0).bind fun bt117 => (some ((bt117.1.length : Int), bt117.2.2.2.2))
set_option maxHeartbeats 8000000 in
set_option maxRecDepth 100000 in
theorem arbiterref02_Args.calls (k : Nat) (a0 : ByteArray) (r1 : Int) (r2 : Int) (w : World) (h : arbiterref02_Args.f k a0 = some (r1, r2)) :
  Calls Tryz.prog 159 #[.string a0] w fun e w' => e = .returned (.tuple #[.int .i64 r1, .int .i64 r2]) ∧ Below w.heap.size w w' := by
 have hu172 := Tryz.underlying172; have HB := Aside0.mk (Below.refl w.heap.size w); have H : ((arbiterref02_ParseDesc.f k a0).bind fun bt117 => (some ((bt117.1.length : Int), bt117.2.2.2.2))) = some (r1, r2) := h; clear h; replace H := Option.bind_eq_some_iff.mp H; obtain ⟨⟨t117, t120, t121, t122, t123⟩, A20, H⟩ := H; replace H : (some ((t117.length : Int), t123)) = some (r1, r2) := H; have A2 := Aside0.mk A20; clear A20; simp only [Option.some.injEq, Prod.mk.injEq] at H; obtain ⟨rfl, rfl⟩ := H; go_enter Tryz.func159, Tryz.ntmps159; go_wp2_with (first | ((with_reducible refine gate_callee (f := 141) rfl ?_); refine goesL_ (some 8) rfl rfl Tryz.func141 (by kernel_rfl) rfl #[.string a0] rfl (by (try simp only [List.map_toArray, List.map_cons, List.map_nil]); first | done | rfl | (simp only [List.length_drop, List.length_take]; rfl)) ?_; (with_reducible refine (arbiterref02_ParseDesc.calls k a0 t117 t120 t121 t122 t123 _ A2.out).mono ?_); rintro e w3 ⟨v118, rfl, ho0, hb⟩; refine ⟨_, rfl, ?_⟩; have n0_ := Aside0.mk (Kd.R_lower ho0 (below_size (bX HB))); have n1_ := Aside0.mk (below_step (bX HB) hb); clear HB; have HO119 := n0_; have HB := n1_; clear n0_ n1_; (try clear hb); (try clear hb2); (try clear hk); (try clear hi); (try clear ho0)) | ((with_reducible refine gate_dst (N := 4) rfl ?_); refine box_event ?hg (N := 4) ?hd (cs := #[.slice none 0 0, .bool false, .int .i64 0, .string (⟨#[]⟩ : ByteArray)]) (t := 172) ?hr ?_; (case hd => rfl); (case hg => rfl); (case hr => first | (go_simp; done) | (go_simp; rfl)); intro gb124 hg w4 hbox hb; have n0_ := Aside0.mk (Kd.R_below (rX HO119) hb); have n1_ := Aside0.mk (below_step (bX HB) hb); have n2_ := Aside0.mk (hbox); have n3_ := Aside0.mk ((by rw [hg]; exact (below_size (bX HB)) : w.heap.size ≤ gb124)); have n4_ := Aside0.mk ((by rw [hg]; exact (below_size (bX HB)) : w.heap.size ≤ gb124)); clear HO119; clear HB; have HO119 := n0_; have HB := n1_; have BK124 := n2_; have GW124 := n3_; have GE124 := n4_; clear n0_ n1_ n2_ n3_ n4_; clear hb hbox hg; obtain ⟨Ao5, co5, eo5⟩ := Kd.R_slice HO119.out; subst eo5; have hcz6_0 : w4.cell? ⟨gb124, 0, none⟩ = some (.slice none 0 0) := (blk_cell BK124.out 0).trans rfl; have hcz6_1 : w4.cell? ⟨gb124, 1, none⟩ = some (.bool false) := (blk_cell BK124.out 1).trans rfl; have hcz6_2 : w4.cell? ⟨gb124, 2, none⟩ = some (.int .i64 0) := (blk_cell BK124.out 2).trans rfl; have hcz6_3 : w4.cell? ⟨gb124, 3, none⟩ = some (.string (⟨#[]⟩ : ByteArray)) := (blk_cell BK124.out 3).trans rfl; have hfz6_0 := blk_frozen BK124.out 0; have hfz6_1 := blk_frozen BK124.out 1; have hfz6_2 := blk_frozen BK124.out 2; have hfz6_3 := blk_frozen BK124.out 3)); go_ret2
 exact ⟨by first | rfl | (simp [errW_none, errW_some] <;> rfl) | (simp [*, errW_none, errW_some] <;> rfl), bX1 HB GE124⟩
end Go.Proofs.YtaipkdglhfhhiaaGreatDoor.Pt

namespace Go.Proofs.YtaipkdglhfhhiaaGreatDoor.Pt
open Go Go.RowKit Go.Proofs.YtaipkdglhfhhiaaGreatDoor.Nm Go.Proofs.YtaipkdglhfhhiaaGreatDoor.Ty Go.Proofs.YtaipkdglhfhhiaaGreatDoor.Cd Go.Proofs.YtaipkdglhfhhiaaGreatDoorW.PrintWords Go.Proofs.YtaipkdglhfhhiaaGreatDoorW.PrintLast Go.Proofs.YtaipkdglhfhhiaaGreatDoorW.PrintMore
set_option linter.unusedVariables false
set_option linter.unusedSimpArgs false
set_option maxHeartbeats 2000000
set_option maxRecDepth 100000
theorem rargs_any (a0 : ByteArray) (w : World) : Calls Tryz.prog 159 #[.string a0] w fun e w' => e = .returned (.tuple #[.int .i64 ((parseD a0.data.toList).1.args.length : Int), .int .i64 (parseD a0.data.toList).2]) ∧ Below w.heap.size w w' :=
 arbiterref02_Args.calls 5000 a0 _ _ w (by unfold arbiterref02_Args.f; rw [pdesc_f a0 5000 (Nat.le_refl _)]; simp only [Option.bind_some, tup5, List.length_map])
theorem rwords_any (f0 d : ByteArray) (f f3 f4 : Int) (v5 : Value) (h5 : ∃ A n c, v5 = .slice A n c) (w : World) (hp : (parseD d.data.toList).2 = 0) :
  Calls Tryz.prog 142 #[.agg #[.string f0, .string d, .int .i64 f, .int .i64 f3, .int .i64 f4, v5]] w fun e w' => e = .returned (.tuple #[.int .i64 (wordsV d f), .int .i64 0]) ∧ Below w.heap.size w w' := by
 obtain ⟨A, n, c, rfl⟩ := h5; have B0 := Lib.hid (blk_new w (.cells #[.string f0, .string d, .int .i64 f, .int .i64 f3, .int .i64 f4, .slice A n c] 105)); have AB := Lib.hid ((Below.refl w.heap.size w).alloc (Nat.le_refl _) (.cells #[.string f0, .string d, .int .i64 f, .int .i64 f3, .int .i64 f4, .slice A n c] 105)); have C1 := Lib.hid (rargs_any d (w.alloc (.cells #[.string f0, .string d, .int .i64 f, .int .i64 f3, .int .i64 f4, .slice A n c] 105))); have CH := Lib.hid (fun W => Fl.has_any f 8 W); generalize hr : wordsV d f = r; replace hr := Lib.hid hr; unfold wordsV at hr; rw [hp] at C1; clear hp; generalize ((parseD d.data.toList).1.args.length : Int) = m at *; unfold Fl.band at CH; go_enter Tryz.func142, Tryz.ntmps142; go_wp2_with fail; refine C1.out.mono ?_; rintro e w2 ⟨rfl, hb2⟩; have q2 : w2.cell? ⟨w.heap.size, 2, none⟩ = some (.int .i64 f) := (blk_cell (blk_below B0.out hb2) 2).trans rfl; have H2 := Lib.hid (AB.out.trans (hb2.mono AB.out.size)); clear C1 hb2 B0 AB; go_wp2_with fail; refine (CH.out _).mono ?_; rintro e w3 ⟨rfl, rfl⟩
 by_cases h8 : Go.bits .and .i64 f 8 = 0
 ·have hd : (Go.bits .and .i64 f 8 != 0) = false := bne_eq_false_iff_eq.2 h8
  rw [if_pos h8] at hr; clear h8; rw [hd]; go_wp2; go_ret2
  exact ⟨by rw [← hr.out]; rfl, H2.out⟩
 ·have hd : (Go.bits .and .i64 f 8 != 0) = true := bne_iff_ne.2 h8
  rw [if_neg h8] at hr; clear h8; rw [hd]; go_wp2; go_ret2
  exact ⟨by rw [← hr.out]; rfl, H2.out⟩
theorem rfind_any (f0 f1 : ByteArray) (v2 : Value) (f3 f4 : Int) (A5 : Option Addr) (c5 : Nat) (l5 : List S105) (nm ds : ByteArray) (w : World) (h2 : ∃ A n c, v2 = .slice A n c) (hk5 : Kd.C k105 w A5 l5.length l5) (hl : l5.length ≤ 4611686018427387904) :
  Calls Tryz.prog 119 #[.agg #[.string f0, .string f1, v2, .int .i64 f3, .int .i64 f4, .slice A5 l5.length c5], .string nm, .string ds] w fun e w' => e = .returned (.int .i64 (findM 0 l5 nm ds)) ∧ Below w.heap.size w w' := by
 obtain ⟨A2, n2, c2, rfl⟩ := h2; have B0 := Lib.hid (blk_new w (.cells #[.string f0, .string f1, .slice A2 n2 c2, .int .i64 f3, .int .i64 f4, .slice A5 l5.length c5] 85)); have AB := Lib.hid ((Below.refl w.heap.size w).alloc (Nat.le_refl _) (.cells #[.string f0, .string f1, .slice A2 n2 c2, .int .i64 f3, .int .i64 f4, .slice A5 l5.length c5] 85)); have HK := Lib.hid (Kd.C_below hk5 AB.out); clear hk5; go_enter Tryz.func119, Tryz.ntmps119; go_wp2_with fail; have q5 : (w.alloc (.cells #[.string f0, .string f1, .slice A2 n2 c2, .int .i64 f3, .int .i64 f4, .slice A5 l5.length c5] 85)).cell? ⟨w.heap.size, 5, none⟩ = some (.slice A5 l5.length c5) := (blk_cell B0.out 5).trans rfl; change Code.wp _ _ _ _ (w.alloc (.cells #[.string f0, .string f1, .slice A2 n2 c2, .int .i64 f3, .int .i64 f4, .slice A5 l5.length c5] 85)); generalize w.alloc (.cells #[.string f0, .string f1, .slice A2 n2 c2, .int .i64 f3, .int .i64 f4, .slice A5 l5.length c5] 85) = W at *
 go_loop [7] (fun v7 => ∃ j : Nat, j ≤ l5.length ∧ v7 = .int .i64 j ∧ Hid (findM 0 l5 nm ds = findM j (l5.drop j) nm ds)) (fun v7 => l5.length - (intOf v7).toNat)
 case atStart => exact ⟨0, Nat.zero_le _, rfl, Lib.hid rfl⟩
 case round =>
  obtain ⟨j, hj, rfl, HT⟩ := hrel
  by_cases hlt : j < l5.length
  ·have hjd : decide (j < l5.length) = true := decide_eq_true hlt
   have hst := Lib.hid (HT.out.trans (findM_step l5 j hlt nm ds)); obtain ⟨ad, A6, c6, rfl, p0, p1, p2, p3, p4, p5, hc6, K6⟩ := at_T105 HK.out (j : Int) (by omega) (by omega); rw [Int.toNat_natCast] at p0 p1 p2 p3 p4 p5; clear K6 p2 p3 p4 p5 HT; have hs : Hid (sameM (rd_T105 l5 (j : Int)) nm ds = (((rd_T105 l5 (j : Int)).f0.toList == nm.toList) && ((rd_T105 l5 (j : Int)).f1.toList == ds.toList))) := Lib.hid rfl; generalize sameM (rd_T105 l5 (j : Int)) nm ds = sm at *; generalize rd_T105 l5 (j : Int) = x at *
   cases e1 : (x.f0.toList == nm.toList)
   ·have h := hs.out
    rw [e1, Bool.false_and] at h; subst h; go_wp2
    exact ⟨⟨j + 1, by omega, by push_cast; rfl, hst⟩, by simp [intOf]; omega⟩
   ·have h := hs.out
    rw [e1, Bool.true_and] at h
    cases e2 : (x.f1.toList == ds.toList)
    ·rw [e2] at h
     subst h; go_wp2
     exact ⟨⟨j + 1, by omega, by push_cast; rfl, hst⟩, by simp [intOf]; omega⟩
    ·rw [e2] at h
     subst h; go_wp2; go_ret
     exact ⟨by rw [hst.out]; rfl, AB.out⟩
  ·have hjd : decide (j < l5.length) = false := decide_eq_false hlt
   have h1 := HT.out; rw [findM_end _ _ (by omega)] at h1; go_wp2; go_ret
   exact ⟨rfl, AB.out⟩
theorem rcode_any (A : Option Addr) (c : Nat) (l : List S143) (a : Int) (w : World) (hk : Kd.C k143 w A l.length l) (hc : l.length ≤ c) :
  Calls Tryz.prog 143 #[.slice A l.length c, .int .i64 a] w fun e w' => e = .returned (.int .i64 (if codeB l a = true then 0 else 1)) ∧ Below w.heap.size w w' := by
 have HK := Lib.hid hk; have hmx := Kd.C_max hk; clear hk; generalize hr : (if codeB l a = true then (0 : Int) else 1) = r; replace hr := Lib.hid hr; unfold codeB wthB at hr
 by_cases h1 : (l.length : Int) < 1
 ·have d1 : decide ((l.length : Int) < 1) = true := decide_eq_true h1
  have h := hr.out; rw [decide_eq_false (show ¬ (1 : Int) ≤ l.length by omega)] at h; simp at h; subst h; clear h1; go_enter Tryz.func143, Tryz.ntmps143; go_wp2; go_ret
  exact ⟨rfl, Below.refl _ _⟩
 ·have d1 : decide ((l.length : Int) < 1) = false := decide_eq_false h1
  rw [decide_eq_true (show (1 : Int) ≤ l.length by omega), Bool.true_and] at hr
  by_cases h2 : (l.length : Int) > 200
  ·have d2 : decide ((l.length : Int) > 200) = true := decide_eq_true h2
   have h := hr.out; rw [decide_eq_false (show ¬ (l.length : Int) ≤ 200 by omega)] at h; simp at h; subst h; clear h1 h2; go_enter Tryz.func143, Tryz.ntmps143; go_wp2; go_ret
   exact ⟨rfl, Below.refl _ _⟩
  ·have d2 : decide ((l.length : Int) > 200) = false := decide_eq_false h2
   rw [decide_eq_true (show (l.length : Int) ≤ 200 by omega), Bool.true_and] at hr; go_enter Tryz.func143, Tryz.ntmps143; go_wp2_with fail
   go_loopw [5] (fun v5 wr => ∃ j : Nat, j ≤ l.length ∧ v5 = .int .i64 j ∧ Hid ((l.take j).all (fun x => insOk x a l.length) = true) ∧ Hid (Below w.heap.size w wr)) (fun v5 _ => l.length - (intOf v5).toNat)
   case atStart => exact ⟨0, Nat.zero_le _, rfl, Lib.hid (by simp), Lib.hid (Below.refl _ _)⟩
   case round =>
    obtain ⟨j, hj, rfl, HT, HB⟩ := hrel
    by_cases hlt : j < l.length
    ·have hjd : decide (j < l.length) = true := decide_eq_true hlt
     obtain ⟨ad, rfl, p0, p1, p2, p3, p4, p5, p6⟩ := at_T143 (Kd.C_below HK.out HB.out) (j : Int) (by omega) (by omega); have hx := rd83 hlt; rw [Int.toNat_natCast] at p0 p1 p2 p3 p4 p5 p6; have OPc := Lib.hid (fun W => roper_any (rd_T143 l (j : Int)).f0 W); have CK := Lib.hid (fun W => rcdck_any (rd_T143 l (j : Int)).f0 (rd_T143 l (j : Int)).f1 (rd_T143 l (j : Int)).f2 (rd_T143 l (j : Int)).f3.f0 (rd_T143 l (j : Int)).f3.f1 (rd_T143 l (j : Int)).f3.f2 (rd_T143 l (j : Int)).f3.f3 W); generalize rd_T143 l (j : Int) = x at *; have hV : Hid (insOk x a l.length = (insV x == 0 && (!(opnd x.f0 == 2 && decide (a ≤ x.f1)) && !(opnd x.f0 == 3 && decide ((l.length : Int) ≤ x.f1))))) := Lib.hid rfl; have hbad : Hid (insOk x a l.length = false → (1 : Int) = r) := Lib.hid (fun h => by rw [← hr.out, bad_all hx h]; rfl); have hgood : Hid (insOk x a l.length = true → (l.take (j + 1)).all (fun x => insOk x a l.length) = true) := Lib.hid (fun h => all_take hx h HT.out); clear hx; generalize insOk x a l.length = ok at *; obtain ⟨x0, x1, x2, ⟨x3, x4, x5, x6⟩⟩ := x; simp only at hV OPc CK p0 p1 p2 p3 p4 p5 p6; generalize insV ⟨x0, x1, x2, ⟨x3, x4, x5, x6⟩⟩ = iv at *; generalize opnd x0 = kk at *; clear HT; go_wp2_with fail; refine (OPc.out _).mono ?_; rintro e w3 ⟨rfl, rfl⟩; go_wp2_with fail; refine (CK.out _).mono ?_; rintro e w4 ⟨rfl, hb4⟩; have q1 := pw_cell_below hb4 p1; have H4 := Lib.hid (HB.out.trans (hb4.mono HB.out.size)); clear hb4 HB CK OPc p0 p1 p2 p3 p4 p5 p6; have hend : Hid (ok = true → ∃ j' : Nat, j' ≤ l.length ∧ (Value.int .i64 ((j : Int) + 1)) = .int .i64 j' ∧ Hid ((l.take j').all (fun x => insOk x a l.length) = true) ∧ Hid (Below w.heap.size w w4)) := Lib.hid (fun h => ⟨j + 1, by omega, by push_cast; rfl, Lib.hid (hgood.out h), H4⟩)
     by_cases hi : iv = 0
     ·subst hi
      by_cases h2 : kk = 2
      ·subst h2
       by_cases h3 : a ≤ x1
       ·have hd : decide (a ≤ x1) = true := decide_eq_true h3
        have hok := hV.out; simp [hd] at hok; obtain rfl := hbad.out hok; clear h3; go_wp2; go_ret
        exact ⟨rfl, H4.out⟩
       ·have hd : decide (a ≤ x1) = false := decide_eq_false h3
        have hok := hV.out; simp [hd] at hok; clear h3; go_wp2
        exact ⟨hend.out hok, by simp [intOf]; omega⟩
      ·have hk2 : (kk == 2) = false := beq_eq_false_iff_ne.2 h2
       by_cases h3 : kk = 3
       ·subst h3
        by_cases h4 : (l.length : Int) ≤ x1
        ·have hd : decide ((l.length : Int) ≤ x1) = true := decide_eq_true h4
         have hok := hV.out; simp [hd] at hok; obtain rfl := hbad.out hok; clear h4 h2; go_wp2; go_ret
         exact ⟨rfl, H4.out⟩
        ·have hd : decide ((l.length : Int) ≤ x1) = false := decide_eq_false h4
         have hok := hV.out; simp [hd] at hok; clear h4 h2; go_wp2
         exact ⟨hend.out hok, by simp [intOf]; omega⟩
       ·have hk3 : (kk == 3) = false := beq_eq_false_iff_ne.2 h3
        have hok := hV.out; rw [hk2, hk3] at hok; simp at hok; clear h2 h3; go_wp2
        exact ⟨hend.out hok, by simp [intOf]; omega⟩
     ·have hne : (iv != 0) = true := bne_iff_ne.2 hi
      have hok := hV.out; rw [show (iv == 0) = false from beq_eq_false_iff_ne.2 hi, Bool.false_and] at hok; obtain rfl := hbad.out hok; clear hi; go_wp2; go_ret
      exact ⟨rfl, H4.out⟩
    ·have hjd : decide (j < l.length) = false := decide_eq_false hlt
     have e1 : j = l.length := by omega
     subst e1; have h1 := HT.out; rw [List.take_length] at h1; have h2 := hr.out; rw [h1] at h2; simp at h2; subst h2; clear h1; go_wp2; go_ret
     exact ⟨rfl, HB.out⟩
theorem mfl_eq (f : Int) (hf : Fl.inR f) (b : Bool) (s : ByteArray) : mflV f b s = Fl.rcheckMethod f b (s.toList == [60, 105, 110, 105, 116, 62]) := Fl.checkMethod_eq f hf b _
theorem cls_eq (f : Int) (hf : Fl.inR f) : clsV f = Fl.rcheckClass f := Fl.checkClass_eq f hf
theorem rmeth_any (f0 f1 : ByteArray) (f2 f3 f4 : Int) (A : Option Addr) (c : Nat) (l : List S143) (b : Bool) (w : World) (hk : Kd.C k143 w A l.length l) (hc : l.length ≤ c) (hf2 : Fl.inR f2) :
  Calls Tryz.prog 118 #[.agg #[.string f0, .string f1, .int .i64 f2, .int .i64 f3, .int .i64 f4, .slice A l.length c], .bool b] w fun e w' => e = .returned (.bool (methB ⟨f0, f1, f2, f3, f4, l⟩ b)) ∧ Below w.heap.size w w' := by
 have B0 := Lib.hid (blk_new w (.cells #[.string f0, .string f1, .int .i64 f2, .int .i64 f3, .int .i64 f4, .slice A l.length c] 105)); have AB := Lib.hid ((Below.refl w.heap.size w).alloc (Nat.le_refl _) (.cells #[.string f0, .string f1, .int .i64 f2, .int .i64 f3, .int .i64 f4, .slice A l.length c] 105)); have CM := Lib.hid (arbiterref01_Member.calls f0 _ (w.alloc (.cells #[.string f0, .string f1, .int .i64 f2, .int .i64 f3, .int .i64 f4, .slice A l.length c] 105)) rfl); have CF := Lib.hid (fun W => Fl.rcheckMethod_any f2 b f0 W); have C1 := Lib.hid (fun W => rpdesc_any f1 W); have CH := Lib.hid (fun W => Fl.has_any f2 1024 W); have CW := Lib.hid (fun (W : World) (hp : (parseD f1.data.toList).2 = 0) => rwords_any f0 f1 f2 f3 f4 (.slice A l.length c) ⟨_, _, _, rfl⟩ W hp); have CC := Lib.hid (fun (W : World) (hb : Below w.heap.size w W) => rcode_any A c l f3 W (Kd.C_below hk hb) hc); clear hk; generalize hr : methB ⟨f0, f1, f2, f3, f4, l⟩ b = r; replace hr := Lib.hid hr; unfold methB badV at hr; simp only at hr; rw [mfl_eq f2 hf2] at hr; generalize Fl.rcheckMethod f2 b (f0.toList == [60, 105, 110, 105, 116, 62]) = mf at *; generalize wordsV f1 f2 = wd at *; generalize codeB l f3 = cb at *; generalize memberB f0 = mb at *; generalize parseD f1.data.toList = pd at *; unfold Fl.band at CH; obtain ⟨dr, e1⟩ := pd; obtain ⟨ar, vd, rd, rn⟩ := dr; simp only at hr CW C1; go_enter Tryz.func118, Tryz.ntmps118; go_wp2_with fail; refine CM.out.mono ?_; rintro e w1 ⟨rfl, hb1⟩; have B1 := Lib.hid (blk_below B0.out hb1); have H1 := Lib.hid (AB.out.trans (hb1.mono AB.out.size)); clear CM hb1 B0 AB
 cases mb with
 | false =>
  have h := hr.out; simp at h; subst h; go_wp2; go_ret
  exact ⟨rfl, H1.out⟩
 | true =>
  have q0 : w1.cell? ⟨w.heap.size, 0, none⟩ = some (.string f0) := (blk_cell B1.out 0).trans rfl; have q2 : w1.cell? ⟨w.heap.size, 2, none⟩ = some (.int .i64 f2) := (blk_cell B1.out 2).trans rfl; go_wp2_with fail; refine (CF.out _).mono ?_; rintro e w2 ⟨rfl, hb2⟩; have B2 := Lib.hid (blk_below B1.out hb2); have H2 := Lib.hid (H1.out.trans (hb2.mono H1.out.size)); clear CF hb2 B1 H1 q0 q2
  by_cases hm : mf = 0
  ·subst hm
   have q1 : w2.cell? ⟨w.heap.size, 1, none⟩ = some (.string f1) := (blk_cell B2.out 1).trans rfl; go_wp2_with fail; refine (C1.out _).mono ?_; rintro e w3 ⟨v0, rfl, R0, hb3⟩
   obtain ⟨A0, n0, c0, rfl⟩ : ∃ A n c, v0 = .slice A n c := by
    obtain ⟨A0, c0, e⟩ := Kd.R_slice R0
    exact ⟨_, _, _, e⟩
   have B3 := Lib.hid (blk_below B2.out hb3); have H3 := Lib.hid (H2.out.trans (hb3.mono H2.out.size)); clear C1 R0 hb3 B2 H2 q1; have D4 := Lib.hid (blk_new w3 (.cells #[.slice A0 n0 c0, .bool vd, .int .i64 rd, .string (bs rn)] 172)); have B4 := Lib.hid (blk_below B3.out ((Below.refl _ _).alloc (Nat.le_refl _) (.cells #[.slice A0 n0 c0, .bool vd, .int .i64 rd, .string (bs rn)] 172))); have H4 := Lib.hid (H3.out.alloc H3.out.size (.cells #[.slice A0 n0 c0, .bool vd, .int .i64 rd, .string (bs rn)] 172))
   go_upto_region 4 with (fail)
   change Code.wp _ _ _ _ (w3.alloc (.cells #[.slice A0 n0 c0, .bool vd, .int .i64 rd, .string (bs rn)] 172)); generalize w3.alloc (.cells #[.slice A0 n0 c0, .bool vd, .int .i64 rd, .string (bs rn)] 172) = W at *; clear B3 H3
   go_cut [1, 2, 39] (fun v1 v2 v39 wr => v1 = .bool b ∧ v2 = .pointer (some ⟨w.heap.size, 0, none⟩) ∧ v39 = .bool (!(e1 == 0) || ((f0.toList == ([60, 105, 110, 105, 116, 62] : List UInt8)) && !vd)) ∧ Hid (wr.heap[w.heap.size]? = some (.cells #[.string f0, .string f1, .int .i64 f2, .int .i64 f3, .int .i64 f4, .slice A l.length c] 105 (0, 0))) ∧ Hid (Below w.heap.size w wr))
   case first =>
    have q0 : W.cell? ⟨w.heap.size, 0, none⟩ = some (.string f0) := (blk_cell B4.out 0).trans rfl; have r1 : W.cell? ⟨w3.heap.size, 1, none⟩ = some (.bool vd) := (blk_cell D4.out 1).trans rfl
    by_cases h1 : e1 = 0
    ·subst h1
     cases hi : (f0.toList == ([60, 105, 110, 105, 116, 62] : List UInt8)) with
     | false =>
      go_wp2; go_meet
      case rel => exact ⟨rfl, rfl, by rw [hi]; cases vd <;> rfl, B4, H4⟩
     | true =>
      go_wp2; go_meet
      case rel => exact ⟨rfl, rfl, by rw [hi]; cases vd <;> rfl, B4, H4⟩
    ·have hne : (e1 != 0) = true := bne_iff_ne.2 h1
     have he : (e1 == 0) = false := beq_eq_false_iff_ne.2 h1; go_wp2; go_meet
     case rel => exact ⟨rfl, rfl, by rw [he]; rfl, B4, H4⟩
   case rest =>
    clear B4 D4 H4; obtain ⟨rfl, rfl, rfl, B4, H4⟩ := hcut; have hor : Hid ((!(e1 == 0) || (false || ((f0.toList == ([60, 105, 110, 105, 116, 62] : List UInt8)) && !vd))) = (!(e1 == 0) || ((f0.toList == ([60, 105, 110, 105, 116, 62] : List UInt8)) && !vd))) := Lib.hid (by rw [Bool.false_or]); rw [Bool.not_true, hor.out] at hr
    cases hbad : (!(e1 == 0) || ((f0.toList == ([60, 105, 110, 105, 116, 62] : List UInt8)) && !vd)) with
    | true =>
     rw [hbad] at hr; have h := hr.out; simp at h; subst h; go_wp2; go_ret
     exact ⟨rfl, H4.out⟩
    | false =>
     have he1 : e1 = 0 := by
      cases h : (e1 == 0) with
      | true => exact beq_iff_eq.1 h
      | false => rw [h] at hbad; simp at hbad
     rw [hbad, Bool.not_false, Bool.true_and, beq_self_eq_true, Bool.true_and] at hr; clear hbad hor; have q2 : wc.cell? ⟨w.heap.size, 2, none⟩ = some (.int .i64 f2) := (blk_cell B4.out 2).trans rfl; have q3 : wc.cell? ⟨w.heap.size, 3, none⟩ = some (.int .i64 f3) := (blk_cell B4.out 3).trans rfl; have q4 : wc.cell? ⟨w.heap.size, 4, none⟩ = some (.int .i64 f4) := (blk_cell B4.out 4).trans rfl; have q5 : wc.cell? ⟨w.heap.size, 5, none⟩ = some (.slice A l.length c) := (blk_cell B4.out 5).trans rfl; go_wp2_with fail; refine (CH.out _).mono ?_; rintro e w5 ⟨rfl, rfl⟩
     by_cases ha : Go.bits .and .i64 f2 1024 = 0
     ·have ha2 : (Go.bits .and .i64 f2 1024 != 0) = false := bne_eq_false_iff_eq.2 ha
      rw [if_pos ha] at hr; rw [ha2]; have q0 : w5.cell? ⟨w.heap.size, 0, none⟩ = some (.string f0) := (blk_cell B4.out 0).trans rfl; have q1 : w5.cell? ⟨w.heap.size, 1, none⟩ = some (.string f1) := (blk_cell B4.out 1).trans rfl; have C3 := Lib.hid (CW.out w5 he1); clear ha ha2 CW he1 CH; go_wp2_with fail; refine C3.out.mono ?_; rintro e w6 ⟨rfl, hb6⟩; have B5 := Lib.hid (blk_below B4.out hb6); have H5 := Lib.hid (H4.out.trans (hb6.mono H4.out.size)); have C4 := Lib.hid (CC.out w6 H5.out); clear hb6 B4 H4 q0 q1 q2 q3 q4 q5 C3 CC; have q3 : w6.cell? ⟨w.heap.size, 3, none⟩ = some (.int .i64 f3) := (blk_cell B5.out 3).trans rfl; have q4 : w6.cell? ⟨w.heap.size, 4, none⟩ = some (.int .i64 f4) := (blk_cell B5.out 4).trans rfl; have q5 : w6.cell? ⟨w.heap.size, 5, none⟩ = some (.slice A l.length c) := (blk_cell B5.out 5).trans rfl
      by_cases d3 : f4 < 0
      ·have d3b : decide (f4 < 0) = true := decide_eq_true d3
       have h := hr.out; rw [show decide (0 ≤ f4) = false from decide_eq_false (by omega)] at h; simp at h; subst h; clear d3; go_wp2; go_ret
       exact ⟨rfl, H5.out⟩
      ·have d3b : decide (f4 < 0) = false := decide_eq_false d3
       rw [show decide (0 ≤ f4) = true from decide_eq_true (by omega), Bool.true_and] at hr; clear d3
       by_cases d4 : f4 > 40
       ·have d4b : decide (f4 > 40) = true := decide_eq_true d4
        have h := hr.out; rw [show decide (f4 ≤ 40) = false from decide_eq_false (by omega)] at h; simp at h; subst h; clear d4; go_wp2; go_ret
        exact ⟨rfl, H5.out⟩
       ·have d4b : decide (f4 > 40) = false := decide_eq_false d4
        rw [show decide (f4 ≤ 40) = true from decide_eq_true (by omega), Bool.true_and] at hr; clear d4
        by_cases d1 : f3 < wd
        ·have d1b : decide (f3 < wd) = true := decide_eq_true d1
         have h := hr.out; rw [show decide (wd ≤ f3) = false from decide_eq_false (by omega)] at h; simp at h; subst h; clear d1; go_wp2; go_ret
         exact ⟨rfl, H5.out⟩
        ·have d1b : decide (f3 < wd) = false := decide_eq_false d1
         rw [show decide (wd ≤ f3) = true from decide_eq_true (by omega), Bool.true_and] at hr; clear d1
         by_cases d2 : f3 > 40
         ·have d2b : decide (f3 > 40) = true := decide_eq_true d2
          have h := hr.out; rw [show decide (f3 ≤ 40) = false from decide_eq_false (by omega)] at h; simp at h; subst h; clear d2; go_wp2; go_ret
          exact ⟨rfl, H5.out⟩
         ·have d2b : decide (f3 > 40) = false := decide_eq_false d2
          rw [show decide (f3 ≤ 40) = true from decide_eq_true (by omega), Bool.true_and] at hr; clear d2; go_wp2_with fail; refine C4.out.mono ?_; rintro e w7 ⟨rfl, hb7⟩; have H6 := Lib.hid (H5.out.trans (hb7.mono H5.out.size)); clear C4 hb7 H5 B5 q3 q4 q5
          cases cb
          all_goals
           have h := hr.out; subst h; go_wp2; go_ret
           exact ⟨rfl, H6.out⟩
     ·have ha2 : (Go.bits .and .i64 f2 1024 != 0) = true := bne_iff_ne.2 ha
      rw [if_neg ha] at hr; rw [ha2]; clear ha CW CC he1
      cases d1 : (f3 == 0) with
      | false =>
       rw [d1] at hr; have h := hr.out; simp at h; subst h; go_wp2; go_ret
       exact ⟨rfl, H4.out⟩
      | true =>
       cases d2 : (f4 == 0) with
       | false =>
        rw [d1, d2] at hr; have h := hr.out; simp at h; subst h; go_wp2; go_ret
        exact ⟨rfl, H4.out⟩
       | true =>
        rw [d1, d2, Bool.true_and, Bool.true_and] at hr; have h := hr.out; subst h; go_wp2; go_ret
        exact ⟨rfl, H4.out⟩
  ·have hne : (mf != 0) = true := bne_iff_ne.2 hm
   have h := hr.out; rw [show (mf == 0) = false from beq_eq_false_iff_ne.2 hm] at h; simp at h; subst h; go_wp2; go_ret
   exact ⟨rfl, H2.out⟩
end Go.Proofs.YtaipkdglhfhhiaaGreatDoor.Pt

namespace Go.Proofs.YtaipkdglhfhhiaaGreatDoor.Pt
open Go Go.RowKit Go.Proofs.YtaipkdglhfhhiaaGreatDoor.Nm Go.Proofs.YtaipkdglhfhhiaaGreatDoor.Ty Go.Proofs.YtaipkdglhfhhiaaGreatDoorW.PrintWords Go.Proofs.YtaipkdglhfhhiaaGreatDoorW.PrintLast Go.Proofs.YtaipkdglhfhhiaaGreatDoorW.PrintMore
set_option linter.unusedVariables false
set_option linter.unusedSimpArgs false
def inRB (f : Int) : Bool := decide (-9223372036854775808 ≤ f) && decide (f ≤ 9223372036854775807)
theorem inRB_iff {f : Int} : inRB f = true ↔ Fl.inR f := by simp [inRB, Fl.inR]
def arbiterref05_method.f (a0_0 : ByteArray) (a0_1 : ByteArray) (a0_2 : Int) (a0_3 : Int) (a0_4 : Int) (l0_5 : List (S143)) (a1 : Bool) : Option Bool := if inRB a0_2 = true then some (methB ⟨a0_0, a0_1, a0_2, a0_3, a0_4, l0_5⟩ a1) else none
theorem arbiterref05_method.calls (a0_0 : ByteArray) (a0_1 : ByteArray) (a0_2 : Int) (a0_3 : Int) (a0_4 : Int) (A0_5 : Option Addr) (c0_5 : Nat) (l0_5 : List (S143)) (a1 : Bool) (r : Bool) (w : World) (hr0_5 : Kd.C k143 w A0_5 l0_5.length l0_5) (hc0_5 : l0_5.length ≤ c0_5) (h : arbiterref05_method.f a0_0 a0_1 a0_2 a0_3 a0_4 l0_5 a1 = some r) :
  Calls Tryz.prog 118 #[.agg #[.string a0_0, .string a0_1, .int .i64 a0_2, .int .i64 a0_3, .int .i64 a0_4, .slice A0_5 l0_5.length c0_5], .bool a1] w fun e w' => e = .returned (.bool r) ∧ Below w.heap.size w w' := by
 unfold arbiterref05_method.f at h; obtain ⟨hl, h⟩ := if_some h; obtain rfl := Option.some.inj h
 exact rmeth_any _ _ _ _ _ _ _ _ _ w hr0_5 hc0_5 (inRB_iff.1 hl)
def arbiterref05_Find.f (a0_0 : ByteArray) (a0_1 : ByteArray) (l0_2 : List ByteArray) (a0_3 : Int) (a0_4 : Int) (l0_5 : List (S105)) (a1 : ByteArray) (a2 : ByteArray) : Option Int := if l0_5.length ≤ 4611686018427387904 then some (findM 0 l0_5 a1 a2) else none
theorem arbiterref05_Find.calls (a0_0 : ByteArray) (a0_1 : ByteArray) (A0_2 : Option Addr) (c0_2 : Nat) (l0_2 : List ByteArray) (a0_3 : Int) (a0_4 : Int) (A0_5 : Option Addr) (c0_5 : Nat) (l0_5 : List (S105)) (a1 : ByteArray) (a2 : ByteArray) (r : Int) (w : World) (hr0_2 : Kd.C Kd.string w A0_2 l0_2.length l0_2) (hc0_2 : l0_2.length ≤ c0_2) (hr0_5 : Kd.C k105 w A0_5 l0_5.length l0_5) (hc0_5 : l0_5.length ≤ c0_5) (h : arbiterref05_Find.f a0_0 a0_1 l0_2 a0_3 a0_4 l0_5 a1 a2 = some r) :
  Calls Tryz.prog 119 #[.agg #[.string a0_0, .string a0_1, .slice A0_2 l0_2.length c0_2, .int .i64 a0_3, .int .i64 a0_4, .slice A0_5 l0_5.length c0_5], .string a1, .string a2] w fun e w' => e = .returned (.int .i64 r) ∧ Below w.heap.size w w' := by
 unfold arbiterref05_Find.f at h; obtain ⟨hl, h⟩ := if_some h; obtain rfl := Option.some.inj h
 exact rfind_any _ _ _ _ _ _ _ _ _ _ w ⟨_, _, _, rfl⟩ hr0_5 hl
end Go.Proofs.YtaipkdglhfhhiaaGreatDoor.Pt

namespace Go.Proofs.YtaipkdglhfhhiaaGreatDoor.Pt
open Go.RowKit Go.Proofs.YtaipkdglhfhhiaaGreatDoorW.PrintWords Go.Proofs.YtaipkdglhfhhiaaGreatDoorW.PrintLast Go.Proofs.YtaipkdglhfhhiaaGreatDoorW.PrintMore
attribute [local go_sem] max2_int min2_int max_two min_two max_three min_three max_four min_four   -- for this text's walks alone
set_option linter.unusedVariables false
set_option linter.unusedSimpArgs false
mutual
def arbiterref05_Check.j0 : Nat → Bool → ByteArray → ByteArray → List ByteArray → Int → Int → List (S105) → Option (Int)
 | 0, _, _, _, _, _, _, _ => none
 | k + 1, x23, x126000, x126001, x126002, x126003, x126004, x126005 => if x23 = true then (some 1) else (if (x126002.length : Int) > 20 then (arbiterref05_Check.j1 k true x126000 x126001 x126002 x126003 x126004 x126005) else (if (x126005.length : Int) > 40 then (arbiterref05_Check.j1 k true x126000 x126001 x126002 x126003 x126004 x126005) else (if x126004 < 0 then (arbiterref05_Check.j1 k true x126000 x126001 x126002 x126003 x126004 x126005) else (if x126004 > 9 then (arbiterref05_Check.j1 k true x126000 x126001 x126002 x126003 x126004 x126005) else ((arbiterref03_CheckClass.f x126003).bind fun t128 => (arbiterref05_Check.j1 k (t128 != 0) x126000 x126001 x126002 x126003 x126004 x126005))))))
def arbiterref05_Check.j1 : Nat → Bool → ByteArray → ByteArray → List ByteArray → Int → Int → List (S105) → Option (Int)
 | 0, _, _, _, _, _, _, _ => none
 | k + 1, x49, x126000, x126001, x126002, x126003, x126004, x126005 => if x49 = true then (some 1) else (arbiterref05_Check.l0 k 0 x126000 x126001 x126002 x126003 x126004 x126005)
def arbiterref05_Check.l0 : Nat → Int → ByteArray → ByteArray → List ByteArray → Int → Int → List (S105) → Option (Int)
 | 0, _, _, _, _, _, _, _ => none
 | k + 1, x3, x126000, x126001, x126002, x126003, x126004, x126005 => if x3 < (x126002.length : Int) then (if 0 ≤ x3 then ((arbiterref01_Valid.f (rdOf ByteArray.empty x126002 x3)).bind fun t130 => (if t130 = true then (arbiterref05_Check.j3 k x3 ((rdOf ByteArray.empty x126002 x3).toList == x126000.toList) x126000 x126001 x126002 x126003 x126004 x126005) else (arbiterref05_Check.j3 k x3 true x126000 x126001 x126002 x126003 x126004 x126005))) else (none)) else (arbiterref05_Check.l2 k 0 x126000 x126001 x126002 x126003 x126004 x126005)
def arbiterref05_Check.j3 : Nat → Int → Bool → ByteArray → ByteArray → List ByteArray → Int → Int → List (S105) → Option (Int)
 | 0, _, _, _, _, _, _, _, _ => none
 | k + 1, x3, x73, x126000, x126001, x126002, x126003, x126004, x126005 => if x73 = true then (some 1) else (arbiterref05_Check.l1 k x3 0 x126000 x126001 x126002 x126003 x126004 x126005)
def arbiterref05_Check.l1 : Nat → Int → Int → ByteArray → ByteArray → List ByteArray → Int → Int → List (S105) → Option (Int)
 | 0, _, _, _, _, _, _, _, _ => none
 | k + 1, x3, x4, x126000, x126001, x126002, x126003, x126004, x126005 => if x4 < x3 then (if 0 ≤ x3 then (if x3 < (x126002.length : Int) then (if 0 ≤ x4 then (if x4 < (x126002.length : Int) then (if (rdOf ByteArray.empty x126002 x3).toList = (rdOf ByteArray.empty x126002 x4).toList then (some 1) else (arbiterref05_Check.l1 k x3 (wrap64 (x4 + 1)) x126000 x126001 x126002 x126003 x126004 x126005)) else (none)) else (none)) else (none)) else (none)) else (arbiterref05_Check.l0 k (wrap64 (x3 + 1)) x126000 x126001 x126002 x126003 x126004 x126005)
def arbiterref05_Check.l2 : Nat → Int → ByteArray → ByteArray → List ByteArray → Int → Int → List (S105) → Option (Int)
 | 0, _, _, _, _, _, _, _ => none
 | k + 1, x5, x126000, x126001, x126002, x126003, x126004, x126005 => if x5 < (x126005.length : Int) then (if 0 ≤ x5 then ((arbiterref03_Has.f x126003 512).bind fun t136 => ((arbiterref05_method.f ((rd_T105 x126005 x5).f0) ((rd_T105 x126005 x5).f1) ((rd_T105 x126005 x5).f2) ((rd_T105 x126005 x5).f3) ((rd_T105 x126005 x5).f4) ((rd_T105 x126005 x5).f5) t136).bind fun t137 => (if t137 = true then ((arbiterref05_Find.f x126000 x126001 x126002 x126003 x126004 x126005 ((rd_T105 x126005 x5).f0) ((rd_T105 x126005 x5).f1)).bind fun t138 => (if t138 = x5 then (arbiterref05_Check.l2 k (wrap64 (x5 + 1)) x126000 x126001 x126002 x126003 x126004 x126005) else (some 1))) else (some 1)))) else (none)) else (some 0)
end
def arbiterref05_Check.f (k : Nat) (a0_0 : ByteArray) (a0_1 : ByteArray) (l0_2 : List ByteArray) (a0_3 : Int) (a0_4 : Int) (l0_5 : List (S105)) : Option (Int) := (arbiterref01_Valid.f a0_0).bind fun t126 => (if t126 = true then ((arbiterref01_Valid.f a0_1).bind fun t127 => (if t127 = true then (arbiterref05_Check.j0 k (a0_0.toList == a0_1.toList) a0_0 a0_1 l0_2 a0_3 a0_4 l0_5) else (arbiterref05_Check.j0 k true a0_0 a0_1 l0_2 a0_3 a0_4 l0_5))) else (arbiterref05_Check.j0 k true a0_0 a0_1 l0_2 a0_3 a0_4 l0_5))
def arbiterref05_Check.T8 : Bool × List (List Nat × List Nat) := (true, [([], []), ([0], [0]), ([], []), ([1, 2], [1, 2]), ([3], [3]), ([4], [4]), ([5], [5]), ([6, 5], [6]), ([7], [7]), ([8, 7], [7, 8]), ([7], [7]), ([9, 10, 7], [7, 9, 10]), ([11, 7], [7, 11]), ([7], [7]), ([13, 7], [7, 13]), ([12, 14, 7], [7, 12, 14]), ([7, 15], [7, 15])])
def arbiterref05_Check.B8 : List Nat := [0, 1, 0, 7, 15, 31, 63, 127, 255, 511, 255, 2047, 4095, 255, 8447, 32767, 65535]
theorem arbiterref05_Check.tab8 : rtab .any (opsOf Tryz.f90 8) = arbiterref05_Check.T8 := by kernel_rfl
theorem arbiterref05_Check.bits8 : waitsOk arbiterref05_Check.T8.2 arbiterref05_Check.B8 = true := by kernel_rfl
def arbiterref05_Check.T13 : Bool × List (List Nat × List Nat) := (true, [([], []), ([0], [0]), ([], []), ([1, 2], [1, 2]), ([3], [3]), ([], []), ([5], [5]), ([], []), ([6, 7], [6, 7]), ([8], [8]), ([4, 9], [4, 9])])
def arbiterref05_Check.B13 : List Nat := [0, 1, 0, 7, 15, 0, 32, 0, 224, 480, 1023]
theorem arbiterref05_Check.tab13 : rtab .any (opsOf Tryz.f90 13) = arbiterref05_Check.T13 := by kernel_rfl
theorem arbiterref05_Check.bits13 : waitsOk arbiterref05_Check.T13.2 arbiterref05_Check.B13 = true := by kernel_rfl
def arbiterref05_Check.T19 : Bool × List (List Nat × List Nat) := (true, [([], []), ([], []), ([1], [1]), ([2], [2]), ([0, 3, 3], [0, 3]), ([4], [4]), ([5, 4], [5]), ([6], [6]), ([6], [6]), ([8, 6], [6, 8]), ([6], [6]), ([10, 6], [6, 10]), ([7, 9, 11, 6, 6], [6, 7, 9, 11]), ([6], [6]), ([12, 13, 6], [6, 12, 13]), ([6, 14], [6, 14])])
def arbiterref05_Check.B19 : List Nat := [0, 0, 2, 6, 15, 31, 63, 127, 127, 383, 127, 1151, 4095, 127, 16383, 32767]
theorem arbiterref05_Check.tab19 : rtab .any (opsOf Tryz.f90 19) = arbiterref05_Check.T19 := by kernel_rfl
theorem arbiterref05_Check.bits19 : waitsOk arbiterref05_Check.T19.2 arbiterref05_Check.B19 = true := by kernel_rfl
set_option maxHeartbeats 8000000 in
set_option maxRecDepth 100000 in
theorem arbiterref05_Check.calls (k : Nat) (a0_0 : ByteArray) (a0_1 : ByteArray) (A0_2 : Option Addr) (c0_2 : Nat) (l0_2 : List ByteArray) (a0_3 : Int) (a0_4 : Int) (A0_5 : Option Addr) (c0_5 : Nat) (l0_5 : List (S105)) (r : Int) (w : World) (hr0_2 : Kd.C Kd.string w A0_2 l0_2.length l0_2) (hc0_2 : l0_2.length ≤ c0_2) (hr0_5 : Kd.C k105 w A0_5 l0_5.length l0_5) (hc0_5 : l0_5.length ≤ c0_5) (h : arbiterref05_Check.f k a0_0 a0_1 l0_2 a0_3 a0_4 l0_5 = some r) :
  Calls Tryz.prog 90 #[.agg #[.string a0_0, .string a0_1, .slice A0_2 l0_2.length c0_2, .int .i64 a0_3, .int .i64 a0_4, .slice A0_5 l0_5.length c0_5]] w fun e w' => e = .returned (.int .i64 r) ∧ Below w.heap.size w w' := by
 have hu85 := Tryz.underlying85; have hu105 := Tryz.underlying105; have HR0_2 := Aside0.mk hr0_2; have HC0_2 := Aside0.mk hc0_2; clear hr0_2 hc0_2; have HR0_5 := Aside0.mk hr0_5; have HC0_5 := Aside0.mk hc0_5; clear hr0_5 hc0_5; have HB := Aside0.mk (Below.refl w.heap.size w); have H : ((arbiterref01_Valid.f a0_0).bind fun t126 => (if t126 = true then ((arbiterref01_Valid.f a0_1).bind fun t127 => (if t127 = true then (arbiterref05_Check.j0 k (a0_0.toList == a0_1.toList) a0_0 a0_1 l0_2 a0_3 a0_4 l0_5) else (arbiterref05_Check.j0 k true a0_0 a0_1 l0_2 a0_3 a0_4 l0_5))) else (arbiterref05_Check.j0 k true a0_0 a0_1 l0_2 a0_3 a0_4 l0_5))) = some r := h; clear h; have HC2 := Aside0.mk H; clear H; go_enter Tryz.func90, Tryz.ntmps90
 go_upto_region 1 with (first | ((with_reducible refine gate_dst (N := 1) rfl ?_); (try (refine gate_guard (by rfl) ?_; dsimp only)); refine box_event ?hg (N := 1) ?hd (cs := #[.string a0_0, .string a0_1, .slice A0_2 l0_2.length c0_2, .int .i64 a0_3, .int .i64 a0_4, .slice A0_5 l0_5.length c0_5]) (t := 85) ?hr ?_; (case hd => rfl); (case hg => rfl); (case hr => first | (go_simp; done) | (go_simp; rfl)); intro gb125 hg w3 hbox hb; have n0_ := Aside0.mk (below_step (bX HB) hb); have n1_ := Aside0.mk (hbox); have n2_ := Aside0.mk ((by rw [hg]; exact (below_size (bX HB)) : w.heap.size ≤ gb125)); have n3_ := Aside0.mk ((by rw [hg]; exact (below_size (bX HB)) : w.heap.size ≤ gb125)); clear HB; have HB := n0_; have BK125 := n1_; have GW125 := n2_; have GE125 := n3_; clear n0_ n1_ n2_ n3_; clear hb hbox hg))
 (try simp only [Act.put, List.setIfInBounds_toArray, List.set_cons_zero, List.set_cons_succ])
 go_cut [23] (fun v23 wc => ∃ (kq : Nat) (x23_1 : Bool), v23 = .bool x23_1 ∧ Aside0 (arbiterref05_Check.j0 kq x23_1 a0_0 a0_1 l0_2 a0_3 a0_4 l0_5 = some r) ∧ Aside0 (kq ≤ k) ∧ Aside0 (wc.heap[gb125]? = some (.cells #[.string a0_0, .string a0_1, (.slice A0_2 l0_2.length c0_2), .int .i64 a0_3, .int .i64 a0_4, (.slice A0_5 l0_5.length c0_5)] 85 (0, 0))) ∧ Aside0 (Below w.heap.size w wc))
 case first =>
  have H := HC2.out; clear HC2; replace H := Option.bind_eq_some_iff.mp H; obtain ⟨t126, A40, H⟩ := H; replace H : (if t126 = true then ((arbiterref01_Valid.f a0_1).bind fun t127 => (if t127 = true then (arbiterref05_Check.j0 k (a0_0.toList == a0_1.toList) a0_0 a0_1 l0_2 a0_3 a0_4 l0_5) else (arbiterref05_Check.j0 k true a0_0 a0_1 l0_2 a0_3 a0_4 l0_5))) else (arbiterref05_Check.j0 k true a0_0 a0_1 l0_2 a0_3 a0_4 l0_5)) = some r := H; have A4 := Aside0.mk A40; clear A40
  by_cases c5 : t126 = true
  ·subst c5
   have H1 : ((arbiterref01_Valid.f a0_1).bind fun t127 => (if t127 = true then (arbiterref05_Check.j0 k (a0_0.toList == a0_1.toList) a0_0 a0_1 l0_2 a0_3 a0_4 l0_5) else (arbiterref05_Check.j0 k true a0_0 a0_1 l0_2 a0_3 a0_4 l0_5))) = some r := by rw [if_pos rfl] at H; exact H
   clear H; have H := H1; clear H1; replace H := Option.bind_eq_some_iff.mp H; obtain ⟨t127, A60, H⟩ := H; replace H : (if t127 = true then (arbiterref05_Check.j0 k (a0_0.toList == a0_1.toList) a0_0 a0_1 l0_2 a0_3 a0_4 l0_5) else (arbiterref05_Check.j0 k true a0_0 a0_1 l0_2 a0_3 a0_4 l0_5)) = some r := H; have A6 := Aside0.mk A60; clear A60
   by_cases c7 : t127 = true
   ·subst c7
    have H1 : (arbiterref05_Check.j0 k (a0_0.toList == a0_1.toList) a0_0 a0_1 l0_2 a0_3 a0_4 l0_5) = some r := by rw [if_pos rfl] at H; exact H
    clear H; have H := H1; clear H1; have H' := Aside0.mk H; clear H; obtain ⟨hcz8_0, hcz8_1, hcz8_2, hcz8_3, hcz8_4, hcz8_5, hfz8_0, hfz8_1, hfz8_2, hfz8_3, hfz8_4, hfz8_5⟩ := c6X BK125; go_wp2_with (first | ((with_reducible refine gate_callee (f := 116) rfl ?_); refine goesL_ (some 9) rfl rfl Tryz.func116 (by kernel_rfl) rfl #[.string a0_0] rfl (by (try simp only [List.map_toArray, List.map_cons, List.map_nil]); first | done | rfl | (simp only [List.length_drop, List.length_take]; rfl)) ?_; (with_reducible refine (arbiterref01_Valid.calls a0_0 true _ A4.out).mono ?_); rintro e w9 ⟨rfl, hb⟩; refine ⟨_, rfl, ?_⟩; have n0_ := Aside0.mk (blk_below (kX BK125) hb); have n1_ := Aside0.mk (below_step (bX1 HB GE125) hb); clear BK125; clear HB; have BK125 := n0_; have HB := n1_; clear n0_ n1_; (try clear hb); (try clear hb2); (try clear hk); (try clear hi); have hcz10_0 : w9.cell? ⟨gb125, 0, none⟩ = some (.string a0_0) := (blk_cell BK125.out 0).trans rfl; have hcz10_1 : w9.cell? ⟨gb125, 1, none⟩ = some (.string a0_1) := (blk_cell BK125.out 1).trans rfl; have hcz10_2 : w9.cell? ⟨gb125, 2, none⟩ = some (.slice A0_2 l0_2.length c0_2) := (blk_cell BK125.out 2).trans rfl; have hcz10_3 : w9.cell? ⟨gb125, 3, none⟩ = some (.int .i64 a0_3) := (blk_cell BK125.out 3).trans rfl; have hcz10_4 : w9.cell? ⟨gb125, 4, none⟩ = some (.int .i64 a0_4) := (blk_cell BK125.out 4).trans rfl; have hcz10_5 : w9.cell? ⟨gb125, 5, none⟩ = some (.slice A0_5 l0_5.length c0_5) := (blk_cell BK125.out 5).trans rfl; have hfz10_0 := blk_frozen BK125.out 0; have hfz10_1 := blk_frozen BK125.out 1; have hfz10_2 := blk_frozen BK125.out 2; have hfz10_3 := blk_frozen BK125.out 3; have hfz10_4 := blk_frozen BK125.out 4; have hfz10_5 := blk_frozen BK125.out 5) | (go_at_call 116; (with_reducible refine (arbiterref01_Valid.calls a0_1 true _ A6.out).mono ?_); rintro e w11 ⟨rfl, hb⟩; have n0_ := Aside0.mk (blk_below (kX BK125) hb); have n1_ := Aside0.mk (below_step (bX1 HB GE125) hb); clear BK125; clear HB; have BK125 := n0_; have HB := n1_; clear n0_ n1_; (try clear hb); (try clear hb2); (try clear hk); (try clear hi); have hcz12_0 : w11.cell? ⟨gb125, 0, none⟩ = some (.string a0_0) := (blk_cell BK125.out 0).trans rfl; have hcz12_1 : w11.cell? ⟨gb125, 1, none⟩ = some (.string a0_1) := (blk_cell BK125.out 1).trans rfl; have hcz12_2 : w11.cell? ⟨gb125, 2, none⟩ = some (.slice A0_2 l0_2.length c0_2) := (blk_cell BK125.out 2).trans rfl; have hcz12_3 : w11.cell? ⟨gb125, 3, none⟩ = some (.int .i64 a0_3) := (blk_cell BK125.out 3).trans rfl; have hcz12_4 : w11.cell? ⟨gb125, 4, none⟩ = some (.int .i64 a0_4) := (blk_cell BK125.out 4).trans rfl; have hcz12_5 : w11.cell? ⟨gb125, 5, none⟩ = some (.slice A0_5 l0_5.length c0_5) := (blk_cell BK125.out 5).trans rfl; have hfz12_0 := blk_frozen BK125.out 0; have hfz12_1 := blk_frozen BK125.out 1; have hfz12_2 := blk_frozen BK125.out 2; have hfz12_3 := blk_frozen BK125.out 3; have hfz12_4 := blk_frozen BK125.out 4; have hfz12_5 := blk_frozen BK125.out 5)); go_meet
    case rel => exact ⟨_, ((a0_0.toList == a0_1.toList)), (by first | rfl | (simp; done) | (simp [*]; done)), H', ⟨by first | omega | exact Nat.le_refl _⟩, ⟨by (with_reducible repeat (first | refine blk_drewN ?_ _ | refine blk_drew ?_ | refine blk_alloc ?_ _)); exact BK125.out⟩, ⟨bX1 HB GE125⟩⟩
   ·replace c7 := Bool.eq_false_iff.mpr c7
    subst c7
    have H1 : (arbiterref05_Check.j0 k true a0_0 a0_1 l0_2 a0_3 a0_4 l0_5) = some r := by rw [if_neg (show ¬ (false = true) by decide)] at H; exact H
    clear H; have H := H1; clear H1; have H' := Aside0.mk H; clear H; obtain ⟨hcz13_0, hcz13_1, hcz13_2, hcz13_3, hcz13_4, hcz13_5, hfz13_0, hfz13_1, hfz13_2, hfz13_3, hfz13_4, hfz13_5⟩ := c6X BK125; go_wp2_with (first | ((with_reducible refine gate_callee (f := 116) rfl ?_); refine goesL_ (some 9) rfl rfl Tryz.func116 (by kernel_rfl) rfl #[.string a0_0] rfl (by (try simp only [List.map_toArray, List.map_cons, List.map_nil]); first | done | rfl | (simp only [List.length_drop, List.length_take]; rfl)) ?_; (with_reducible refine (arbiterref01_Valid.calls a0_0 true _ A4.out).mono ?_); rintro e w14 ⟨rfl, hb⟩; refine ⟨_, rfl, ?_⟩; have n0_ := Aside0.mk (blk_below (kX BK125) hb); have n1_ := Aside0.mk (below_step (bX1 HB GE125) hb); clear BK125; clear HB; have BK125 := n0_; have HB := n1_; clear n0_ n1_; (try clear hb); (try clear hb2); (try clear hk); (try clear hi); have hcz15_0 : w14.cell? ⟨gb125, 0, none⟩ = some (.string a0_0) := (blk_cell BK125.out 0).trans rfl; have hcz15_1 : w14.cell? ⟨gb125, 1, none⟩ = some (.string a0_1) := (blk_cell BK125.out 1).trans rfl; have hcz15_2 : w14.cell? ⟨gb125, 2, none⟩ = some (.slice A0_2 l0_2.length c0_2) := (blk_cell BK125.out 2).trans rfl; have hcz15_3 : w14.cell? ⟨gb125, 3, none⟩ = some (.int .i64 a0_3) := (blk_cell BK125.out 3).trans rfl; have hcz15_4 : w14.cell? ⟨gb125, 4, none⟩ = some (.int .i64 a0_4) := (blk_cell BK125.out 4).trans rfl; have hcz15_5 : w14.cell? ⟨gb125, 5, none⟩ = some (.slice A0_5 l0_5.length c0_5) := (blk_cell BK125.out 5).trans rfl; have hfz15_0 := blk_frozen BK125.out 0; have hfz15_1 := blk_frozen BK125.out 1; have hfz15_2 := blk_frozen BK125.out 2; have hfz15_3 := blk_frozen BK125.out 3; have hfz15_4 := blk_frozen BK125.out 4; have hfz15_5 := blk_frozen BK125.out 5) | (go_at_call 116; (with_reducible refine (arbiterref01_Valid.calls a0_1 false _ A6.out).mono ?_); rintro e w16 ⟨rfl, hb⟩; have n0_ := Aside0.mk (blk_below (kX BK125) hb); have n1_ := Aside0.mk (below_step (bX1 HB GE125) hb); clear BK125; clear HB; have BK125 := n0_; have HB := n1_; clear n0_ n1_; (try clear hb); (try clear hb2); (try clear hk); (try clear hi))); go_meet
    case rel => exact ⟨_, (true), (by first | rfl | (simp; done) | (simp [*]; done)), H', ⟨by first | omega | exact Nat.le_refl _⟩, ⟨by (with_reducible repeat (first | refine blk_drewN ?_ _ | refine blk_drew ?_ | refine blk_alloc ?_ _)); exact BK125.out⟩, ⟨bX1 HB GE125⟩⟩
  ·replace c5 := Bool.eq_false_iff.mpr c5
   subst c5
   have H1 : (arbiterref05_Check.j0 k true a0_0 a0_1 l0_2 a0_3 a0_4 l0_5) = some r := by rw [if_neg (show ¬ (false = true) by decide)] at H; exact H
   clear H; have H := H1; clear H1; have H' := Aside0.mk H; clear H; obtain ⟨hcz17_0, hcz17_1, hcz17_2, hcz17_3, hcz17_4, hcz17_5, hfz17_0, hfz17_1, hfz17_2, hfz17_3, hfz17_4, hfz17_5⟩ := c6X BK125; go_wp2_with (first | ((with_reducible refine gate_callee (f := 116) rfl ?_); refine goesL_ (some 9) rfl rfl Tryz.func116 (by kernel_rfl) rfl #[.string a0_0] rfl (by (try simp only [List.map_toArray, List.map_cons, List.map_nil]); first | done | rfl | (simp only [List.length_drop, List.length_take]; rfl)) ?_; (with_reducible refine (arbiterref01_Valid.calls a0_0 false _ A4.out).mono ?_); rintro e w18 ⟨rfl, hb⟩; refine ⟨_, rfl, ?_⟩; have n0_ := Aside0.mk (blk_below (kX BK125) hb); have n1_ := Aside0.mk (below_step (bX1 HB GE125) hb); clear BK125; clear HB; have BK125 := n0_; have HB := n1_; clear n0_ n1_; (try clear hb); (try clear hb2); (try clear hk); (try clear hi))); go_meet
   case rel => exact ⟨_, (true), (by first | rfl | (simp; done) | (simp [*]; done)), H', ⟨by first | omega | exact Nat.le_refl _⟩, ⟨by (with_reducible repeat (first | refine blk_drewN ?_ _ | refine blk_drew ?_ | refine blk_alloc ?_ _)); exact BK125.out⟩, ⟨bX1 HB GE125⟩⟩
 case rest =>
  clear HC2
  try clear c1
  try clear p2
  try clear c5
  try clear c7
  try clear c9
  try clear c11
  try clear hcz10_0 hcz10_1 hcz10_2 hcz10_3 hcz10_4 hcz10_5
  try clear hcz12_0 hcz12_1 hcz12_2 hcz12_3 hcz12_4 hcz12_5
  try clear hcz13_0 hcz13_1 hcz13_2 hcz13_3 hcz13_4 hcz13_5
  try clear hcz15_0 hcz15_1 hcz15_2 hcz15_3 hcz15_4 hcz15_5
  try clear hcz17_0 hcz17_1 hcz17_2 hcz17_3 hcz17_4 hcz17_5
  try clear hcz8_0 hcz8_1 hcz8_2 hcz8_3 hcz8_4 hcz8_5
  try clear hfz10_0 hfz10_1 hfz10_2 hfz10_3 hfz10_4 hfz10_5
  try clear hfz12_0 hfz12_1 hfz12_2 hfz12_3 hfz12_4 hfz12_5
  try clear hfz13_0 hfz13_1 hfz13_2 hfz13_3 hfz13_4 hfz13_5
  try clear hfz15_0 hfz15_1 hfz15_2 hfz15_3 hfz15_4 hfz15_5
  try clear hfz17_0 hfz17_1 hfz17_2 hfz17_3 hfz17_4 hfz17_5
  try clear hfz8_0 hfz8_1 hfz8_2 hfz8_3 hfz8_4 hfz8_5
  obtain ⟨kq, x23_1, rfl, HA, HJ1, BK125, HB⟩ := hcut
  cases kq with
  | zero => exact absurd HA.out (by simp [arbiterref05_Check.j0])
  | succ kj1 =>
   have H := HA.out; clear HA; simp only [arbiterref05_Check.j0] at H
   by_cases c19 : x23_1 = true
   ·subst c19
    have H1 : (some 1) = some r := by rw [if_pos rfl] at H; exact H
    clear H; have H := H1; clear H1; obtain rfl := Option.some.inj H; go_wp2; go_ret
    exact ⟨by first | rfl | (simp [errW_none, errW_some] <;> rfl) | (simp [*, errW_none, errW_some] <;> rfl), bX1 HB GE125⟩
   ·replace c19 := Bool.eq_false_iff.mpr c19
    subst c19
    have H1 : (if (l0_2.length : Int) > 20 then (arbiterref05_Check.j1 kj1 true a0_0 a0_1 l0_2 a0_3 a0_4 l0_5) else (if (l0_5.length : Int) > 40 then (arbiterref05_Check.j1 kj1 true a0_0 a0_1 l0_2 a0_3 a0_4 l0_5) else (if a0_4 < 0 then (arbiterref05_Check.j1 kj1 true a0_0 a0_1 l0_2 a0_3 a0_4 l0_5) else (if a0_4 > 9 then (arbiterref05_Check.j1 kj1 true a0_0 a0_1 l0_2 a0_3 a0_4 l0_5) else ((arbiterref03_CheckClass.f a0_3).bind fun t128 => (arbiterref05_Check.j1 kj1 (t128 != 0) a0_0 a0_1 l0_2 a0_3 a0_4 l0_5)))))) = some r := by rw [if_neg (show ¬ (false = true) by decide)] at H; exact H
    clear H; have H := H1; clear H1; have HC20 := Aside0.mk H; clear H
    go_upto_region 3 with (fail)
    go_cut [49] (fun v49 wc => ∃ (kq : Nat) (x49_19 : Bool), v49 = .bool x49_19 ∧ Aside0 (arbiterref05_Check.j1 kq x49_19 a0_0 a0_1 l0_2 a0_3 a0_4 l0_5 = some r) ∧ Aside0 (kq ≤ kj1) ∧ Aside0 (wc.heap[gb125]? = some (.cells #[.string a0_0, .string a0_1, (.slice A0_2 l0_2.length c0_2), .int .i64 a0_3, .int .i64 a0_4, (.slice A0_5 l0_5.length c0_5)] 85 (0, 0))) ∧ Aside0 (Below w.heap.size w wc))
    case first =>
     have H := HC20.out; clear HC20
     by_cases c21 : (l0_2.length : Int) > 20
     ·rw [if_pos c21] at H
      have c21b0 : decide (20 < (l0_2.length : Int)) = true := decide_eq_true c21; have c21b1 : decide (20 < l0_2.length) = true := decide_eq_true (by omega); clear c21
      (first | rw [c21b0] | (simp only [i64_w, i32_w]; rw [c21b0]) | skip)
      have H' := Aside0.mk H; clear H; obtain ⟨hcz22_0, hcz22_1, hcz22_2, hcz22_3, hcz22_4, hcz22_5, hfz22_0, hfz22_1, hfz22_2, hfz22_3, hfz22_4, hfz22_5⟩ := c6X BK125; go_wp2; go_meet
      case rel => exact ⟨_, (true), (by first | rfl | (simp; done) | (simp [*]; done)), H', ⟨by have := HJ1.out; first | omega | exact Nat.le_refl _⟩, ⟨by (with_reducible repeat (first | refine blk_drewN ?_ _ | refine blk_drew ?_ | refine blk_alloc ?_ _)); exact BK125.out⟩, ⟨bX1 HB GE125⟩⟩
     ·rw [if_neg c21] at H
      have c21b0 : decide (20 < (l0_2.length : Int)) = false := decide_eq_false c21; have c21b1 : decide (20 < l0_2.length) = false := decide_eq_false (by omega); clear c21
      (first | rw [c21b0] | (simp only [i64_w, i32_w]; rw [c21b0]) | skip)
      by_cases c23 : (l0_5.length : Int) > 40
      ·rw [if_pos c23] at H
       have c23b0 : decide (40 < (l0_5.length : Int)) = true := decide_eq_true c23; have c23b1 : decide (40 < l0_5.length) = true := decide_eq_true (by omega); clear c23; have H' := Aside0.mk H; clear H; obtain ⟨hcz24_0, hcz24_1, hcz24_2, hcz24_3, hcz24_4, hcz24_5, hfz24_0, hfz24_1, hfz24_2, hfz24_3, hfz24_4, hfz24_5⟩ := c6X BK125; go_wp2; go_meet
       case rel => exact ⟨_, (true), (by first | rfl | (simp; done) | (simp [*]; done)), H', ⟨by have := HJ1.out; first | omega | exact Nat.le_refl _⟩, ⟨by (with_reducible repeat (first | refine blk_drewN ?_ _ | refine blk_drew ?_ | refine blk_alloc ?_ _)); exact BK125.out⟩, ⟨bX1 HB GE125⟩⟩
      ·rw [if_neg c23] at H
       have c23b0 : decide (40 < (l0_5.length : Int)) = false := decide_eq_false c23; have c23b1 : decide (40 < l0_5.length) = false := decide_eq_false (by omega); clear c23
       by_cases c25 : a0_4 < 0
       ·rw [if_pos c25] at H
        have c25b0 : decide (a0_4 < 0) = true := decide_eq_true c25; clear c25; have H' := Aside0.mk H; clear H; obtain ⟨hcz26_0, hcz26_1, hcz26_2, hcz26_3, hcz26_4, hcz26_5, hfz26_0, hfz26_1, hfz26_2, hfz26_3, hfz26_4, hfz26_5⟩ := c6X BK125; go_wp2; go_meet
        case rel => exact ⟨_, (true), (by first | rfl | (simp; done) | (simp [*]; done)), H', ⟨by have := HJ1.out; first | omega | exact Nat.le_refl _⟩, ⟨by (with_reducible repeat (first | refine blk_drewN ?_ _ | refine blk_drew ?_ | refine blk_alloc ?_ _)); exact BK125.out⟩, ⟨bX1 HB GE125⟩⟩
       ·rw [if_neg c25] at H
        have c25b0 : decide (a0_4 < 0) = false := decide_eq_false c25; clear c25
        by_cases c27 : a0_4 > 9
        ·rw [if_pos c27] at H
         have c27b0 : decide (9 < a0_4) = true := decide_eq_true c27; clear c27; have H' := Aside0.mk H; clear H; obtain ⟨hcz28_0, hcz28_1, hcz28_2, hcz28_3, hcz28_4, hcz28_5, hfz28_0, hfz28_1, hfz28_2, hfz28_3, hfz28_4, hfz28_5⟩ := c6X BK125; go_wp2; go_meet
         case rel => exact ⟨_, (true), (by first | rfl | (simp; done) | (simp [*]; done)), H', ⟨by have := HJ1.out; first | omega | exact Nat.le_refl _⟩, ⟨by (with_reducible repeat (first | refine blk_drewN ?_ _ | refine blk_drew ?_ | refine blk_alloc ?_ _)); exact BK125.out⟩, ⟨bX1 HB GE125⟩⟩
        ·rw [if_neg c27] at H
         have c27b0 : decide (9 < a0_4) = false := decide_eq_false c27; clear c27; replace H := Option.bind_eq_some_iff.mp H; obtain ⟨t128, A290, H⟩ := H; replace H : (arbiterref05_Check.j1 kj1 (t128 != 0) a0_0 a0_1 l0_2 a0_3 a0_4 l0_5) = some r := H; have A29 := Aside0.mk A290; clear A290; have H' := Aside0.mk H; clear H; obtain ⟨hcz30_0, hcz30_1, hcz30_2, hcz30_3, hcz30_4, hcz30_5, hfz30_0, hfz30_1, hfz30_2, hfz30_3, hfz30_4, hfz30_5⟩ := c6X BK125; go_wp2_with (first | (go_at_call 117; (with_reducible refine (arbiterref03_CheckClass.calls a0_3 t128 _ A29.out).mono ?_); rintro e w31 ⟨rfl, hb⟩; have n0_ := Aside0.mk (blk_below (kX BK125) hb); have n1_ := Aside0.mk (below_step (bX1 HB GE125) hb); clear BK125; clear HB; have BK125 := n0_; have HB := n1_; clear n0_ n1_; (try clear hb); (try clear hb2); (try clear hk); (try clear hi))); go_meet
         case rel => exact ⟨_, ((t128 != 0)), (by first | rfl | (simp; done) | (simp [*]; done)), H', ⟨by have := HJ1.out; first | omega | exact Nat.le_refl _⟩, ⟨by (with_reducible repeat (first | refine blk_drewN ?_ _ | refine blk_drew ?_ | refine blk_alloc ?_ _)); exact BK125.out⟩, ⟨bX1 HB GE125⟩⟩
    case rest =>
     clear HC20
     try clear c1
     try clear c2
     try clear p2
     try clear c5
     try clear c7
     try clear c9
     try clear c11
     try clear c19
     try clear c21
     try clear c21b0
     try clear c21b1
     try clear c23
     try clear c23b0
     try clear c23b1
     try clear c25
     try clear c25b0
     try clear c27
     try clear c27b0
     try clear hcz10_0 hcz10_1 hcz10_2 hcz10_3 hcz10_4 hcz10_5
     try clear hcz12_0 hcz12_1 hcz12_2 hcz12_3 hcz12_4 hcz12_5
     try clear hcz13_0 hcz13_1 hcz13_2 hcz13_3 hcz13_4 hcz13_5
     try clear hcz15_0 hcz15_1 hcz15_2 hcz15_3 hcz15_4 hcz15_5
     try clear hcz17_0 hcz17_1 hcz17_2 hcz17_3 hcz17_4 hcz17_5
     try clear hcz22_0 hcz22_1 hcz22_2 hcz22_3 hcz22_4 hcz22_5
     try clear hcz24_0 hcz24_1 hcz24_2 hcz24_3 hcz24_4 hcz24_5
     try clear hcz26_0 hcz26_1 hcz26_2 hcz26_3 hcz26_4 hcz26_5
     try clear hcz28_0 hcz28_1 hcz28_2 hcz28_3 hcz28_4 hcz28_5
     try clear hcz30_0 hcz30_1 hcz30_2 hcz30_3 hcz30_4 hcz30_5
     try clear hcz8_0 hcz8_1 hcz8_2 hcz8_3 hcz8_4 hcz8_5
     try clear hfz10_0 hfz10_1 hfz10_2 hfz10_3 hfz10_4 hfz10_5
     try clear hfz12_0 hfz12_1 hfz12_2 hfz12_3 hfz12_4 hfz12_5
     try clear hfz13_0 hfz13_1 hfz13_2 hfz13_3 hfz13_4 hfz13_5
     try clear hfz15_0 hfz15_1 hfz15_2 hfz15_3 hfz15_4 hfz15_5
     try clear hfz17_0 hfz17_1 hfz17_2 hfz17_3 hfz17_4 hfz17_5
     try clear hfz22_0 hfz22_1 hfz22_2 hfz22_3 hfz22_4 hfz22_5
     try clear hfz24_0 hfz24_1 hfz24_2 hfz24_3 hfz24_4 hfz24_5
     try clear hfz26_0 hfz26_1 hfz26_2 hfz26_3 hfz26_4 hfz26_5
     try clear hfz28_0 hfz28_1 hfz28_2 hfz28_3 hfz28_4 hfz28_5
     try clear hfz30_0 hfz30_1 hfz30_2 hfz30_3 hfz30_4 hfz30_5
     try clear hfz8_0 hfz8_1 hfz8_2 hfz8_3 hfz8_4 hfz8_5
     try clear p2
     obtain ⟨kq, x49_19, rfl, HA, HJ19, BK125, HB⟩ := hcut
     cases kq with
     | zero => exact absurd HA.out (by simp [arbiterref05_Check.j1])
     | succ kj19 =>
      have H := HA.out; clear HA; simp only [arbiterref05_Check.j1] at H
      by_cases c32 : x49_19 = true
      ·subst c32
       have H1 : (some 1) = some r := by rw [if_pos rfl] at H; exact H
       clear H; have H := H1; clear H1; obtain rfl := Option.some.inj H; go_wp2; go_ret
       exact ⟨by first | rfl | (simp [errW_none, errW_some] <;> rfl) | (simp [*, errW_none, errW_some] <;> rfl), bX1 HB GE125⟩
      ·replace c32 := Bool.eq_false_iff.mpr c32
       subst c32
       have H1 : (arbiterref05_Check.l0 kj19 0 a0_0 a0_1 l0_2 a0_3 a0_4 l0_5) = some r := by rw [if_neg (show ¬ (false = true) by decide)] at H; exact H
       clear H; have H := H1; clear H1; have H' := Aside0.mk H; clear H; go_wp2
       go_loopg [3] kj19 (fun kq v3 w' => ∃ (x3_3 : Int), v3 = .int .i64 x3_3 ∧ Aside0 (arbiterref05_Check.l0 kq x3_3 a0_0 a0_1 l0_2 a0_3 a0_4 l0_5 = some r) ∧ Aside0 (kq ≤ kj19) ∧ Aside0 (w'.heap[gb125]? = some (.cells #[.string a0_0, .string a0_1, (.slice A0_2 l0_2.length c0_2), .int .i64 a0_3, .int .i64 a0_4, (.slice A0_5 l0_5.length c0_5)] 85 (0, 0))) ∧ Aside0 (Below w.heap.size w w'))
       case atStart => exact ⟨(0), (by first | rfl | (simp; done) | (simp [*]; done)), H', ⟨Nat.le_refl _⟩, ⟨by (with_reducible repeat (first | refine blk_drewN ?_ _ | refine blk_drew ?_ | refine blk_alloc ?_ _)); exact BK125.out⟩, ⟨bX1 HB GE125⟩⟩
       case round =>
        clear H'
        try clear c1
        try clear c2
        try clear p2
        try clear c3
        try clear c5
        try clear c7
        try clear c9
        try clear c11
        try clear c19
        try clear c21
        try clear c21b0
        try clear c21b1
        try clear c23
        try clear c23b0
        try clear c23b1
        try clear c25
        try clear c25b0
        try clear c27
        try clear c27b0
        try clear c32
        try clear hcz10_0 hcz10_1 hcz10_2 hcz10_3 hcz10_4 hcz10_5
        try clear hcz12_0 hcz12_1 hcz12_2 hcz12_3 hcz12_4 hcz12_5
        try clear hcz13_0 hcz13_1 hcz13_2 hcz13_3 hcz13_4 hcz13_5
        try clear hcz15_0 hcz15_1 hcz15_2 hcz15_3 hcz15_4 hcz15_5
        try clear hcz17_0 hcz17_1 hcz17_2 hcz17_3 hcz17_4 hcz17_5
        try clear hcz22_0 hcz22_1 hcz22_2 hcz22_3 hcz22_4 hcz22_5
        try clear hcz24_0 hcz24_1 hcz24_2 hcz24_3 hcz24_4 hcz24_5
        try clear hcz26_0 hcz26_1 hcz26_2 hcz26_3 hcz26_4 hcz26_5
        try clear hcz28_0 hcz28_1 hcz28_2 hcz28_3 hcz28_4 hcz28_5
        try clear hcz30_0 hcz30_1 hcz30_2 hcz30_3 hcz30_4 hcz30_5
        try clear hcz8_0 hcz8_1 hcz8_2 hcz8_3 hcz8_4 hcz8_5
        try clear hfz10_0 hfz10_1 hfz10_2 hfz10_3 hfz10_4 hfz10_5
        try clear hfz12_0 hfz12_1 hfz12_2 hfz12_3 hfz12_4 hfz12_5
        try clear hfz13_0 hfz13_1 hfz13_2 hfz13_3 hfz13_4 hfz13_5
        try clear hfz15_0 hfz15_1 hfz15_2 hfz15_3 hfz15_4 hfz15_5
        try clear hfz17_0 hfz17_1 hfz17_2 hfz17_3 hfz17_4 hfz17_5
        try clear hfz22_0 hfz22_1 hfz22_2 hfz22_3 hfz22_4 hfz22_5
        try clear hfz24_0 hfz24_1 hfz24_2 hfz24_3 hfz24_4 hfz24_5
        try clear hfz26_0 hfz26_1 hfz26_2 hfz26_3 hfz26_4 hfz26_5
        try clear hfz28_0 hfz28_1 hfz28_2 hfz28_3 hfz28_4 hfz28_5
        try clear hfz30_0 hfz30_1 hfz30_2 hfz30_3 hfz30_4 hfz30_5
        try clear hfz8_0 hfz8_1 hfz8_2 hfz8_3 hfz8_4 hfz8_5
        try clear p2
        obtain ⟨x3_3, rfl, HA, HK3, BK125, HB⟩ := hrel
        cases gk with
        | zero => exact absurd HA.out (by simp [arbiterref05_Check.l0])
        | succ k3 =>
         have H := HA.out; clear HA; simp only [arbiterref05_Check.l0] at H
         by_cases c33 : x3_3 < (l0_2.length : Int)
         ·rw [if_pos c33] at H
          have c33b0 : decide (x3_3 < (l0_2.length : Int)) = true := decide_eq_true c33; clear c33; have HC34 := Aside0.mk H; clear H; obtain ⟨hcz35_0, hcz35_1, hcz35_2, hcz35_3, hcz35_4, hcz35_5, hfz35_0, hfz35_1, hfz35_2, hfz35_3, hfz35_4, hfz35_5⟩ := c6X BK125
          go_upto_region 8 with (fail)
          go_cut [73] (fun v73 wc => ∃ (kq : Nat) (x73_33 : Bool), v73 = .bool x73_33 ∧ Aside0 (arbiterref05_Check.j3 kq x3_3 x73_33 a0_0 a0_1 l0_2 a0_3 a0_4 l0_5 = some r) ∧ Aside0 (kq ≤ k3) ∧ Aside0 (wc.heap[gb125]? = some (.cells #[.string a0_0, .string a0_1, (.slice A0_2 l0_2.length c0_2), .int .i64 a0_3, .int .i64 a0_4, (.slice A0_5 l0_5.length c0_5)] 85 (0, 0))) ∧ Aside0 (Below w.heap.size w wc))
          case first =>
           have H := HC34.out; clear HC34
           by_cases c36 : 0 ≤ x3_3
           ·rw [if_pos c36] at H
            have c36b0 : decide (0 ≤ x3_3) = true := decide_eq_true c36; clear c36
            (first | rw [c36b0] | (simp only [i64_w, i32_w]; rw [c36b0]) | skip)
            replace H := Option.bind_eq_some_iff.mp H; obtain ⟨t130, A370, H⟩ := H; replace H : (if t130 = true then (arbiterref05_Check.j3 k3 x3_3 ((rdOf ByteArray.empty l0_2 x3_3).toList == a0_0.toList) a0_0 a0_1 l0_2 a0_3 a0_4 l0_5) else (arbiterref05_Check.j3 k3 x3_3 true a0_0 a0_1 l0_2 a0_3 a0_4 l0_5)) = some r := H; have A37 := Aside0.mk A370; clear A370
            by_cases c38 : t130 = true
            ·subst c38
             have H1 : (arbiterref05_Check.j3 k3 x3_3 ((rdOf ByteArray.empty l0_2 x3_3).toList == a0_0.toList) a0_0 a0_1 l0_2 a0_3 a0_4 l0_5) = some r := by rw [if_pos rfl] at H; exact H
             clear H; have H := H1; clear H1; have H' := Aside0.mk H; clear H
             try go_wp2
             have n0_ := Aside0.mk (blk_drew BK125.out); have n1_ := Aside0.mk (below_drew1 HB.out); clear BK125; clear HB; have BK125 := n0_; have HB := n1_; clear n0_ n1_; have p129 : 0 ≤ (x3_3 : Int) := of_decide_eq_true (by first | (with_reducible assumption) | assumption); have q129 : x3_3 < (l0_2.length : Int) := of_decide_eq_true (by first | (with_reducible assumption) | assumption); obtain ⟨ad129, e129, hx129_0⟩ := Kd.at_string HR0_2.out x3_3 p129 q129; have hw129_0 := hx129_0
             cases e129
             replace hx129_0 := (HB.out.cell (World.block_lt_of_cell? w _ hx129_0)).trans hx129_0; replace p129 := eq_true p129; replace q129 := eq_true q129; have p131 : 0 ≤ (x3_3 : Int) := of_decide_eq_true (by first | (with_reducible assumption) | assumption); have q131 : x3_3 < (l0_2.length : Int) := of_decide_eq_true (by first | (with_reducible assumption) | assumption); obtain ⟨ad131, e131, hx131_0⟩ := Kd.at_string HR0_2.out x3_3 p131 q131; have hw131_0 := hx131_0
             obtain rfl : ad129 = ad131 := (by injection e131)
             replace hx131_0 := (HB.out.cell (World.block_lt_of_cell? w _ hx131_0)).trans hx131_0; replace p131 := eq_true p131; replace q131 := eq_true q131; refine start_ (n := 17) (S := fun w' => w'.cell? ⟨gb125, 0, none⟩ = some (.string a0_0) ∧ w'.cell? ⟨gb125, 1, none⟩ = some (.string a0_1) ∧ w'.cell? ⟨gb125, 2, none⟩ = some (.slice (some ad129) l0_2.length c0_2) ∧ w'.cell? ⟨gb125, 3, none⟩ = some (.int .i64 a0_3) ∧ w'.cell? ⟨gb125, 4, none⟩ = some (.int .i64 a0_4) ∧ w'.cell? ⟨gb125, 5, none⟩ = some (.slice A0_5 l0_5.length c0_5) ∧ w'.cell? (ad129.add (x3_3).toNat) = some (.string (rdOf ByteArray.empty l0_2 x3_3)) ∧ w'.cell? (ad129.add (x3_3).toNat) = some (.string (rdOf ByteArray.empty l0_2 x3_3))) (ds := []) #[false, false, false, false, false, false, false, false, false, false, false, false, false, false, false, false, false] (by kernel_rfl) rfl rfl ⟨(blk_cell BK125.out 0).trans rfl, (blk_cell BK125.out 1).trans rfl, (blk_cell BK125.out 2).trans rfl, (blk_cell BK125.out 3).trans rfl, (blk_cell BK125.out 4).trans rfl, (blk_cell BK125.out 5).trans rfl, ((HB.out.cell (World.block_lt_of_cell? w _ hw129_0)).trans hw129_0), ((HB.out.cell (World.block_lt_of_cell? w _ hw131_0)).trans hw131_0)⟩ (fun hHeld => ?_); refine with_tabW arbiterref05_Check.tab8 arbiterref05_Check.bits8 (fun HT_ HW_ => ?_); generalize wr.drew = w39 at BK125 HB hx129_0 hx131_0 hHeld ⊢; refine pX HT_ 0 (some 57) ?_; refine pX HT_ 2 (some 59) ?_; refine tX HT_ HW_ hHeld 1 (some 58) ?_; refine pX HT_ 3 (some 60) ?_; refine tX HT_ HW_ hHeld 4 (some 61) ?_; refine oX HT_ 5 (some 62) (fun K hK => ?_); refine goes_ Tryz.func116 (by kernel_rfl) rfl #[.string (rdOf ByteArray.empty l0_2 x3_3)] (by rfl) rfl rfl (by (try simp only [List.map_toArray, List.map_cons, List.map_nil]); first | done | rfl | (simp only [List.length_drop, List.length_take]; rfl)) ?_
             with_reducible refine (arbiterref01_Valid.calls (rdOf ByteArray.empty l0_2 x3_3) true _ A37.out).mono ?_
             rintro e w40 ⟨rfl, hb⟩; refine ⟨_, rfl, ?_⟩; have n0_ := Aside0.mk (blk_below (kX BK125) hb); have n1_ := Aside0.mk (below_step (bX1 HB GE125) hb); clear BK125; clear HB; have BK125 := n0_; have HB := n1_; clear n0_ n1_
             (try clear hb)
             (try clear hb2)
             (try clear hk)
             (try clear hi)
             refine hK.out _ _ ⟨(blk_cell BK125.out 0).trans rfl, (blk_cell BK125.out 1).trans rfl, (blk_cell BK125.out 2).trans rfl, (blk_cell BK125.out 3).trans rfl, (blk_cell BK125.out 4).trans rfl, (blk_cell BK125.out 5).trans rfl, ((HB.out.cell (World.block_lt_of_cell? w _ hw129_0)).trans hw129_0), ((HB.out.cell (World.block_lt_of_cell? w _ hw131_0)).trans hw131_0)⟩ (fun hHeld => ?_); clear hK K; refine nX (some 62) ?_; refine pX HT_ 6 (some 63) ?_; refine pX HT_ 7 (some 64) ?_; refine pX HT_ 8 (some 65) ?_; refine pX HT_ 10 (some 67) ?_; refine pX HT_ 13 (some 70) ?_; refine tX HT_ HW_ hHeld 9 (some 66) ?_; refine pX HT_ 11 (some 68) ?_; refine tX HT_ HW_ hHeld 12 (some 69) ?_; refine tX HT_ HW_ hHeld 14 (some 71) ?_; refine pX HT_ 15 (some 72) ?_; refine pX HT_ 16 (some 73) ?_; refine done_ (done_of HT_.out (by kernel_rfl)) ?_
             try go_wp2
             go_meet
             case rel => exact ⟨_, (((rdOf ByteArray.empty l0_2 x3_3).toList == a0_0.toList)), (by first | rfl | (simp; done) | (simp [*]; done)), H', ⟨by have := HJ1.out; have := HJ19.out; have := HK3.out; first | omega | exact Nat.le_refl _⟩, ⟨by (with_reducible repeat (first | refine blk_drewN ?_ _ | refine blk_drew ?_ | refine blk_alloc ?_ _)); exact BK125.out⟩, ⟨bX1 HB GE125⟩⟩
            ·replace c38 := Bool.eq_false_iff.mpr c38
             subst c38
             have H1 : (arbiterref05_Check.j3 k3 x3_3 true a0_0 a0_1 l0_2 a0_3 a0_4 l0_5) = some r := by rw [if_neg (show ¬ (false = true) by decide)] at H; exact H
             clear H; have H := H1; clear H1; have H' := Aside0.mk H; clear H
             try go_wp2
             have n0_ := Aside0.mk (blk_drew BK125.out); have n1_ := Aside0.mk (below_drew1 HB.out); clear BK125; clear HB; have BK125 := n0_; have HB := n1_; clear n0_ n1_; have p129 : 0 ≤ (x3_3 : Int) := of_decide_eq_true (by first | (with_reducible assumption) | assumption); have q129 : x3_3 < (l0_2.length : Int) := of_decide_eq_true (by first | (with_reducible assumption) | assumption); obtain ⟨ad129, e129, hx129_0⟩ := Kd.at_string HR0_2.out x3_3 p129 q129; have hw129_0 := hx129_0
             cases e129
             replace hx129_0 := (HB.out.cell (World.block_lt_of_cell? w _ hx129_0)).trans hx129_0; replace p129 := eq_true p129; replace q129 := eq_true q129; refine start_ (n := 17) (S := fun w' => w'.cell? ⟨gb125, 0, none⟩ = some (.string a0_0) ∧ w'.cell? ⟨gb125, 1, none⟩ = some (.string a0_1) ∧ w'.cell? ⟨gb125, 2, none⟩ = some (.slice (some ad129) l0_2.length c0_2) ∧ w'.cell? ⟨gb125, 3, none⟩ = some (.int .i64 a0_3) ∧ w'.cell? ⟨gb125, 4, none⟩ = some (.int .i64 a0_4) ∧ w'.cell? ⟨gb125, 5, none⟩ = some (.slice A0_5 l0_5.length c0_5) ∧ w'.cell? (ad129.add (x3_3).toNat) = some (.string (rdOf ByteArray.empty l0_2 x3_3))) (ds := []) #[false, false, false, false, false, false, false, false, false, false, false, false, false, false, false, false, false] (by kernel_rfl) rfl rfl ⟨(blk_cell BK125.out 0).trans rfl, (blk_cell BK125.out 1).trans rfl, (blk_cell BK125.out 2).trans rfl, (blk_cell BK125.out 3).trans rfl, (blk_cell BK125.out 4).trans rfl, (blk_cell BK125.out 5).trans rfl, ((HB.out.cell (World.block_lt_of_cell? w _ hw129_0)).trans hw129_0)⟩ (fun hHeld => ?_); refine with_tabW arbiterref05_Check.tab8 arbiterref05_Check.bits8 (fun HT_ HW_ => ?_); generalize wr.drew = w41 at BK125 HB hx129_0 hHeld ⊢; refine pX HT_ 0 (some 57) ?_; refine pX HT_ 2 (some 59) ?_; refine tX HT_ HW_ hHeld 1 (some 58) ?_; refine pX HT_ 3 (some 60) ?_; refine tX HT_ HW_ hHeld 4 (some 61) ?_; refine oX HT_ 5 (some 62) (fun K hK => ?_); refine goes_ Tryz.func116 (by kernel_rfl) rfl #[.string (rdOf ByteArray.empty l0_2 x3_3)] (by rfl) rfl rfl (by (try simp only [List.map_toArray, List.map_cons, List.map_nil]); first | done | rfl | (simp only [List.length_drop, List.length_take]; rfl)) ?_
             with_reducible refine (arbiterref01_Valid.calls (rdOf ByteArray.empty l0_2 x3_3) false _ A37.out).mono ?_
             rintro e w42 ⟨rfl, hb⟩; refine ⟨_, rfl, ?_⟩; have n0_ := Aside0.mk (blk_below (kX BK125) hb); have n1_ := Aside0.mk (below_step (bX1 HB GE125) hb); clear BK125; clear HB; have BK125 := n0_; have HB := n1_; clear n0_ n1_
             (try clear hb)
             (try clear hb2)
             (try clear hk)
             (try clear hi)
             refine hK.out _ _ ⟨(blk_cell BK125.out 0).trans rfl, (blk_cell BK125.out 1).trans rfl, (blk_cell BK125.out 2).trans rfl, (blk_cell BK125.out 3).trans rfl, (blk_cell BK125.out 4).trans rfl, (blk_cell BK125.out 5).trans rfl, ((HB.out.cell (World.block_lt_of_cell? w _ hw129_0)).trans hw129_0)⟩ (fun hHeld => ?_); clear hK K; refine nX (some 62) ?_; refine pX HT_ 6 (some 63) ?_; refine pX HT_ 7 (some 64) ?_; refine uX HT_ 8 (some 65) ?_; refine uX HT_ 9 (some 66) ?_; refine uX HT_ 10 (some 67) ?_; refine uX HT_ 11 (some 68) ?_; refine uX HT_ 12 (some 69) ?_; refine uX HT_ 13 (some 70) ?_; refine uX HT_ 14 (some 71) ?_; refine uX HT_ 15 (some 72) ?_; refine pX HT_ 16 (some 73) ?_; refine done_ (done_of HT_.out (by kernel_rfl)) ?_
             try go_wp2
             go_meet
             case rel => exact ⟨_, (true), (by first | rfl | (simp; done) | (simp [*]; done)), H', ⟨by have := HJ1.out; have := HJ19.out; have := HK3.out; first | omega | exact Nat.le_refl _⟩, ⟨by (with_reducible repeat (first | refine blk_drewN ?_ _ | refine blk_drew ?_ | refine blk_alloc ?_ _)); exact BK125.out⟩, ⟨bX1 HB GE125⟩⟩
           ·rw [if_neg c36] at H
            exact absurd H (by simp)
          case rest =>
           clear HC34
           try clear c1
           try clear p1
           try clear q1
           try clear hx1
           try clear c2
           try clear p2
           try clear c3
           try clear c5
           try clear c7
           try clear c9
           try clear c11
           try clear p12
           try clear q12
           try clear hx12
           try clear p13
           try clear q13
           try clear hx13
           try clear c19
           try clear c21
           try clear c21b0
           try clear c21b1
           try clear c23
           try clear c23b0
           try clear c23b1
           try clear c25
           try clear c25b0
           try clear c27
           try clear c27b0
           try clear c32
           try clear c33
           try clear c33b0
           try clear c36
           try clear c36b0
           try clear c38
           try clear hcz10_0 hcz10_1 hcz10_2 hcz10_3 hcz10_4 hcz10_5
           try clear hcz12_0 hcz12_1 hcz12_2 hcz12_3 hcz12_4 hcz12_5
           try clear hcz13_0 hcz13_1 hcz13_2 hcz13_3 hcz13_4 hcz13_5
           try clear hcz15_0 hcz15_1 hcz15_2 hcz15_3 hcz15_4 hcz15_5
           try clear hcz17_0 hcz17_1 hcz17_2 hcz17_3 hcz17_4 hcz17_5
           try clear hcz22_0 hcz22_1 hcz22_2 hcz22_3 hcz22_4 hcz22_5
           try clear hcz24_0 hcz24_1 hcz24_2 hcz24_3 hcz24_4 hcz24_5
           try clear hcz26_0 hcz26_1 hcz26_2 hcz26_3 hcz26_4 hcz26_5
           try clear hcz28_0 hcz28_1 hcz28_2 hcz28_3 hcz28_4 hcz28_5
           try clear hcz30_0 hcz30_1 hcz30_2 hcz30_3 hcz30_4 hcz30_5
           try clear hcz35_0 hcz35_1 hcz35_2 hcz35_3 hcz35_4 hcz35_5
           try clear hcz8_0 hcz8_1 hcz8_2 hcz8_3 hcz8_4 hcz8_5
           try clear hfz10_0 hfz10_1 hfz10_2 hfz10_3 hfz10_4 hfz10_5
           try clear hfz12_0 hfz12_1 hfz12_2 hfz12_3 hfz12_4 hfz12_5
           try clear hfz13_0 hfz13_1 hfz13_2 hfz13_3 hfz13_4 hfz13_5
           try clear hfz15_0 hfz15_1 hfz15_2 hfz15_3 hfz15_4 hfz15_5
           try clear hfz17_0 hfz17_1 hfz17_2 hfz17_3 hfz17_4 hfz17_5
           try clear hfz22_0 hfz22_1 hfz22_2 hfz22_3 hfz22_4 hfz22_5
           try clear hfz24_0 hfz24_1 hfz24_2 hfz24_3 hfz24_4 hfz24_5
           try clear hfz26_0 hfz26_1 hfz26_2 hfz26_3 hfz26_4 hfz26_5
           try clear hfz28_0 hfz28_1 hfz28_2 hfz28_3 hfz28_4 hfz28_5
           try clear hfz30_0 hfz30_1 hfz30_2 hfz30_3 hfz30_4 hfz30_5
           try clear hfz35_0 hfz35_1 hfz35_2 hfz35_3 hfz35_4 hfz35_5
           try clear hfz8_0 hfz8_1 hfz8_2 hfz8_3 hfz8_4 hfz8_5
           try clear hx129_0
           try clear hx131_0
           try clear p129
           try clear p131
           try clear p2
           try clear q129
           try clear q131
           obtain ⟨kq, x73_33, rfl, HA, HJ33, BK125, HB⟩ := hcut
           cases kq with
           | zero => exact absurd HA.out (by simp [arbiterref05_Check.j3])
           | succ kj33 =>
            have H := HA.out; clear HA; simp only [arbiterref05_Check.j3] at H
            by_cases c43 : x73_33 = true
            ·subst c43
             have H1 : (some 1) = some r := by rw [if_pos rfl] at H; exact H
             clear H; have H := H1; clear H1; obtain rfl := Option.some.inj H; go_wp2; go_ret
             exact ⟨by first | rfl | (simp [errW_none, errW_some] <;> rfl) | (simp [*, errW_none, errW_some] <;> rfl), bX1 HB GE125⟩
            ·replace c43 := Bool.eq_false_iff.mpr c43
             subst c43
             have H1 : (arbiterref05_Check.l1 kj33 x3_3 0 a0_0 a0_1 l0_2 a0_3 a0_4 l0_5) = some r := by rw [if_neg (show ¬ (false = true) by decide)] at H; exact H
             clear H; have H := H1; clear H1; have H' := Aside0.mk H; clear H; go_wp2
             go_loopg [4] kj33 (fun kq v4 w' => ∃ (x4_5 : Int), v4 = .int .i64 x4_5 ∧ Aside0 (arbiterref05_Check.l1 kq x3_3 x4_5 a0_0 a0_1 l0_2 a0_3 a0_4 l0_5 = some r) ∧ Aside0 (kq ≤ kj33) ∧ Aside0 (w'.heap[gb125]? = some (.cells #[.string a0_0, .string a0_1, (.slice A0_2 l0_2.length c0_2), .int .i64 a0_3, .int .i64 a0_4, (.slice A0_5 l0_5.length c0_5)] 85 (0, 0))) ∧ Aside0 (Below w.heap.size w w'))
             case atStart => exact ⟨(0), (by first | rfl | (simp; done) | (simp [*]; done)), H', ⟨Nat.le_refl _⟩, ⟨by (with_reducible repeat (first | refine blk_drewN ?_ _ | refine blk_drew ?_ | refine blk_alloc ?_ _)); exact BK125.out⟩, ⟨bX1 HB GE125⟩⟩
             case round =>
              clear H'
              try clear c1
              try clear p1
              try clear q1
              try clear hx1
              try clear c2
              try clear p2
              try clear c3
              try clear c4
              try clear c5
              try clear c7
              try clear c9
              try clear c11
              try clear p12
              try clear q12
              try clear hx12
              try clear p13
              try clear q13
              try clear hx13
              try clear c19
              try clear c21
              try clear c21b0
              try clear c21b1
              try clear c23
              try clear c23b0
              try clear c23b1
              try clear c25
              try clear c25b0
              try clear c27
              try clear c27b0
              try clear c32
              try clear c33
              try clear c33b0
              try clear c36
              try clear c36b0
              try clear c38
              try clear c43
              try clear hcz10_0 hcz10_1 hcz10_2 hcz10_3 hcz10_4 hcz10_5
              try clear hcz12_0 hcz12_1 hcz12_2 hcz12_3 hcz12_4 hcz12_5
              try clear hcz13_0 hcz13_1 hcz13_2 hcz13_3 hcz13_4 hcz13_5
              try clear hcz15_0 hcz15_1 hcz15_2 hcz15_3 hcz15_4 hcz15_5
              try clear hcz17_0 hcz17_1 hcz17_2 hcz17_3 hcz17_4 hcz17_5
              try clear hcz22_0 hcz22_1 hcz22_2 hcz22_3 hcz22_4 hcz22_5
              try clear hcz24_0 hcz24_1 hcz24_2 hcz24_3 hcz24_4 hcz24_5
              try clear hcz26_0 hcz26_1 hcz26_2 hcz26_3 hcz26_4 hcz26_5
              try clear hcz28_0 hcz28_1 hcz28_2 hcz28_3 hcz28_4 hcz28_5
              try clear hcz30_0 hcz30_1 hcz30_2 hcz30_3 hcz30_4 hcz30_5
              try clear hcz35_0 hcz35_1 hcz35_2 hcz35_3 hcz35_4 hcz35_5
              try clear hcz8_0 hcz8_1 hcz8_2 hcz8_3 hcz8_4 hcz8_5
              try clear hfz10_0 hfz10_1 hfz10_2 hfz10_3 hfz10_4 hfz10_5
              try clear hfz12_0 hfz12_1 hfz12_2 hfz12_3 hfz12_4 hfz12_5
              try clear hfz13_0 hfz13_1 hfz13_2 hfz13_3 hfz13_4 hfz13_5
              try clear hfz15_0 hfz15_1 hfz15_2 hfz15_3 hfz15_4 hfz15_5
              try clear hfz17_0 hfz17_1 hfz17_2 hfz17_3 hfz17_4 hfz17_5
              try clear hfz22_0 hfz22_1 hfz22_2 hfz22_3 hfz22_4 hfz22_5
              try clear hfz24_0 hfz24_1 hfz24_2 hfz24_3 hfz24_4 hfz24_5
              try clear hfz26_0 hfz26_1 hfz26_2 hfz26_3 hfz26_4 hfz26_5
              try clear hfz28_0 hfz28_1 hfz28_2 hfz28_3 hfz28_4 hfz28_5
              try clear hfz30_0 hfz30_1 hfz30_2 hfz30_3 hfz30_4 hfz30_5
              try clear hfz35_0 hfz35_1 hfz35_2 hfz35_3 hfz35_4 hfz35_5
              try clear hfz8_0 hfz8_1 hfz8_2 hfz8_3 hfz8_4 hfz8_5
              try clear hx129_0
              try clear hx131_0
              try clear p1
              try clear p12
              try clear p129
              try clear p13
              try clear p131
              try clear p2
              try clear q1
              try clear q12
              try clear q129
              try clear q13
              try clear q131
              obtain ⟨x4_5, rfl, HA, HK5, BK125, HB⟩ := hrel
              cases gk with
              | zero => exact absurd HA.out (by simp [arbiterref05_Check.l1])
              | succ k5 =>
               have H := HA.out; clear HA; simp only [arbiterref05_Check.l1] at H
               by_cases c44 : x4_5 < x3_3
               ·rw [if_pos c44] at H
                have c44b0 : decide (x4_5 < x3_3) = true := decide_eq_true c44; clear c44
                by_cases c45 : 0 ≤ x3_3
                ·rw [if_pos c45] at H
                 have c45b0 : decide (0 ≤ x3_3) = true := decide_eq_true c45; clear c45
                 by_cases c46 : x3_3 < (l0_2.length : Int)
                 ·rw [if_pos c46] at H
                  have c46b0 : decide (x3_3 < (l0_2.length : Int)) = true := decide_eq_true c46; clear c46
                  by_cases c47 : 0 ≤ x4_5
                  ·rw [if_pos c47] at H
                   have c47b0 : decide (0 ≤ x4_5) = true := decide_eq_true c47; clear c47
                   by_cases c48 : x4_5 < (l0_2.length : Int)
                   ·rw [if_pos c48] at H
                    have c48b0 : decide (x4_5 < (l0_2.length : Int)) = true := decide_eq_true c48; clear c48
                    by_cases c49 : (rdOf ByteArray.empty l0_2 x3_3).toList = (rdOf ByteArray.empty l0_2 x4_5).toList
                    ·rw [if_pos c49] at H
                     have c49b0 : ((rdOf ByteArray.empty l0_2 x3_3).toList == (rdOf ByteArray.empty l0_2 x4_5).toList) = true := beq_iff_eq.mpr c49; have c49b1 : ((rdOf ByteArray.empty l0_2 x3_3).toList != (rdOf ByteArray.empty l0_2 x4_5).toList) = false := bne_eq_false_iff_eq.mpr c49; clear c49; obtain rfl := Option.some.inj H
                     try go_wp2
                     have n0_ := Aside0.mk (blk_drew BK125.out); have n1_ := Aside0.mk (below_drew1 HB.out); clear BK125; clear HB; have BK125 := n0_; have HB := n1_; clear n0_ n1_; have p132 : 0 ≤ (x3_3 : Int) := of_decide_eq_true (by first | (with_reducible assumption) | assumption); have q132 : x3_3 < (l0_2.length : Int) := of_decide_eq_true (by first | (with_reducible assumption) | assumption); obtain ⟨ad132, e132, hx132_0⟩ := Kd.at_string HR0_2.out x3_3 p132 q132; have hw132_0 := hx132_0
                     cases e132
                     replace hx132_0 := (HB.out.cell (World.block_lt_of_cell? w _ hx132_0)).trans hx132_0; replace p132 := eq_true p132; replace q132 := eq_true q132; have p133 : 0 ≤ (x4_5 : Int) := of_decide_eq_true (by first | (with_reducible assumption) | assumption); have q133 : x4_5 < (l0_2.length : Int) := of_decide_eq_true (by first | (with_reducible assumption) | assumption); obtain ⟨ad133, e133, hx133_0⟩ := Kd.at_string HR0_2.out x4_5 p133 q133; have hw133_0 := hx133_0
                     obtain rfl : ad132 = ad133 := (by injection e133)
                     replace hx133_0 := (HB.out.cell (World.block_lt_of_cell? w _ hx133_0)).trans hx133_0; replace p133 := eq_true p133; replace q133 := eq_true q133; refine start_ (n := 11) (S := fun w' => w'.cell? ⟨gb125, 0, none⟩ = some (.string a0_0) ∧ w'.cell? ⟨gb125, 1, none⟩ = some (.string a0_1) ∧ w'.cell? ⟨gb125, 2, none⟩ = some (.slice (some ad132) l0_2.length c0_2) ∧ w'.cell? ⟨gb125, 3, none⟩ = some (.int .i64 a0_3) ∧ w'.cell? ⟨gb125, 4, none⟩ = some (.int .i64 a0_4) ∧ w'.cell? ⟨gb125, 5, none⟩ = some (.slice A0_5 l0_5.length c0_5) ∧ w'.cell? (ad132.add (x3_3).toNat) = some (.string (rdOf ByteArray.empty l0_2 x3_3)) ∧ w'.cell? (ad132.add (x4_5).toNat) = some (.string (rdOf ByteArray.empty l0_2 x4_5))) (ds := []) #[false, false, false, false, false, false, false, false, false, false, false] (by kernel_rfl) rfl rfl ⟨(blk_cell BK125.out 0).trans rfl, (blk_cell BK125.out 1).trans rfl, (blk_cell BK125.out 2).trans rfl, (blk_cell BK125.out 3).trans rfl, (blk_cell BK125.out 4).trans rfl, (blk_cell BK125.out 5).trans rfl, ((HB.out.cell (World.block_lt_of_cell? w _ hw132_0)).trans hw132_0), ((HB.out.cell (World.block_lt_of_cell? w _ hw133_0)).trans hw133_0)⟩ (fun hHeld => ?_); refine with_tabW arbiterref05_Check.tab13 arbiterref05_Check.bits13 (fun HT_ HW_ => ?_); generalize wr.drew = w50 at BK125 HB hx132_0 hx133_0 hHeld ⊢; refine pX HT_ 0 (some 79) ?_; refine pX HT_ 2 (some 81) ?_; refine pX HT_ 5 (some 84) ?_; refine pX HT_ 7 (some 86) ?_; refine tX HT_ HW_ hHeld 1 (some 80) ?_; refine pX HT_ 3 (some 82) ?_; refine tX HT_ HW_ hHeld 4 (some 83) ?_; refine tX HT_ HW_ hHeld 6 (some 85) ?_; refine pX HT_ 8 (some 87) ?_; refine tX HT_ HW_ hHeld 9 (some 88) ?_; refine pX HT_ 10 (some 89) ?_; refine done_ (done_of HT_.out (by kernel_rfl)) ?_
                     try go_wp2
                     go_ret
                     exact ⟨by first | rfl | (simp [errW_none, errW_some] <;> rfl) | (simp [*, errW_none, errW_some] <;> rfl), bX1 HB GE125⟩
                    ·rw [if_neg c49] at H
                     have c49b0 : ((rdOf ByteArray.empty l0_2 x3_3).toList == (rdOf ByteArray.empty l0_2 x4_5).toList) = false := beq_eq_false_iff_ne.mpr c49; have c49b1 : ((rdOf ByteArray.empty l0_2 x3_3).toList != (rdOf ByteArray.empty l0_2 x4_5).toList) = true := bne_iff_ne.mpr c49; have H' := Aside0.mk H; clear H
                     try go_wp2
                     have n0_ := Aside0.mk (blk_drew BK125.out); have n1_ := Aside0.mk (below_drew1 HB.out); clear BK125; clear HB; have BK125 := n0_; have HB := n1_; clear n0_ n1_; have p132 : 0 ≤ (x3_3 : Int) := of_decide_eq_true (by first | (with_reducible assumption) | assumption); have q132 : x3_3 < (l0_2.length : Int) := of_decide_eq_true (by first | (with_reducible assumption) | assumption); obtain ⟨ad132, e132, hx132_0⟩ := Kd.at_string HR0_2.out x3_3 p132 q132; have hw132_0 := hx132_0
                     cases e132
                     replace hx132_0 := (HB.out.cell (World.block_lt_of_cell? w _ hx132_0)).trans hx132_0; replace p132 := eq_true p132; replace q132 := eq_true q132; have p133 : 0 ≤ (x4_5 : Int) := of_decide_eq_true (by first | (with_reducible assumption) | assumption); have q133 : x4_5 < (l0_2.length : Int) := of_decide_eq_true (by first | (with_reducible assumption) | assumption); obtain ⟨ad133, e133, hx133_0⟩ := Kd.at_string HR0_2.out x4_5 p133 q133; have hw133_0 := hx133_0
                     obtain rfl : ad132 = ad133 := (by injection e133)
                     replace hx133_0 := (HB.out.cell (World.block_lt_of_cell? w _ hx133_0)).trans hx133_0; replace p133 := eq_true p133; replace q133 := eq_true q133; refine start_ (n := 11) (S := fun w' => w'.cell? ⟨gb125, 0, none⟩ = some (.string a0_0) ∧ w'.cell? ⟨gb125, 1, none⟩ = some (.string a0_1) ∧ w'.cell? ⟨gb125, 2, none⟩ = some (.slice (some ad132) l0_2.length c0_2) ∧ w'.cell? ⟨gb125, 3, none⟩ = some (.int .i64 a0_3) ∧ w'.cell? ⟨gb125, 4, none⟩ = some (.int .i64 a0_4) ∧ w'.cell? ⟨gb125, 5, none⟩ = some (.slice A0_5 l0_5.length c0_5) ∧ w'.cell? (ad132.add (x3_3).toNat) = some (.string (rdOf ByteArray.empty l0_2 x3_3)) ∧ w'.cell? (ad132.add (x4_5).toNat) = some (.string (rdOf ByteArray.empty l0_2 x4_5))) (ds := []) #[false, false, false, false, false, false, false, false, false, false, false] (by kernel_rfl) rfl rfl ⟨(blk_cell BK125.out 0).trans rfl, (blk_cell BK125.out 1).trans rfl, (blk_cell BK125.out 2).trans rfl, (blk_cell BK125.out 3).trans rfl, (blk_cell BK125.out 4).trans rfl, (blk_cell BK125.out 5).trans rfl, ((HB.out.cell (World.block_lt_of_cell? w _ hw132_0)).trans hw132_0), ((HB.out.cell (World.block_lt_of_cell? w _ hw133_0)).trans hw133_0)⟩ (fun hHeld => ?_); refine with_tabW arbiterref05_Check.tab13 arbiterref05_Check.bits13 (fun HT_ HW_ => ?_); generalize wr.drew = w51 at BK125 HB hx132_0 hx133_0 hHeld ⊢; refine pX HT_ 0 (some 79) ?_; refine pX HT_ 2 (some 81) ?_; refine pX HT_ 5 (some 84) ?_; refine pX HT_ 7 (some 86) ?_; refine tX HT_ HW_ hHeld 1 (some 80) ?_; refine pX HT_ 3 (some 82) ?_; refine tX HT_ HW_ hHeld 4 (some 83) ?_; refine tX HT_ HW_ hHeld 6 (some 85) ?_; refine pX HT_ 8 (some 87) ?_; refine tX HT_ HW_ hHeld 9 (some 88) ?_; refine pX HT_ 10 (some 89) ?_; refine done_ (done_of HT_.out (by kernel_rfl)) ?_
                     try go_wp2
                     go_roundg k5
                     case measure => have := HJ1.out; have := HJ19.out; have := HK3.out; have := HJ33.out; have := HK5.out; omega
                     case rel => exact ⟨(wrap64 (x4_5 + 1)), (by first | rfl | (simp; done) | (simp [*]; done)), H', ⟨by have := HJ1.out; have := HJ19.out; have := HK3.out; have := HJ33.out; have := HK5.out; omega⟩, ⟨by (with_reducible repeat (first | refine blk_drewN ?_ _ | refine blk_drew ?_ | refine blk_alloc ?_ _)); exact BK125.out⟩, ⟨bX1 HB GE125⟩⟩
                   ·rw [if_neg c48] at H
                    exact absurd H (by simp)
                  ·rw [if_neg c47] at H
                   exact absurd H (by simp)
                 ·rw [if_neg c46] at H
                  exact absurd H (by simp)
                ·rw [if_neg c45] at H
                 exact absurd H (by simp)
               ·rw [if_neg c44] at H
                have c44b0 : decide (x4_5 < x3_3) = false := decide_eq_false c44; clear c44; have H' := Aside0.mk H; clear H; go_wp2
                go_roundg k5
                case measure => have := HJ1.out; have := HJ19.out; have := HK3.out; have := HJ33.out; have := HK5.out; omega
                case rel => exact ⟨(wrap64 (x3_3 + 1)), (by first | rfl | (simp; done) | (simp [*]; done)), H', ⟨by have := HJ1.out; have := HJ19.out; have := HK3.out; have := HJ33.out; have := HK5.out; omega⟩, ⟨by (with_reducible repeat (first | refine blk_drewN ?_ _ | refine blk_drew ?_ | refine blk_alloc ?_ _)); exact BK125.out⟩, ⟨bX1 HB GE125⟩⟩
         ·rw [if_neg c33] at H
          have c33b0 : decide (x3_3 < (l0_2.length : Int)) = false := decide_eq_false c33; clear c33; have H' := Aside0.mk H; clear H; obtain ⟨hcz52_0, hcz52_1, hcz52_2, hcz52_3, hcz52_4, hcz52_5, hfz52_0, hfz52_1, hfz52_2, hfz52_3, hfz52_4, hfz52_5⟩ := c6X BK125; go_wp2
          go_loopg [5] k3 (fun kq v5 w' => ∃ (x5_4 : Int), v5 = .int .i64 x5_4 ∧ Aside0 (arbiterref05_Check.l2 kq x5_4 a0_0 a0_1 l0_2 a0_3 a0_4 l0_5 = some r) ∧ Aside0 (kq ≤ k3) ∧ Aside0 (w'.heap[gb125]? = some (.cells #[.string a0_0, .string a0_1, (.slice A0_2 l0_2.length c0_2), .int .i64 a0_3, .int .i64 a0_4, (.slice A0_5 l0_5.length c0_5)] 85 (0, 0))) ∧ Aside0 (Below w.heap.size w w'))
          case atStart => exact ⟨(0), (by first | rfl | (simp; done) | (simp [*]; done)), H', ⟨Nat.le_refl _⟩, ⟨by (with_reducible repeat (first | refine blk_drewN ?_ _ | refine blk_drew ?_ | refine blk_alloc ?_ _)); exact BK125.out⟩, ⟨bX1 HB GE125⟩⟩
          case round =>
           clear H'
           try clear c1
           try clear p1
           try clear q1
           try clear hx1
           try clear c2
           try clear p2
           try clear c3
           try clear c4
           try clear c5
           try clear p6
           try clear c7
           try clear c9
           try clear c11
           try clear p12
           try clear q12
           try clear hx12
           try clear p13
           try clear q13
           try clear hx13
           try clear c19
           try clear c21
           try clear c21b0
           try clear c21b1
           try clear c23
           try clear c23b0
           try clear c23b1
           try clear c25
           try clear c25b0
           try clear c27
           try clear c27b0
           try clear c32
           try clear c33
           try clear c33b0
           try clear c36
           try clear c36b0
           try clear c38
           try clear c43
           try clear c44
           try clear c44b0
           try clear c45
           try clear c45b0
           try clear c46
           try clear c46b0
           try clear c47
           try clear c47b0
           try clear c48
           try clear c48b0
           try clear c49
           try clear c49b0
           try clear c49b1
           try clear hcz10_0 hcz10_1 hcz10_2 hcz10_3 hcz10_4 hcz10_5
           try clear hcz12_0 hcz12_1 hcz12_2 hcz12_3 hcz12_4 hcz12_5
           try clear hcz13_0 hcz13_1 hcz13_2 hcz13_3 hcz13_4 hcz13_5
           try clear hcz15_0 hcz15_1 hcz15_2 hcz15_3 hcz15_4 hcz15_5
           try clear hcz17_0 hcz17_1 hcz17_2 hcz17_3 hcz17_4 hcz17_5
           try clear hcz22_0 hcz22_1 hcz22_2 hcz22_3 hcz22_4 hcz22_5
           try clear hcz24_0 hcz24_1 hcz24_2 hcz24_3 hcz24_4 hcz24_5
           try clear hcz26_0 hcz26_1 hcz26_2 hcz26_3 hcz26_4 hcz26_5
           try clear hcz28_0 hcz28_1 hcz28_2 hcz28_3 hcz28_4 hcz28_5
           try clear hcz30_0 hcz30_1 hcz30_2 hcz30_3 hcz30_4 hcz30_5
           try clear hcz35_0 hcz35_1 hcz35_2 hcz35_3 hcz35_4 hcz35_5
           try clear hcz52_0 hcz52_1 hcz52_2 hcz52_3 hcz52_4 hcz52_5
           try clear hcz8_0 hcz8_1 hcz8_2 hcz8_3 hcz8_4 hcz8_5
           try clear hfz10_0 hfz10_1 hfz10_2 hfz10_3 hfz10_4 hfz10_5
           try clear hfz12_0 hfz12_1 hfz12_2 hfz12_3 hfz12_4 hfz12_5
           try clear hfz13_0 hfz13_1 hfz13_2 hfz13_3 hfz13_4 hfz13_5
           try clear hfz15_0 hfz15_1 hfz15_2 hfz15_3 hfz15_4 hfz15_5
           try clear hfz17_0 hfz17_1 hfz17_2 hfz17_3 hfz17_4 hfz17_5
           try clear hfz22_0 hfz22_1 hfz22_2 hfz22_3 hfz22_4 hfz22_5
           try clear hfz24_0 hfz24_1 hfz24_2 hfz24_3 hfz24_4 hfz24_5
           try clear hfz26_0 hfz26_1 hfz26_2 hfz26_3 hfz26_4 hfz26_5
           try clear hfz28_0 hfz28_1 hfz28_2 hfz28_3 hfz28_4 hfz28_5
           try clear hfz30_0 hfz30_1 hfz30_2 hfz30_3 hfz30_4 hfz30_5
           try clear hfz35_0 hfz35_1 hfz35_2 hfz35_3 hfz35_4 hfz35_5
           try clear hfz52_0 hfz52_1 hfz52_2 hfz52_3 hfz52_4 hfz52_5
           try clear hfz8_0 hfz8_1 hfz8_2 hfz8_3 hfz8_4 hfz8_5
           try clear hx129_0
           try clear hx131_0
           try clear hx132_0
           try clear hx133_0
           try clear p1
           try clear p12
           try clear p129
           try clear p13
           try clear p131
           try clear p132
           try clear p133
           try clear p2
           try clear q1
           try clear q12
           try clear q129
           try clear q13
           try clear q131
           try clear q132
           try clear q133
           obtain ⟨x5_4, rfl, HA, HK4, BK125, HB⟩ := hrel
           cases gk with
           | zero => exact absurd HA.out (by simp [arbiterref05_Check.l2])
           | succ k4 =>
            have H := HA.out; clear HA; simp only [arbiterref05_Check.l2] at H
            by_cases c53 : x5_4 < (l0_5.length : Int)
            ·rw [if_pos c53] at H
             have c53b0 : decide (x5_4 < (l0_5.length : Int)) = true := decide_eq_true c53; clear c53
             by_cases c54 : 0 ≤ x5_4
             ·rw [if_pos c54] at H
              have c54b0 : decide (0 ≤ x5_4) = true := decide_eq_true c54; clear c54; replace H := Option.bind_eq_some_iff.mp H; obtain ⟨t136, A550, H⟩ := H; replace H : ((arbiterref05_method.f ((rd_T105 l0_5 x5_4).f0) ((rd_T105 l0_5 x5_4).f1) ((rd_T105 l0_5 x5_4).f2) ((rd_T105 l0_5 x5_4).f3) ((rd_T105 l0_5 x5_4).f4) ((rd_T105 l0_5 x5_4).f5) t136).bind fun t137 => (if t137 = true then ((arbiterref05_Find.f a0_0 a0_1 l0_2 a0_3 a0_4 l0_5 ((rd_T105 l0_5 x5_4).f0) ((rd_T105 l0_5 x5_4).f1)).bind fun t138 => (if t138 = x5_4 then (arbiterref05_Check.l2 k4 (wrap64 (x5_4 + 1)) a0_0 a0_1 l0_2 a0_3 a0_4 l0_5) else (some 1))) else (some 1))) = some r := H; have A55 := Aside0.mk A550; clear A550; replace H := Option.bind_eq_some_iff.mp H; obtain ⟨t137, A560, H⟩ := H; replace H : (if t137 = true then ((arbiterref05_Find.f a0_0 a0_1 l0_2 a0_3 a0_4 l0_5 ((rd_T105 l0_5 x5_4).f0) ((rd_T105 l0_5 x5_4).f1)).bind fun t138 => (if t138 = x5_4 then (arbiterref05_Check.l2 k4 (wrap64 (x5_4 + 1)) a0_0 a0_1 l0_2 a0_3 a0_4 l0_5) else (some 1))) else (some 1)) = some r := H; have A56 := Aside0.mk A560; clear A560
              by_cases c57 : t137 = true
              ·subst c57
               have H1 : ((arbiterref05_Find.f a0_0 a0_1 l0_2 a0_3 a0_4 l0_5 ((rd_T105 l0_5 x5_4).f0) ((rd_T105 l0_5 x5_4).f1)).bind fun t138 => (if t138 = x5_4 then (arbiterref05_Check.l2 k4 (wrap64 (x5_4 + 1)) a0_0 a0_1 l0_2 a0_3 a0_4 l0_5) else (some 1))) = some r := by rw [if_pos rfl] at H; exact H
               clear H; have H := H1; clear H1; replace H := Option.bind_eq_some_iff.mp H; obtain ⟨t138, A580, H⟩ := H; replace H : (if t138 = x5_4 then (arbiterref05_Check.l2 k4 (wrap64 (x5_4 + 1)) a0_0 a0_1 l0_2 a0_3 a0_4 l0_5) else (some 1)) = some r := H; have A58 := Aside0.mk A580; clear A580
               by_cases c59 : t138 = x5_4
               ·rw [if_pos c59] at H
                have c59b0 : (t138 == x5_4) = true := beq_iff_eq.mpr c59; have c59b1 : (t138 != x5_4) = false := bne_eq_false_iff_eq.mpr c59; clear c59; have H' := Aside0.mk H; clear H; obtain ⟨hcz60_0, hcz60_1, hcz60_2, hcz60_3, hcz60_4, hcz60_5, hfz60_0, hfz60_1, hfz60_2, hfz60_3, hfz60_4, hfz60_5⟩ := c6X BK125; have p134 : 0 ≤ (x5_4 : Int) := of_decide_eq_true (by first | (with_reducible assumption) | assumption); have q134 : x5_4 < (l0_5.length : Int) := of_decide_eq_true (by first | (with_reducible assumption) | assumption); obtain ⟨ad134, A134_5, c134_5, e134, hx134_0, hx134_1, hx134_2, hx134_3, hx134_4, hx134_5, hl134_5, hi134_5⟩ := at_T105 HR0_5.out x5_4 p134 q134
                cases e134
                replace hx134_0 := (HB.out.cell (World.block_lt_of_cell? w _ hx134_0)).trans hx134_0; replace hx134_1 := (HB.out.cell (World.block_lt_of_cell? w _ hx134_1)).trans hx134_1; replace hx134_2 := (HB.out.cell (World.block_lt_of_cell? w _ hx134_2)).trans hx134_2; replace hx134_3 := (HB.out.cell (World.block_lt_of_cell? w _ hx134_3)).trans hx134_3; replace hx134_4 := (HB.out.cell (World.block_lt_of_cell? w _ hx134_4)).trans hx134_4; replace hx134_5 := (HB.out.cell (World.block_lt_of_cell? w _ hx134_5)).trans hx134_5; have HR134_5 := Aside0.mk hi134_5; have HC134_5 := Aside0.mk hl134_5; clear hi134_5 hl134_5; replace p134 := eq_true p134; replace q134 := eq_true q134
                try go_wp2_with (first | ((with_reducible refine gate_dst (N := 6) rfl ?_); (try (refine gate_guard (by rfl) ?_; dsimp only)); refine box_event ?hg (N := 6) ?hd (cs := #[.string (⟨#[]⟩ : ByteArray), .string (⟨#[]⟩ : ByteArray), .int .i64 0, .int .i64 0, .int .i64 0, .slice none 0 0]) (t := 105) ?hr ?_; (case hd => rfl); (case hg => rfl); (case hr => first | (go_simp; done) | (go_simp; rfl)); intro gb135 hg w61 hbox hb; have n0_ := Aside0.mk (blk_below (kX BK125) hb); have n1_ := Aside0.mk (below_step (bX1 HB GE125) hb); have n2_ := Aside0.mk (hbox); have n3_ := Aside0.mk ((by rw [hg]; exact (below_size (bX1 HB GE125)) : w.heap.size ≤ gb135)); have n4_ := Aside0.mk ((by rw [hg]; exact (below_size (bX1 HB GE125)) : w.heap.size ≤ gb135)); have n5_ := Aside0.mk ((by rw [hg]; exact Nat.ne_of_lt (blk_lt (kX BK125)) : gb125 ≠ gb135)); have n6_ := Aside0.mk ((by rw [hg]; exact Nat.ne_of_gt (blk_lt (kX BK125)) : gb135 ≠ gb125)); clear BK125; clear HB; have BK125 := n0_; have HB := n1_; have BK135 := n2_; have GW135 := n3_; have GE135 := n4_; have NB125_135 := n5_; have NB135_125 := n6_; clear n0_ n1_ n2_ n3_ n4_ n5_ n6_; clear hb hbox hg; have hnb62 := NB135_125.out; have hnc62 := NB125_135.out; have hcz63_0 : w61.cell? ⟨gb135, 0, none⟩ = some (.string (⟨#[]⟩ : ByteArray)) := (blk_cell BK135.out 0).trans rfl; have hcz63_1 : w61.cell? ⟨gb135, 1, none⟩ = some (.string (⟨#[]⟩ : ByteArray)) := (blk_cell BK135.out 1).trans rfl; have hcz63_2 : w61.cell? ⟨gb135, 2, none⟩ = some (.int .i64 0) := (blk_cell BK135.out 2).trans rfl; have hcz63_3 : w61.cell? ⟨gb135, 3, none⟩ = some (.int .i64 0) := (blk_cell BK135.out 3).trans rfl; have hcz63_4 : w61.cell? ⟨gb135, 4, none⟩ = some (.int .i64 0) := (blk_cell BK135.out 4).trans rfl; have hcz63_5 : w61.cell? ⟨gb135, 5, none⟩ = some (.slice none 0 0) := (blk_cell BK135.out 5).trans rfl; have hfz63_0 := blk_frozen BK135.out 0; have hfz63_1 := blk_frozen BK135.out 1; have hfz63_2 := blk_frozen BK135.out 2; have hfz63_3 := blk_frozen BK135.out 3; have hfz63_4 := blk_frozen BK135.out 4; have hfz63_5 := blk_frozen BK135.out 5))
                have n0_ : Aside0 (((((((w61.setCell ⟨gb135, 0, none⟩ (.string ((rd_T105 l0_5 x5_4).f0))).setCell ⟨gb135, 1, none⟩ (.string ((rd_T105 l0_5 x5_4).f1))).setCell ⟨gb135, 2, none⟩ (.int .i64 ((rd_T105 l0_5 x5_4).f2))).setCell ⟨gb135, 3, none⟩ (.int .i64 ((rd_T105 l0_5 x5_4).f3))).setCell ⟨gb135, 4, none⟩ (.int .i64 ((rd_T105 l0_5 x5_4).f4))).setCell ⟨gb135, 5, none⟩ (.slice A134_5 ((rd_T105 l0_5 x5_4).f5).length c134_5)).heap[gb125]? = some (.cells #[.string a0_0, .string a0_1, .slice A0_2 l0_2.length c0_2, .int .i64 a0_3, .int .i64 a0_4, .slice (some ad134) l0_5.length c0_5] 85 (0, 0))) := ⟨by (with_reducible repeat (first | refine blk_drewN ?_ _ | refine blk_drew ?_ | refine blk_alloc ?_ _)); refine blk_far ?_ NB125_135.out _; (with_reducible repeat (first | refine blk_drewN ?_ _ | refine blk_drew ?_ | refine blk_alloc ?_ _)); refine blk_far ?_ NB125_135.out _; (with_reducible repeat (first | refine blk_drewN ?_ _ | refine blk_drew ?_ | refine blk_alloc ?_ _)); refine blk_far ?_ NB125_135.out _; (with_reducible repeat (first | refine blk_drewN ?_ _ | refine blk_drew ?_ | refine blk_alloc ?_ _)); refine blk_far ?_ NB125_135.out _; (with_reducible repeat (first | refine blk_drewN ?_ _ | refine blk_drew ?_ | refine blk_alloc ?_ _)); refine blk_far ?_ NB125_135.out _; (with_reducible repeat (first | refine blk_drewN ?_ _ | refine blk_drew ?_ | refine blk_alloc ?_ _)); refine blk_far ?_ NB125_135.out _; (with_reducible repeat (first | refine blk_drewN ?_ _ | refine blk_drew ?_ | refine blk_alloc ?_ _)); exact BK125.out⟩
                have n1_ : Aside0 (((((((w61.setCell ⟨gb135, 0, none⟩ (.string ((rd_T105 l0_5 x5_4).f0))).setCell ⟨gb135, 1, none⟩ (.string ((rd_T105 l0_5 x5_4).f1))).setCell ⟨gb135, 2, none⟩ (.int .i64 ((rd_T105 l0_5 x5_4).f2))).setCell ⟨gb135, 3, none⟩ (.int .i64 ((rd_T105 l0_5 x5_4).f3))).setCell ⟨gb135, 4, none⟩ (.int .i64 ((rd_T105 l0_5 x5_4).f4))).setCell ⟨gb135, 5, none⟩ (.slice A134_5 ((rd_T105 l0_5 x5_4).f5).length c134_5)).heap[gb135]? = some (.cells #[.string ((rd_T105 l0_5 x5_4).f0), .string ((rd_T105 l0_5 x5_4).f1), .int .i64 ((rd_T105 l0_5 x5_4).f2), .int .i64 ((rd_T105 l0_5 x5_4).f3), .int .i64 ((rd_T105 l0_5 x5_4).f4), .slice A134_5 ((rd_T105 l0_5 x5_4).f5).length c134_5] 105 (0, 0))) := ⟨by (with_reducible repeat (first | refine blk_drewN ?_ _ | refine blk_drew ?_ | refine blk_alloc ?_ _)); refine blk_put (cs := #[.string ((rd_T105 l0_5 x5_4).f0), .string ((rd_T105 l0_5 x5_4).f1), .int .i64 ((rd_T105 l0_5 x5_4).f2), .int .i64 ((rd_T105 l0_5 x5_4).f3), .int .i64 ((rd_T105 l0_5 x5_4).f4), .slice none 0 0]) ?_ 5 _ rfl; (with_reducible repeat (first | refine blk_drewN ?_ _ | refine blk_drew ?_ | refine blk_alloc ?_ _)); refine blk_put (cs := #[.string ((rd_T105 l0_5 x5_4).f0), .string ((rd_T105 l0_5 x5_4).f1), .int .i64 ((rd_T105 l0_5 x5_4).f2), .int .i64 ((rd_T105 l0_5 x5_4).f3), .int .i64 0, .slice none 0 0]) ?_ 4 _ rfl; (with_reducible repeat (first | refine blk_drewN ?_ _ | refine blk_drew ?_ | refine blk_alloc ?_ _)); refine blk_put (cs := #[.string ((rd_T105 l0_5 x5_4).f0), .string ((rd_T105 l0_5 x5_4).f1), .int .i64 ((rd_T105 l0_5 x5_4).f2), .int .i64 0, .int .i64 0, .slice none 0 0]) ?_ 3 _ rfl; (with_reducible repeat (first | refine blk_drewN ?_ _ | refine blk_drew ?_ | refine blk_alloc ?_ _)); refine blk_put (cs := #[.string ((rd_T105 l0_5 x5_4).f0), .string ((rd_T105 l0_5 x5_4).f1), .int .i64 0, .int .i64 0, .int .i64 0, .slice none 0 0]) ?_ 2 _ rfl; (with_reducible repeat (first | refine blk_drewN ?_ _ | refine blk_drew ?_ | refine blk_alloc ?_ _)); refine blk_put (cs := #[.string ((rd_T105 l0_5 x5_4).f0), .string (⟨#[]⟩ : ByteArray), .int .i64 0, .int .i64 0, .int .i64 0, .slice none 0 0]) ?_ 1 _ rfl; (with_reducible repeat (first | refine blk_drewN ?_ _ | refine blk_drew ?_ | refine blk_alloc ?_ _)); refine blk_put (cs := #[.string (⟨#[]⟩ : ByteArray), .string (⟨#[]⟩ : ByteArray), .int .i64 0, .int .i64 0, .int .i64 0, .slice none 0 0]) ?_ 0 _ rfl; (with_reducible repeat (first | refine blk_drewN ?_ _ | refine blk_drew ?_ | refine blk_alloc ?_ _)); exact BK135.out⟩
                have n2_ : Aside0 (Below w.heap.size w ((((((w61.setCell ⟨gb135, 0, none⟩ (.string ((rd_T105 l0_5 x5_4).f0))).setCell ⟨gb135, 1, none⟩ (.string ((rd_T105 l0_5 x5_4).f1))).setCell ⟨gb135, 2, none⟩ (.int .i64 ((rd_T105 l0_5 x5_4).f2))).setCell ⟨gb135, 3, none⟩ (.int .i64 ((rd_T105 l0_5 x5_4).f3))).setCell ⟨gb135, 4, none⟩ (.int .i64 ((rd_T105 l0_5 x5_4).f4))).setCell ⟨gb135, 5, none⟩ (.slice A134_5 ((rd_T105 l0_5 x5_4).f5).length c134_5))) := ⟨bX2 HB GE125 GE135⟩
                (try clear BK125)
                (try clear BK135)
                (try clear HB)
                generalize ((((((w61.setCell ⟨gb135, 0, none⟩ (.string ((rd_T105 l0_5 x5_4).f0))).setCell ⟨gb135, 1, none⟩ (.string ((rd_T105 l0_5 x5_4).f1))).setCell ⟨gb135, 2, none⟩ (.int .i64 ((rd_T105 l0_5 x5_4).f2))).setCell ⟨gb135, 3, none⟩ (.int .i64 ((rd_T105 l0_5 x5_4).f3))).setCell ⟨gb135, 4, none⟩ (.int .i64 ((rd_T105 l0_5 x5_4).f4))).setCell ⟨gb135, 5, none⟩ (.slice A134_5 ((rd_T105 l0_5 x5_4).f5).length c134_5)) = w64 at n0_ n1_ n2_ ⊢; have BK125 := n0_; have BK135 := n1_; have HB := n2_; clear n0_ n1_ n2_; have n0_ := Aside0.mk (blk_drew BK125.out); have n1_ := Aside0.mk (blk_drew BK135.out); have n2_ := Aside0.mk (below_drew1 HB.out); clear BK125; clear BK135; clear HB; have BK125 := n0_; have BK135 := n1_; have HB := n2_; clear n0_ n1_ n2_; refine start_ (n := 16) (S := fun w' => w'.cell? ⟨gb135, 0, none⟩ = some (.string ((rd_T105 l0_5 x5_4).f0)) ∧ w'.cell? ⟨gb135, 1, none⟩ = some (.string ((rd_T105 l0_5 x5_4).f1)) ∧ w'.cell? ⟨gb135, 2, none⟩ = some (.int .i64 ((rd_T105 l0_5 x5_4).f2)) ∧ w'.cell? ⟨gb135, 3, none⟩ = some (.int .i64 ((rd_T105 l0_5 x5_4).f3)) ∧ w'.cell? ⟨gb135, 4, none⟩ = some (.int .i64 ((rd_T105 l0_5 x5_4).f4)) ∧ w'.cell? ⟨gb135, 5, none⟩ = some (.slice A134_5 ((rd_T105 l0_5 x5_4).f5).length c134_5) ∧ w'.cell? ⟨gb125, 0, none⟩ = some (.string a0_0) ∧ w'.cell? ⟨gb125, 1, none⟩ = some (.string a0_1) ∧ w'.cell? ⟨gb125, 2, none⟩ = some (.slice A0_2 l0_2.length c0_2) ∧ w'.cell? ⟨gb125, 3, none⟩ = some (.int .i64 a0_3) ∧ w'.cell? ⟨gb125, 4, none⟩ = some (.int .i64 a0_4) ∧ w'.cell? ⟨gb125, 5, none⟩ = some (.slice (some ad134) l0_5.length c0_5)) (ds := []) #[false, false, false, false, false, false, false, false, false, false, false, false, false, false, false, false] (by kernel_rfl) rfl rfl ⟨(blk_cell BK135.out 0).trans rfl, (blk_cell BK135.out 1).trans rfl, (blk_cell BK135.out 2).trans rfl, (blk_cell BK135.out 3).trans rfl, (blk_cell BK135.out 4).trans rfl, (blk_cell BK135.out 5).trans rfl, (blk_cell BK125.out 0).trans rfl, (blk_cell BK125.out 1).trans rfl, (blk_cell BK125.out 2).trans rfl, (blk_cell BK125.out 3).trans rfl, (blk_cell BK125.out 4).trans rfl, (blk_cell BK125.out 5).trans rfl⟩ (fun hHeld => ?_); refine with_tabW arbiterref05_Check.tab19 arbiterref05_Check.bits19 (fun HT_ HW_ => ?_); generalize w64.drew = w65 at BK125 BK135 HB hHeld ⊢; refine pX HT_ 1 (some 103) ?_; refine tX HT_ HW_ hHeld 0 (some 102) ?_; refine tX HT_ HW_ hHeld 2 (some 104) ?_; refine oX HT_ 3 (some 105) (fun K hK => ?_); refine goes_ Tryz.func53 (by kernel_rfl) rfl #[.int .i64 a0_3, .int .i64 512] (by rfl) rfl rfl (by (try simp only [List.map_toArray, List.map_cons, List.map_nil]); first | done | rfl | (simp only [List.length_drop, List.length_take]; rfl)) ?_
                with_reducible refine (arbiterref03_Has.calls a0_3 512 t136 _ A55.out).mono ?_
                rintro e w66 ⟨rfl, hb⟩; refine ⟨_, rfl, ?_⟩; have n0_ := Aside0.mk (blk_below (kX BK125) hb); have n1_ := Aside0.mk (blk_below (kX BK135) hb); have n2_ := Aside0.mk (below_step (bX2 HB GE125 GE135) hb); clear BK125; clear BK135; clear HB; have BK125 := n0_; have BK135 := n1_; have HB := n2_; clear n0_ n1_ n2_
                (try clear hb)
                (try clear hb2)
                (try clear hk)
                (try clear hi)
                refine hK.out _ _ ⟨(blk_cell BK135.out 0).trans rfl, (blk_cell BK135.out 1).trans rfl, (blk_cell BK135.out 2).trans rfl, (blk_cell BK135.out 3).trans rfl, (blk_cell BK135.out 4).trans rfl, (blk_cell BK135.out 5).trans rfl, (blk_cell BK125.out 0).trans rfl, (blk_cell BK125.out 1).trans rfl, (blk_cell BK125.out 2).trans rfl, (blk_cell BK125.out 3).trans rfl, (blk_cell BK125.out 4).trans rfl, (blk_cell BK125.out 5).trans rfl⟩ (fun hHeld => ?_); clear hK K; refine nX (some 105) ?_; refine oX HT_ 4 (some 106) (fun K hK => ?_); refine goes_ Tryz.func118 (by kernel_rfl) rfl #[.agg #[.string ((rd_T105 l0_5 x5_4).f0), .string ((rd_T105 l0_5 x5_4).f1), .int .i64 ((rd_T105 l0_5 x5_4).f2), .int .i64 ((rd_T105 l0_5 x5_4).f3), .int .i64 ((rd_T105 l0_5 x5_4).f4), .slice A134_5 ((rd_T105 l0_5 x5_4).f5).length c134_5], .bool t136] (by rfl) rfl rfl (by (try simp only [List.map_toArray, List.map_cons, List.map_nil]); first | done | rfl | (simp only [List.length_drop, List.length_take]; rfl)) ?_
                with_reducible refine (arbiterref05_method.calls ((rd_T105 l0_5 x5_4).f0) ((rd_T105 l0_5 x5_4).f1) ((rd_T105 l0_5 x5_4).f2) ((rd_T105 l0_5 x5_4).f3) ((rd_T105 l0_5 x5_4).f4) _ _ ((rd_T105 l0_5 x5_4).f5) t136 true _ ?side1 ?side2 A56.out).mono ?_
                (case side1 => repeat (first | exact (Kd.C_below HR134_5.out HB.out) | (with_reducible refine Kd.C_alloc ?_ _) | (with_reducible refine Kd.C_drewN ?_ _) | (with_reducible refine Kd.C_drew ?_)))
                (case side2 => exact HC134_5.out)
                rintro e w67 ⟨rfl, hb⟩; refine ⟨_, rfl, ?_⟩; have n0_ := Aside0.mk (blk_below (kX BK125) hb); have n1_ := Aside0.mk (blk_below (kX BK135) hb); have n2_ := Aside0.mk (below_step (bX2 HB GE125 GE135) hb); clear BK125; clear BK135; clear HB; have BK125 := n0_; have BK135 := n1_; have HB := n2_; clear n0_ n1_ n2_
                (try clear hb)
                (try clear hb2)
                (try clear hk)
                (try clear hi)
                refine hK.out _ _ ⟨(blk_cell BK135.out 0).trans rfl, (blk_cell BK135.out 1).trans rfl, (blk_cell BK135.out 2).trans rfl, (blk_cell BK135.out 3).trans rfl, (blk_cell BK135.out 4).trans rfl, (blk_cell BK135.out 5).trans rfl, (blk_cell BK125.out 0).trans rfl, (blk_cell BK125.out 1).trans rfl, (blk_cell BK125.out 2).trans rfl, (blk_cell BK125.out 3).trans rfl, (blk_cell BK125.out 4).trans rfl, (blk_cell BK125.out 5).trans rfl⟩ (fun hHeld => ?_); clear hK K; refine nX (some 106) ?_; refine pX HT_ 5 (some 107) ?_; refine pX HT_ 6 (some 108) ?_; refine pX HT_ 8 (some 110) ?_; refine pX HT_ 10 (some 112) ?_; refine pX HT_ 13 (some 115) ?_; refine tX HT_ HW_ hHeld 7 (some 109) ?_; refine tX HT_ HW_ hHeld 9 (some 111) ?_; refine tX HT_ HW_ hHeld 11 (some 113) ?_; refine oX HT_ 12 (some 114) (fun K hK => ?_); refine goes_ Tryz.func119 (by kernel_rfl) rfl #[.agg #[.string a0_0, .string a0_1, .slice A0_2 l0_2.length c0_2, .int .i64 a0_3, .int .i64 a0_4, .slice (some ad134) l0_5.length c0_5], .string ((rd_T105 l0_5 x5_4).f0), .string ((rd_T105 l0_5 x5_4).f1)] (by rfl) rfl rfl (by (try simp only [List.map_toArray, List.map_cons, List.map_nil]); first | done | rfl | (simp only [List.length_drop, List.length_take]; rfl)) ?_
                with_reducible refine (arbiterref05_Find.calls a0_0 a0_1 _ _ l0_2 a0_3 a0_4 _ _ l0_5 ((rd_T105 l0_5 x5_4).f0) ((rd_T105 l0_5 x5_4).f1) t138 _ ?side1 ?side2 ?side3 ?side4 A58.out).mono ?_
                (case side1 => repeat (first | exact (Kd.C_below HR0_2.out HB.out) | (with_reducible refine Kd.C_alloc ?_ _) | (with_reducible refine Kd.C_drewN ?_ _) | (with_reducible refine Kd.C_drew ?_)))
                (case side2 => exact HC0_2.out)
                (case side3 => repeat (first | exact (Kd.C_below HR0_5.out HB.out) | (with_reducible refine Kd.C_alloc ?_ _) | (with_reducible refine Kd.C_drewN ?_ _) | (with_reducible refine Kd.C_drew ?_)))
                (case side4 => exact HC0_5.out)
                rintro e w68 ⟨rfl, hb⟩; refine ⟨_, rfl, ?_⟩; have n0_ := Aside0.mk (blk_below (kX BK125) hb); have n1_ := Aside0.mk (blk_below (kX BK135) hb); have n2_ := Aside0.mk (below_step (bX2 HB GE125 GE135) hb); clear BK125; clear BK135; clear HB; have BK125 := n0_; have BK135 := n1_; have HB := n2_; clear n0_ n1_ n2_
                (try clear hb)
                (try clear hb2)
                (try clear hk)
                (try clear hi)
                refine hK.out _ _ ⟨(blk_cell BK135.out 0).trans rfl, (blk_cell BK135.out 1).trans rfl, (blk_cell BK135.out 2).trans rfl, (blk_cell BK135.out 3).trans rfl, (blk_cell BK135.out 4).trans rfl, (blk_cell BK135.out 5).trans rfl, (blk_cell BK125.out 0).trans rfl, (blk_cell BK125.out 1).trans rfl, (blk_cell BK125.out 2).trans rfl, (blk_cell BK125.out 3).trans rfl, (blk_cell BK125.out 4).trans rfl, (blk_cell BK125.out 5).trans rfl⟩ (fun hHeld => ?_); clear hK K; refine nX (some 114) ?_; refine pX HT_ 14 (some 116) ?_; refine pX HT_ 15 (some 117) ?_; refine done_ (done_of HT_.out (by kernel_rfl)) ?_
                try go_wp2
                go_roundg k4
                case measure => have := HJ1.out; have := HJ19.out; have := HK3.out; have := HK4.out; omega
                case rel => exact ⟨(wrap64 (x5_4 + 1)), (by first | rfl | (simp; done) | (simp [*]; done)), H', ⟨by have := HJ1.out; have := HJ19.out; have := HK3.out; have := HK4.out; omega⟩, ⟨by (with_reducible repeat (first | refine blk_drewN ?_ _ | refine blk_drew ?_ | refine blk_alloc ?_ _)); exact BK125.out⟩, ⟨bX2 HB GE125 GE135⟩⟩
               ·rw [if_neg c59] at H
                have c59b0 : (t138 == x5_4) = false := beq_eq_false_iff_ne.mpr c59; have c59b1 : (t138 != x5_4) = true := bne_iff_ne.mpr c59; obtain rfl := Option.some.inj H; obtain ⟨hcz69_0, hcz69_1, hcz69_2, hcz69_3, hcz69_4, hcz69_5, hfz69_0, hfz69_1, hfz69_2, hfz69_3, hfz69_4, hfz69_5⟩ := c6X BK125; have p134 : 0 ≤ (x5_4 : Int) := of_decide_eq_true (by first | (with_reducible assumption) | assumption); have q134 : x5_4 < (l0_5.length : Int) := of_decide_eq_true (by first | (with_reducible assumption) | assumption); obtain ⟨ad134, A134_5, c134_5, e134, hx134_0, hx134_1, hx134_2, hx134_3, hx134_4, hx134_5, hl134_5, hi134_5⟩ := at_T105 HR0_5.out x5_4 p134 q134
                cases e134
                replace hx134_0 := (HB.out.cell (World.block_lt_of_cell? w _ hx134_0)).trans hx134_0; replace hx134_1 := (HB.out.cell (World.block_lt_of_cell? w _ hx134_1)).trans hx134_1; replace hx134_2 := (HB.out.cell (World.block_lt_of_cell? w _ hx134_2)).trans hx134_2; replace hx134_3 := (HB.out.cell (World.block_lt_of_cell? w _ hx134_3)).trans hx134_3; replace hx134_4 := (HB.out.cell (World.block_lt_of_cell? w _ hx134_4)).trans hx134_4; replace hx134_5 := (HB.out.cell (World.block_lt_of_cell? w _ hx134_5)).trans hx134_5; have HR134_5 := Aside0.mk hi134_5; have HC134_5 := Aside0.mk hl134_5; clear hi134_5 hl134_5; replace p134 := eq_true p134; replace q134 := eq_true q134
                try go_wp2_with (first | ((with_reducible refine gate_dst (N := 6) rfl ?_); (try (refine gate_guard (by rfl) ?_; dsimp only)); refine box_event ?hg (N := 6) ?hd (cs := #[.string (⟨#[]⟩ : ByteArray), .string (⟨#[]⟩ : ByteArray), .int .i64 0, .int .i64 0, .int .i64 0, .slice none 0 0]) (t := 105) ?hr ?_; (case hd => rfl); (case hg => rfl); (case hr => first | (go_simp; done) | (go_simp; rfl)); intro gb135 hg w70 hbox hb; have n0_ := Aside0.mk (blk_below (kX BK125) hb); have n1_ := Aside0.mk (below_step (bX1 HB GE125) hb); have n2_ := Aside0.mk (hbox); have n3_ := Aside0.mk ((by rw [hg]; exact (below_size (bX1 HB GE125)) : w.heap.size ≤ gb135)); have n4_ := Aside0.mk ((by rw [hg]; exact (below_size (bX1 HB GE125)) : w.heap.size ≤ gb135)); have n5_ := Aside0.mk ((by rw [hg]; exact Nat.ne_of_lt (blk_lt (kX BK125)) : gb125 ≠ gb135)); have n6_ := Aside0.mk ((by rw [hg]; exact Nat.ne_of_gt (blk_lt (kX BK125)) : gb135 ≠ gb125)); clear BK125; clear HB; have BK125 := n0_; have HB := n1_; have BK135 := n2_; have GW135 := n3_; have GE135 := n4_; have NB125_135 := n5_; have NB135_125 := n6_; clear n0_ n1_ n2_ n3_ n4_ n5_ n6_; clear hb hbox hg; have hnb71 := NB135_125.out; have hnc71 := NB125_135.out; have hcz72_0 : w70.cell? ⟨gb135, 0, none⟩ = some (.string (⟨#[]⟩ : ByteArray)) := (blk_cell BK135.out 0).trans rfl; have hcz72_1 : w70.cell? ⟨gb135, 1, none⟩ = some (.string (⟨#[]⟩ : ByteArray)) := (blk_cell BK135.out 1).trans rfl; have hcz72_2 : w70.cell? ⟨gb135, 2, none⟩ = some (.int .i64 0) := (blk_cell BK135.out 2).trans rfl; have hcz72_3 : w70.cell? ⟨gb135, 3, none⟩ = some (.int .i64 0) := (blk_cell BK135.out 3).trans rfl; have hcz72_4 : w70.cell? ⟨gb135, 4, none⟩ = some (.int .i64 0) := (blk_cell BK135.out 4).trans rfl; have hcz72_5 : w70.cell? ⟨gb135, 5, none⟩ = some (.slice none 0 0) := (blk_cell BK135.out 5).trans rfl; have hfz72_0 := blk_frozen BK135.out 0; have hfz72_1 := blk_frozen BK135.out 1; have hfz72_2 := blk_frozen BK135.out 2; have hfz72_3 := blk_frozen BK135.out 3; have hfz72_4 := blk_frozen BK135.out 4; have hfz72_5 := blk_frozen BK135.out 5))
                have n0_ : Aside0 (((((((w70.setCell ⟨gb135, 0, none⟩ (.string ((rd_T105 l0_5 x5_4).f0))).setCell ⟨gb135, 1, none⟩ (.string ((rd_T105 l0_5 x5_4).f1))).setCell ⟨gb135, 2, none⟩ (.int .i64 ((rd_T105 l0_5 x5_4).f2))).setCell ⟨gb135, 3, none⟩ (.int .i64 ((rd_T105 l0_5 x5_4).f3))).setCell ⟨gb135, 4, none⟩ (.int .i64 ((rd_T105 l0_5 x5_4).f4))).setCell ⟨gb135, 5, none⟩ (.slice A134_5 ((rd_T105 l0_5 x5_4).f5).length c134_5)).heap[gb125]? = some (.cells #[.string a0_0, .string a0_1, .slice A0_2 l0_2.length c0_2, .int .i64 a0_3, .int .i64 a0_4, .slice (some ad134) l0_5.length c0_5] 85 (0, 0))) := ⟨by (with_reducible repeat (first | refine blk_drewN ?_ _ | refine blk_drew ?_ | refine blk_alloc ?_ _)); refine blk_far ?_ NB125_135.out _; (with_reducible repeat (first | refine blk_drewN ?_ _ | refine blk_drew ?_ | refine blk_alloc ?_ _)); refine blk_far ?_ NB125_135.out _; (with_reducible repeat (first | refine blk_drewN ?_ _ | refine blk_drew ?_ | refine blk_alloc ?_ _)); refine blk_far ?_ NB125_135.out _; (with_reducible repeat (first | refine blk_drewN ?_ _ | refine blk_drew ?_ | refine blk_alloc ?_ _)); refine blk_far ?_ NB125_135.out _; (with_reducible repeat (first | refine blk_drewN ?_ _ | refine blk_drew ?_ | refine blk_alloc ?_ _)); refine blk_far ?_ NB125_135.out _; (with_reducible repeat (first | refine blk_drewN ?_ _ | refine blk_drew ?_ | refine blk_alloc ?_ _)); refine blk_far ?_ NB125_135.out _; (with_reducible repeat (first | refine blk_drewN ?_ _ | refine blk_drew ?_ | refine blk_alloc ?_ _)); exact BK125.out⟩
                have n1_ : Aside0 (((((((w70.setCell ⟨gb135, 0, none⟩ (.string ((rd_T105 l0_5 x5_4).f0))).setCell ⟨gb135, 1, none⟩ (.string ((rd_T105 l0_5 x5_4).f1))).setCell ⟨gb135, 2, none⟩ (.int .i64 ((rd_T105 l0_5 x5_4).f2))).setCell ⟨gb135, 3, none⟩ (.int .i64 ((rd_T105 l0_5 x5_4).f3))).setCell ⟨gb135, 4, none⟩ (.int .i64 ((rd_T105 l0_5 x5_4).f4))).setCell ⟨gb135, 5, none⟩ (.slice A134_5 ((rd_T105 l0_5 x5_4).f5).length c134_5)).heap[gb135]? = some (.cells #[.string ((rd_T105 l0_5 x5_4).f0), .string ((rd_T105 l0_5 x5_4).f1), .int .i64 ((rd_T105 l0_5 x5_4).f2), .int .i64 ((rd_T105 l0_5 x5_4).f3), .int .i64 ((rd_T105 l0_5 x5_4).f4), .slice A134_5 ((rd_T105 l0_5 x5_4).f5).length c134_5] 105 (0, 0))) := ⟨by (with_reducible repeat (first | refine blk_drewN ?_ _ | refine blk_drew ?_ | refine blk_alloc ?_ _)); refine blk_put (cs := #[.string ((rd_T105 l0_5 x5_4).f0), .string ((rd_T105 l0_5 x5_4).f1), .int .i64 ((rd_T105 l0_5 x5_4).f2), .int .i64 ((rd_T105 l0_5 x5_4).f3), .int .i64 ((rd_T105 l0_5 x5_4).f4), .slice none 0 0]) ?_ 5 _ rfl; (with_reducible repeat (first | refine blk_drewN ?_ _ | refine blk_drew ?_ | refine blk_alloc ?_ _)); refine blk_put (cs := #[.string ((rd_T105 l0_5 x5_4).f0), .string ((rd_T105 l0_5 x5_4).f1), .int .i64 ((rd_T105 l0_5 x5_4).f2), .int .i64 ((rd_T105 l0_5 x5_4).f3), .int .i64 0, .slice none 0 0]) ?_ 4 _ rfl; (with_reducible repeat (first | refine blk_drewN ?_ _ | refine blk_drew ?_ | refine blk_alloc ?_ _)); refine blk_put (cs := #[.string ((rd_T105 l0_5 x5_4).f0), .string ((rd_T105 l0_5 x5_4).f1), .int .i64 ((rd_T105 l0_5 x5_4).f2), .int .i64 0, .int .i64 0, .slice none 0 0]) ?_ 3 _ rfl; (with_reducible repeat (first | refine blk_drewN ?_ _ | refine blk_drew ?_ | refine blk_alloc ?_ _)); refine blk_put (cs := #[.string ((rd_T105 l0_5 x5_4).f0), .string ((rd_T105 l0_5 x5_4).f1), .int .i64 0, .int .i64 0, .int .i64 0, .slice none 0 0]) ?_ 2 _ rfl; (with_reducible repeat (first | refine blk_drewN ?_ _ | refine blk_drew ?_ | refine blk_alloc ?_ _)); refine blk_put (cs := #[.string ((rd_T105 l0_5 x5_4).f0), .string (⟨#[]⟩ : ByteArray), .int .i64 0, .int .i64 0, .int .i64 0, .slice none 0 0]) ?_ 1 _ rfl; (with_reducible repeat (first | refine blk_drewN ?_ _ | refine blk_drew ?_ | refine blk_alloc ?_ _)); refine blk_put (cs := #[.string (⟨#[]⟩ : ByteArray), .string (⟨#[]⟩ : ByteArray), .int .i64 0, .int .i64 0, .int .i64 0, .slice none 0 0]) ?_ 0 _ rfl; (with_reducible repeat (first | refine blk_drewN ?_ _ | refine blk_drew ?_ | refine blk_alloc ?_ _)); exact BK135.out⟩
                have n2_ : Aside0 (Below w.heap.size w ((((((w70.setCell ⟨gb135, 0, none⟩ (.string ((rd_T105 l0_5 x5_4).f0))).setCell ⟨gb135, 1, none⟩ (.string ((rd_T105 l0_5 x5_4).f1))).setCell ⟨gb135, 2, none⟩ (.int .i64 ((rd_T105 l0_5 x5_4).f2))).setCell ⟨gb135, 3, none⟩ (.int .i64 ((rd_T105 l0_5 x5_4).f3))).setCell ⟨gb135, 4, none⟩ (.int .i64 ((rd_T105 l0_5 x5_4).f4))).setCell ⟨gb135, 5, none⟩ (.slice A134_5 ((rd_T105 l0_5 x5_4).f5).length c134_5))) := ⟨bX2 HB GE125 GE135⟩
                (try clear BK125)
                (try clear BK135)
                (try clear HB)
                generalize ((((((w70.setCell ⟨gb135, 0, none⟩ (.string ((rd_T105 l0_5 x5_4).f0))).setCell ⟨gb135, 1, none⟩ (.string ((rd_T105 l0_5 x5_4).f1))).setCell ⟨gb135, 2, none⟩ (.int .i64 ((rd_T105 l0_5 x5_4).f2))).setCell ⟨gb135, 3, none⟩ (.int .i64 ((rd_T105 l0_5 x5_4).f3))).setCell ⟨gb135, 4, none⟩ (.int .i64 ((rd_T105 l0_5 x5_4).f4))).setCell ⟨gb135, 5, none⟩ (.slice A134_5 ((rd_T105 l0_5 x5_4).f5).length c134_5)) = w73 at n0_ n1_ n2_ ⊢; have BK125 := n0_; have BK135 := n1_; have HB := n2_; clear n0_ n1_ n2_; have n0_ := Aside0.mk (blk_drew BK125.out); have n1_ := Aside0.mk (blk_drew BK135.out); have n2_ := Aside0.mk (below_drew1 HB.out); clear BK125; clear BK135; clear HB; have BK125 := n0_; have BK135 := n1_; have HB := n2_; clear n0_ n1_ n2_; refine start_ (n := 16) (S := fun w' => w'.cell? ⟨gb135, 0, none⟩ = some (.string ((rd_T105 l0_5 x5_4).f0)) ∧ w'.cell? ⟨gb135, 1, none⟩ = some (.string ((rd_T105 l0_5 x5_4).f1)) ∧ w'.cell? ⟨gb135, 2, none⟩ = some (.int .i64 ((rd_T105 l0_5 x5_4).f2)) ∧ w'.cell? ⟨gb135, 3, none⟩ = some (.int .i64 ((rd_T105 l0_5 x5_4).f3)) ∧ w'.cell? ⟨gb135, 4, none⟩ = some (.int .i64 ((rd_T105 l0_5 x5_4).f4)) ∧ w'.cell? ⟨gb135, 5, none⟩ = some (.slice A134_5 ((rd_T105 l0_5 x5_4).f5).length c134_5) ∧ w'.cell? ⟨gb125, 0, none⟩ = some (.string a0_0) ∧ w'.cell? ⟨gb125, 1, none⟩ = some (.string a0_1) ∧ w'.cell? ⟨gb125, 2, none⟩ = some (.slice A0_2 l0_2.length c0_2) ∧ w'.cell? ⟨gb125, 3, none⟩ = some (.int .i64 a0_3) ∧ w'.cell? ⟨gb125, 4, none⟩ = some (.int .i64 a0_4) ∧ w'.cell? ⟨gb125, 5, none⟩ = some (.slice (some ad134) l0_5.length c0_5)) (ds := []) #[false, false, false, false, false, false, false, false, false, false, false, false, false, false, false, false] (by kernel_rfl) rfl rfl ⟨(blk_cell BK135.out 0).trans rfl, (blk_cell BK135.out 1).trans rfl, (blk_cell BK135.out 2).trans rfl, (blk_cell BK135.out 3).trans rfl, (blk_cell BK135.out 4).trans rfl, (blk_cell BK135.out 5).trans rfl, (blk_cell BK125.out 0).trans rfl, (blk_cell BK125.out 1).trans rfl, (blk_cell BK125.out 2).trans rfl, (blk_cell BK125.out 3).trans rfl, (blk_cell BK125.out 4).trans rfl, (blk_cell BK125.out 5).trans rfl⟩ (fun hHeld => ?_); refine with_tabW arbiterref05_Check.tab19 arbiterref05_Check.bits19 (fun HT_ HW_ => ?_); generalize w73.drew = w74 at BK125 BK135 HB hHeld ⊢; refine pX HT_ 1 (some 103) ?_; refine tX HT_ HW_ hHeld 0 (some 102) ?_; refine tX HT_ HW_ hHeld 2 (some 104) ?_; refine oX HT_ 3 (some 105) (fun K hK => ?_); refine goes_ Tryz.func53 (by kernel_rfl) rfl #[.int .i64 a0_3, .int .i64 512] (by rfl) rfl rfl (by (try simp only [List.map_toArray, List.map_cons, List.map_nil]); first | done | rfl | (simp only [List.length_drop, List.length_take]; rfl)) ?_
                with_reducible refine (arbiterref03_Has.calls a0_3 512 t136 _ A55.out).mono ?_
                rintro e w75 ⟨rfl, hb⟩; refine ⟨_, rfl, ?_⟩; have n0_ := Aside0.mk (blk_below (kX BK125) hb); have n1_ := Aside0.mk (blk_below (kX BK135) hb); have n2_ := Aside0.mk (below_step (bX2 HB GE125 GE135) hb); clear BK125; clear BK135; clear HB; have BK125 := n0_; have BK135 := n1_; have HB := n2_; clear n0_ n1_ n2_
                (try clear hb)
                (try clear hb2)
                (try clear hk)
                (try clear hi)
                refine hK.out _ _ ⟨(blk_cell BK135.out 0).trans rfl, (blk_cell BK135.out 1).trans rfl, (blk_cell BK135.out 2).trans rfl, (blk_cell BK135.out 3).trans rfl, (blk_cell BK135.out 4).trans rfl, (blk_cell BK135.out 5).trans rfl, (blk_cell BK125.out 0).trans rfl, (blk_cell BK125.out 1).trans rfl, (blk_cell BK125.out 2).trans rfl, (blk_cell BK125.out 3).trans rfl, (blk_cell BK125.out 4).trans rfl, (blk_cell BK125.out 5).trans rfl⟩ (fun hHeld => ?_); clear hK K; refine nX (some 105) ?_; refine oX HT_ 4 (some 106) (fun K hK => ?_); refine goes_ Tryz.func118 (by kernel_rfl) rfl #[.agg #[.string ((rd_T105 l0_5 x5_4).f0), .string ((rd_T105 l0_5 x5_4).f1), .int .i64 ((rd_T105 l0_5 x5_4).f2), .int .i64 ((rd_T105 l0_5 x5_4).f3), .int .i64 ((rd_T105 l0_5 x5_4).f4), .slice A134_5 ((rd_T105 l0_5 x5_4).f5).length c134_5], .bool t136] (by rfl) rfl rfl (by (try simp only [List.map_toArray, List.map_cons, List.map_nil]); first | done | rfl | (simp only [List.length_drop, List.length_take]; rfl)) ?_
                with_reducible refine (arbiterref05_method.calls ((rd_T105 l0_5 x5_4).f0) ((rd_T105 l0_5 x5_4).f1) ((rd_T105 l0_5 x5_4).f2) ((rd_T105 l0_5 x5_4).f3) ((rd_T105 l0_5 x5_4).f4) _ _ ((rd_T105 l0_5 x5_4).f5) t136 true _ ?side1 ?side2 A56.out).mono ?_
                (case side1 => repeat (first | exact (Kd.C_below HR134_5.out HB.out) | (with_reducible refine Kd.C_alloc ?_ _) | (with_reducible refine Kd.C_drewN ?_ _) | (with_reducible refine Kd.C_drew ?_)))
                (case side2 => exact HC134_5.out)
                rintro e w76 ⟨rfl, hb⟩; refine ⟨_, rfl, ?_⟩; have n0_ := Aside0.mk (blk_below (kX BK125) hb); have n1_ := Aside0.mk (blk_below (kX BK135) hb); have n2_ := Aside0.mk (below_step (bX2 HB GE125 GE135) hb); clear BK125; clear BK135; clear HB; have BK125 := n0_; have BK135 := n1_; have HB := n2_; clear n0_ n1_ n2_
                (try clear hb)
                (try clear hb2)
                (try clear hk)
                (try clear hi)
                refine hK.out _ _ ⟨(blk_cell BK135.out 0).trans rfl, (blk_cell BK135.out 1).trans rfl, (blk_cell BK135.out 2).trans rfl, (blk_cell BK135.out 3).trans rfl, (blk_cell BK135.out 4).trans rfl, (blk_cell BK135.out 5).trans rfl, (blk_cell BK125.out 0).trans rfl, (blk_cell BK125.out 1).trans rfl, (blk_cell BK125.out 2).trans rfl, (blk_cell BK125.out 3).trans rfl, (blk_cell BK125.out 4).trans rfl, (blk_cell BK125.out 5).trans rfl⟩ (fun hHeld => ?_); clear hK K; refine nX (some 106) ?_; refine pX HT_ 5 (some 107) ?_; refine pX HT_ 6 (some 108) ?_; refine pX HT_ 8 (some 110) ?_; refine pX HT_ 10 (some 112) ?_; refine pX HT_ 13 (some 115) ?_; refine tX HT_ HW_ hHeld 7 (some 109) ?_; refine tX HT_ HW_ hHeld 9 (some 111) ?_; refine tX HT_ HW_ hHeld 11 (some 113) ?_; refine oX HT_ 12 (some 114) (fun K hK => ?_); refine goes_ Tryz.func119 (by kernel_rfl) rfl #[.agg #[.string a0_0, .string a0_1, .slice A0_2 l0_2.length c0_2, .int .i64 a0_3, .int .i64 a0_4, .slice (some ad134) l0_5.length c0_5], .string ((rd_T105 l0_5 x5_4).f0), .string ((rd_T105 l0_5 x5_4).f1)] (by rfl) rfl rfl (by (try simp only [List.map_toArray, List.map_cons, List.map_nil]); first | done | rfl | (simp only [List.length_drop, List.length_take]; rfl)) ?_
                with_reducible refine (arbiterref05_Find.calls a0_0 a0_1 _ _ l0_2 a0_3 a0_4 _ _ l0_5 ((rd_T105 l0_5 x5_4).f0) ((rd_T105 l0_5 x5_4).f1) t138 _ ?side1 ?side2 ?side3 ?side4 A58.out).mono ?_
                (case side1 => repeat (first | exact (Kd.C_below HR0_2.out HB.out) | (with_reducible refine Kd.C_alloc ?_ _) | (with_reducible refine Kd.C_drewN ?_ _) | (with_reducible refine Kd.C_drew ?_)))
                (case side2 => exact HC0_2.out)
                (case side3 => repeat (first | exact (Kd.C_below HR0_5.out HB.out) | (with_reducible refine Kd.C_alloc ?_ _) | (with_reducible refine Kd.C_drewN ?_ _) | (with_reducible refine Kd.C_drew ?_)))
                (case side4 => exact HC0_5.out)
                rintro e w77 ⟨rfl, hb⟩; refine ⟨_, rfl, ?_⟩; have n0_ := Aside0.mk (blk_below (kX BK125) hb); have n1_ := Aside0.mk (blk_below (kX BK135) hb); have n2_ := Aside0.mk (below_step (bX2 HB GE125 GE135) hb); clear BK125; clear BK135; clear HB; have BK125 := n0_; have BK135 := n1_; have HB := n2_; clear n0_ n1_ n2_
                (try clear hb)
                (try clear hb2)
                (try clear hk)
                (try clear hi)
                refine hK.out _ _ ⟨(blk_cell BK135.out 0).trans rfl, (blk_cell BK135.out 1).trans rfl, (blk_cell BK135.out 2).trans rfl, (blk_cell BK135.out 3).trans rfl, (blk_cell BK135.out 4).trans rfl, (blk_cell BK135.out 5).trans rfl, (blk_cell BK125.out 0).trans rfl, (blk_cell BK125.out 1).trans rfl, (blk_cell BK125.out 2).trans rfl, (blk_cell BK125.out 3).trans rfl, (blk_cell BK125.out 4).trans rfl, (blk_cell BK125.out 5).trans rfl⟩ (fun hHeld => ?_); clear hK K; refine nX (some 114) ?_; refine pX HT_ 14 (some 116) ?_; refine pX HT_ 15 (some 117) ?_; refine done_ (done_of HT_.out (by kernel_rfl)) ?_
                try go_wp2
                go_ret
                exact ⟨by first | rfl | (simp [errW_none, errW_some] <;> rfl) | (simp [*, errW_none, errW_some] <;> rfl), bX2 HB GE125 GE135⟩
              ·replace c57 := Bool.eq_false_iff.mpr c57
               subst c57
               have H1 : (some 1) = some r := by rw [if_neg (show ¬ (false = true) by decide)] at H; exact H
               clear H; have H := H1; clear H1; obtain rfl := Option.some.inj H; obtain ⟨hcz78_0, hcz78_1, hcz78_2, hcz78_3, hcz78_4, hcz78_5, hfz78_0, hfz78_1, hfz78_2, hfz78_3, hfz78_4, hfz78_5⟩ := c6X BK125; have p134 : 0 ≤ (x5_4 : Int) := of_decide_eq_true (by first | (with_reducible assumption) | assumption); have q134 : x5_4 < (l0_5.length : Int) := of_decide_eq_true (by first | (with_reducible assumption) | assumption); obtain ⟨ad134, A134_5, c134_5, e134, hx134_0, hx134_1, hx134_2, hx134_3, hx134_4, hx134_5, hl134_5, hi134_5⟩ := at_T105 HR0_5.out x5_4 p134 q134
               cases e134
               replace hx134_0 := (HB.out.cell (World.block_lt_of_cell? w _ hx134_0)).trans hx134_0; replace hx134_1 := (HB.out.cell (World.block_lt_of_cell? w _ hx134_1)).trans hx134_1; replace hx134_2 := (HB.out.cell (World.block_lt_of_cell? w _ hx134_2)).trans hx134_2; replace hx134_3 := (HB.out.cell (World.block_lt_of_cell? w _ hx134_3)).trans hx134_3; replace hx134_4 := (HB.out.cell (World.block_lt_of_cell? w _ hx134_4)).trans hx134_4; replace hx134_5 := (HB.out.cell (World.block_lt_of_cell? w _ hx134_5)).trans hx134_5; have HR134_5 := Aside0.mk hi134_5; have HC134_5 := Aside0.mk hl134_5; clear hi134_5 hl134_5; replace p134 := eq_true p134; replace q134 := eq_true q134
               try go_wp2_with (first | ((with_reducible refine gate_dst (N := 6) rfl ?_); (try (refine gate_guard (by rfl) ?_; dsimp only)); refine box_event ?hg (N := 6) ?hd (cs := #[.string (⟨#[]⟩ : ByteArray), .string (⟨#[]⟩ : ByteArray), .int .i64 0, .int .i64 0, .int .i64 0, .slice none 0 0]) (t := 105) ?hr ?_; (case hd => rfl); (case hg => rfl); (case hr => first | (go_simp; done) | (go_simp; rfl)); intro gb135 hg w79 hbox hb; have n0_ := Aside0.mk (blk_below (kX BK125) hb); have n1_ := Aside0.mk (below_step (bX1 HB GE125) hb); have n2_ := Aside0.mk (hbox); have n3_ := Aside0.mk ((by rw [hg]; exact (below_size (bX1 HB GE125)) : w.heap.size ≤ gb135)); have n4_ := Aside0.mk ((by rw [hg]; exact (below_size (bX1 HB GE125)) : w.heap.size ≤ gb135)); have n5_ := Aside0.mk ((by rw [hg]; exact Nat.ne_of_lt (blk_lt (kX BK125)) : gb125 ≠ gb135)); have n6_ := Aside0.mk ((by rw [hg]; exact Nat.ne_of_gt (blk_lt (kX BK125)) : gb135 ≠ gb125)); clear BK125; clear HB; have BK125 := n0_; have HB := n1_; have BK135 := n2_; have GW135 := n3_; have GE135 := n4_; have NB125_135 := n5_; have NB135_125 := n6_; clear n0_ n1_ n2_ n3_ n4_ n5_ n6_; clear hb hbox hg; have hnb80 := NB135_125.out; have hnc80 := NB125_135.out; have hcz81_0 : w79.cell? ⟨gb135, 0, none⟩ = some (.string (⟨#[]⟩ : ByteArray)) := (blk_cell BK135.out 0).trans rfl; have hcz81_1 : w79.cell? ⟨gb135, 1, none⟩ = some (.string (⟨#[]⟩ : ByteArray)) := (blk_cell BK135.out 1).trans rfl; have hcz81_2 : w79.cell? ⟨gb135, 2, none⟩ = some (.int .i64 0) := (blk_cell BK135.out 2).trans rfl; have hcz81_3 : w79.cell? ⟨gb135, 3, none⟩ = some (.int .i64 0) := (blk_cell BK135.out 3).trans rfl; have hcz81_4 : w79.cell? ⟨gb135, 4, none⟩ = some (.int .i64 0) := (blk_cell BK135.out 4).trans rfl; have hcz81_5 : w79.cell? ⟨gb135, 5, none⟩ = some (.slice none 0 0) := (blk_cell BK135.out 5).trans rfl; have hfz81_0 := blk_frozen BK135.out 0; have hfz81_1 := blk_frozen BK135.out 1; have hfz81_2 := blk_frozen BK135.out 2; have hfz81_3 := blk_frozen BK135.out 3; have hfz81_4 := blk_frozen BK135.out 4; have hfz81_5 := blk_frozen BK135.out 5))
               have n0_ : Aside0 (((((((w79.setCell ⟨gb135, 0, none⟩ (.string ((rd_T105 l0_5 x5_4).f0))).setCell ⟨gb135, 1, none⟩ (.string ((rd_T105 l0_5 x5_4).f1))).setCell ⟨gb135, 2, none⟩ (.int .i64 ((rd_T105 l0_5 x5_4).f2))).setCell ⟨gb135, 3, none⟩ (.int .i64 ((rd_T105 l0_5 x5_4).f3))).setCell ⟨gb135, 4, none⟩ (.int .i64 ((rd_T105 l0_5 x5_4).f4))).setCell ⟨gb135, 5, none⟩ (.slice A134_5 ((rd_T105 l0_5 x5_4).f5).length c134_5)).heap[gb125]? = some (.cells #[.string a0_0, .string a0_1, .slice A0_2 l0_2.length c0_2, .int .i64 a0_3, .int .i64 a0_4, .slice (some ad134) l0_5.length c0_5] 85 (0, 0))) := ⟨by (with_reducible repeat (first | refine blk_drewN ?_ _ | refine blk_drew ?_ | refine blk_alloc ?_ _)); refine blk_far ?_ NB125_135.out _; (with_reducible repeat (first | refine blk_drewN ?_ _ | refine blk_drew ?_ | refine blk_alloc ?_ _)); refine blk_far ?_ NB125_135.out _; (with_reducible repeat (first | refine blk_drewN ?_ _ | refine blk_drew ?_ | refine blk_alloc ?_ _)); refine blk_far ?_ NB125_135.out _; (with_reducible repeat (first | refine blk_drewN ?_ _ | refine blk_drew ?_ | refine blk_alloc ?_ _)); refine blk_far ?_ NB125_135.out _; (with_reducible repeat (first | refine blk_drewN ?_ _ | refine blk_drew ?_ | refine blk_alloc ?_ _)); refine blk_far ?_ NB125_135.out _; (with_reducible repeat (first | refine blk_drewN ?_ _ | refine blk_drew ?_ | refine blk_alloc ?_ _)); refine blk_far ?_ NB125_135.out _; (with_reducible repeat (first | refine blk_drewN ?_ _ | refine blk_drew ?_ | refine blk_alloc ?_ _)); exact BK125.out⟩
               have n1_ : Aside0 (((((((w79.setCell ⟨gb135, 0, none⟩ (.string ((rd_T105 l0_5 x5_4).f0))).setCell ⟨gb135, 1, none⟩ (.string ((rd_T105 l0_5 x5_4).f1))).setCell ⟨gb135, 2, none⟩ (.int .i64 ((rd_T105 l0_5 x5_4).f2))).setCell ⟨gb135, 3, none⟩ (.int .i64 ((rd_T105 l0_5 x5_4).f3))).setCell ⟨gb135, 4, none⟩ (.int .i64 ((rd_T105 l0_5 x5_4).f4))).setCell ⟨gb135, 5, none⟩ (.slice A134_5 ((rd_T105 l0_5 x5_4).f5).length c134_5)).heap[gb135]? = some (.cells #[.string ((rd_T105 l0_5 x5_4).f0), .string ((rd_T105 l0_5 x5_4).f1), .int .i64 ((rd_T105 l0_5 x5_4).f2), .int .i64 ((rd_T105 l0_5 x5_4).f3), .int .i64 ((rd_T105 l0_5 x5_4).f4), .slice A134_5 ((rd_T105 l0_5 x5_4).f5).length c134_5] 105 (0, 0))) := ⟨by (with_reducible repeat (first | refine blk_drewN ?_ _ | refine blk_drew ?_ | refine blk_alloc ?_ _)); refine blk_put (cs := #[.string ((rd_T105 l0_5 x5_4).f0), .string ((rd_T105 l0_5 x5_4).f1), .int .i64 ((rd_T105 l0_5 x5_4).f2), .int .i64 ((rd_T105 l0_5 x5_4).f3), .int .i64 ((rd_T105 l0_5 x5_4).f4), .slice none 0 0]) ?_ 5 _ rfl; (with_reducible repeat (first | refine blk_drewN ?_ _ | refine blk_drew ?_ | refine blk_alloc ?_ _)); refine blk_put (cs := #[.string ((rd_T105 l0_5 x5_4).f0), .string ((rd_T105 l0_5 x5_4).f1), .int .i64 ((rd_T105 l0_5 x5_4).f2), .int .i64 ((rd_T105 l0_5 x5_4).f3), .int .i64 0, .slice none 0 0]) ?_ 4 _ rfl; (with_reducible repeat (first | refine blk_drewN ?_ _ | refine blk_drew ?_ | refine blk_alloc ?_ _)); refine blk_put (cs := #[.string ((rd_T105 l0_5 x5_4).f0), .string ((rd_T105 l0_5 x5_4).f1), .int .i64 ((rd_T105 l0_5 x5_4).f2), .int .i64 0, .int .i64 0, .slice none 0 0]) ?_ 3 _ rfl; (with_reducible repeat (first | refine blk_drewN ?_ _ | refine blk_drew ?_ | refine blk_alloc ?_ _)); refine blk_put (cs := #[.string ((rd_T105 l0_5 x5_4).f0), .string ((rd_T105 l0_5 x5_4).f1), .int .i64 0, .int .i64 0, .int .i64 0, .slice none 0 0]) ?_ 2 _ rfl; (with_reducible repeat (first | refine blk_drewN ?_ _ | refine blk_drew ?_ | refine blk_alloc ?_ _)); refine blk_put (cs := #[.string ((rd_T105 l0_5 x5_4).f0), .string (⟨#[]⟩ : ByteArray), .int .i64 0, .int .i64 0, .int .i64 0, .slice none 0 0]) ?_ 1 _ rfl; (with_reducible repeat (first | refine blk_drewN ?_ _ | refine blk_drew ?_ | refine blk_alloc ?_ _)); refine blk_put (cs := #[.string (⟨#[]⟩ : ByteArray), .string (⟨#[]⟩ : ByteArray), .int .i64 0, .int .i64 0, .int .i64 0, .slice none 0 0]) ?_ 0 _ rfl; (with_reducible repeat (first | refine blk_drewN ?_ _ | refine blk_drew ?_ | refine blk_alloc ?_ _)); exact BK135.out⟩
               have n2_ : Aside0 (Below w.heap.size w ((((((w79.setCell ⟨gb135, 0, none⟩ (.string ((rd_T105 l0_5 x5_4).f0))).setCell ⟨gb135, 1, none⟩ (.string ((rd_T105 l0_5 x5_4).f1))).setCell ⟨gb135, 2, none⟩ (.int .i64 ((rd_T105 l0_5 x5_4).f2))).setCell ⟨gb135, 3, none⟩ (.int .i64 ((rd_T105 l0_5 x5_4).f3))).setCell ⟨gb135, 4, none⟩ (.int .i64 ((rd_T105 l0_5 x5_4).f4))).setCell ⟨gb135, 5, none⟩ (.slice A134_5 ((rd_T105 l0_5 x5_4).f5).length c134_5))) := ⟨bX2 HB GE125 GE135⟩
               (try clear BK125)
               (try clear BK135)
               (try clear HB)
               generalize ((((((w79.setCell ⟨gb135, 0, none⟩ (.string ((rd_T105 l0_5 x5_4).f0))).setCell ⟨gb135, 1, none⟩ (.string ((rd_T105 l0_5 x5_4).f1))).setCell ⟨gb135, 2, none⟩ (.int .i64 ((rd_T105 l0_5 x5_4).f2))).setCell ⟨gb135, 3, none⟩ (.int .i64 ((rd_T105 l0_5 x5_4).f3))).setCell ⟨gb135, 4, none⟩ (.int .i64 ((rd_T105 l0_5 x5_4).f4))).setCell ⟨gb135, 5, none⟩ (.slice A134_5 ((rd_T105 l0_5 x5_4).f5).length c134_5)) = w82 at n0_ n1_ n2_ ⊢; have BK125 := n0_; have BK135 := n1_; have HB := n2_; clear n0_ n1_ n2_; have n0_ := Aside0.mk (blk_drew BK125.out); have n1_ := Aside0.mk (blk_drew BK135.out); have n2_ := Aside0.mk (below_drew1 HB.out); clear BK125; clear BK135; clear HB; have BK125 := n0_; have BK135 := n1_; have HB := n2_; clear n0_ n1_ n2_; refine start_ (n := 16) (S := fun w' => w'.cell? ⟨gb135, 0, none⟩ = some (.string ((rd_T105 l0_5 x5_4).f0)) ∧ w'.cell? ⟨gb135, 1, none⟩ = some (.string ((rd_T105 l0_5 x5_4).f1)) ∧ w'.cell? ⟨gb135, 2, none⟩ = some (.int .i64 ((rd_T105 l0_5 x5_4).f2)) ∧ w'.cell? ⟨gb135, 3, none⟩ = some (.int .i64 ((rd_T105 l0_5 x5_4).f3)) ∧ w'.cell? ⟨gb135, 4, none⟩ = some (.int .i64 ((rd_T105 l0_5 x5_4).f4)) ∧ w'.cell? ⟨gb135, 5, none⟩ = some (.slice A134_5 ((rd_T105 l0_5 x5_4).f5).length c134_5) ∧ w'.cell? ⟨gb125, 0, none⟩ = some (.string a0_0) ∧ w'.cell? ⟨gb125, 1, none⟩ = some (.string a0_1) ∧ w'.cell? ⟨gb125, 2, none⟩ = some (.slice A0_2 l0_2.length c0_2) ∧ w'.cell? ⟨gb125, 3, none⟩ = some (.int .i64 a0_3) ∧ w'.cell? ⟨gb125, 4, none⟩ = some (.int .i64 a0_4) ∧ w'.cell? ⟨gb125, 5, none⟩ = some (.slice (some ad134) l0_5.length c0_5)) (ds := []) #[false, false, false, false, false, false, false, false, false, false, false, false, false, false, false, false] (by kernel_rfl) rfl rfl ⟨(blk_cell BK135.out 0).trans rfl, (blk_cell BK135.out 1).trans rfl, (blk_cell BK135.out 2).trans rfl, (blk_cell BK135.out 3).trans rfl, (blk_cell BK135.out 4).trans rfl, (blk_cell BK135.out 5).trans rfl, (blk_cell BK125.out 0).trans rfl, (blk_cell BK125.out 1).trans rfl, (blk_cell BK125.out 2).trans rfl, (blk_cell BK125.out 3).trans rfl, (blk_cell BK125.out 4).trans rfl, (blk_cell BK125.out 5).trans rfl⟩ (fun hHeld => ?_); refine with_tabW arbiterref05_Check.tab19 arbiterref05_Check.bits19 (fun HT_ HW_ => ?_); generalize w82.drew = w83 at BK125 BK135 HB hHeld ⊢; refine pX HT_ 1 (some 103) ?_; refine tX HT_ HW_ hHeld 0 (some 102) ?_; refine tX HT_ HW_ hHeld 2 (some 104) ?_; refine oX HT_ 3 (some 105) (fun K hK => ?_); refine goes_ Tryz.func53 (by kernel_rfl) rfl #[.int .i64 a0_3, .int .i64 512] (by rfl) rfl rfl (by (try simp only [List.map_toArray, List.map_cons, List.map_nil]); first | done | rfl | (simp only [List.length_drop, List.length_take]; rfl)) ?_
               with_reducible refine (arbiterref03_Has.calls a0_3 512 t136 _ A55.out).mono ?_
               rintro e w84 ⟨rfl, hb⟩; refine ⟨_, rfl, ?_⟩; have n0_ := Aside0.mk (blk_below (kX BK125) hb); have n1_ := Aside0.mk (blk_below (kX BK135) hb); have n2_ := Aside0.mk (below_step (bX2 HB GE125 GE135) hb); clear BK125; clear BK135; clear HB; have BK125 := n0_; have BK135 := n1_; have HB := n2_; clear n0_ n1_ n2_
               (try clear hb)
               (try clear hb2)
               (try clear hk)
               (try clear hi)
               refine hK.out _ _ ⟨(blk_cell BK135.out 0).trans rfl, (blk_cell BK135.out 1).trans rfl, (blk_cell BK135.out 2).trans rfl, (blk_cell BK135.out 3).trans rfl, (blk_cell BK135.out 4).trans rfl, (blk_cell BK135.out 5).trans rfl, (blk_cell BK125.out 0).trans rfl, (blk_cell BK125.out 1).trans rfl, (blk_cell BK125.out 2).trans rfl, (blk_cell BK125.out 3).trans rfl, (blk_cell BK125.out 4).trans rfl, (blk_cell BK125.out 5).trans rfl⟩ (fun hHeld => ?_); clear hK K; refine nX (some 105) ?_; refine oX HT_ 4 (some 106) (fun K hK => ?_); refine goes_ Tryz.func118 (by kernel_rfl) rfl #[.agg #[.string ((rd_T105 l0_5 x5_4).f0), .string ((rd_T105 l0_5 x5_4).f1), .int .i64 ((rd_T105 l0_5 x5_4).f2), .int .i64 ((rd_T105 l0_5 x5_4).f3), .int .i64 ((rd_T105 l0_5 x5_4).f4), .slice A134_5 ((rd_T105 l0_5 x5_4).f5).length c134_5], .bool t136] (by rfl) rfl rfl (by (try simp only [List.map_toArray, List.map_cons, List.map_nil]); first | done | rfl | (simp only [List.length_drop, List.length_take]; rfl)) ?_
               with_reducible refine (arbiterref05_method.calls ((rd_T105 l0_5 x5_4).f0) ((rd_T105 l0_5 x5_4).f1) ((rd_T105 l0_5 x5_4).f2) ((rd_T105 l0_5 x5_4).f3) ((rd_T105 l0_5 x5_4).f4) _ _ ((rd_T105 l0_5 x5_4).f5) t136 false _ ?side1 ?side2 A56.out).mono ?_
               (case side1 => repeat (first | exact (Kd.C_below HR134_5.out HB.out) | (with_reducible refine Kd.C_alloc ?_ _) | (with_reducible refine Kd.C_drewN ?_ _) | (with_reducible refine Kd.C_drew ?_)))
               (case side2 => exact HC134_5.out)
               rintro e w85 ⟨rfl, hb⟩; refine ⟨_, rfl, ?_⟩; have n0_ := Aside0.mk (blk_below (kX BK125) hb); have n1_ := Aside0.mk (blk_below (kX BK135) hb); have n2_ := Aside0.mk (below_step (bX2 HB GE125 GE135) hb); clear BK125; clear BK135; clear HB; have BK125 := n0_; have BK135 := n1_; have HB := n2_; clear n0_ n1_ n2_
               (try clear hb)
               (try clear hb2)
               (try clear hk)
               (try clear hi)
               refine hK.out _ _ ⟨(blk_cell BK135.out 0).trans rfl, (blk_cell BK135.out 1).trans rfl, (blk_cell BK135.out 2).trans rfl, (blk_cell BK135.out 3).trans rfl, (blk_cell BK135.out 4).trans rfl, (blk_cell BK135.out 5).trans rfl, (blk_cell BK125.out 0).trans rfl, (blk_cell BK125.out 1).trans rfl, (blk_cell BK125.out 2).trans rfl, (blk_cell BK125.out 3).trans rfl, (blk_cell BK125.out 4).trans rfl, (blk_cell BK125.out 5).trans rfl⟩ (fun hHeld => ?_); clear hK K; refine nX (some 106) ?_; refine pX HT_ 5 (some 107) ?_; refine pX HT_ 6 (some 108) ?_; refine uX HT_ 7 (some 109) ?_; refine uX HT_ 8 (some 110) ?_; refine uX HT_ 9 (some 111) ?_; refine uX HT_ 10 (some 112) ?_; refine uX HT_ 11 (some 113) ?_; refine uX HT_ 12 (some 114) ?_; refine uX HT_ 13 (some 115) ?_; refine uX HT_ 14 (some 116) ?_; refine pX HT_ 15 (some 117) ?_; refine done_ (done_of HT_.out (by kernel_rfl)) ?_
               try go_wp2
               go_ret
               exact ⟨by first | rfl | (simp [errW_none, errW_some] <;> rfl) | (simp [*, errW_none, errW_some] <;> rfl), bX2 HB GE125 GE135⟩
             ·rw [if_neg c54] at H
              exact absurd H (by simp)
            ·rw [if_neg c53] at H
             have c53b0 : decide (x5_4 < (l0_5.length : Int)) = false := decide_eq_false c53; clear c53; obtain rfl := Option.some.inj H; obtain ⟨hcz86_0, hcz86_1, hcz86_2, hcz86_3, hcz86_4, hcz86_5, hfz86_0, hfz86_1, hfz86_2, hfz86_3, hfz86_4, hfz86_5⟩ := c6X BK125; go_wp2; go_ret
             exact ⟨by first | rfl | (simp [errW_none, errW_some] <;> rfl) | (simp [*, errW_none, errW_some] <;> rfl), bX1 HB GE125⟩
end Go.Proofs.YtaipkdglhfhhiaaGreatDoor.Pt

namespace Go.Proofs.YtaipkdglhfhhiaaGreatDoor.Pt
open Go Go.RowKit Go.Proofs.YtaipkdglhfhhiaaGreatDoor.Nm Go.Proofs.YtaipkdglhfhhiaaGreatDoor.Ty Go.Proofs.YtaipkdglhfhhiaaGreatDoor.Cd Go.Proofs.YtaipkdglhfhhiaaGreatDoorW.PrintWords
set_option linter.unusedVariables false
set_option linter.unusedSimpArgs false
def rbadA (f0 f1 : ByteArray) : Bool := !validB f0 || (!validB f1 || (f0.toList == f1.toList))
def rbadB (n2 n5 f3 f4 : Int) : Bool := decide (n2 > 20) || (decide (n5 > 40) || (decide (f4 < 0) || (decide (f4 > 9) || Fl.rcheckClass f3 != 0)))
theorem rsound_eq (c : S85) (h : Fl.inR c.f3) : soundB c = (!rbadA c.f0 c.f1 && (!rbadB c.f2.length c.f5.length c.f3 c.f4 && (ifB c.f2 c.f0 0 c.f2 && msB c.f5 (Go.bits .and .i64 c.f3 512 != 0) 0 c.f5))) := by
 unfold soundB headB rbadA rbadB; rw [cls_eq _ h]; rw [show decide ((c.f2.length : Int) ≤ 20) = !decide ((c.f2.length : Int) > 20) by by_cases h : (c.f2.length : Int) > 20 <;> simp [h] <;> omega]; rw [show decide (0 ≤ c.f4) = !decide (c.f4 < 0) by by_cases h : c.f4 < 0 <;> simp [h] <;> omega]; rw [show decide (c.f4 ≤ 9) = !decide (c.f4 > 9) by by_cases h : c.f4 > 9 <;> simp [h] <;> omega]; generalize validB c.f0 = a; generalize validB c.f1 = b; generalize (c.f0.toList == c.f1.toList) = d; generalize decide ((c.f2.length : Int) > 20) = e; generalize decide ((c.f5.length : Int) > 40) = g; generalize decide (c.f4 < 0) = i; generalize decide (c.f4 > 9) = j; generalize ifB c.f2 c.f0 0 c.f2 = k; generalize msB c.f5 _ 0 c.f5 = m
 cases hc : (Fl.rcheckClass c.f3 == 0) with
 | true =>
  rw [show (Fl.rcheckClass c.f3 != 0) = false by rw [bne, hc]; rfl]
  cases a <;> cases b <;> cases d <;> cases e <;> cases g <;> cases i <;> cases j <;> cases k <;> cases m <;> rfl
 | false =>
  rw [show (Fl.rcheckClass c.f3 != 0) = true by rw [bne, hc]; rfl]
  cases a <;> cases b <;> cases d <;> cases e <;> cases g <;> cases i <;> cases j <;> cases k <;> cases m <;> rfl
theorem mem_take_succ {l : List ByteArray} {n m : ByteArray} {q : Nat} (hx : l[q]? = some m) (h : memB (l.take q) n = false) (hn : n.toList ≠ m.toList) : memB (l.take (q + 1)) n = false := by
 cases hm : memB (l.take (q + 1)) n with
 | false => rfl
 | true =>
  rw [memB_iff, List.take_add_one, hx, List.mem_append] at hm
  rcases hm with hm | hm
  ·rw [← memB_iff, h] at hm; cases hm
  ·have : n = m := by simpa using hm
   exact absurd (by rw [this]) hn
theorem mem_take_in {l : List ByteArray} {n m : ByteArray} {q j : Nat} (hx : l[q]? = some m) (hq : q < j) (hn : n.toList = m.toList) : memB (l.take j) n = true := by
 rw [memB_iff, ba_eq hn]
 exact List.mem_of_getElem? (i := q) (by rw [List.getElem?_take_of_lt hq]; exact hx)
theorem nat_wrap {j : Nat} (h : j ≤ 1000000) : wrap64 ((j : Int) + 1) = ((j + 1 : Nat) : Int) := by
 rw [wrap_small' (by omega) (by omega)]; push_cast
 rfl
section
variable (f0 f1 : ByteArray) (l2 : List ByteArray) (f3 f4 : Int) (l5 : List S105)
theorem ck_l2 (hms : ∀ m ∈ l5, inRB m.f2 = true) (hl : l5.length ≤ 40) : ∀ (d j k : Nat), j ≤ l5.length → l5.length - j ≤ d → d < k →
  arbiterref05_Check.l2 k j f0 f1 l2 f3 f4 l5 = some (if msB l5 (Go.bits .and .i64 f3 512 != 0) j (l5.drop j) = true then 0 else 1) := by
 intro d
 induction d with
 | zero =>
  intro j k hj hd hk
  obtain ⟨k, rfl⟩ : ∃ m, k = m + 1 := ⟨k - 1, by omega⟩
  simp only [arbiterref05_Check.l2]; rw [if_neg (by omega), List.drop_eq_nil_of_le (by omega)]
  rfl
 | succ d ih =>
  intro j k hj hd hk
  obtain ⟨k, rfl⟩ : ∃ m, k = m + 1 := ⟨k - 1, by omega⟩
  by_cases hlt : j < l5.length
  ·have hx := rd51 hlt
   have hm := hms _ (List.mem_of_getElem? hx); have I := ih (j + 1) k (by omega) (by omega) (by omega); simp only [arbiterref05_Check.l2]; rw [if_pos (by omega : (j : Int) < l5.length), if_pos (by omega : 0 ≤ (j : Int)), msB_step hx]; generalize rd_T105 l5 (j : Int) = x at *; have e : mOk l5 (Go.bits .and .i64 f3 512 != 0) j x = (methB x (Go.bits .and .i64 f3 512 != 0) && findM 0 l5 x.f0 x.f1 == (j : Int)) := rfl; rw [e]; unfold arbiterref03_Has.f arbiterref05_method.f arbiterref05_Find.f; rw [Option.bind_some, if_pos hm, Option.bind_some, if_pos (by omega : l5.length ≤ 4611686018427387904)]; change (if methB x (Go.bits .and .i64 f3 512 != 0) = true then _ else _) = _
   cases hb : methB x (Go.bits .and .i64 f3 512 != 0) with
   | false => rw [if_neg (by decide), Bool.false_and, Bool.false_and]; rfl
   | true =>
    rw [if_pos rfl, Option.bind_some, Bool.true_and]
    by_cases hf : findM 0 l5 x.f0 x.f1 = (j : Int)
    ·rw [if_pos hf, nat_wrap (by omega), I, beq_iff_eq.2 hf, Bool.true_and]
    ·rw [if_neg hf, beq_eq_false_iff_ne.2 hf, Bool.false_and]; rfl
  ·simp only [arbiterref05_Check.l2]
   rw [if_neg (by omega), List.drop_eq_nil_of_le (by omega)]
   rfl
theorem ck_l1 (j : Nat) (hj : j < l2.length) (hl : l2.length ≤ 20) (V : Int) (K : Nat) (hV : ∀ k, K ≤ k → arbiterref05_Check.l0 k ((j + 1 : Nat) : Int) f0 f1 l2 f3 f4 l5 = some V) : ∀ (d q k : Nat), q ≤ j → j - q ≤ d → K + d < k → memB (l2.take q) (rdOf ByteArray.empty l2 (j : Int)) = false →
  arbiterref05_Check.l1 k j q f0 f1 l2 f3 f4 l5 = some (if memB (l2.take j) (rdOf ByteArray.empty l2 (j : Int)) = true then 1 else V) := by
 intro d
 induction d with
 | zero =>
  intro q k hq hd hk hm
  obtain ⟨k, rfl⟩ : ∃ m, k = m + 1 := ⟨k - 1, by omega⟩
  obtain rfl : q = j := by omega
  simp only [arbiterref05_Check.l1]; rw [if_neg (by omega), nat_wrap (by omega), hV k (by omega), hm]
  rfl
 | succ d ih =>
  intro q k hq hd hk hm
  obtain ⟨k, rfl⟩ : ∃ m, k = m + 1 := ⟨k - 1, by omega⟩
  by_cases hlt : q < j
  ·have hx := rd_at (show q < l2.length by omega)
   simp only [arbiterref05_Check.l1]; rw [if_pos (by omega : (q : Int) < j), if_pos (by omega : 0 ≤ (j : Int)), if_pos (by omega : (j : Int) < l2.length), if_pos (by omega : 0 ≤ (q : Int)), if_pos (by omega : (q : Int) < l2.length)]
   by_cases he : (rdOf ByteArray.empty l2 (j : Int)).toList = (rdOf ByteArray.empty l2 (q : Int)).toList
   ·rw [if_pos he, mem_take_in hx hlt he]
    rfl
   ·rw [if_neg he, nat_wrap (by omega)]
    exact ih (q + 1) k (by omega) (by omega) (by omega) (mem_take_succ hx hm he)
  ·obtain rfl : q = j := by omega
   simp only [arbiterref05_Check.l1]; rw [if_neg (by omega), nat_wrap (by omega), hV k (by omega), hm]
   rfl
theorem ck_l0 (hms : ∀ m ∈ l5, inRB m.f2 = true) (hl : l5.length ≤ 40) (hl2 : l2.length ≤ 20) : ∀ (d j k : Nat), j ≤ l2.length → l2.length - j ≤ d → 50 + 30 * d ≤ k →
  arbiterref05_Check.l0 k j f0 f1 l2 f3 f4 l5 = some (if (ifB l2 f0 j (l2.drop j) && msB l5 (Go.bits .and .i64 f3 512 != 0) 0 l5) = true then 0 else 1) := by
 have hend : ∀ k j : Nat, l2.length ≤ j → 50 ≤ k → arbiterref05_Check.l0 k j f0 f1 l2 f3 f4 l5 = some (if (ifB l2 f0 j (l2.drop j) && msB l5 (Go.bits .and .i64 f3 512 != 0) 0 l5) = true then 0 else 1) := by
  intro k j hj hk
  obtain ⟨k, rfl⟩ : ∃ m, k = m + 1 := ⟨k - 1, by omega⟩
  simp only [arbiterref05_Check.l0]; rw [if_neg (by omega), List.drop_eq_nil_of_le hj]; have := ck_l2 f0 f1 l2 f3 f4 l5 hms hl l5.length 0 k (by omega) (by omega) (by omega); rw [List.drop_zero] at this
  exact this
 intro d
 induction d with
 | zero => exact fun j k hj hd hk => hend k j (by omega) (by omega)
 | succ d ih =>
  intro j k hj hd hk
  by_cases hlt : j < l2.length
  ·obtain ⟨k, rfl⟩ : ∃ m, k = m + 2 := ⟨k - 2, by omega⟩
   have hx := rd_at hlt; have L1 := ck_l1 f0 f1 l2 f3 f4 l5 j hlt hl2 _ (50 + 30 * d) (fun k hk => ih (j + 1) k (by omega) (by omega) hk) j 0 k (by omega) (by omega) (by omega) (by rw [List.take_zero]; rfl); simp only [arbiterref05_Check.l0]; rw [if_pos (by omega : (j : Int) < l2.length), if_pos (by omega : 0 ≤ (j : Int)), ifB_step hx]; generalize rdOf ByteArray.empty l2 (j : Int) = n at *; have e : ifOk l2 f0 j n = (validB n && (!(n.toList == f0.toList) && !memB (l2.take j) n)) := rfl; rw [e]; unfold arbiterref01_Valid.f; rw [Option.bind_some]; simp only [arbiterref05_Check.j3]
   cases hv : validB n with
   | false => rw [if_neg (by decide), if_pos trivial, Bool.false_and, Bool.false_and, Bool.false_and]; rfl
   | true =>
    rw [if_pos rfl, Bool.true_and]
    cases he : (n.toList == f0.toList) with
    | true => rw [if_pos rfl, Bool.not_true, Bool.false_and, Bool.false_and, Bool.false_and]; rfl
    | false =>
     rw [if_neg (by decide), Bool.not_false, Bool.true_and]; refine L1.trans ?_
     cases hm : memB (l2.take j) n with
     | true => rw [if_pos rfl, Bool.not_true, Bool.false_and, Bool.false_and]; rfl
     | false => rw [if_neg (by decide), Bool.not_false, Bool.true_and]
  ·exact hend k j (by omega) (by omega)
theorem ck_f (hf3 : inRB f3 = true) (hms : ∀ m ∈ l5, inRB m.f2 = true) (k : Nat) (hk : 1000 ≤ k) : arbiterref05_Check.f k f0 f1 l2 f3 f4 l5 = some (chkC ⟨f0, f1, l2, f3, f4, l5⟩) := by
 have hs := rsound_eq ⟨f0, f1, l2, f3, f4, l5⟩ (inRB_iff.1 hf3); simp only at hs
 obtain ⟨k, rfl⟩ : ∃ m, k = m + 2 := ⟨k - 2, by omega⟩
 unfold chkC; rw [hs]
 have H1 : ∀ b : Bool, b = rbadB l2.length l5.length f3 f4 → arbiterref05_Check.j1 (k + 1) b f0 f1 l2 f3 f4 l5 = some (if (!rbadB l2.length l5.length f3 f4 && (ifB l2 f0 0 l2 && msB l5 (Go.bits .and .i64 f3 512 != 0) 0 l5)) = true then 0 else 1) := by
  rintro b rfl; simp only [arbiterref05_Check.j1]
  cases hb : rbadB l2.length l5.length f3 f4 with
  | true => rw [if_pos rfl, Bool.not_true, Bool.false_and]; rfl
  | false =>
   have h2 : l2.length ≤ 20 := by
    unfold rbadB at hb; simp only [Bool.or_eq_false_iff, decide_eq_false_iff_not] at hb
    omega
   have h5 : l5.length ≤ 40 := by
    unfold rbadB at hb; simp only [Bool.or_eq_false_iff, decide_eq_false_iff_not] at hb
    omega
   rw [if_neg (by decide), Bool.not_false, Bool.true_and]; have := ck_l0 f0 f1 l2 f3 f4 l5 hms h5 h2 l2.length 0 k (by omega) (by omega) (by omega); rw [List.drop_zero] at this
   exact this
 have H0 : ∀ b : Bool, b = rbadA f0 f1 → arbiterref05_Check.j0 (k + 2) b f0 f1 l2 f3 f4 l5 = some (if (!rbadA f0 f1 && (!rbadB l2.length l5.length f3 f4 && (ifB l2 f0 0 l2 && msB l5 (Go.bits .and .i64 f3 512 != 0) 0 l5))) = true then 0 else 1) := by
  rintro b rfl; rw [show k + 2 = (k + 1) + 1 from rfl]; simp only [arbiterref05_Check.j0]
  cases hb : rbadA f0 f1 with
  | true => rw [if_pos rfl, Bool.not_true, Bool.false_and]; rfl
  | false =>
   rw [if_neg (by decide), Bool.not_false, Bool.true_and]; unfold arbiterref03_CheckClass.f; rw [Option.bind_some]; have hB : rbadB l2.length l5.length f3 f4 = (decide ((l2.length : Int) > 20) || (decide ((l5.length : Int) > 40) || (decide (f4 < 0) || (decide (f4 > 9) || Fl.rcheckClass f3 != 0)))) := rfl
   split
   ·rename_i h; rw [decide_eq_true h, Bool.true_or] at hB; exact H1 _ hB.symm
   ·rename_i h; rw [decide_eq_false h, Bool.false_or] at hB
    split
    ·rename_i h; rw [decide_eq_true h, Bool.true_or] at hB; exact H1 _ hB.symm
    ·rename_i h; rw [decide_eq_false h, Bool.false_or] at hB
     split
     ·rename_i h; rw [decide_eq_true h, Bool.true_or] at hB; exact H1 _ hB.symm
     ·rename_i h; rw [decide_eq_false h, Bool.false_or] at hB
      split
      ·rename_i h; rw [decide_eq_true h, Bool.true_or] at hB; exact H1 _ hB.symm
      ·rename_i h; rw [decide_eq_false h, Bool.false_or] at hB
       exact H1 _ hB.symm
 unfold arbiterref05_Check.f arbiterref01_Valid.f; rw [Option.bind_some]; have hA : rbadA f0 f1 = (!validB f0 || (!validB f1 || (f0.toList == f1.toList))) := rfl
 cases h0 : validB f0 with
 | false => rw [if_neg (by decide)]; exact H0 _ (by rw [hA, h0]; rfl)
 | true =>
  rw [if_pos rfl, Option.bind_some]
  cases h1 : validB f1 with
  | false => rw [if_neg (by decide)]; exact H0 _ (by rw [hA, h0, h1]; rfl)
  | true => rw [if_pos rfl]; exact H0 _ (by rw [hA, h0, h1]; rfl)
end
end Go.Proofs.YtaipkdglhfhhiaaGreatDoor.Pt
