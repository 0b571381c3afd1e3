/- Lemmas and contracts for the statement of PwDisplayChain: joined by program out of this session's texts. -/
import Derived.Test.YtaipkdglhfhhiaaDoorBdPwDisplayChain2
import Derived.Outline
import Derived.Laws.StructEq
import Derived.Laws.Rows
import Derived.RegionTactic
import Derived.ChangeAlike
import Derived.Deep.RegionHeld3
import Derived.Deep.Slices
import Derived.WideShapes
namespace Go.Proofs.YtaipkdglhfhhiaaDoor.Pt
open Go Go.RowKit Go.Proofs.YtaipkdglhfhhiaaDoor.Nm Go.Proofs.YtaipkdglhfhhiaaDoor.Ty Go.Proofs.YtaipkdglhfhhiaaDoor.Cd Go.Proofs.YtaipkdglhfhhiaaDoorW.PrintWords Go.Proofs.YtaipkdglhfhhiaaDoorW.PrintLast Go.Proofs.YtaipkdglhfhhiaaDoorW.PrintMore
set_option linter.unusedVariables false
set_option linter.unusedSimpArgs false
set_option maxHeartbeats 2000000
set_option maxRecDepth 100000
def clsV (f : Int) : Int :=
 if Go.bits .andNot .i64 f 1585 ≠ 0 ∨ Go.bits .and .i64 f 1040 = 1040 then 1
 else if Go.bits .and .i64 f 512 = 512 ∧ (Go.bits .and .i64 f 1024 ≠ 1024 ∨ Go.bits .and .i64 f 48 ≠ 0) then 1 else 0
def mflI (f : Int) (b i : Bool) : Int :=
 if Go.bits .andNot .i64 f 1055 ≠ 0 ∨ Go.bits .and .i64 (Go.bits .and .i64 f 7) (wrap64 (Go.bits .and .i64 f 7 - 1)) ≠ 0 then 1
 else if Go.bits .and .i64 f 1024 = 1024 ∧ Go.bits .and .i64 f 26 ≠ 0 then 1
 else if b = true ∧ (Go.bits .and .i64 (Go.bits .and .i64 f 7) 3 = 0 ∨ Go.bits .and .i64 f 16 ≠ 0 ∨ i = true) then 1
 else if i = true ∧ Go.bits .and .i64 f 1048 ≠ 0 then 1 else 0
def mflV (f : Int) (b : Bool) (s : ByteArray) : Int := mflI f b (s.toList == [60, 105, 110, 105, 116, 62])
theorem ret_eq {a b : Int} (h : a = b) : Ending.returned (.int .i64 a) = .returned (.int .i64 b) := by rw [h]
theorem all_any (a b : Int) (w : World) : Calls Tryd.prog 70 #[.int .i64 a, .int .i64 b] w fun e w' => e = .returned (.bool (Go.bits .and .i64 a b == b)) ∧ w' = w := by
 go_enter Tryd.func70, Tryd.ntmps70; go_wp2; go_ret
 exact ⟨rfl, rfl⟩
theorem mfl_any (f : Int) (b : Bool) (s : ByteArray) (w : World) :
  Calls Tryd.prog 60 #[.int .i64 f, .bool b, .string s] w fun e w' => e = .returned (.int .i64 (mflV f b s)) ∧ w' = w := by
 go_enter Tryd.func60, Tryd.ntmps60; go_wp2_with (go_at_call 70; refine (all_any _ _ _).mono ?_; rintro e w' ⟨rfl, rfl⟩)
 all_goals
  go_ret; refine ⟨ret_eq ?_, rfl⟩
  simp_all [mflV, mflI]
theorem cls_any (f : Int) (w : World) : Calls Tryd.prog 56 #[.int .i64 f] w fun e w' => e = .returned (.int .i64 (clsV f)) ∧ w' = w := by
 go_enter Tryd.func56, Tryd.ntmps56; go_wp2_with (go_at_call 70; refine (all_any _ _ _).mono ?_; rintro e w' ⟨rfl, rfl⟩)
 all_goals
  go_ret; refine ⟨ret_eq ?_, rfl⟩
  simp_all [clsV]
def wthB (a lo hi : Int) : Bool := decide (lo ≤ a) && decide (a ≤ hi)
theorem within_any (a lo hi : Int) (w : World) : Calls Tryd.prog 75 #[.int .i64 a, .int .i64 lo, .int .i64 hi] w fun e w' => e = .returned (.bool (wthB a lo hi)) ∧ w' = w := by
 by_cases h : lo ≤ a
 ·have hd : decide (lo ≤ a) = true := decide_eq_true h
  have hw : Hid (wthB a lo hi = decide (a ≤ hi)) := Lib.hid (by unfold wthB; rw [hd, Bool.true_and]); go_enter Tryd.func75, Tryd.ntmps75; go_wp2; go_ret
  exact ⟨by rw [hw.out]; rfl, rfl⟩
 ·have hd : decide (lo ≤ a) = false := decide_eq_false h
  have hw : Hid (wthB a lo hi = false) := Lib.hid (by unfold wthB; rw [hd, Bool.false_and]); go_enter Tryd.func75, Tryd.ntmps75; go_wp2; go_ret
  exact ⟨by rw [hw.out]; rfl, rfl⟩
def refV (rc rn rd : ByteArray) : Int := if (parseR rc.data.toList).2.2 ≠ 0 then 1 else if (parseD rd.data.toList).2 ≠ 0 then 1 else if memberB rn = true then 0 else 1
theorem cell_allocs {w : World} {p : Addr} {v : Value} (h : w.cell? p = some v) (o : Obj) : (w.alloc o).cell? p = some v := pw_cell_below ((Below.refl _ _).alloc (Nat.le_refl _) o) h
theorem refck_any (ri : Bool) (rc rn rd : ByteArray) (w : World) : Calls Tryd.prog 91 #[.agg #[.bool ri, .string rc, .string rn, .string rd]] w fun e w' => e = .returned (.int .i64 (refV rc rn rd)) ∧ Below w.heap.size w w' := by
 have B0 := Lib.hid (blk_new w (.cells #[.bool ri, .string rc, .string rn, .string rd] 89)); have AB := Lib.hid ((Below.refl w.heap.size w).alloc (Nat.le_refl _) (.cells #[.bool ri, .string rc, .string rn, .string rd] 89)); have C1 := Lib.hid (types_ParseRef.calls rc _ _ _ (w.alloc (.cells #[.bool ri, .string rc, .string rn, .string rd] 89)) rfl); have C2 := Lib.hid (fun W => types_ParseDesc.calls rd _ _ _ _ _ W rfl); have C3 := Lib.hid (fun W => names_Member.calls rn _ W rfl); have hV : Hid (refV rc rn rd = refV rc rn rd) := Lib.hid rfl; generalize hr : refV rc rn rd = r at *; replace hr := Lib.hid hr; unfold refV at hr; clear hV; generalize parseR rc.data.toList = p1 at *; generalize parseD rd.data.toList = p2 at *; obtain ⟨d1, s1, e1⟩ := p1; obtain ⟨d2, e2⟩ := p2; go_enter Tryd.func91, Tryd.ntmps91; go_wp2_with fail; refine C1.out.mono ?_; rintro e w1 ⟨rfl, hb1⟩; have B1 := blk_below B0.out hb1; have q3 : w1.cell? ⟨w.heap.size, 3, none⟩ = some (.string rd) := (blk_cell B1 3).trans rfl; have q3 := cell_allocs q3; have H1 := Lib.hid (AB.out.trans (hb1.mono AB.out.size)); replace B1 := Lib.hid B1; clear B0 AB C1 hb1; go_wp2_with fail; refine (C2.out _).mono ?_; rintro e w2 ⟨v0, rfl, R0, hb2⟩; obtain ⟨A0, c0, rfl⟩ := Kd.R_slice R0; have q2 : w2.cell? ⟨w.heap.size, 2, none⟩ = some (.string rn) := pw_cell_below hb2 (cell_allocs ((blk_cell B1.out 2).trans rfl) _); have q2 := cell_allocs q2; have H2 := Lib.hid ((H1.out.alloc H1.out.size _).trans (hb2.mono (H1.out.alloc H1.out.size _).size)); clear R0 hb2 C2 H1 B1 q3
 by_cases h1 : e1 = 0
 ·subst h1
  by_cases h2 : e2 = 0
  ·subst h2
   go_wp2_with fail; refine (C3.out _).mono ?_; rintro e w3 ⟨rfl, hb3⟩; have H3 := Lib.hid ((H2.out.alloc H2.out.size _).trans (hb3.mono (H2.out.alloc H2.out.size _).size)); clear hb3 H2 C3 q2
   cases hm : memberB rn
   all_goals
    rw [hm] at hr; go_wp2; go_ret; have := hr.out; simp at this; subst this
    exact ⟨rfl, H3.out⟩
  ·have hne : (e2 != 0) = true := bne_iff_ne.2 h2
   go_wp2; go_ret; have := hr.out; simp [h2] at this; subst this
   exact ⟨rfl, H2.out.alloc H2.out.size _⟩
 ·have hne : (e1 != 0) = true := bne_iff_ne.2 h1
  go_wp2; go_ret; have := hr.out; simp [h1] at this; subst this
  exact ⟨rfl, H2.out.alloc H2.out.size _⟩
def opB (op n : Int) (ty rc rn rd : ByteArray) : Bool :=
 if opnd op = 0 then true else if opnd op = 1 then wthB n (-2147483648) 2147483647 else if opnd op = 2 then wthB n 0 39 else if opnd op = 3 then wthB n 0 199 else if opnd op = 4 then validB ty
 else if opnd op = 5 then (parseR ty.data.toList).2.2 == 0 else if opnd op = 6 then ((parseT ty.data.toList).2.2 == 0 && decide ((parseT ty.data.toList).1 < 255))
 else if opnd op = 7 then ((parseR ty.data.toList).2.2 == 0 && wthB n 1 (parseR ty.data.toList).1) else if opnd op = 8 then refV rc rn rd == 0 else false
theorem opnd_cases (op : Int) : Cd.opnd op = -1 ∨ Cd.opnd op = 0 ∨ Cd.opnd op = 1 ∨ Cd.opnd op = 2 ∨ Cd.opnd op = 3 ∨ Cd.opnd op = 4 ∨ Cd.opnd op = 5 ∨ Cd.opnd op = 6 ∨ Cd.opnd op = 7 ∨ Cd.opnd op = 8 := by
 unfold Cd.opnd
 split
 ·exact .inl rfl
 ·have h : ∀ k : Nat, k < 41 → Cd.opTab.getD k 0 = 0 ∨ Cd.opTab.getD k 0 = 1 ∨ Cd.opTab.getD k 0 = 2 ∨ Cd.opTab.getD k 0 = 3 ∨ Cd.opTab.getD k 0 = 4 ∨ Cd.opTab.getD k 0 = 5 ∨ Cd.opTab.getD k 0 = 6 ∨ Cd.opTab.getD k 0 = 7 ∨ Cd.opTab.getD k 0 = 8 := by decide
  have := h op.toNat (by omega)
  omega
theorem oper_any (op n : Int) (ty : ByteArray) (ri : Bool) (rc rn rd : ByteArray) (w : World) :
  Calls Tryd.prog 85 #[.agg #[.int .i64 op, .int .i64 n, .string ty, .bool ri, .string rc, .string rn, .string rd]] w fun e w' => e = .returned (.bool (opB op n ty rc rn rd)) ∧ Below w.heap.size w w' := by
 have B0 := Lib.hid (blk_new w (.cells #[.int .i64 op, .int .i64 n, .string ty, .bool ri, .string rc, .string rn, .string rd] 91)); have AB := Lib.hid ((Below.refl w.heap.size w).alloc (Nat.le_refl _) (.cells #[.int .i64 op, .int .i64 n, .string ty, .bool ri, .string rc, .string rn, .string rd] 91)); have OP := Lib.hid (Cd.operand_any op (w.alloc (.cells #[.int .i64 op, .int .i64 n, .string ty, .bool ri, .string rc, .string rn, .string rd] 91))); have CV := Lib.hid (fun W => names_Valid.calls ty _ W rfl); have CR := Lib.hid (fun W => types_ParseRef.calls ty _ _ _ W rfl); have CP := Lib.hid (fun W => types_Parse.calls ty _ _ _ W rfl); have CF := Lib.hid (fun W => refck_any ri rc rn rd W); have K := opnd_cases op; generalize hr : opB op n ty rc rn rd = r; replace hr := Lib.hid hr; unfold opB at hr; generalize opnd op = k at *; generalize parseR ty.data.toList = p1 at *; generalize parseT ty.data.toList = p2 at *; generalize refV rc rn rd = fv at *; obtain ⟨d1, s1, e1⟩ := p1; obtain ⟨d2, s2, e2⟩ := p2; go_enter Tryd.func85, Tryd.ntmps85; go_wp2_with fail; refine OP.out.mono ?_; rintro e w1 ⟨rfl, hb1⟩; have B1 := blk_below B0.out hb1; have H1 := Lib.hid (AB.out.trans (hb1.mono AB.out.size)); have q1 : w1.cell? ⟨w.heap.size, 1, none⟩ = some (.int .i64 n) := (blk_cell B1 1).trans rfl; have q2 : w1.cell? ⟨w.heap.size, 2, none⟩ = some (.string ty) := (blk_cell B1 2).trans rfl; have q3 : w1.cell? ⟨w.heap.size, 3, none⟩ = some (.bool ri) := (blk_cell B1 3).trans rfl; have q4 : w1.cell? ⟨w.heap.size, 4, none⟩ = some (.string rc) := (blk_cell B1 4).trans rfl; have q5 : w1.cell? ⟨w.heap.size, 5, none⟩ = some (.string rn) := (blk_cell B1 5).trans rfl; have q6 : w1.cell? ⟨w.heap.size, 6, none⟩ = some (.string rd) := (blk_cell B1 6).trans rfl; replace B1 := Lib.hid B1; clear B0 AB OP hb1
 rcases K with rfl | rfl | rfl | rfl | rfl | rfl | rfl | rfl | rfl | rfl
 case inl =>
  go_wp2; go_ret
  exact ⟨by rw [← hr.out]; rfl, H1.out⟩
 case inr.inl =>
  go_wp2; go_ret
  exact ⟨by rw [← hr.out]; rfl, H1.out⟩
 case inr.inr.inr.inr.inr.inl =>
  go_wp2_with fail; refine (CV.out _).mono ?_; rintro e w2 ⟨rfl, hb2⟩; replace hb2 := Lib.hid hb2; go_wp2; go_ret
  exact ⟨by rw [← hr.out]; rfl, H1.out.trans (hb2.out.mono H1.out.size)⟩
 case inr.inr.inr.inr.inr.inr.inl =>
  go_wp2_with fail; refine (CR.out _).mono ?_; rintro e w2 ⟨rfl, hb2⟩; have H2 := Lib.hid (H1.out.trans (hb2.mono H1.out.size)); clear hb2; go_wp2; go_ret
  exact ⟨by rw [← hr.out]; rfl, H2.out.alloc H2.out.size _⟩
 case inr.inr.inr.inr.inr.inr.inr.inl =>
  go_wp2_with fail; refine (CP.out _).mono ?_; rintro e w2 ⟨rfl, hb2⟩; have H2 := Lib.hid (H1.out.trans (hb2.mono H1.out.size)); clear hb2
  by_cases h2 : e2 = 0
  ·subst h2
   go_wp2
   all_goals
    go_ret
    exact ⟨by rw [← hr.out]; simp_all, H2.out.alloc H2.out.size _⟩
  ·have hne : (e2 == 0) = false := beq_eq_false_iff_ne.2 h2
   go_wp2; go_ret
   exact ⟨by rw [← hr.out]; simp_all, H2.out.alloc H2.out.size _⟩
 case inr.inr.inr.inr.inr.inr.inr.inr.inl =>
  go_wp2_with fail; refine (CR.out _).mono ?_; rintro e w2 ⟨rfl, hb2⟩; have H2 := Lib.hid (H1.out.trans (hb2.mono H1.out.size)); have r1 := cell_allocs (pw_cell_below hb2 q1); clear hb2
  by_cases h1 : e1 = 0
  ·subst h1
   go_wp2_with fail; refine (within_any _ _ _ _).mono ?_; rintro e w3 ⟨rfl, rfl⟩; go_wp2; go_ret
   exact ⟨by rw [← hr.out]; simp_all, H2.out.alloc H2.out.size _⟩
  ·have hne : (e1 == 0) = false := beq_eq_false_iff_ne.2 h1
   go_wp2; go_ret
   exact ⟨by rw [← hr.out]; simp_all, H2.out.alloc H2.out.size _⟩
 case inr.inr.inr.inr.inr.inr.inr.inr.inr =>
  go_wp2_with fail; refine (CF.out _).mono ?_; rintro e w2 ⟨rfl, hb2⟩; have H2 := Lib.hid (H1.out.trans (hb2.mono H1.out.size)); clear hb2; go_wp2; go_ret
  exact ⟨by rw [← hr.out]; rfl, H2.out⟩
 all_goals
  go_wp2_with fail; refine (within_any _ _ _ _).mono ?_; rintro e w2 ⟨rfl, rfl⟩; go_wp2; go_ret
  exact ⟨by rw [← hr.out]; rfl, H1.out⟩
end Go.Proofs.YtaipkdglhfhhiaaDoor.Pt

namespace Go.Proofs.YtaipkdglhfhhiaaDoor.Pt
open Go Go.RowKit Go.Proofs.YtaipkdglhfhhiaaDoorW.PrintWords Go.Proofs.YtaipkdglhfhhiaaDoorW.PrintLast Go.Proofs.YtaipkdglhfhhiaaDoorW.PrintMore
set_option linter.unusedVariables false
set_option linter.unusedSimpArgs false
set_option maxHeartbeats 1000000
theorem eqRef (d : Nat) (w : World) (x0 y0 : Bool) (x1 y1 : ByteArray) (x2 y2 : ByteArray) (x3 y3 : ByteArray) :
 (Op.equalIn (d + 2) 89 (.agg #[.bool x0, .string x1, .string x2, .string x3]) (.agg #[.bool y0, .string y1, .string y2, .string y3])).run Tryd.prog w = .ok (x0 == y0 && (x1.toList == y1.toList && (x2.toList == y2.toList && (x3.toList == y3.toList)))) w := by
 refine eqA_of Tryd.underlying89 (by kernel_rfl) ?_; refine eqf_cons (by rfl) (by go_simp; rfl) (by go_simp; rfl) (by go_simp) ?_; refine eqf_cons (by rfl) (by go_simp; rfl) (by go_simp; rfl) (by go_simp) ?_; refine eqf_cons (by rfl) (by go_simp; rfl) (by go_simp; rfl) (by go_simp) ?_
 exact eqf_last (by rfl) (by go_simp; rfl) (by go_simp; rfl) (by go_simp)
def sameI (x0 y0 : Int) (x1 y1 : Int) (x2 y2 : ByteArray) (x3 y3 : Bool) (x4 y4 : ByteArray) (x5 y5 : ByteArray) (x6 y6 : ByteArray) : Bool :=
 x0 == y0 && (x1 == y1 && (x2.toList == y2.toList && ((x3 == y3 && (x4.toList == y4.toList && (x5.toList == y5.toList && (x6.toList == y6.toList)))))))
theorem eqInst (d : Nat) (w : World) (x0 y0 : Int) (x1 y1 : Int) (x2 y2 : ByteArray) (x3 y3 : Bool) (x4 y4 : ByteArray) (x5 y5 : ByteArray) (x6 y6 : ByteArray) :
 (Op.equalIn (d + 3) 91 (.agg #[.int .i64 x0, .int .i64 x1, .string x2, .bool x3, .string x4, .string x5, .string x6]) (.agg #[.int .i64 y0, .int .i64 y1, .string y2, .bool y3, .string y4, .string y5, .string y6])).run Tryd.prog w = .ok (sameI x0 y0 x1 y1 x2 y2 x3 y3 x4 y4 x5 y5 x6 y6) w := by
 unfold sameI; refine eqA_of Tryd.underlying91 (by kernel_rfl) ?_; refine eqf_cons (by rfl) (by go_simp; rfl) (by go_simp; rfl) (by go_simp) ?_; refine eqf_cons (by rfl) (by go_simp; rfl) (by go_simp; rfl) (by go_simp) ?_; refine eqf_cons (by rfl) (by go_simp; rfl) (by go_simp; rfl) (by go_simp) ?_
 exact eqf_last (by rfl) (by go_simp) (by go_simp) (eqRef (d + 0) w _ _ _ _ _ _ _ _)
theorem neqInst (w : World) (x0 y0 : Int) (x1 y1 : Int) (x2 y2 : ByteArray) (x3 y3 : Bool) (x4 y4 : ByteArray) (x5 y5 : ByteArray) (x6 y6 : ByteArray) :
 (binOp .neq 91 (.agg #[.int .i64 x0, .int .i64 x1, .string x2, .bool x3, .string x4, .string x5, .string x6]) (.agg #[.int .i64 y0, .int .i64 y1, .string y2, .bool y3, .string y4, .string y5, .string y6])).run Tryd.prog w = .ok (.bool (!sameI x0 y0 x1 y1 x2 y2 x3 y3 x4 y4 x5 y5 x6 y6)) w := by
 have h := eqInst 9997 w x0 y0 x1 y1 x2 y2 x3 y3 x4 y4 x5 y5 x6 y6; simp only [binOp]; simp [Op.equal, Op.maxDepth, h]
def bareN (k n : Int) : Int := if k = 1 ∨ k = 2 ∨ k = 3 ∨ k = 7 then n else 0
def bareT (k : Int) (s : ByteArray) : ByteArray := if k = 4 ∨ k = 5 ∨ k = 6 ∨ k = 7 then s else ⟨#[]⟩
def bareS (k : Int) (s : ByteArray) : ByteArray := if k = 8 then s else ⟨#[]⟩
def bareB (k : Int) (b : Bool) : Bool := if k = 8 then b else false
def bareOk (op n : Int) (ty : ByteArray) (ri : Bool) (rc rn rd : ByteArray) : Bool :=
 sameI op op (bareN (Cd.opnd op) n) n (bareT (Cd.opnd op) ty) ty (bareB (Cd.opnd op) ri) ri (bareS (Cd.opnd op) rc) rc (bareS (Cd.opnd op) rn) rn (bareS (Cd.opnd op) rd) rd
def insV (x : S91) : Int := if bareOk x.f0 x.f1 x.f2 x.f3.f0 x.f3.f1 x.f3.f2 x.f3.f3 = true then (if opB x.f0 x.f1 x.f2 x.f3.f1 x.f3.f2 x.f3.f3 = true then 0 else 1) else 1
theorem cdck_any (op n : Int) (ty : ByteArray) (ri : Bool) (rc rn rd : ByteArray) (w : World) :
  Calls Tryd.prog 77 #[.agg #[.int .i64 op, .int .i64 n, .string ty, .bool ri, .string rc, .string rn, .string rd]] w fun e w' => e = .returned (.int .i64 (insV ⟨op, n, ty, ⟨ri, rc, rn, rd⟩⟩)) ∧ Below w.heap.size w w' := by
 have CO := Lib.hid (fun W => oper_any op n ty ri rc rn rd W); generalize hr : insV ⟨op, n, ty, ⟨ri, rc, rn, rd⟩⟩ = r; unfold insV at hr; simp only at hr; generalize opB op n ty rc rn rd = t at *; have OP := Lib.hid (fun W => Cd.operand_any op W); have K := opnd_cases op; have hb : bareOk op n ty ri rc rn rd = sameI op op (bareN (Cd.opnd op) n) n (bareT (Cd.opnd op) ty) ty (bareB (Cd.opnd op) ri) ri (bareS (Cd.opnd op) rc) rc (bareS (Cd.opnd op) rn) rn (bareS (Cd.opnd op) rd) rd := rfl; generalize bareOk op n ty ri rc rn rd = bo at *; generalize Cd.opnd op = k at *; have B0 := heap_alloc2_old w (.cells #[.int .i64 op, .int .i64 n, .string ty, .bool ri, .string rc, .string rn, .string rd] 91) (.cells #[.int .i64 op, .int .i64 0, .string ⟨#[]⟩, .bool false, .string ⟨#[]⟩, .string ⟨#[]⟩, .string ⟨#[]⟩] 91); have B1 := heap_alloc2_new w (.cells #[.int .i64 op, .int .i64 n, .string ty, .bool ri, .string rc, .string rn, .string rd] 91) (.cells #[.int .i64 op, .int .i64 0, .string ⟨#[]⟩, .bool false, .string ⟨#[]⟩, .string ⟨#[]⟩, .string ⟨#[]⟩] 91); have BB := ((Below.refl w.heap.size w).alloc (Nat.le_refl _) (.cells #[.int .i64 op, .int .i64 n, .string ty, .bool ri, .string rc, .string rn, .string rd] 91)).alloc (by simp) (.cells #[.int .i64 op, .int .i64 0, .string ⟨#[]⟩, .bool false, .string ⟨#[]⟩, .string ⟨#[]⟩, .string ⟨#[]⟩] 91); replace B0 := Lib.hid B0; replace B1 := Lib.hid B1; replace BB := Lib.hid BB; replace hb := Lib.hid hb; replace hr := Lib.hid hr; replace K := Lib.hid K; go_enter Tryd.func77, Tryd.ntmps77; go_wp2_with fail; refine (OP.out _).mono ?_; rintro e w1 ⟨rfl, hb1⟩; have C0 := blk_below B0.out hb1; have C1 := blk_below B1.out hb1; have CB := BB.out.trans (hb1.mono (by simp; omega)); have q0 : w1.cell? ⟨w.heap.size, 0, none⟩ = some (.int .i64 op) := (blk_cell C0 0).trans rfl; have q1 : w1.cell? ⟨w.heap.size, 1, none⟩ = some (.int .i64 n) := (blk_cell C0 1).trans rfl; have q2 : w1.cell? ⟨w.heap.size, 2, none⟩ = some (.string ty) := (blk_cell C0 2).trans rfl; have q3 : w1.cell? ⟨w.heap.size, 3, none⟩ = some (.bool ri) := (blk_cell C0 3).trans rfl; have q4 : w1.cell? ⟨w.heap.size, 4, none⟩ = some (.string rc) := (blk_cell C0 4).trans rfl; have q5 : w1.cell? ⟨w.heap.size, 5, none⟩ = some (.string rn) := (blk_cell C0 5).trans rfl; have q6 : w1.cell? ⟨w.heap.size, 6, none⟩ = some (.string rd) := (blk_cell C0 6).trans rfl; have p0 : w1.cell? ⟨w.heap.size + 1, 0, none⟩ = some (.int .i64 op) := (blk_cell C1 0).trans rfl; have p1 : w1.cell? ⟨w.heap.size + 1, 1, none⟩ = some (.int .i64 0) := (blk_cell C1 1).trans rfl; have p2 : w1.cell? ⟨w.heap.size + 1, 2, none⟩ = some (.string ⟨#[]⟩) := (blk_cell C1 2).trans rfl; have p3 : w1.cell? ⟨w.heap.size + 1, 3, none⟩ = some (.bool false) := (blk_cell C1 3).trans rfl; have p4 : w1.cell? ⟨w.heap.size + 1, 4, none⟩ = some (.string ⟨#[]⟩) := (blk_cell C1 4).trans rfl; have p5 : w1.cell? ⟨w.heap.size + 1, 5, none⟩ = some (.string ⟨#[]⟩) := (blk_cell C1 5).trans rfl; have p6 : w1.cell? ⟨w.heap.size + 1, 6, none⟩ = some (.string ⟨#[]⟩) := (blk_cell C1 6).trans rfl; have f1 := blk_frozen C1 1; have f2 := blk_frozen C1 2; have f3 := blk_frozen C1 3; have f4 := blk_frozen C1 4; have f5 := blk_frozen C1 5; have f6 := blk_frozen C1 6
 have hN : ∀ (b1 : Int) (b2 : ByteArray) (b3 : Bool) (b4 b5 b6 : ByteArray), bo = sameI op op b1 n b2 ty b3 ri b4 rc b5 rn b6 rd → ∀ W, (binOp .neq 91 (.agg #[.int .i64 op, .int .i64 b1, .string b2, .bool b3, .string b4, .string b5, .string b6]) (.agg #[.int .i64 op, .int .i64 n, .string ty, .bool ri, .string rc, .string rn, .string rd])).run Tryd.prog W = .ok (.bool (!bo)) W := fun b1 b2 b3 b4 b5 b6 e W => by rw [e]; exact neqInst W _ _ _ _ _ _ _ _ _ _ _ _ _ _
 replace hN := Lib.hid hN; replace CB := Lib.hid CB; clear C0 C1 B0 B1 BB hb1 OP
 rcases K.out with rfl | rfl | rfl | rfl | rfl | rfl | rfl | rfl | rfl | rfl
 case inr.inr.inr.inr.inr.inr.inr.inr.inl =>
  have e := hb.out; simp [bareN, bareT, bareS, bareB] at e; have N1 := hN.out _ _ _ _ _ _ e; clear e hb K hN; go_wp2; go_region
  cases bo
  ·have h1 : (1 : Int) = r := by have := hr.out; simpa using this
   subst h1; clear CO; go_wp2; go_ret; refine ⟨rfl, ?_⟩
   repeat' (first | exact CB.out | apply Below.setCell | apply Below.drew)
   all_goals (first | omega | (simp; done) | (simp; omega))
  ·have hr1 := hr.out
   cases t
   all_goals
    simp at hr1; subst hr1; go_wp2_with (go_at_call 85; refine (CO.out _).mono ?_; rintro e w2 ⟨rfl, hb2⟩; replace hb2 := Lib.hid hb2); go_ret; refine ⟨rfl, Below.trans ?_ (hb2.out.mono ?_)⟩
    ·repeat' (first | exact CB.out | apply Below.setCell | apply Below.drew)
     all_goals (first | omega | (simp; done) | (simp; omega))
    ·have := CB.out.size
     simp
     omega
 all_goals
  have e := hb.out; simp [bareN, bareT, bareS, bareB] at e; have N1 := hN.out _ _ _ _ _ _ e; clear e hb K hN
  cases bo
  ·have h1 : (1 : Int) = r := by have := hr.out; simpa using this
   subst h1; clear CO; go_wp2; go_ret; refine ⟨rfl, ?_⟩
   repeat' (first | exact CB.out | apply Below.setCell)
   all_goals (first | omega | (simp; done) | (simp; omega))
  ·have hr1 := hr.out
   cases t
   all_goals
    simp at hr1; subst hr1; go_wp2_with (go_at_call 85; refine (CO.out _).mono ?_; rintro e w2 ⟨rfl, hb2⟩; replace hb2 := Lib.hid hb2); go_ret; refine ⟨rfl, Below.trans ?_ (hb2.out.mono ?_)⟩
    ·repeat' (first | exact CB.out | apply Below.setCell)
     all_goals (first | omega | (simp; done) | (simp; omega))
    ·have := CB.out.size
     simp
     omega
end Go.Proofs.YtaipkdglhfhhiaaDoor.Pt

namespace Go.Proofs.YtaipkdglhfhhiaaDoor.Pt
open Go Go.RowKit Go.Proofs.YtaipkdglhfhhiaaDoor.Nm Go.Proofs.YtaipkdglhfhhiaaDoor.Ty Go.Proofs.YtaipkdglhfhhiaaDoor.Cd Go.Proofs.YtaipkdglhfhhiaaDoorW.PrintWords Go.Proofs.YtaipkdglhfhhiaaDoorW.PrintLast Go.Proofs.YtaipkdglhfhhiaaDoorW.PrintMore
set_option linter.unusedVariables false
set_option linter.unusedSimpArgs false
set_option maxHeartbeats 2000000
set_option maxRecDepth 100000
def insOk (x : S91) (a n : Int) : Bool := insV x == 0 && (!(opnd x.f0 == 2 && decide (a ≤ x.f1)) && !(opnd x.f0 == 3 && decide (n ≤ x.f1)))
def codeB (l : List S91) (a : Int) : Bool := wthB l.length 1 200 && l.all (fun x => insOk x a l.length)
theorem rd83 {l : List S91} {i : Nat} (h : i < l.length) : l[i]? = some (rd_T91 l (i : Int)) := by
 simp [rd_T91, List.getD_eq_getElem?_getD, List.getElem?_eq_getElem h]
theorem bad_all {α : Type} {l : List α} {p : α → Bool} {i : Nat} {x : α} (hx : l[i]? = some x) (h : p x = false) : l.all p = false := by
 rw [List.all_eq_false]
 exact ⟨x, List.mem_of_getElem? hx, by simp [h]⟩
theorem all_take {α : Type} {l : List α} {p : α → Bool} {i : Nat} {x : α} (hx : l[i]? = some x) (h : p x = true) (ht : (l.take i).all p = true) : (l.take (i + 1)).all p = true := by
 rw [List.take_add_one, hx, List.all_append, ht]; simp [h]
theorem code_any (A : Option Addr) (c : Nat) (l : List S91) (a : Int) (w : World) (hk : Kd.C k91 w A l.length l) (hc : l.length ≤ c) :
  Calls Tryd.prog 62 #[.slice A l.length c, .int .i64 a] w fun e w' => e = .returned (.int .i64 (if codeB l a = true then 0 else 1)) ∧ Below w.heap.size w w' := by
 have HK := Lib.hid hk; have hmx := Kd.C_max hk; clear hk; generalize hr : (if codeB l a = true then (0 : Int) else 1) = r; replace hr := Lib.hid hr; unfold codeB at hr
 cases hw : wthB l.length 1 200 with
 | false =>
  rw [hw] at hr; have C1 := Lib.hid (within_any (l.length : Int) 1 200 w); rw [hw] at C1; go_enter Tryd.func62, Tryd.ntmps62; go_wp2_with fail; refine C1.out.mono ?_; rintro e w2 ⟨rfl, rfl⟩; go_wp2; go_ret; have := hr.out; simp at this; subst this
  exact ⟨rfl, Below.refl _ _⟩
 | true =>
  rw [hw, Bool.true_and] at hr
  have hl : l.length ≤ 200 := by
   unfold wthB at hw; rw [Bool.and_eq_true, decide_eq_true_eq, decide_eq_true_eq] at hw
   omega
  have C1 := Lib.hid (within_any (l.length : Int) 1 200 w); rw [hw] at C1; clear hw; go_enter Tryd.func62, Tryd.ntmps62; go_wp2_with fail; refine C1.out.mono ?_; rintro e w2 ⟨rfl, rfl⟩; clear C1; go_wp2_with fail
  go_loopw [14] (fun v14 wr => ∃ j : Nat, j ≤ l.length ∧ v14 = .int .i64 j ∧ Hid ((l.take j).all (fun x => insOk x a l.length) = true) ∧ Hid (Below w2.heap.size w2 wr)) (fun v14 _ => l.length - (intOf v14).toNat)
  case atStart => exact ⟨0, Nat.zero_le _, rfl, Lib.hid (by simp), Lib.hid (Below.refl _ _)⟩
  case round =>
   obtain ⟨j, hj, rfl, HT, HB⟩ := hrel
   by_cases hlt : j < l.length
   ·have hjd : decide (j < l.length) = true := decide_eq_true hlt
    obtain ⟨ad, rfl, p0, p1, p2, p3, p4, p5, p6⟩ := at_T91 (Kd.C_below HK.out HB.out) (j : Int) (by omega) (by omega); have hx := rd83 hlt; rw [Int.toNat_natCast] at p0 p1 p2 p3 p4 p5 p6; have OPc := Lib.hid (fun W => Cd.operand_any (rd_T91 l (j : Int)).f0 W); have CK := Lib.hid (fun W => cdck_any (rd_T91 l (j : Int)).f0 (rd_T91 l (j : Int)).f1 (rd_T91 l (j : Int)).f2 (rd_T91 l (j : Int)).f3.f0 (rd_T91 l (j : Int)).f3.f1 (rd_T91 l (j : Int)).f3.f2 (rd_T91 l (j : Int)).f3.f3 W); generalize rd_T91 l (j : Int) = x at *; have hV : Hid (insOk x a l.length = (insV x == 0 && (!(opnd x.f0 == 2 && decide (a ≤ x.f1)) && !(opnd x.f0 == 3 && decide ((l.length : Int) ≤ x.f1))))) := Lib.hid rfl; have hx2 := Lib.hid hx; have hbad : Hid (insOk x a l.length = false → (1 : Int) = r) := Lib.hid (fun h => by rw [← hr.out, bad_all hx h]; rfl); have hgood : Hid (insOk x a l.length = true → (l.take (j + 1)).all (fun x => insOk x a l.length) = true) := Lib.hid (fun h => all_take hx h HT.out); clear hx; generalize insOk x a l.length = ok at *; obtain ⟨x0, x1, x2, ⟨x3, x4, x5, x6⟩⟩ := x; simp only at hV OPc CK p0 p1 p2 p3 p4 p5 p6; generalize insV ⟨x0, x1, x2, ⟨x3, x4, x5, x6⟩⟩ = iv at *; generalize opnd x0 = kk at *; have B0 := Lib.hid (blk_new wr (.cells #[.int .i64 x0, .int .i64 x1, .string x2, .bool x3, .string x4, .string x5, .string x6] 91)); have AB := Lib.hid (HB.out.alloc HB.out.size (.cells #[.int .i64 x0, .int .i64 x1, .string x2, .bool x3, .string x4, .string x5, .string x6] 91)); clear hx2 HT; go_wp2_with fail; refine (OPc.out _).mono ?_; rintro e w3 ⟨rfl, hb3⟩; have B3 := Lib.hid (blk_below B0.out hb3); have H3 := Lib.hid (AB.out.trans (hb3.mono AB.out.size)); clear hb3 B0 AB HB OPc p0 p1 p2 p3 p4 p5 p6; have p0 : w3.cell? ⟨wr.heap.size, 0, none⟩ = some (.int .i64 x0) := (blk_cell B3.out 0).trans rfl; have p1 : w3.cell? ⟨wr.heap.size, 1, none⟩ = some (.int .i64 x1) := (blk_cell B3.out 1).trans rfl; have p2 : w3.cell? ⟨wr.heap.size, 2, none⟩ = some (.string x2) := (blk_cell B3.out 2).trans rfl; have p3 : w3.cell? ⟨wr.heap.size, 3, none⟩ = some (.bool x3) := (blk_cell B3.out 3).trans rfl; have p4 : w3.cell? ⟨wr.heap.size, 4, none⟩ = some (.string x4) := (blk_cell B3.out 4).trans rfl; have p5 : w3.cell? ⟨wr.heap.size, 5, none⟩ = some (.string x5) := (blk_cell B3.out 5).trans rfl; have p6 : w3.cell? ⟨wr.heap.size, 6, none⟩ = some (.string x6) := (blk_cell B3.out 6).trans rfl; go_wp2_with fail; refine (CK.out _).mono ?_; rintro e w4 ⟨rfl, hb4⟩; have q1 := pw_cell_below hb4 p1; have H4 := Lib.hid (H3.out.trans (hb4.mono H3.out.size)); clear hb4 B3 H3 CK p0 p1 p2 p3 p4 p5 p6; have hend : Hid (ok = true → ∃ j' : Nat, j' ≤ l.length ∧ (Value.int .i64 ((j : Int) + 1)) = .int .i64 j' ∧ Hid ((l.take j').all (fun x => insOk x a l.length) = true) ∧ Hid (Below w2.heap.size w2 w4)) := Lib.hid (fun h => ⟨j + 1, by omega, by push_cast; rfl, Lib.hid (hgood.out h), H4⟩)
    by_cases hi : iv = 0
    ·subst hi
     by_cases h2 : kk = 2
     ·subst h2
      by_cases h3 : a ≤ x1
      ·have hd : decide (a ≤ x1) = true := decide_eq_true h3
       have hok := hV.out; simp [hd] at hok; obtain rfl := hbad.out hok; clear h3; go_wp2; go_ret
       exact ⟨rfl, H4.out⟩
      ·have hd : decide (a ≤ x1) = false := decide_eq_false h3
       have hok := hV.out; simp [hd] at hok; clear h3; go_wp2
       exact ⟨hend.out hok, by simp [intOf]; omega⟩
     ·have hk2 : (kk == 2) = false := beq_eq_false_iff_ne.2 h2
      by_cases h3 : kk = 3
      ·subst h3
       by_cases h4 : (l.length : Int) ≤ x1
       ·have hd : decide ((l.length : Int) ≤ x1) = true := decide_eq_true h4
        have hok := hV.out; simp [hd] at hok; obtain rfl := hbad.out hok; clear h4 h2; go_wp2; go_ret
        exact ⟨rfl, H4.out⟩
       ·have hd : decide ((l.length : Int) ≤ x1) = false := decide_eq_false h4
        have hok := hV.out; simp [hd] at hok; clear h4 h2; go_wp2
        exact ⟨hend.out hok, by simp [intOf]; omega⟩
      ·have hk3 : (kk == 3) = false := beq_eq_false_iff_ne.2 h3
       have hok := hV.out; rw [hk2, hk3] at hok; simp at hok; clear h2 h3; go_wp2
       exact ⟨hend.out hok, by simp [intOf]; omega⟩
    ·have hne : (iv != 0) = true := bne_iff_ne.2 hi
     have hok := hV.out; rw [show (iv == 0) = false from beq_eq_false_iff_ne.2 hi, Bool.false_and] at hok; obtain rfl := hbad.out hok; clear hi; go_wp2; go_ret
     exact ⟨rfl, H4.out⟩
   ·have hjd : decide (j < l.length) = false := decide_eq_false hlt
    have e1 : j = l.length := by omega
    subst e1; have h1 := HT.out; rw [List.take_length] at h1; have h2 := hr.out; rw [h1] at h2; simp at h2; subst h2; clear h1; go_wp2; go_ret
    exact ⟨rfl, HB.out⟩
def wordsV (d : ByteArray) (f : Int) : Int := if Go.bits .and .i64 f 8 = 0 then wrap64 (((parseD d.data.toList).1.args.length : Int) + 1) else ((parseD d.data.toList).1.args.length : Int)
theorem words_any (f0 d : ByteArray) (f f3 f4 : Int) (v5 : Value) (h5 : ∃ A n c, v5 = .slice A n c) (w : World) (hp : (parseD d.data.toList).2 = 0) :
  Calls Tryd.prog 61 #[.agg #[.string f0, .string d, .int .i64 f, .int .i64 f3, .int .i64 f4, v5]] w fun e w' => e = .returned (.tuple #[.int .i64 (wordsV d f), .int .i64 0]) ∧ Below w.heap.size w w' := by
 obtain ⟨A, n, c, rfl⟩ := h5; have B0 := Lib.hid (blk_new w (.cells #[.string f0, .string d, .int .i64 f, .int .i64 f3, .int .i64 f4, .slice A n c] 94)); have AB := Lib.hid ((Below.refl w.heap.size w).alloc (Nat.le_refl _) (.cells #[.string f0, .string d, .int .i64 f, .int .i64 f3, .int .i64 f4, .slice A n c] 94)); have C1 := Lib.hid (types_Args.calls d _ _ (w.alloc (.cells #[.string f0, .string d, .int .i64 f, .int .i64 f3, .int .i64 f4, .slice A n c] 94)) rfl); generalize hr : wordsV d f = r; replace hr := Lib.hid hr; unfold wordsV at hr; rw [hp] at C1; clear hp; generalize ((parseD d.data.toList).1.args.length : Int) = m at *; go_enter Tryd.func61, Tryd.ntmps61; go_wp2_with fail; refine C1.out.mono ?_; rintro e w2 ⟨rfl, hb2⟩; have q2 : w2.cell? ⟨w.heap.size, 2, none⟩ = some (.int .i64 f) := (blk_cell (blk_below B0.out hb2) 2).trans rfl; have H2 := Lib.hid (AB.out.trans (hb2.mono AB.out.size)); clear C1 hb2 B0 AB
 by_cases h8 : Go.bits .and .i64 f 8 = 0
 ·have hd : (Go.bits .and .i64 f 8 == 0) = true := beq_iff_eq.2 h8
  rw [if_pos h8] at hr; clear h8; go_wp2; go_ret2
  exact ⟨by rw [← hr.out]; rfl, H2.out⟩
 ·have hd : (Go.bits .and .i64 f 8 == 0) = false := beq_eq_false_iff_ne.2 h8
  rw [if_neg h8] at hr; clear h8; go_wp2; go_ret2
  exact ⟨by rw [← hr.out]; rfl, H2.out⟩
end Go.Proofs.YtaipkdglhfhhiaaDoor.Pt

namespace Go.Proofs.YtaipkdglhfhhiaaDoor.Pt
open Go Go.RowKit Go.Proofs.YtaipkdglhfhhiaaDoor.Nm Go.Proofs.YtaipkdglhfhhiaaDoor.Ty Go.Proofs.YtaipkdglhfhhiaaDoor.Cd Go.Proofs.YtaipkdglhfhhiaaDoorW.PrintWords Go.Proofs.YtaipkdglhfhhiaaDoorW.PrintLast Go.Proofs.YtaipkdglhfhhiaaDoorW.PrintMore
set_option linter.unusedVariables false
set_option linter.unusedSimpArgs false
set_option maxHeartbeats 2000000
set_option maxRecDepth 100000
def badV (n d : ByteArray) : Bool := !((parseD d.data.toList).2 == 0) || (!memberB n || ((n.toList == ([60, 105, 110, 105, 116, 62] : List UInt8)) && !(parseD d.data.toList).1.void))
def methB (m : S94) (b : Bool) : Bool := !badV m.f0 m.f1 && (mflV m.f2 b m.f0 == 0 &&
 (if Go.bits .and .i64 m.f2 1024 = 0 then decide (wordsV m.f1 m.f2 ≤ m.f3) && (decide (m.f3 ≤ 40) && (decide (0 ≤ m.f4) && (decide (m.f4 ≤ 40) && codeB m.f5 m.f3))) else m.f3 == 0 && (m.f4 == 0 && (m.f5.length : Int) == 0)))
theorem meth_any (f0 f1 : ByteArray) (f2 f3 f4 : Int) (A : Option Addr) (c : Nat) (l : List S91) (b : Bool) (w : World) (hk : Kd.C k91 w A l.length l) (hc : l.length ≤ c) :
  Calls Tryd.prog 47 #[.agg #[.string f0, .string f1, .int .i64 f2, .int .i64 f3, .int .i64 f4, .slice A l.length c], .bool b] w fun e w' => e = .returned (.bool (methB ⟨f0, f1, f2, f3, f4, l⟩ b)) ∧ Below w.heap.size w w' := by
 have B0 := Lib.hid (blk_new w (.cells #[.string f0, .string f1, .int .i64 f2, .int .i64 f3, .int .i64 f4, .slice A l.length c] 94)); have AB := Lib.hid ((Below.refl w.heap.size w).alloc (Nat.le_refl _) (.cells #[.string f0, .string f1, .int .i64 f2, .int .i64 f3, .int .i64 f4, .slice A l.length c] 94)); have C1 := Lib.hid (types_ParseDesc.calls f1 _ _ _ _ _ (w.alloc (.cells #[.string f0, .string f1, .int .i64 f2, .int .i64 f3, .int .i64 f4, .slice A l.length c] 94)) rfl); have CM := Lib.hid (fun W => names_Member.calls f0 _ W rfl); have CF := Lib.hid (fun W => mfl_any f2 b f0 W); have CW := Lib.hid (fun (W : World) (hp : (parseD f1.data.toList).2 = 0) => words_any f0 f1 f2 f3 f4 (.slice A l.length c) ⟨_, _, _, rfl⟩ W hp); have CC := Lib.hid (fun (W : World) (hb : Below w.heap.size w W) => code_any A c l f3 W (Kd.C_below hk hb) hc); clear hk; generalize hr : methB ⟨f0, f1, f2, f3, f4, l⟩ b = r; replace hr := Lib.hid hr; unfold methB badV at hr; simp only at hr; generalize mflV f2 b f0 = mf at *; generalize wordsV f1 f2 = wd at *; generalize codeB l f3 = cb at *; generalize memberB f0 = mb at *; generalize parseD f1.data.toList = pd at *; obtain ⟨dr, e1⟩ := pd; obtain ⟨ar, vd, rd, rn⟩ := dr; have hn : Hid ((f0.toList == ([60, 105, 110, 105, 116, 62] : List UInt8)) = (f0.toList == ([60, 105, 110, 105, 116, 62] : List UInt8))) := Lib.hid rfl; simp only at hr CW; go_enter Tryd.func47, Tryd.ntmps47; go_wp2_with fail; refine C1.out.mono ?_; rintro e w1 ⟨v0, rfl, R0, hb1⟩
 obtain ⟨A0, n0, c0, rfl⟩ : ∃ A n c, v0 = .slice A n c := by
  obtain ⟨A0, c0, e⟩ := Kd.R_slice R0
  exact ⟨_, _, _, e⟩
 have B1 := Lib.hid (blk_below B0.out hb1); have H1 := Lib.hid (AB.out.trans (hb1.mono AB.out.size)); clear C1 R0 hb1 B0 AB
 go_upto_region 2 with (fail)
 change Code.wp _ _ _ _ (w1.alloc (.cells #[.slice A0 n0 c0, .bool vd, .int .i64 rd, .string (bs rn)] 110)); have D2 := Lib.hid (blk_new w1 (.cells #[.slice A0 n0 c0, .bool vd, .int .i64 rd, .string (bs rn)] 110)); have B2 := Lib.hid (blk_below B1.out ((Below.refl _ _).alloc (Nat.le_refl _) (.cells #[.slice A0 n0 c0, .bool vd, .int .i64 rd, .string (bs rn)] 110))); have H2 := Lib.hid (H1.out.alloc H1.out.size (.cells #[.slice A0 n0 c0, .bool vd, .int .i64 rd, .string (bs rn)] 110)); generalize w1.alloc (.cells #[.slice A0 n0 c0, .bool vd, .int .i64 rd, .string (bs rn)] 110) = W at *; clear B1 H1
 go_cut [1, 2, 32] (fun v1 v2 v32 wr => v1 = .bool b ∧ v2 = .pointer (some ⟨w.heap.size, 0, none⟩) ∧ v32 = .bool (!(e1 == 0) || (!mb || ((f0.toList == ([60, 105, 110, 105, 116, 62] : List UInt8)) && !vd))) ∧ Hid (wr.heap[w.heap.size]? = some (.cells #[.string f0, .string f1, .int .i64 f2, .int .i64 f3, .int .i64 f4, .slice A l.length c] 94 (0, 0))) ∧ Hid (Below w.heap.size w wr))
 case first =>
  by_cases h1 : e1 = 0
  ·subst h1
   have q0 : W.cell? ⟨w.heap.size, 0, none⟩ = some (.string f0) := (blk_cell B2.out 0).trans rfl; go_wp2_with fail; refine (CM.out _).mono ?_; rintro e w3 ⟨rfl, hb3⟩; have B3 := Lib.hid (blk_below B2.out hb3); have H3 := Lib.hid (H2.out.trans (hb3.mono H2.out.size)); have r1 : w3.cell? ⟨w1.heap.size, 1, none⟩ = some (.bool vd) := pw_cell_below hb3 ((blk_cell D2.out 1).trans rfl); have q0 : w3.cell? ⟨w.heap.size, 0, none⟩ = some (.string f0) := (blk_cell B3.out 0).trans rfl; clear hb3 B2 H2 D2
   cases mb with
   | false =>
    go_wp2; go_meet
    case rel => exact ⟨rfl, rfl, by simp, B3, H3⟩
   | true =>
    cases hi : (f0.toList == ([60, 105, 110, 105, 116, 62] : List UInt8)) with
    | false =>
     go_wp2; go_meet
     case rel => exact ⟨rfl, rfl, by rw [hi]; cases vd <;> rfl, B3, H3⟩
    | true =>
     go_wp2; go_meet
     case rel => exact ⟨rfl, rfl, by rw [hi]; cases vd <;> rfl, B3, H3⟩
  ·have hne : (e1 != 0) = true := bne_iff_ne.2 h1
   have he : (e1 == 0) = false := beq_eq_false_iff_ne.2 h1; go_wp2; go_meet
   case rel => exact ⟨rfl, rfl, by rw [he]; rfl, B2, H2⟩
 case rest =>
  clear B2 D2 H2; obtain ⟨rfl, rfl, rfl, B2, H2⟩ := hcut
  cases hbad : (!(e1 == 0) || (!mb || ((f0.toList == ([60, 105, 110, 105, 116, 62] : List UInt8)) && !vd))) with
  | true =>
   rw [hbad] at hr; have hr := hr.out; simp at hr; subst hr; go_wp2; go_ret
   exact ⟨rfl, H2.out⟩
  | false =>
   have he1 : e1 = 0 := by
    cases h : (e1 == 0) with
    | true => exact beq_iff_eq.1 h
    | false => rw [h] at hbad; simp at hbad
   rw [hbad, Bool.not_false, Bool.true_and] at hr; clear hbad hn CM; have q0 : wc.cell? ⟨w.heap.size, 0, none⟩ = some (.string f0) := (blk_cell B2.out 0).trans rfl; have q1 : wc.cell? ⟨w.heap.size, 1, none⟩ = some (.string f1) := (blk_cell B2.out 1).trans rfl; have q2 : wc.cell? ⟨w.heap.size, 2, none⟩ = some (.int .i64 f2) := (blk_cell B2.out 2).trans rfl; have q3 : wc.cell? ⟨w.heap.size, 3, none⟩ = some (.int .i64 f3) := (blk_cell B2.out 3).trans rfl; have q4 : wc.cell? ⟨w.heap.size, 4, none⟩ = some (.int .i64 f4) := (blk_cell B2.out 4).trans rfl; have q5 : wc.cell? ⟨w.heap.size, 5, none⟩ = some (.slice A l.length c) := (blk_cell B2.out 5).trans rfl; go_wp2_with fail; refine (CF.out _).mono ?_; rintro e w4 ⟨rfl, rfl⟩
   by_cases hm : mf = 0
   ·subst hm
    rw [beq_self_eq_true, Bool.true_and] at hr
    by_cases ha : Go.bits .and .i64 f2 1024 = 0
    ·have ha2 : (Go.bits .and .i64 f2 1024 != 0) = false := bne_eq_false_iff_eq.2 ha
     rw [if_pos ha] at hr; have C3 := Lib.hid (CW.out w4 he1); clear ha CW he1; go_wp2_with fail; refine C3.out.mono ?_; rintro e w5 ⟨rfl, hb5⟩; have B5 := Lib.hid (blk_below B2.out hb5); have H5 := Lib.hid (H2.out.trans (hb5.mono H2.out.size)); have C4 := Lib.hid (CC.out w5 H5.out); clear hb5 B2 H2 q0 q1 q2 q3 q4 q5 C3 CC; have q3 : w5.cell? ⟨w.heap.size, 3, none⟩ = some (.int .i64 f3) := (blk_cell B5.out 3).trans rfl; have q4 : w5.cell? ⟨w.heap.size, 4, none⟩ = some (.int .i64 f4) := (blk_cell B5.out 4).trans rfl; have q5 : w5.cell? ⟨w.heap.size, 5, none⟩ = some (.slice A l.length c) := (blk_cell B5.out 5).trans rfl
     cases d1 : decide (wd ≤ f3) with
     | false =>
      rw [d1] at hr; have hr := hr.out; simp at hr; subst hr; go_wp2; go_ret
      exact ⟨rfl, H5.out⟩
     | true =>
      rw [d1, Bool.true_and] at hr
      cases d2 : decide (f3 ≤ 40) with
      | false =>
       rw [d2] at hr; have hr := hr.out; simp at hr; subst hr; go_wp2; go_ret
       exact ⟨rfl, H5.out⟩
      | true =>
       rw [d2, Bool.true_and] at hr
       cases d3 : decide (0 ≤ f4) with
       | false =>
        rw [d3] at hr; have hr := hr.out; simp at hr; subst hr; go_wp2; go_ret
        exact ⟨rfl, H5.out⟩
       | true =>
        rw [d3, Bool.true_and] at hr
        cases d4 : decide (f4 ≤ 40) with
        | false =>
         rw [d4] at hr; have hr := hr.out; simp at hr; subst hr; go_wp2; go_ret
         exact ⟨rfl, H5.out⟩
        | true =>
         rw [d4, Bool.true_and] at hr; go_wp2_with fail; refine C4.out.mono ?_; rintro e w6 ⟨rfl, hb6⟩; have H6 := Lib.hid (H5.out.trans (hb6.mono H5.out.size)); clear C4 hb6 H5 B5 q3 q4 q5
         cases cb
         all_goals
          have hr := hr.out; subst hr; go_wp2; go_ret
          exact ⟨rfl, H6.out⟩
    ·have ha2 : (Go.bits .and .i64 f2 1024 != 0) = true := bne_iff_ne.2 ha
     rw [if_neg ha] at hr; clear ha CW CC CF he1
     cases d1 : (f3 == 0) with
     | false =>
      rw [d1] at hr; have hr := hr.out; simp at hr; subst hr; go_wp2; go_ret
      exact ⟨rfl, H2.out⟩
     | true =>
      rw [d1, Bool.true_and] at hr
      cases d2 : (f4 == 0) with
      | false =>
       rw [d2] at hr; have hr := hr.out; simp at hr; subst hr; go_wp2; go_ret
       exact ⟨rfl, H2.out⟩
      | true =>
       rw [d2, Bool.true_and] at hr; go_wp2; go_ret
       exact ⟨by rw [← hr.out]; rfl, H2.out⟩
   ·have hne : (mf != 0) = true := bne_iff_ne.2 hm
    rw [show (mf == 0) = false from beq_eq_false_iff_ne.2 hm] at hr; have hr := hr.out; simp at hr; subst hr; clear hm; go_wp2; go_ret
    exact ⟨rfl, H2.out⟩
end Go.Proofs.YtaipkdglhfhhiaaDoor.Pt

namespace Go.Proofs.YtaipkdglhfhhiaaDoor.Pt
open Go Go.RowKit Go.Proofs.YtaipkdglhfhhiaaDoor.Nm Go.Proofs.YtaipkdglhfhhiaaDoor.Ty Go.Proofs.YtaipkdglhfhhiaaDoor.Cd Go.Proofs.YtaipkdglhfhhiaaDoorW.PrintWords Go.Proofs.YtaipkdglhfhhiaaDoorW.PrintLast Go.Proofs.YtaipkdglhfhhiaaDoorW.PrintMore
set_option linter.unusedVariables false
set_option linter.unusedSimpArgs false
set_option maxHeartbeats 2000000
set_option maxRecDepth 100000
theorem rd_at {l : List ByteArray} {i : Nat} (h : i < l.length) : l[i]? = some (rdOf ByteArray.empty l (i : Int)) := by
 simp [rdOf, List.getD_eq_getElem?_getD, List.getElem?_eq_getElem h]
def placeF : List ByteArray → ByteArray → Int → Int
 | [], _, _ => -1
 | n :: l, s, i => if s.toList = n.toList then i else placeF l s (i + 1)
theorem place_step (l : List ByteArray) (s : ByteArray) (i : Nat) (n : ByteArray) (hx : l[i]? = some n) : placeF (l.drop i) s i = if s.toList = n.toList then (i : Int) else placeF (l.drop (i + 1)) s ((i + 1 : Nat) : Int) := by
 have hi : i < l.length := by
  rcases Nat.lt_or_ge i l.length with h | h
  ·exact h
  ·rw [List.getElem?_eq_none h] at hx; cases hx
 rw [List.drop_eq_getElem_cons hi, placeF]; rw [List.getElem?_eq_getElem hi] at hx; rw [Option.some.inj hx]; push_cast
 rfl
theorem index_any (A : Option Addr) (c : Nat) (l : List ByteArray) (s : ByteArray) (w : World) (hk : Kd.C Kd.string w A l.length l) :
  Calls Tryd.prog 71 #[.slice A l.length c, .string s] w fun e w' => e = .returned (.int .i64 (placeF l s 0)) ∧ w' = w := by
 have HK := Lib.hid hk; have hmx := Kd.C_max hk; clear hk; generalize hr : placeF l s 0 = r; replace hr := Lib.hid hr; go_enter Tryd.func71, Tryd.ntmps71; go_wp2_with fail
 go_loopw [8] (fun v8 wr => ∃ j : Nat, j ≤ l.length ∧ v8 = .int .i64 j ∧ Hid (placeF (l.drop j) s j = r) ∧ wr = w) (fun v8 _ => l.length - (intOf v8).toNat)
 case atStart => exact ⟨0, Nat.zero_le _, rfl, hr, rfl⟩
 case round =>
  obtain ⟨j, hj, rfl, HT, hw⟩ := hrel; subst hw
  by_cases hlt : j < l.length
  ·have hjd : decide (j < l.length) = true := decide_eq_true hlt
   obtain ⟨ad, cc, rfl, hcl, hKK, hic⟩ := Kd.C_get HK.out ByteArray.empty (j : Int) (by omega) (by omega); have hx := rd_at hlt; obtain rfl : cc = [.string (rdOf ByteArray.empty l (j : Int))] := hKK; have hic := hic 0 _ rfl; rw [show Kd.string.sz = 1 from rfl, Nat.mul_one, Nat.add_zero, Int.toNat_natCast] at hic; generalize rdOf ByteArray.empty l (j : Int) = n at *; have hst := HT.out; rw [place_step l s j n hx] at hst; clear HT hx hcl
   by_cases he : s.toList = n.toList
   ·rw [if_pos he] at hst
    have hq : (s.toList == n.toList) = true := beq_iff_eq.2 he; subst hst; go_wp2; go_ret
    exact ⟨rfl, rfl⟩
   ·rw [if_neg he] at hst
    have hq : (s.toList == n.toList) = false := beq_eq_false_iff_ne.2 he; replace hst := Lib.hid hst; go_wp2
    exact ⟨⟨j + 1, by omega, by push_cast; rfl, hst, trivial⟩, by simp [intOf]; omega⟩
  ·have hjd : decide (j < l.length) = false := decide_eq_false hlt
   have h1 := HT.out; rw [List.drop_eq_nil_of_le (by omega), placeF] at h1; subst h1; go_wp2; go_ret
   exact ⟨rfl, rfl⟩
def memB (l : List ByteArray) (s : ByteArray) : Bool := decide (placeF l s 0 ≥ 0)
theorem conts_any (A : Option Addr) (c : Nat) (l : List ByteArray) (s : ByteArray) (w : World) (hk : Kd.C Kd.string w A l.length l) :
  Calls Tryd.prog 57 #[.slice A l.length c, .string s] w fun e w' => e = .returned (.bool (memB l s)) ∧ w' = w := by
 have C1 := Lib.hid (index_any A c l s w hk); have hd : Hid (memB l s = decide (placeF l s 0 ≥ 0)) := Lib.hid rfl; clear hk; generalize placeF l s 0 = p at *; go_enter Tryd.func57, Tryd.ntmps57; go_wp2_with fail; refine C1.out.mono ?_; rintro e w2 ⟨rfl, rfl⟩; go_wp2; go_ret
 exact ⟨by rw [hd.out]; rfl, rfl⟩
def ifOk (l : List ByteArray) (f0 : ByteArray) (j : Nat) (n : ByteArray) : Bool := validB n && (!(n.toList == f0.toList) && !memB (l.take j) n)
def ifB (l : List ByteArray) (f0 : ByteArray) : Nat → List ByteArray → Bool
 | _, [] => true
 | j, n :: r => ifOk l f0 j n && ifB l f0 (j + 1) r
theorem ifB_step {l : List ByteArray} {f0 n : ByteArray} {j : Nat} (hx : l[j]? = some n) : ifB l f0 j (l.drop j) = (ifOk l f0 j n && ifB l f0 (j + 1) (l.drop (j + 1))) := by
 have hi : j < l.length := by
  rcases Nat.lt_or_ge j l.length with h | h
  ·exact h
  ·rw [List.getElem?_eq_none h] at hx; cases hx
 rw [List.drop_eq_getElem_cons hi, ifB]; rw [List.getElem?_eq_getElem hi] at hx; rw [Option.some.inj hx]
def headB (f0 f1 : ByteArray) (l : List ByteArray) (f3 f4 : Int) : Bool :=
 validB f0 && (validB f1 && (!(f0.toList == f1.toList) && (clsV f3 == 0 && (ifB l f0 0 l && (decide ((l.length : Int) ≤ 20) && (decide (0 ≤ f4) && decide (f4 ≤ 9)))))))
theorem head_any (f0 f1 : ByteArray) (A2 : Option Addr) (c2 : Nat) (l2 : List ByteArray) (f3 f4 : Int) (v5 : Value) (h5 : ∃ A n c, v5 = .slice A n c) (w : World) (hk : Kd.C Kd.string w A2 l2.length l2) (hc : l2.length ≤ c2) :
  Calls Tryd.prog 46 #[.agg #[.string f0, .string f1, .slice A2 l2.length c2, .int .i64 f3, .int .i64 f4, v5]] w fun e w' => e = .returned (.bool (headB f0 f1 l2 f3 f4)) ∧ Below w.heap.size w w' := by
 obtain ⟨A5, n5, c5, rfl⟩ := h5; have hmx := Kd.C_max hk; have HK := Lib.hid hk; have hcc := hc; have B0 := Lib.hid (blk_new w (.cells #[.string f0, .string f1, .slice A2 l2.length c2, .int .i64 f3, .int .i64 f4, .slice A5 n5 c5] 40)); have AB := Lib.hid ((Below.refl w.heap.size w).alloc (Nat.le_refl _) (.cells #[.string f0, .string f1, .slice A2 l2.length c2, .int .i64 f3, .int .i64 f4, .slice A5 n5 c5] 40)); have CV := Lib.hid (fun s W => names_Valid.calls s _ W rfl); have CF := Lib.hid (fun W => cls_any f3 W); clear hk; generalize hr : headB f0 f1 l2 f3 f4 = r; replace hr := Lib.hid hr; unfold headB at hr; generalize hv0 : validB f0 = b0 at hr; generalize hv1 : validB f1 = b1 at hr; have C0 := Lib.hid (CV.out f0 (w.alloc (.cells #[.string f0, .string f1, .slice A2 l2.length c2, .int .i64 f3, .int .i64 f4, .slice A5 n5 c5] 40))); have C1 := Lib.hid (fun W => CV.out f1 W); rw [hv0] at C0; rw [hv1] at C1; generalize clsV f3 = cv at *; go_enter Tryd.func46, Tryd.ntmps46
 go_upto_region 1 with (fail)
 go_cut [1, 27] (fun v1 v27 wr => v1 = .pointer (some ⟨w.heap.size, 0, none⟩) ∧ v27 = .bool (!b0 || (!b1 || ((f0.toList == f1.toList) || (cv != 0)))) ∧ Hid (wr.heap[w.heap.size]? = some (.cells #[.string f0, .string f1, .slice A2 l2.length c2, .int .i64 f3, .int .i64 f4, .slice A5 n5 c5] 40 (0, 0))) ∧ Hid (Below w.heap.size w wr))
 case first =>
  go_wp2_with fail; refine C0.out.mono ?_; rintro e w1 ⟨rfl, hb1⟩; have B1 := Lib.hid (blk_below B0.out hb1); have H1 := Lib.hid (AB.out.trans (hb1.mono AB.out.size)); clear hb1 C0; have q1 : w1.cell? ⟨w.heap.size, 1, none⟩ = some (.string f1) := (blk_cell B1.out 1).trans rfl
  cases b0 with
  | false =>
   go_wp2; go_meet
   case rel => exact ⟨rfl, rfl, B1, H1⟩
  | true =>
   go_wp2_with fail; refine (C1.out _).mono ?_; rintro e w2 ⟨rfl, hb2⟩; have B2 := Lib.hid (blk_below B1.out hb2); have H2 := Lib.hid (H1.out.trans (hb2.mono H1.out.size)); clear hb2 C1 q1; have q0 : w2.cell? ⟨w.heap.size, 0, none⟩ = some (.string f0) := (blk_cell B2.out 0).trans rfl; have q1 : w2.cell? ⟨w.heap.size, 1, none⟩ = some (.string f1) := (blk_cell B2.out 1).trans rfl; have q3 : w2.cell? ⟨w.heap.size, 3, none⟩ = some (.int .i64 f3) := (blk_cell B2.out 3).trans rfl
   cases b1 with
   | false =>
    go_wp2; go_meet
    case rel => exact ⟨rfl, rfl, B2, H2⟩
   | true =>
    cases he : (f0.toList == f1.toList) with
    | true =>
     go_wp2; go_meet
     case rel => exact ⟨rfl, by rw [he]; rfl, B2, H2⟩
    | false =>
     go_wp2_with fail; refine (CF.out _).mono ?_; rintro e w3 ⟨rfl, rfl⟩; go_wp2; go_meet
     case rel => exact ⟨rfl, by rw [he]; rfl, B2, H2⟩
 case rest =>
  clear B0 AB C0 C1 CF; obtain ⟨rfl, rfl, B2, H2⟩ := hcut
  cases hbad : (!b0 || (!b1 || ((f0.toList == f1.toList) || (cv != 0)))) with
  | true =>
   have hr2 : false = r := by
    rw [← hr.out]
    cases b0 <;> cases b1 <;> cases he : (f0.toList == f1.toList) <;> simp_all
   subst hr2; clear hbad; go_wp2; go_ret
   exact ⟨rfl, H2.out⟩
  | false =>
   have hr2 : Hid ((ifB l2 f0 0 l2 && (decide ((l2.length : Int) ≤ 20) && (decide (0 ≤ f4) && decide (f4 ≤ 9)))) = r) := Lib.hid (by
    rw [← hr.out]
    cases b0 <;> cases b1 <;> cases he : (f0.toList == f1.toList) <;> simp_all)
   clear hbad hr hv0 hv1; have q2 : wc.cell? ⟨w.heap.size, 2, none⟩ = some (.slice A2 l2.length c2) := (blk_cell B2.out 2).trans rfl; go_wp2_with fail
   go_loopw [31] (fun v31 wr => ∃ j : Nat, j ≤ l2.length ∧ v31 = .int .i64 j ∧ Hid (ifB l2 f0 0 l2 = ifB l2 f0 j (l2.drop j)) ∧ Hid (wr.heap[w.heap.size]? = some (.cells #[.string f0, .string f1, .slice A2 l2.length c2, .int .i64 f3, .int .i64 f4, .slice A5 n5 c5] 40 (0, 0))) ∧ Hid (Below w.heap.size w wr)) (fun v31 _ => l2.length - (intOf v31).toNat)
   case atStart => exact ⟨0, Nat.zero_le _, rfl, Lib.hid rfl, B2, H2⟩
   case round =>
    clear B2 H2 q2; obtain ⟨j, hj, rfl, HT, B2, H2⟩ := hrel
    by_cases hlt : j < l2.length
    ·have hjd : decide (j < l2.length) = true := decide_eq_true hlt
     obtain ⟨ad, cc, rfl, hcl, hKK, hic⟩ := Kd.C_get (Kd.C_below HK.out H2.out) ByteArray.empty (j : Int) (by omega) (by omega); have hx := rd_at hlt; obtain rfl : cc = [.string (rdOf ByteArray.empty l2 (j : Int))] := hKK; have hic := hic 0 _ rfl; rw [show Kd.string.sz = 1 from rfl, Nat.mul_one, Nat.add_zero, Int.toNat_natCast] at hic; generalize rdOf ByteArray.empty l2 (j : Int) = n at *; have hst : Hid (ifB l2 f0 0 l2 = (ifOk l2 f0 j n && ifB l2 f0 (j + 1) (l2.drop (j + 1)))) := Lib.hid (HT.out.trans (ifB_step hx)); have hok : Hid (ifOk l2 f0 j n = (validB n && (!(n.toList == f0.toList) && !memB (l2.take j) n))) := Lib.hid rfl; have C3 := Lib.hid (CV.out n wr); obtain ⟨i0, hi0, _, hsz0, _⟩ := info_parts (show (Tryd.prog.info? 9).map (fun i => (i.zero, i.size, i.bytes)) = some (some (.string ⟨#[]⟩), 1, 16) from by kernel_rfl); obtain ⟨hcut0, _, _⟩ := print_take_of (P := Tryd.prog) Value.string (⟨#[]⟩ : ByteArray) 37 9 .i64 Tryd.underlying37 hi0 hsz0 (some ad) c2 l2 (j : Int) (by omega) (by omega) hcc; rw [Int.toNat_natCast] at hcut0; have C4 := Lib.hid (fun (W : World) (hb : Below w.heap.size w W) => conts_any (some ad) c2 (l2.take j) n W (Kd.C_take (Kd.C_below HK.out hb) (by omega))); clear HT hx hcl hi0 hsz0; generalize ifOk l2 f0 j n = ok at *; go_wp2_with fail; refine C3.out.mono ?_; rintro e w3 ⟨rfl, hb3⟩; have B3 := Lib.hid (blk_below B2.out hb3); have H3 := Lib.hid (H2.out.trans (hb3.mono H2.out.size)); clear hb3 C3 B2 H2 hic; have q0 : w3.cell? ⟨w.heap.size, 0, none⟩ = some (.string f0) := (blk_cell B3.out 0).trans rfl; have q2 : w3.cell? ⟨w.heap.size, 2, none⟩ = some (.slice (some ad) l2.length c2) := (blk_cell B3.out 2).trans rfl; have hbad : Hid (ok = false → false = r) := Lib.hid (fun h => by rw [← hr2.out, hst.out, h]; rfl)
     cases hv : validB n with
     | false =>
      have h1 := hok.out; rw [hv, Bool.false_and] at h1; obtain rfl := hbad.out h1; go_wp2; go_ret
      exact ⟨rfl, H3.out⟩
     | true =>
      cases he : (n.toList == f0.toList) with
      | true =>
       have h1 := hok.out; rw [hv, he] at h1; obtain rfl := hbad.out h1; go_wp2; go_ret
       exact ⟨rfl, H3.out⟩
      | false =>
       have C5 := C4.out w3 H3.out; rw [show (l2.take j).length = j by rw [List.length_take]; omega] at C5; replace C5 := Lib.hid C5; go_wp2_with fail; refine C5.out.mono ?_; rintro e w4 ⟨rfl, rfl⟩; clear C5 C4
       cases hm : memB (l2.take j) n with
       | true =>
        have h1 := hok.out; rw [hv, he, hm] at h1; obtain rfl := hbad.out h1; go_wp2; go_ret
        exact ⟨rfl, H3.out⟩
       | false =>
        have h1 : Hid (ok = true) := Lib.hid (by rw [hok.out, hv, he, hm]; rfl); clear hv he hm; go_wp2
        exact ⟨⟨j + 1, by omega, by push_cast; rfl, Lib.hid (by rw [hst.out, h1.out, Bool.true_and]), B3, H3⟩, by simp [intOf]; omega⟩
    ·have hjd : decide (j < l2.length) = false := decide_eq_false hlt
     have h1 := HT.out; rw [List.drop_eq_nil_of_le (by omega), ifB] at h1; rw [h1, Bool.true_and] at hr2; clear h1 HT; have q2 : wr.cell? ⟨w.heap.size, 2, none⟩ = some (.slice A2 l2.length c2) := (blk_cell B2.out 2).trans rfl; have q4 : wr.cell? ⟨w.heap.size, 4, none⟩ = some (.int .i64 f4) := (blk_cell B2.out 4).trans rfl
     cases d1 : decide ((l2.length : Int) ≤ 20) with
     | false =>
      have h2 := hr2.out; rw [d1] at h2; simp at h2; subst h2; go_wp2; go_ret
      exact ⟨rfl, H2.out⟩
     | true =>
      cases d2 : decide (0 ≤ f4) with
      | false =>
       have h2 := hr2.out; rw [d1, d2] at h2; simp at h2; subst h2; go_wp2; go_ret
       exact ⟨rfl, H2.out⟩
      | true =>
       rw [d1, d2, Bool.true_and, Bool.true_and] at hr2; go_wp2; go_ret
       exact ⟨by rw [← hr2.out]; rfl, H2.out⟩
end Go.Proofs.YtaipkdglhfhhiaaDoor.Pt

namespace Go.Proofs.YtaipkdglhfhhiaaDoor.Pt
open Go Go.RowKit Go.Proofs.YtaipkdglhfhhiaaDoor.Nm Go.Proofs.YtaipkdglhfhhiaaDoor.Ty Go.Proofs.YtaipkdglhfhhiaaDoor.Cd Go.Proofs.YtaipkdglhfhhiaaDoorW.PrintWords Go.Proofs.YtaipkdglhfhhiaaDoorW.PrintLast Go.Proofs.YtaipkdglhfhhiaaDoorW.PrintMore
set_option linter.unusedVariables false
set_option linter.unusedSimpArgs false
set_option maxHeartbeats 2000000
set_option maxRecDepth 100000
def mOk (l : List S94) (b : Bool) (j : Nat) (m : S94) : Bool := methB m b && findM 0 l m.f0 m.f1 == (j : Int)
def msB (l : List S94) (b : Bool) : Nat → List S94 → Bool
 | _, [] => true
 | j, m :: r => mOk l b j m && msB l b (j + 1) r
theorem msB_step {l : List S94} {b : Bool} {m : S94} {j : Nat} (hx : l[j]? = some m) : msB l b j (l.drop j) = (mOk l b j m && msB l b (j + 1) (l.drop (j + 1))) := by
 have hi : j < l.length := by
  rcases Nat.lt_or_ge j l.length with h | h
  ·exact h
  ·rw [List.getElem?_eq_none h] at hx; cases hx
 rw [List.drop_eq_getElem_cons hi, msB]; rw [List.getElem?_eq_getElem hi] at hx; rw [Option.some.inj hx]
def soundB (c : S40) : Bool :=
 !decide ((c.f5.length : Int) > 40) && (!decide ((c.f2.length : Int) > 20) && (headB c.f0 c.f1 c.f2 c.f3 c.f4 && msB c.f5 (Go.bits .and .i64 c.f3 512 != 0) 0 c.f5))
def chkC (c : S40) : Int := if soundB c = true then 0 else 1
theorem rd51 {l : List S94} {i : Nat} (h : i < l.length) : l[i]? = some (rd_T94 l (i : Int)) := by
 simp [rd_T94, List.getD_eq_getElem?_getD, List.getElem?_eq_getElem h]
theorem chk_any (f0 f1 : ByteArray) (A2 : Option Addr) (c2 : Nat) (l2 : List ByteArray) (f3 f4 : Int) (A5 : Option Addr) (c5 : Nat) (l5 : List S94) (w : World) (hk : Kd.C Kd.string w A2 l2.length l2) (hc : l2.length ≤ c2) (hk5 : Kd.C k94 w A5 l5.length l5) (hc5 : l5.length ≤ c5) :
  Calls Tryd.prog 32 #[.agg #[.string f0, .string f1, .slice A2 l2.length c2, .int .i64 f3, .int .i64 f4, .slice A5 l5.length c5]] w fun e w' => e = .returned (.int .i64 (chkC ⟨f0, f1, l2, f3, f4, l5⟩)) ∧ Below w.heap.size w w' := by
 have B0 := Lib.hid (blk_new w (.cells #[.string f0, .string f1, .slice A2 l2.length c2, .int .i64 f3, .int .i64 f4, .slice A5 l5.length c5] 40)); have AB := Lib.hid ((Below.refl w.heap.size w).alloc (Nat.le_refl _) (.cells #[.string f0, .string f1, .slice A2 l2.length c2, .int .i64 f3, .int .i64 f4, .slice A5 l5.length c5] 40)); have HK := Lib.hid hk5; have CH := Lib.hid (head_any f0 f1 A2 c2 l2 f3 f4 (.slice A5 l5.length c5) ⟨_, _, _, rfl⟩ _ (Kd.C_below hk AB.out) hc); have CFd := Lib.hid (fun (W : World) (hb : Below w.heap.size w W) (hl : l5.length ≤ 4611686018427387904) (nm ds : ByteArray) => shapes_Find.calls f0 f1 A2 c2 l2 f3 f4 A5 c5 l5 nm ds _ W (Kd.C_below hk hb) hc (Kd.C_below hk5 hb) hc5 (if_pos hl)); clear hk hk5; generalize hr : chkC ⟨f0, f1, l2, f3, f4, l5⟩ = r; replace hr := Lib.hid hr; unfold chkC soundB at hr; simp only at hr; generalize headB f0 f1 l2 f3 f4 = hb_ at *; have q2 : (w.alloc (.cells #[.string f0, .string f1, .slice A2 l2.length c2, .int .i64 f3, .int .i64 f4, .slice A5 l5.length c5] 40)).cell? ⟨w.heap.size, 2, none⟩ = some (.slice A2 l2.length c2) := (blk_cell B0.out 2).trans rfl; go_enter Tryd.func32, Tryd.ntmps32
 go_upto_region 1 with (fail)
 cases d5 : decide ((l5.length : Int) > 40) with
 | true =>
  rw [d5] at hr; have h := hr.out; simp at h; subst h; go_wp2; go_ret
  exact ⟨rfl, AB.out⟩
 | false =>
  rw [d5, Bool.not_false, Bool.true_and] at hr
  cases d2 : decide ((l2.length : Int) > 20) with
  | true =>
   rw [d2] at hr; have h := hr.out; simp at h; subst h; go_wp2; go_ret
   exact ⟨rfl, AB.out⟩
  | false =>
   rw [d2, Bool.not_false, Bool.true_and] at hr; go_wp2_with fail; refine CH.out.mono ?_; rintro e w1 ⟨rfl, hb1⟩; have B1 := Lib.hid (blk_below B0.out hb1); have H1 := Lib.hid (AB.out.trans (hb1.mono AB.out.size)); clear CH B0 AB hb1 q2
   cases hb_ with
   | false =>
    have h := hr.out; simp at h; subst h; go_wp2; go_ret
    exact ⟨rfl, H1.out⟩
   | true =>
    rw [Bool.true_and] at hr
    have hl5 : l5.length ≤ 40 := by
     have := of_decide_eq_false d5
     omega
    clear d5 d2; have q5 : w1.cell? ⟨w.heap.size, 5, none⟩ = some (.slice A5 l5.length c5) := (blk_cell B1.out 5).trans rfl; go_wp2_with fail
    go_loopw [23] (fun v23 wr => ∃ j : Nat, j ≤ l5.length ∧ v23 = .int .i64 j ∧ Hid (msB l5 (Go.bits .and .i64 f3 512 != 0) 0 l5 = msB l5 (Go.bits .and .i64 f3 512 != 0) j (l5.drop j)) ∧ Hid (wr.heap[w.heap.size]? = some (.cells #[.string f0, .string f1, .slice A2 l2.length c2, .int .i64 f3, .int .i64 f4, .slice A5 l5.length c5] 40 (0, 0))) ∧ Hid (Below w.heap.size w wr)) (fun v23 _ => l5.length - (intOf v23).toNat)
    case atStart => exact ⟨0, Nat.zero_le _, rfl, Lib.hid rfl, B1, H1⟩
    case round =>
     clear B1 H1 q5; obtain ⟨j, hj, rfl, HT, B2, H2⟩ := hrel
     by_cases hlt : j < l5.length
     ·have hjd : decide (j < l5.length) = true := decide_eq_true hlt
      obtain ⟨ad, A6, c6, rfl, p0, p1, p2, p3, p4, p5, hc6, K6⟩ := at_T94 (Kd.C_below HK.out H2.out) (j : Int) (by omega) (by omega); have hx := rd51 hlt; rw [Int.toNat_natCast] at p0 p1 p2 p3 p4 p5; generalize rd_T94 l5 (j : Int) = x at *; obtain ⟨x0, x1, x2, x3, x4, x5⟩ := x; simp only at p0 p1 p2 p3 p4 p5 hc6 K6; have hst : Hid (msB l5 (Go.bits .and .i64 f3 512 != 0) 0 l5 = (mOk l5 (Go.bits .and .i64 f3 512 != 0) j ⟨x0, x1, x2, x3, x4, x5⟩ && msB l5 (Go.bits .and .i64 f3 512 != 0) (j + 1) (l5.drop (j + 1)))) := Lib.hid (HT.out.trans (msB_step hx)); have hok : Hid (mOk l5 (Go.bits .and .i64 f3 512 != 0) j ⟨x0, x1, x2, x3, x4, x5⟩ = (methB ⟨x0, x1, x2, x3, x4, x5⟩ (Go.bits .and .i64 f3 512 != 0) && findM 0 l5 x0 x1 == (j : Int))) := Lib.hid rfl; have D0 := Lib.hid (blk_new wr (.cells #[.string x0, .string x1, .int .i64 x2, .int .i64 x3, .int .i64 x4, .slice A6 x5.length c6] 94)); have hal := (Below.refl wr.heap.size wr).alloc (Nat.le_refl _) (.cells #[.string x0, .string x1, .int .i64 x2, .int .i64 x3, .int .i64 x4, .slice A6 x5.length c6] 94); have B3 := Lib.hid (blk_below B2.out hal); have H3 := Lib.hid (H2.out.trans (hal.mono H2.out.size)); have CM := Lib.hid (meth_any x0 x1 x2 x3 x4 A6 c6 x5 (Go.bits .and .i64 f3 512 != 0) _ (Kd.C_below K6 hal) hc6); have q3 : (wr.alloc (.cells #[.string x0, .string x1, .int .i64 x2, .int .i64 x3, .int .i64 x4, .slice A6 x5.length c6] 94)).cell? ⟨w.heap.size, 3, none⟩ = some (.int .i64 f3) := (blk_cell B3.out 3).trans rfl; clear HT hx K6 hal B2 H2; have hbad : Hid (mOk l5 (Go.bits .and .i64 f3 512 != 0) j ⟨x0, x1, x2, x3, x4, x5⟩ = false → (1 : Int) = r) := Lib.hid (fun h => by rw [← hr.out, hst.out, h]; rfl); generalize mOk l5 (Go.bits .and .i64 f3 512 != 0) j ⟨x0, x1, x2, x3, x4, x5⟩ = ok at *; generalize methB ⟨x0, x1, x2, x3, x4, x5⟩ (Go.bits .and .i64 f3 512 != 0) = mb at *; go_wp2_with fail; refine CM.out.mono ?_; rintro e w4 ⟨rfl, hb4⟩; have B4 := Lib.hid (blk_below B3.out hb4); have D4 := Lib.hid (blk_below D0.out hb4); have H4 := Lib.hid (H3.out.trans (hb4.mono H3.out.size)); clear CM hb4 B3 D0 H3 q3 p0 p1 p2 p3 p4 p5
      cases mb with
      | false =>
       have h1 := hok.out; rw [Bool.false_and] at h1; obtain rfl := hbad.out h1; go_wp2; go_ret
       exact ⟨rfl, H4.out⟩
      | true =>
       have q0 : w4.cell? ⟨w.heap.size, 0, none⟩ = some (.string f0) := (blk_cell B4.out 0).trans rfl; have q1 : w4.cell? ⟨w.heap.size, 1, none⟩ = some (.string f1) := (blk_cell B4.out 1).trans rfl; have q2 : w4.cell? ⟨w.heap.size, 2, none⟩ = some (.slice A2 l2.length c2) := (blk_cell B4.out 2).trans rfl; have q3 : w4.cell? ⟨w.heap.size, 3, none⟩ = some (.int .i64 f3) := (blk_cell B4.out 3).trans rfl; have q4 : w4.cell? ⟨w.heap.size, 4, none⟩ = some (.int .i64 f4) := (blk_cell B4.out 4).trans rfl; have q5 : w4.cell? ⟨w.heap.size, 5, none⟩ = some (.slice (some ad) l5.length c5) := (blk_cell B4.out 5).trans rfl; have r0 : w4.cell? ⟨wr.heap.size, 0, none⟩ = some (.string x0) := (blk_cell D4.out 0).trans rfl; have r1 : w4.cell? ⟨wr.heap.size, 1, none⟩ = some (.string x1) := (blk_cell D4.out 1).trans rfl; have CD := Lib.hid (CFd.out w4 H4.out (by omega) x0 x1); rw [Bool.true_and] at hok; generalize findM 0 l5 x0 x1 = fm at *; go_wp2_with fail; refine CD.out.mono ?_; rintro e w5 ⟨rfl, hb5⟩; have B5 := Lib.hid (blk_below B4.out hb5); have H5 := Lib.hid (H4.out.trans (hb5.mono H4.out.size)); clear CD hb5 B4 D4 H4 q0 q1 q2 q3 q4 q5 r0 r1
       by_cases hf : fm = (j : Int)
       ·have hne : (fm != (j : Int)) = false := bne_eq_false_iff_eq.2 hf
        have h1 : Hid (ok = true) := Lib.hid (hok.out.trans (beq_iff_eq.2 hf)); clear hf; go_wp2
        exact ⟨⟨j + 1, by omega, by push_cast; rfl, Lib.hid (by rw [hst.out, h1.out, Bool.true_and]), B5, H5⟩, by simp [intOf]; omega⟩
       ·have hne : (fm != (j : Int)) = true := bne_iff_ne.2 hf
        have h1 := hok.out.trans (beq_eq_false_iff_ne.2 hf); obtain rfl := hbad.out h1; clear hf; go_wp2; go_ret
        exact ⟨rfl, H5.out⟩
     ·have hjd : decide (j < l5.length) = false := decide_eq_false hlt
      have h1 := HT.out; rw [List.drop_eq_nil_of_le (by omega), msB] at h1; have h2 := hr.out; rw [h1] at h2; simp at h2; subst h2; clear h1; go_wp2; go_ret
      exact ⟨rfl, H2.out⟩
theorem valid_size {s : ByteArray} (h : validB s = true) : s.size ≤ 60 := by
 unfold validB at h; rw [Bool.and_eq_true] at h
 exact of_decide_eq_true h.1
theorem ifB_mem {l : List ByteArray} {f0 : ByteArray} : ∀ (r : List ByteArray) (j : Nat), ifB l f0 j r = true → ∀ n ∈ r, validB n = true
 | [], _, _ => fun n hn => by cases hn
 | m :: r, j, h => by
  rw [ifB, Bool.and_eq_true] at h; intro n hn
  rcases List.mem_cons.1 hn with rfl | hn
  ·have := h.1
   unfold ifOk at this; rw [Bool.and_eq_true] at this
   exact this.1
  ·exact ifB_mem r (j + 1) h.2 n hn
theorem msB_mem {l : List S94} {b : Bool} : ∀ (r : List S94) (j : Nat), msB l b j r = true → ∀ m ∈ r, methB m b = true
 | [], _, _ => fun n hn => by cases hn
 | m :: r, j, h => by
  rw [msB, Bool.and_eq_true] at h; intro n hn
  rcases List.mem_cons.1 hn with rfl | hn
  ·have := h.1
   unfold mOk at this; rw [Bool.and_eq_true] at this
   exact this.1
  ·exact msB_mem r (j + 1) h.2 n hn
theorem meth_code {m : S94} {b : Bool} (h : methB m b = true) : m.f5.length ≤ 200 := by
 unfold methB at h; rw [Bool.and_eq_true, Bool.and_eq_true] at h; have h2 := h.2.2
 by_cases ha : Go.bits .and .i64 m.f2 1024 = 0
 ·rw [if_pos ha] at h2
  simp only [Bool.and_eq_true] at h2; have h3 := h2.2.2.2.2; unfold codeB wthB at h3; simp only [Bool.and_eq_true, decide_eq_true_eq] at h3
  omega
 ·rw [if_neg ha] at h2
  simp only [Bool.and_eq_true, beq_iff_eq] at h2
  omega
theorem chk_sizes {c : S40} (h : chkC c = 0) : c.f0.size ≤ 60 ∧ c.f1.size ≤ 60 ∧ c.f2.length ≤ 20 ∧ (∀ n ∈ c.f2, n.size ≤ 60) ∧ c.f5.length ≤ 40 ∧ ∀ m ∈ c.f5, m.f5.length ≤ 200 := by
 have hs : soundB c = true := by
  cases hs : soundB c with
  | true => rfl
  | false => unfold chkC at h; rw [hs] at h; cases h
 unfold soundB headB at hs; simp only [Bool.and_eq_true, Bool.not_eq_true', decide_eq_false_iff_not] at hs; obtain ⟨h5, h2, ⟨v0, v1, _, _, hi, _⟩, hm⟩ := hs
 exact ⟨valid_size v0, valid_size v1, by omega, fun n hn => valid_size (ifB_mem _ _ hi n hn), by omega, fun m hm2 => meth_code (msB_mem _ _ hm m hm2)⟩
end Go.Proofs.YtaipkdglhfhhiaaDoor.Pt

namespace Go.Proofs.YtaipkdglhfhhiaaDoor.Hi
open Go Go.RowKit Go.Proofs.YtaipkdglhfhhiaaDoor.Nm Go.Proofs.YtaipkdglhfhhiaaDoorW.PrintWords Go.Proofs.YtaipkdglhfhhiaaDoorW.PrintLast Go.Proofs.YtaipkdglhfhhiaaDoorW.PrintMore Go.Proofs.YtaipkdglhfhhiaaDoor.Pt
set_option linter.unusedVariables false
set_option linter.unusedSimpArgs false
set_option maxHeartbeats 4000000
set_option maxRecDepth 100000
def ifsF (es : List Ent) (c : S40) : List ByteArray → Int × List Int
 | [] => (0, [])
 | n :: l => if (aboveF es c n true).2 = 0 then ((ifsF es c l).1, (aboveF es c n true).1 :: (ifsF es c l).2) else ((aboveF es c n true).2, [])
def defF (r : Int) (es : List Ent) (c : S40) : List Ent × Int × Int :=
 if r ≠ 0 then (es, 0, r) else if es.length ≥ 300 then (es, 0, 5) else if (nameF es c.f0).2 = 0 then (es, 0, 25) else
 if (aboveF es c c.f1 false).2 ≠ 0 then (es, 0, (aboveF es c c.f1 false).2) else if (ifsF es c c.f2).1 ≠ 0 then (es, 0, (ifsF es c c.f2).1) else
 (es ++ [putE es c (aboveF es c c.f1 false).1 (ifsF es c c.f2).2], es.length, 0)
structure Good (es : List Ent) : Prop where
 fine : ∀ x ∈ es, Fine x
 tree : Tree es
 clo : ∀ x ∈ es, Rng es.length x.clo ∧ 0 ≤ x.depth ∧ x.depth ≤ es.length
 len : es.length ≤ 300
theorem ifsF_take (es : List Ent) (c : S40) : ∀ (l : List ByteArray) (k : Nat), (∀ (j : Nat) (n : ByteArray), j < k → l[j]? = some n → (aboveF es c n true).2 = 0) → (∀ (n : ByteArray), l[k]? = some n → (aboveF es c n true).2 ≠ 0 → (ifsF es c l).1 = (aboveF es c n true).2) ∧ (l.length ≤ k → ifsF es c l = (0, l.map fun n => (aboveF es c n true).1))
 | [], k, _ => ⟨fun n h => by simp at h, fun _ => rfl⟩
 | m :: l, 0, _ => ⟨fun n h hn => by
   simp at h; subst h; unfold ifsF
   rw [if_neg hn], fun h => by simp at h⟩
 | m :: l, k + 1, h => by
  have h0 := h 0 m (by omega) rfl; obtain ⟨h1, h2⟩ := ifsF_take es c l k (fun j n hj hn => h (j + 1) n (by omega) hn); refine ⟨fun n hn hne => ?_, fun hl => ?_⟩
  ·unfold ifsF
   rw [if_pos h0]
   exact h1 n hn hne
  ·have h3 := h2 (by simpa using hl)
   unfold ifsF; rw [if_pos h0, h3]
   rfl
theorem nameF_in {es : List Ent} {s : ByteArray} (h : (nameF es s).2 = 0) : 0 ≤ (nameF es s).1 ∧ (nameF es s).1 < es.length ∧ (ent es (nameF es s).1).c.f0 = s := by
 unfold nameF at h ⊢
 cases hf : (es.map (·.c.f0)).findIdx? (fun t => decide (t = s)) with
 | none => rw [hf] at h; simp at h
 | some i =>
  obtain ⟨hi, hs, _⟩ := List.findIdx?_eq_some_iff_getElem.1 hf; have hs := of_decide_eq_true hs; rw [List.length_map] at hi; refine ⟨by simp, by simpa using hi, ?_⟩; have := ent_get (List.getElem?_eq_getElem hi)
  show (ent es (i : Int)).c.f0 = s
  rw [this]
  simpa using hs
theorem nameF_not {es : List Ent} {s : ByteArray} (h : ¬ (nameF es s).2 = 0) : nameF es s = (0, 6) ∧ s ∉ es.map (·.c.f0) := by
 unfold nameF at h ⊢
 cases hf : (es.map (·.c.f0)).findIdx? (fun t => decide (t = s)) with
 | none =>
  refine ⟨rfl, fun hm => ?_⟩; rw [List.findIdx?_eq_none_iff] at hf; have := hf s hm; simp at this
 | some i => rw [hf] at h; simp at h
theorem aboveF_in {es : List Ent} {c : S40} {n : ByteArray} {want : Bool} (h : (aboveF es c n want).2 = 0) : 0 ≤ (aboveF es c n want).1 ∧ (aboveF es c n want).1 < es.length ∧ (aboveF es c n want).1 = (nameF es n).1 ∧ (nameF es n).2 = 0 := by
 unfold aboveF at h ⊢
 split at h
 ·rename_i h0
  rw [if_pos h0]; have h1 := nameF_in h0; unfold fitF at h ⊢
  split at h
  ·simp at h
  ·split at h
   ·simp at h
   ·split at h
    ·simp at h
    ·rename_i a b c
     rw [if_neg a, if_neg b, if_neg c]
     exact ⟨h1.1, h1.2.1, rfl, h0⟩
 ·simp at h
theorem fin_no {w W : World} {base g : Nat} {v : Value} {mb : Nat} {ps : List Nat} {es : List Ent} (h : WIn w base g v mb ps es) (hbs : base ≤ w.heap.size) (hb : Below w.heap.size w W) {V : List Ent × Int × Int} {err : Int} (hV : (es, (0 : Int), err) = V) :
  Ending.returned (.tuple #[.int .i64 0, .int .i64 err]) = Ending.returned (.tuple #[.int .i64 V.2.1, .int .i64 V.2.2]) ∧ ∃ v' ps', WIn W base g v' mb ps' V.1 ∧ Below base w W ∧ KeptT w W := by
 subst hV
 exact ⟨rfl, v, ps, h.below hb, hb.mono hbs, KeptT.of_below hb⟩
theorem define_any (w : World) (base g : Nat) (v : Value) (mb : Nat) (ps : List Nat) (es : List Ent) (h : WIn w base g v mb ps es) (hbs : base ≤ w.heap.size) (hg : Good es)
  (f0 f1 : ByteArray) (A2 : Option Addr) (c2 : Nat) (l2 : List ByteArray) (f3 f4 : Int) (A5 : Option Addr) (c5 : Nat) (l5 : List S94) (h2 : Kd.C Kd.string w A2 l2.length l2) (hc2 : l2.length ≤ c2) (h5 : Kd.C k94 w A5 l5.length l5) (hc5 : l5.length ≤ c5)
  (r : Int) (hr : chkC ⟨f0, f1, l2, f3, f4, l5⟩ = r) (hck : r = 0 → f0.size ≤ 1000 ∧ f1.size ≤ 1000 ∧ l2.length ≤ 1000 ∧ (∀ n ∈ l2, n.size ≤ 1000) ∧ Short l5) :
  Calls Tryd.prog 11 #[.pointer (some ⟨g, 0, none⟩), .agg #[.string f0, .string f1, .slice A2 l2.length c2, .int .i64 f3, .int .i64 f4, .slice A5 l5.length c5]] w fun e w' =>
   e = .returned (.tuple #[.int .i64 (defF r es ⟨f0, f1, l2, f3, f4, l5⟩).2.1, .int .i64 (defF r es ⟨f0, f1, l2, f3, f4, l5⟩).2.2]) ∧ ∃ v' ps', WIn w' base g v' mb ps' (defF r es ⟨f0, f1, l2, f3, f4, l5⟩).1 ∧ Below base w w' ∧ KeptT w w' := by
 generalize hV : defF r es ⟨f0, f1, l2, f3, f4, l5⟩ = V; replace hV := Lib.hid hV; have B0 := Lib.hid (blk_new w (.cells #[.string f0, .string f1, .slice A2 l2.length c2, .int .i64 f3, .int .i64 f4, .slice A5 l5.length c5] 40)); have AB : Hid (Below w.heap.size w (w.alloc (.cells #[.string f0, .string f1, .slice A2 l2.length c2, .int .i64 f3, .int .i64 f4, .slice A5 l5.length c5] 40))) := Lib.hid ((Below.refl _ _).alloc (Nat.le_refl _) _); have HW := Lib.hid h; have H2 := Lib.hid h2; have H5 := Lib.hid h5; have CK := Lib.hid (fun (W : World) (hb : Below w.heap.size w W) => chk_any f0 f1 A2 c2 l2 f3 f4 A5 c5 l5 W (Kd.C_below h2 hb) hc2 (Kd.C_below h5 hb) hc5); rw [hr] at CK; have HK := Lib.hid hck; have HG := Lib.hid hg; clear h h2 h5 hck hg hr; have C1 := Lib.hid (CK.out _ AB.out); go_enter Tryd.func11, Tryd.ntmps11; go_wp2_with fail; refine C1.out.mono ?_; rintro e w1 ⟨rfl, hb1⟩; have HB := Lib.hid (AB.out.trans (hb1.mono AB.out.size)); have B1 := Lib.hid (blk_below B0.out hb1); clear hb1 C1 CK AB B0; have HW1 := Lib.hid (HW.out.below HB.out)
 by_cases h0 : r = 0
 ·subst h0
  obtain ⟨s0, s1, s2, s3, s5⟩ := HK.out rfl; replace s3 := Lib.hid s3; replace s5 := Lib.hid s5; have q0 : w1.cell? ⟨g, 0, none⟩ = some v := (blk_cell HW1.out.blk 0).trans rfl; have q1 : w1.cell? ⟨g, 1, none⟩ = some (.map (some mb)) := (blk_cell HW1.out.blk 1).trans rfl; obtain ⟨Av, cv, rfl⟩ := Kd.R_slice HW.out.row; have hpl := Lib.hid HW.out.len
  by_cases h300 : es.length ≥ 300
  ·have hd : decide ((ps.length : Int) ≥ 300) = true := decide_eq_true (by rw [hpl.out]; omega)
   have hV2 : Hid ((es, (0 : Int), (5 : Int)) = V) := Lib.hid (by rw [← hV.out, defF, if_neg (by simp), if_pos h300]); clear hV; go_wp2; go_ret2
   exact fin_no HW.out hbs HB.out hV2.out
  ·have hd : decide ((ps.length : Int) ≥ 300) = false := decide_eq_false (by rw [hpl.out]; omega)
   have hlen : es.length ≤ 1000 := by omega
   have hl3 := Lib.hid (show ¬ es.length ≥ 300 from h300); clear h300; obtain ⟨D, hD, hS⟩ := HW1.out.map; obtain ⟨vi, pi_, hrun, hvi⟩ := hD.drew.look_ok (Maps.string_keyed Tryd.underlying9) Tryd.underlying60 (zeroInt _) (plainElem_int Tryd.underlying3 (by decide)) (Go.WideMaps.keyOf_string_mk Tryd.underlying9 (s := f0) (by unfold maxLen; omega)); obtain ⟨ci, rfl, hci, _⟩ := plainElem_int_inv Tryd.underlying3 hvi; have hci := Lib.hid (congrArg Prod.fst hci); have LN := Lib.hid (look_name hS f0 ci hci.out); clear hvi hD hS; have y0 : w1.cell? ⟨w.heap.size, 0, none⟩ = some (.string f0) := (blk_cell B1.out 0).trans rfl; have y1 : w1.cell? ⟨w.heap.size, 1, none⟩ = some (.string f1) := (blk_cell B1.out 1).trans rfl; have y2 : w1.cell? ⟨w.heap.size, 2, none⟩ = some (.slice A2 l2.length c2) := (blk_cell B1.out 2).trans rfl; have y3 : w1.cell? ⟨w.heap.size, 3, none⟩ = some (.int .i64 f3) := (blk_cell B1.out 3).trans rfl; have y4 : w1.cell? ⟨w.heap.size, 4, none⟩ = some (.int .i64 f4) := (blk_cell B1.out 4).trans rfl; have y5 : w1.cell? ⟨w.heap.size, 5, none⟩ = some (.slice A5 l5.length c5) := (blk_cell B1.out 5).trans rfl
   cases hh : Maps.has D (.string f0.data.toList)
   ·rw [hh] at hrun
    have hnm := Lib.hid (LN.out.2 hh); have hnn : Hid (¬ (nameF es f0).2 = 0) := Lib.hid (by rw [hnm.out]; decide); clear LN hh; go_wp2; go_region; go_wp2_with fail; clear hrun q1; have AB := Lib.hid (above_any w1.drew base g _ mb ps es (HW1.out.below (below_drew1 (Below.refl _ _))) HG.out.fine ⟨f0, f1, l2, f3, f4, l5⟩ (.string f1) (.slice A2 l2.length c2) (.slice A5 l5.length c5) f1 false (by show f0.size < _; omega) (by omega) hlen); refine AB.out.mono ?_; rintro e w2 ⟨rfl, hb2⟩; have B2 := Lib.hid (blk_below (blk_drew B1.out) hb2); have HB2 := Lib.hid ((below_drew1 HB.out).trans (hb2.mono HB.out.size)); clear AB B1 HB hb2 y0 y1 y2 y3 y4 y5 HW1 q0
    by_cases he : (aboveF es ⟨f0, f1, l2, f3, f4, l5⟩ f1 false).2 = 0
    ·have hsup := Lib.hid (aboveF_in he)
     have he1 := Lib.hid he; generalize hx : (aboveF es ⟨f0, f1, l2, f3, f4, l5⟩ f1 false).1 = sup at *; rw [he]; replace hx := Lib.hid hx; have y2 : w2.cell? ⟨w.heap.size, 2, none⟩ = some (.slice A2 l2.length c2) := (blk_cell B2.out 2).trans rfl; clear he; go_wp2_with fail
     go_loopw [11, 54] (fun v11 v54 wr => ∃ j : Nat, j ≤ l2.length ∧ v54 = .int .i64 j ∧ Hid (Kd.R (Kd.int .i64) 3 wr w.heap.size (fun _ => True) v11 ((l2.take j).map fun n => (aboveF es ⟨f0, f1, l2, f3, f4, l5⟩ n true).1)) ∧ Hid (∀ (i : Nat) (n : ByteArray), i < j → l2[i]? = some n → (aboveF es ⟨f0, f1, l2, f3, f4, l5⟩ n true).2 = 0) ∧
      Hid (wr.heap[w.heap.size]? = some (.cells #[.string f0, .string f1, .slice A2 l2.length c2, .int .i64 f3, .int .i64 f4, .slice A5 l5.length c5] 40 (0, 0))) ∧ Hid (Below w.heap.size w wr)) (fun _ v54 _ => l2.length - (intOf v54).toNat)
     case atStart => exact ⟨0, Nat.zero_le _, rfl, Lib.hid (Kd.R_nil _ _ _ _ _), Lib.hid (fun i n hi => absurd hi (by omega)), B2, HB2⟩
     case round =>
      clear B2 HB2 y2; obtain ⟨j, hj, rfl, RR, HE, B2, HB2⟩ := hrel; have y0 : wr.cell? ⟨w.heap.size, 0, none⟩ = some (.string f0) := (blk_cell B2.out 0).trans rfl; have y1 : wr.cell? ⟨w.heap.size, 1, none⟩ = some (.string f1) := (blk_cell B2.out 1).trans rfl; have y2 : wr.cell? ⟨w.heap.size, 2, none⟩ = some (.slice A2 l2.length c2) := (blk_cell B2.out 2).trans rfl; have y3 : wr.cell? ⟨w.heap.size, 3, none⟩ = some (.int .i64 f3) := (blk_cell B2.out 3).trans rfl; have y4 : wr.cell? ⟨w.heap.size, 4, none⟩ = some (.int .i64 f4) := (blk_cell B2.out 4).trans rfl; have y5 : wr.cell? ⟨w.heap.size, 5, none⟩ = some (.slice A5 l5.length c5) := (blk_cell B2.out 5).trans rfl
      by_cases hlt : j < l2.length
      ·obtain ⟨ad0, cc, rfl, hcl, hKK, hic⟩ := Kd.C_get H2.out ⟨#[]⟩ (j : Int) (by omega) (by omega)
       obtain rfl : cc = [.string (l2.getD j ⟨#[]⟩)] := hKK; have hic := hic 0 _ rfl; rw [show Kd.string.sz = 1 from rfl, Nat.mul_one, Nat.add_zero, Int.toNat_natCast] at hic
       have hx2 : l2[j]? = some (l2.getD j ⟨#[]⟩) := by rw [List.getD_eq_getElem?_getD, List.getElem?_eq_getElem hlt]; rfl
       have hns := s3.out _ (List.mem_of_getElem? hx2); generalize l2.getD j ⟨#[]⟩ = n at *; replace hx2 := Lib.hid hx2; have hic1 := pw_cell_below HB2.out hic; replace hic := Lib.hid hic; have hjd : decide (j < l2.length) = true := decide_eq_true hlt; have AB := Lib.hid (above_any wr base g _ mb ps es (HW.out.below HB2.out) HG.out.fine ⟨f0, f1, l2, f3, f4, l5⟩ (.string f1) (.slice (some ad0) l2.length c2) (.slice A5 l5.length c5) n true (by show f0.size < _; omega) (by omega) hlen); go_wp2_with fail; refine AB.out.mono ?_; rintro e w3 ⟨rfl, hb3⟩; have B3 := Lib.hid (blk_below B2.out hb3); have HB3 := Lib.hid (HB2.out.trans (hb3.mono HB2.out.size)); have R3 := Lib.hid (Kd.R_below RR.out hb3); clear AB B2 HB2 RR hb3 y0 y1 y2 y3 y4 y5 hic1
       by_cases hee : (aboveF es ⟨f0, f1, l2, f3, f4, l5⟩ n true).2 = 0
       ·have hee1 := Lib.hid hee
        rw [hee]; obtain ⟨A11, c11, rfl⟩ := Kd.R_slice R3.out
        have hll : ((l2.take j).map fun n => (aboveF es ⟨f0, f1, l2, f3, f4, l5⟩ n true).1).length ≤ 1000 := by
         rw [List.length_map, List.length_take]; omega
        have hstep : Hid ((l2.take (j + 1)).map (fun n => (aboveF es ⟨f0, f1, l2, f3, f4, l5⟩ n true).1) = (l2.take j).map (fun n => (aboveF es ⟨f0, f1, l2, f3, f4, l5⟩ n true).1) ++ [(aboveF es ⟨f0, f1, l2, f3, f4, l5⟩ n true).1]) := Lib.hid (by
         rw [List.take_add_one, hx2.out, List.map_append]; rfl)
        have HE2 : Hid (∀ (i : Nat) (m : ByteArray), i < j + 1 → l2[i]? = some m → (aboveF es ⟨f0, f1, l2, f3, f4, l5⟩ m true).2 = 0) := Lib.hid (fun i m hi hm => by
         by_cases hij : i = j
         ·subst hij
          rw [hx2.out] at hm
          cases hm
          exact hee1.out
         ·exact HE.out i m (by omega) hm)
        generalize (l2.take j).map (fun n => (aboveF es ⟨f0, f1, l2, f3, f4, l5⟩ n true).1) = ids at *; generalize (aboveF es ⟨f0, f1, l2, f3, f4, l5⟩ n true).1 = idn at *; clear hee HE; go_wp2_with (at_builtin; refine Kd.R_append (Kd.int .i64) (w0 := w) (W := w3) w.heap.size rfl (.tmp 68) (.tmp 70) 43 3 (.int .i64 0) 8 rfl Tryd.underlying43 info_int rfl (by decide) (by omega) _ ids idn [.int .i64 idn] (fun _ => True) (fun _ => False) rfl rfl rfl (fun _ h => h.elim) (fun _ _ => trivial) R3.out HB3.out HB3.out.size (by omega) ?_; intro v1 w4 g1 g2 g3 g4; obtain ⟨A12, c12, rfl⟩ := Kd.R_slice g1; replace g1 := Lib.hid g1; replace g2 := Lib.hid g2; have B4 := Lib.hid (blk_grown (w := w3) B3.out g3 (Kd.R_ne R3.out B3.out (by decide))); clear g3 g4)
        refine ⟨⟨j + 1, by omega, by push_cast; rfl, Lib.hid (by
         have e := g1.out; rw [hstep.out]
         rwa [show (ids ++ [idn]).length = ids.length + 1 by simp] at e), HE2, B4, g2⟩, by simp [intOf]; omega⟩
       ·have hne : ((aboveF es ⟨f0, f1, l2, f3, f4, l5⟩ n true).2 != 0) = true := bne_iff_ne.2 hee
        have hV2 : Hid ((es, (0 : Int), (aboveF es ⟨f0, f1, l2, f3, f4, l5⟩ n true).2) = V) := Lib.hid (by
         rw [← hV.out, defF, if_neg (by simp), if_neg hl3.out, if_neg hnn.out, if_neg (fun h => h he1.out)]; have e1 := (ifsF_take es ⟨f0, f1, l2, f3, f4, l5⟩ l2 j HE.out).1 n hx2.out hee
         show _ = if (ifsF es ⟨f0, f1, l2, f3, f4, l5⟩ l2).1 ≠ 0 then (es, (0 : Int), (ifsF es ⟨f0, f1, l2, f3, f4, l5⟩ l2).1) else _
         rw [if_pos (by rw [e1]; exact hee), e1])
        clear hV hee HE R3; generalize (aboveF es ⟨f0, f1, l2, f3, f4, l5⟩ n true).2 = err at *; go_wp2; go_ret2
        exact fin_no HW.out hbs HB3.out hV2.out
      ·have hjl : j = l2.length := by omega
       have hjd : decide (j < l2.length) = false := decide_eq_false hlt; have e2 := (ifsF_take es ⟨f0, f1, l2, f3, f4, l5⟩ l2 j HE.out).2 (by omega)
       have hV2 : Hid ((es ++ [putE es ⟨f0, f1, l2, f3, f4, l5⟩ sup (l2.map fun n => (aboveF es ⟨f0, f1, l2, f3, f4, l5⟩ n true).1)], (es.length : Int), (0 : Int)) = V) := Lib.hid (by
        rw [← hV.out, defF, if_neg (by simp), if_neg hl3.out, if_neg hnn.out, if_neg (fun h => h he1.out)]
        show _ = if (ifsF es ⟨f0, f1, l2, f3, f4, l5⟩ l2).1 ≠ 0 then (es, (0 : Int), (ifsF es ⟨f0, f1, l2, f3, f4, l5⟩ l2).1) else _
        rw [if_neg (by rw [e2]; simp), e2, hx.out])
       have hRng : Hid (∀ i ∈ (l2.map fun n => (aboveF es ⟨f0, f1, l2, f3, f4, l5⟩ n true).1), 0 ≤ i ∧ i < es.length) := Lib.hid (fun i hi => by
        obtain ⟨n, hn, rfl⟩ := List.mem_map.1 hi; obtain ⟨q, hq⟩ := List.getElem?_of_mem hn
        have hq2 : q < l2.length := by
         rcases Nat.lt_or_ge q l2.length with h | h
         ·exact h
         ·rw [List.getElem?_eq_none h] at hq; cases hq
        have := aboveF_in (HE.out q n (by omega) hq)
        exact ⟨this.1, this.2.1⟩)
       rw [hjl, List.take_length] at RR; clear hV e2 HE
       have hill : (l2.map fun n => (aboveF es ⟨f0, f1, l2, f3, f4, l5⟩ n true).1).length ≤ 1000 := by rw [List.length_map]; omega
       generalize (l2.map fun n => (aboveF es ⟨f0, f1, l2, f3, f4, l5⟩ n true).1) = ids at *; obtain ⟨A11, c11, rfl⟩ := Kd.R_slice RR.out; have CP := Lib.hid (copied_any f0 f1 A2 c2 l2 f3 f4 A5 c5 l5 wr (Kd.C_below H2.out HB2.out) (Kd.C_below H5.out HB2.out) (by omega) s5.out); go_wp2_with fail; clear y0 y1 y2 y3 y4 y5; refine CP.out.mono ?_; rintro e w3 ⟨v2, v5, rfl, R2, R5, hb3⟩; have HB3 := Lib.hid (HB2.out.trans (hb3.mono HB2.out.size)); have hsz := HB2.out.size; have PU := Lib.hid (put_any w3 base g _ mb ps es (HW.out.below HB3.out) (Nat.le_trans hbs HB3.out.size) f0 f1 v2 v5 l2 f3 f4 l5 (Kd.R_lower R2 (by omega)) (Kd.R_lower R5 (by omega)) sup (.inr ⟨hsup.out.1, hsup.out.2.1⟩) A11 c11 ids (Kd.R_reads' (Kd.R_below RR.out hb3)).2.2 hRng.out hlen (fun x hx => ⟨(HG.out.clo x hx).1, (HG.out.clo x hx).2.1, by have := (HG.out.clo x hx).2.2; omega⟩) hill (nameF_not hnn.out).2 (by omega)); clear CP R2 R5 hb3 RR HB2 B2; go_wp2_with fail; refine PU.out.mono ?_; rintro e w4 ⟨rfl, v', p, I4, hb4, hk4⟩; replace I4 := Lib.hid I4; have HB4 := Lib.hid ((HB3.out.mono hbs).trans hb4); have HK4 := Lib.hid ((KeptT.of_below HB3.out).trans hk4); clear PU hb4 hk4; go_wp2; go_ret2; have hV3 := hV2.out; clear hV2; subst hV3
       exact ⟨rfl, _, _, I4.out, HB4.out, HK4.out⟩
    ·have hne : ((aboveF es ⟨f0, f1, l2, f3, f4, l5⟩ f1 false).2 != 0) = true := bne_iff_ne.2 he
     have hV2 : Hid ((es, (0 : Int), (aboveF es ⟨f0, f1, l2, f3, f4, l5⟩ f1 false).2) = V) := Lib.hid (by
      rw [← hV.out, defF, if_neg (by simp), if_neg hl3.out, if_neg hnn.out]
      show _ = if (aboveF es ⟨f0, f1, l2, f3, f4, l5⟩ f1 false).2 ≠ 0 then _ else _
      rw [if_pos he])
     clear hV he; generalize (aboveF es ⟨f0, f1, l2, f3, f4, l5⟩ f1 false).2 = err at *; go_wp2; go_ret2
     exact fin_no HW.out hbs HB2.out hV2.out
   ·rw [hh] at hrun
    obtain ⟨n1, n2, n3⟩ := LN.out.1 hh; have hV2 : Hid ((es, (0 : Int), (25 : Int)) = V) := Lib.hid (by rw [← hV.out, defF, if_neg (by simp), if_neg hl3.out, if_pos (show (nameF es f0).2 = 0 from n2)]); clear n1 n2 n3 LN hh hV; go_wp2; go_region; go_wp2; go_ret2
    exact fin_no HW.out hbs (below_drew1 HB.out) hV2.out
 ·have hne : (r != 0) = true := bne_iff_ne.2 h0
  have hV2 : Hid ((es, (0 : Int), r) = V) := Lib.hid (by rw [← hV.out, defF, if_pos h0]); clear hV h0; go_wp2; go_ret2
  exact fin_no HW.out hbs HB.out hV2.out
end Go.Proofs.YtaipkdglhfhhiaaDoor.Hi

namespace Go.Proofs.YtaipkdglhfhhiaaDoor.Hi
open Go Go.RowKit Go.Proofs.YtaipkdglhfhhiaaDoorW.PrintWords Go.Proofs.YtaipkdglhfhhiaaDoorW.PrintLast Go.Proofs.YtaipkdglhfhhiaaDoorW.PrintMore Go.Proofs.YtaipkdglhfhhiaaDoor.Pt
set_option linter.unusedVariables false
set_option linter.unusedSimpArgs false
set_option maxHeartbeats 2000000
set_option maxRecDepth 100000
def inM (es : List Ent) (c i : Int) : Bool := inB es c && decide (0 ≤ i ∧ i < (ent es c).c.f5.length)
def methF (es : List Ent) (c i : Int) : S94 × Int := if inM es c i then (rd_T94 (ent es c).c.f5 i, 0) else (z94, 3)
end Go.Proofs.YtaipkdglhfhhiaaDoor.Hi

namespace Go.Proofs.YtaipkdglhfhhiaaDoor.Hi
open Go Go.RowKit Go.Proofs.YtaipkdglhfhhiaaDoorW.PrintWords Go.Proofs.YtaipkdglhfhhiaaDoorW.PrintLast Go.Proofs.YtaipkdglhfhhiaaDoorW.PrintMore Go.Proofs.YtaipkdglhfhhiaaDoor.Pt
set_option linter.unusedVariables false
set_option linter.unusedSimpArgs false
set_option maxHeartbeats 2000000
set_option maxRecDepth 100000
def EntAt (w : World) (es : List Ent) (i : Int) (p : Nat) : Prop := ∃ A2 c2 A5 c5 A8 c8, w.heap[p]? = some (.cells #[.string (ent es i).c.f0, .string (ent es i).c.f1, .slice A2 (ent es i).c.f2.length c2, .int .i64 (ent es i).c.f3, .int .i64 (ent es i).c.f4, .slice A5 (ent es i).c.f5.length c5, .int .i64 (ent es i).above, .int .i64 (ent es i).depth, .slice A8 (ent es i).clo.length c8] 81 (0, 0))
theorem EntAt.below {w w1 : World} {es : List Ent} {i : Int} {p : Nat} (h : EntAt w es i p) (hb : Below w.heap.size w w1) : EntAt w1 es i p := by
 obtain ⟨A2, c2, A5, c5, A8, c8, h⟩ := h
 exact ⟨A2, c2, A5, c5, A8, c8, blk_below h hb⟩
theorem EntAt.up {w : World} {es : List Ent} {i : Int} {p : Nat} (h : EntAt w es i p) : w.cell? ⟨p, 6, none⟩ = some (.int .i64 (ent es i).above) ∧ w.cell? ⟨p, 7, none⟩ = some (.int .i64 (ent es i).depth) := by
 obtain ⟨A2, c2, A5, c5, A8, c8, h⟩ := h
 exact ⟨(blk_cell h 6).trans rfl, (blk_cell h 7).trans rfl⟩
theorem climb_up {es : List Ent} (ht : Tree es) {c d : Int} (h0 : 0 ≤ c) (h1 : c < es.length) (hd : 0 ≤ d) (hg : (ent es c).depth > d) : 0 ≤ (ent es c).above ∧ (ent es c).above < c ∧ climb es es.length c d = climb es es.length (ent es c).above d := by
 rcases ht.at_ h0 h1 with ⟨_, hz⟩ | ⟨h2, h3, hz⟩
 ·omega
 ·refine ⟨h2, h3, ?_⟩
  obtain ⟨N, hN⟩ : ∃ N, es.length = N + 1 := ⟨es.length - 1, by omega⟩
  have hm := climb_more ht N (ent es c).above d h2 (by omega) hd (by have := (ht.depth_ h2 (by omega)).2; omega) 1; rw [hN]; rw [hm]
  show (if (ent es c).depth > d then climb es N (ent es c).above d else c) = _
  rw [if_pos hg]
theorem climb_end {es : List Ent} {c d : Int} (hg : ¬ (ent es c).depth > d) : ∀ N, climb es N c d = c
 | 0 => rfl
 | N + 1 => by
  show (if (ent es c).depth > d then climb es N (ent es c).above d else c) = _
  rw [if_neg hg]
end Go.Proofs.YtaipkdglhfhhiaaDoor.Hi

namespace Go.Proofs.YtaipkdglhfhhiaaDoor.Hi
open Go Go.RowKit Go.Proofs.YtaipkdglhfhhiaaDoor.Nm Go.Proofs.YtaipkdglhfhhiaaDoorW.PrintWords Go.Proofs.YtaipkdglhfhhiaaDoorW.PrintLast Go.Proofs.YtaipkdglhfhhiaaDoorW.PrintMore Go.Proofs.YtaipkdglhfhhiaaDoor.Pt
set_option linter.unusedVariables false
set_option linter.unusedSimpArgs false
set_option maxHeartbeats 2000000
def homeF (es : List Ent) (id : Int) : Int × ByteArray × S40 × Int := if 0 ≤ id ∧ id < es.length then ((es.getD id.toNat zE).c.f4, pkgB (es.getD id.toNat zE).c.f0, (es.getD id.toNat zE).c, 0) else (0, ⟨#[]⟩, z40, 3)
end Go.Proofs.YtaipkdglhfhhiaaDoor.Hi

namespace Go.Proofs.YtaipkdglhfhhiaaDoor.Pt
open Go Go.RowKit Go.Proofs.YtaipkdglhfhhiaaDoor.Nm Go.Proofs.YtaipkdglhfhhiaaDoor.Hi Go.Proofs.YtaipkdglhfhhiaaDoorW.PrintWords Go.Proofs.YtaipkdglhfhhiaaDoorW.PrintLast Go.Proofs.YtaipkdglhfhhiaaDoorW.PrintMore
set_option linter.unusedVariables false
set_option linter.unusedSimpArgs false
def hier_World_Class.f (a0 : List Hi.Ent) (a1 : Int) : Option (ByteArray × ByteArray × (List ByteArray) × Int × Int × (List (S94)) × Int) :=
 some ((classF a0 a1).1.f0, (classF a0 a1).1.f1, (classF a0 a1).1.f2, (classF a0 a1).1.f3, (classF a0 a1).1.f4, (classF a0 a1).1.f5, (classF a0 a1).2)
theorem hier_World_Class.calls (G_ : Nat) (a0 : List Hi.Ent) (a1 : Int) (r1 : ByteArray) (r2 : ByteArray) (r3 : List ByteArray) (r4 : Int) (r5 : Int) (r6 : List (S94)) (r7 : Int) (w : World) (hq0 : WOK w G_ a0) (h : hier_World_Class.f a0 a1 = some (r1, r2, r3, r4, r5, r6, r7)) :
  Calls Tryd.prog 21 #[.pointer (some ⟨G_, 0, none⟩), .int .i64 a1] w fun e w' => ∃ v2_ v5_ : Value, e = .returned (.tuple #[.agg #[.string r1, .string r2, v2_, .int .i64 r4, .int .i64 r5, v5_], .int .i64 r7]) ∧ Kd.R Kd.string 9 w' w.heap.size (fun _ => True) v2_ r3 ∧ Kd.R k94 94 w' w.heap.size (fun _ => True) v5_ r6 ∧ Below w.heap.size w w' := by
 unfold hier_World_Class.f at h; simp only [Option.some.injEq, Prod.mk.injEq] at h; obtain ⟨rfl, rfl, rfl, rfl, rfl, rfl, rfl⟩ := h; obtain ⟨base, v, mb, ps, hi⟩ := hq0.inn; refine (class_any w base G_ v mb ps a0 hi hq0.small a1).mono ?_; rintro e w' ⟨vc, rfl, ⟨v2, v5, rfl, R2, R5⟩, hb⟩
 exact ⟨v2, v5, rfl, R2, R5, hb⟩
def access_homeOf.f (a0 : List Hi.Ent) (a1 : Int) : Option (Int × ByteArray × ByteArray × ByteArray × (List ByteArray) × Int × Int × (List (S94)) × Int) :=
 some ((homeF a0 a1).1, (homeF a0 a1).2.1, (homeF a0 a1).2.2.1.f0, (homeF a0 a1).2.2.1.f1, (homeF a0 a1).2.2.1.f2, (homeF a0 a1).2.2.1.f3, (homeF a0 a1).2.2.1.f4, (homeF a0 a1).2.2.1.f5, (homeF a0 a1).2.2.2)
def hier_World_ByName.f (a0 : List Hi.Ent) (a1 : ByteArray) : Option (Int × Int) := if a1.size ≤ 9223372036854775807 then some (nameF a0 a1) else none
def hier_World_IsIface.f (a0 : List Hi.Ent) (a1 : Int) : Option Bool := some (inB a0 a1 && isI (ent a0 a1).c)
theorem hier_World_IsIface.calls (G_ : Nat) (a0 : List Hi.Ent) (a1 : Int) (r : Bool) (w : World) (hq0 : WOK w G_ a0) (h : hier_World_IsIface.f a0 a1 = some r) :
  Calls Tryd.prog 23 #[.pointer (some ⟨G_, 0, none⟩), .int .i64 a1] w fun e w' => e = .returned (.bool r) ∧ Below w.heap.size w w' := by
 obtain rfl := Option.some.inj h
 exact isIface_any w G_ a0 hq0 a1
def hier_World_SamePackage.f (a0 : List Hi.Ent) (a1 : Int) (a2 : Int) : Option Bool := some (inB a0 a1 && inB a0 a2 && tog (ent a0 a1).c (ent a0 a2).c)
def hier_World_Extends.f (a0 : List Hi.Ent) (a1 : Int) (a2 : Int) : Option Bool := some (extF a0 a1 a2)
def hier_World_Method.f (a0 : List Hi.Ent) (a1_0 : Int) (a1_1 : Int) : Option (ByteArray × ByteArray × Int × Int × Int × (List (S91)) × Int) :=
 some ((methF a0 a1_0 a1_1).1.f0, (methF a0 a1_0 a1_1).1.f1, (methF a0 a1_0 a1_1).1.f2, (methF a0 a1_0 a1_1).1.f3, (methF a0 a1_0 a1_1).1.f4, (methF a0 a1_0 a1_1).1.f5, (methF a0 a1_0 a1_1).2)
def names_Package.f (a0 : ByteArray) : Option ByteArray := if a0.size < 4611686018427387904 then some (pkgB a0) else none
def access_Package_nil.f (a1 : Int) : Option (Int × ByteArray × Int) := some (0, ⟨#[]⟩, 2)
def access_ClassOpen_nil.f (a1 : Int) (a2 : Int) : Option (Bool × Int) := some (false, 2)
def access_TypeOpen_nil.f (a1 : Int) (a2_0 : Int) (a2_1 : ByteArray) : Option (Bool × Int) := some (false, 2)
def access_MethodOpen_nil.f (a1 : Int) (a2_0 : Int) (a2_1 : Int) (a3 : Int) : Option (Bool × Int) := some (false, 2)
end Go.Proofs.YtaipkdglhfhhiaaDoor.Pt

namespace Go.Proofs.YtaipkdglhfhhiaaDoor.Hi
open Go Go.RowKit Go.Proofs.YtaipkdglhfhhiaaDoorW.PrintWords Go.Proofs.YtaipkdglhfhhiaaDoorW.PrintLast Go.Proofs.YtaipkdglhfhhiaaDoorW.PrintMore Go.Proofs.YtaipkdglhfhhiaaDoor.Pt
set_option linter.unusedVariables false
set_option linter.unusedSimpArgs false
set_option maxHeartbeats 2000000
set_option maxRecDepth 100000
theorem R_block {α : Type} (d : Kd α) (e : Nat) {W : World} {base g : Nat} {ok : Nat → Prop} {xs : List α} {inner : List Value} (h : W.heap[g]? = some (.cells inner.toArray e (0, 0))) (hb : base ≤ g) (hok : ok g) (hm : xs.length ≤ maxLen) (hr : Reps (d.M W base (fun k => ok k ∧ some k ≠ some g)) d.sz xs inner) :
  d.R e W base ok (.slice (some ⟨g, 0, none⟩) xs.length xs.length) xs :=
 ⟨fun k hk => by
  have : g = k := by simpa [Value.ownBlock] using hk
  exact this ▸ hok, inner, ⟨hr.1, .inr ⟨g, xs.length, inner.toArray, rfl, hb, h, Nat.le_refl _, hm, by simpa using hr.1, by simp [← hr.1]⟩⟩, hr⟩
def inst (op n : Int) : S91 := ⟨op, n, ⟨#[]⟩, ⟨false, ⟨#[]⟩, ⟨#[]⟩, ⟨#[]⟩⟩⟩
def instC (op n : Int) : List Value := [.int .i64 op, .int .i64 n, .string ⟨#[]⟩, .bool false, .string ⟨#[]⟩, .string ⟨#[]⟩, .string ⟨#[]⟩]
theorem reps_inst (W : World) (base : Nat) (ok : Nat → Prop) (op n : Int) : Reps (k91.M W base ok) k91.sz [inst op n] (instC op n) :=
 (Reps.none _ _).snoc (k91_mkM W base ok (inst op n)) rfl
theorem reps_inst2 (W : World) (base : Nat) (ok : Nat → Prop) (op n op' n' : Int) : Reps (k91.M W base ok) k91.sz [inst op n, inst op' n'] (instC op n ++ instC op' n') :=
 (reps_inst W base ok op n).snoc (k91_mkM W base ok (inst op' n')) rfl
def sObject : ByteArray := ⟨#[79, 98, 106, 101, 99, 116]⟩
def sInit : ByteArray := ⟨#[60, 105, 110, 105, 116, 62]⟩
def sV : ByteArray := ⟨#[40, 41, 86]⟩
def sId : ByteArray := ⟨#[105, 100]⟩
def sI : ByteArray := ⟨#[40, 41, 73]⟩
def sKin : ByteArray := ⟨#[107, 105, 110]⟩
def sLO : ByteArray := ⟨#[40, 41, 76, 79, 98, 106, 101, 99, 116, 59]⟩
def objM : List S94 := [⟨sInit, sV, 1, 1, 0, [inst 38 0]⟩, ⟨sId, sI, 1, 1, 1, [inst 1 7, inst 36 0]⟩, ⟨sKin, sLO, 4, 1, 1, [inst 4 0, inst 37 0]⟩]
def objC : S40 := ⟨sObject, ⟨#[]⟩, [], 33, 0, objM⟩
def methC (g : Nat) : List Value := (([.string sInit, .string sV, .int .i64 1, .int .i64 1, .int .i64 0, .slice (some ⟨g + 1, 0, none⟩) 1 1] : List Value) ++ [.string sId, .string sI, .int .i64 1, .int .i64 1, .int .i64 1, .slice (some ⟨g + 1 + 1, 0, none⟩) 2 2]) ++ [.string sKin, .string sLO, .int .i64 4, .int .i64 1, .int .i64 1, .slice (some ⟨g + 1 + 1 + 1, 0, none⟩) 2 2]
theorem five_new (w : World) (o0 o1 o2 o3 o4 : Obj) : (((((w.alloc o0).alloc o1).alloc o2).alloc o3).alloc o4).heap[w.heap.size]? = some o0 ∧ (((((w.alloc o0).alloc o1).alloc o2).alloc o3).alloc o4).heap[w.heap.size + 1]? = some o1 ∧ (((((w.alloc o0).alloc o1).alloc o2).alloc o3).alloc o4).heap[w.heap.size + 1 + 1]? = some o2 ∧
  (((((w.alloc o0).alloc o1).alloc o2).alloc o3).alloc o4).heap[w.heap.size + 1 + 1 + 1]? = some o3 ∧ (((((w.alloc o0).alloc o1).alloc o2).alloc o3).alloc o4).heap[w.heap.size + 1 + 1 + 1 + 1]? = some o4 ∧ Below w.heap.size w (((((w.alloc o0).alloc o1).alloc o2).alloc o3).alloc o4) := by
 have e0 : (w.alloc o0).heap.size = w.heap.size + 1 := by simp
 have e1 : ((w.alloc o0).alloc o1).heap.size = w.heap.size + 1 + 1 := by simp
 have e2 : (((w.alloc o0).alloc o1).alloc o2).heap.size = w.heap.size + 1 + 1 + 1 := by simp
 have e3 : ((((w.alloc o0).alloc o1).alloc o2).alloc o3).heap.size = w.heap.size + 1 + 1 + 1 + 1 := by simp
 refine ⟨blk_alloc (blk_alloc (blk_alloc (blk_alloc (blk_new w o0) o1) o2) o3) o4, ?_, ?_, ?_, ?_, ?_⟩
 ·have := blk_alloc (blk_alloc (blk_alloc (blk_new (w.alloc o0) o1) o2) o3) o4
  rwa [e0] at this
 ·have := blk_alloc (blk_alloc (blk_new ((w.alloc o0).alloc o1) o2) o3) o4
  rwa [e1] at this
 ·have := blk_alloc (blk_new (((w.alloc o0).alloc o1).alloc o2) o3) o4
  rwa [e2] at this
 ·have := blk_new ((((w.alloc o0).alloc o1).alloc o2).alloc o3) o4
  rwa [e3] at this
 ·exact (((((Below.refl _ _).alloc (Nat.le_refl _) _).alloc (by omega) _).alloc (by omega) _).alloc (by omega) _).alloc (by omega) _
theorem objR {W : World} {base g : Nat} (hb : base ≤ g)
  (h1 : W.heap[g + 1]? = some (.cells (instC 38 0).toArray 91 (0, 0))) (h2 : W.heap[g + 1 + 1]? = some (.cells (instC 1 7 ++ instC 36 0).toArray 91 (0, 0))) (h3 : W.heap[g + 1 + 1 + 1]? = some (.cells (instC 4 0 ++ instC 37 0).toArray 91 (0, 0)))
  (h4 : W.heap[g + 1 + 1 + 1 + 1]? = some (.cells (methC g).toArray 94 (0, 0))) :
  Kd.R k94 94 W base (fun _ => True) (.slice (some ⟨g + 1 + 1 + 1 + 1, 0, none⟩) 3 3) objM := by
 have r1 := R_block k91 91 (base := base) (ok := fun k => True ∧ some k ≠ some (g + 1 + 1 + 1 + 1)) h1 (by omega) ⟨trivial, by simp⟩ (by decide) (reps_inst W base _ 38 0); have r2 := R_block k91 91 (base := base) (ok := fun k => True ∧ some k ≠ some (g + 1 + 1 + 1 + 1)) h2 (by omega) ⟨trivial, by simp⟩ (by decide) (reps_inst2 W base _ 1 7 36 0); have r3 := R_block k91 91 (base := base) (ok := fun k => True ∧ some k ≠ some (g + 1 + 1 + 1 + 1)) h3 (by omega) ⟨trivial, by simp⟩ (by decide) (reps_inst2 W base _ 4 0 37 0); refine R_block k94 94 (xs := objM) h4 (by omega) trivial (by decide) ?_
 exact (((Reps.none _ _).snoc (k94_mkM W base _ ⟨sInit, sV, 1, 1, 0, [inst 38 0]⟩ r1) rfl).snoc (k94_mkM W base _ ⟨sId, sI, 1, 1, 1, [inst 1 7, inst 36 0]⟩ r2) rfl).snoc (k94_mkM W base _ ⟨sKin, sLO, 4, 1, 1, [inst 4 0, inst 37 0]⟩ r3) rfl
theorem object_any (w : World) : Calls Tryd.prog 26 #[] w fun e w' => ∃ v5, e = .returned (.agg #[.string objC.f0, .string objC.f1, .slice none 0 0, .int .i64 objC.f3, .int .i64 objC.f4, v5]) ∧ Kd.R k94 94 w' w.heap.size (fun _ => True) v5 objC.f5 ∧ Below w.heap.size w w' := by
 go_enter Tryd.func26, Tryd.ntmps26; go_wp2; refine bodyPost_ret (results_cell_row rfl _ _ w.heap.size 40 _ (0, 0) _ rfl (five_new _ _ _ _ _ _).1 Tryd.underlying40 rfl (by kernel_rfl)) rfl ?_
 have F := five_new w (.cells #[.string sObject, .string ⟨#[]⟩, .slice none 0 0, .int .i64 33, .int .i64 0, .slice (some ⟨w.heap.size + 1 + 1 + 1 + 1, 0, none⟩) 3 3] 40) (.cells (instC 38 0).toArray 91) (.cells (instC 1 7 ++ instC 36 0).toArray 91) (.cells (instC 4 0 ++ instC 37 0).toArray 91)
  (.cells (methC w.heap.size).toArray 94)
 exact ⟨_, rfl, objR (Nat.le_refl _) F.2.1 F.2.2.1 F.2.2.2.1 F.2.2.2.2.1, F.2.2.2.2.2⟩
end Go.Proofs.YtaipkdglhfhhiaaDoor.Hi

namespace Go.Proofs.YtaipkdglhfhhiaaDoor.Hi
open Go Go.RowKit Go.Proofs.YtaipkdglhfhhiaaDoorW.PrintWords Go.Proofs.YtaipkdglhfhhiaaDoorW.PrintLast Go.Proofs.YtaipkdglhfhhiaaDoorW.PrintMore Go.Proofs.YtaipkdglhfhhiaaDoor.Pt
set_option linter.unusedVariables false
set_option linter.unusedSimpArgs false
set_option maxHeartbeats 2000000
set_option maxRecDepth 100000
def sCloneable : ByteArray := ⟨#[67, 108, 111, 110, 101, 97, 98, 108, 101]⟩
def sSerializable : ByteArray := ⟨#[83, 101, 114, 105, 97, 108, 105, 122, 97, 98, 108, 101]⟩
def ifaceC (s : ByteArray) : S40 := ⟨s, sObject, [], 1537, 0, []⟩
def newE : List Ent := [⟨objC, -1, 0, []⟩, ⟨ifaceC sCloneable, 0, 1, []⟩, ⟨ifaceC sSerializable, 0, 1, []⟩]
theorem WIn.start (w : World) : WIn ((w.alloc (.map #[] 0)).alloc (.cells #[.slice none 0 0, .map (some w.heap.size)] 63)) w.heap.size (w.heap.size + 1) (.slice none 0 0) w.heap.size [] [] := by
 have e0 : (w.alloc (.map #[] 0)).heap.size = w.heap.size + 1 := by simp
 refine ⟨Nat.le_succ _, ?_, Kd.R_nil _ _ _ _ _, rfl, fun j x p hx => by simp at hx, Nat.le_refl _, .map [], ?_, MapSays.nil⟩
 ·have := blk_new (w.alloc (.map #[] 0)) (.cells #[.slice none 0 0, .map (some w.heap.size)] 63)
  rwa [e0] at this
 ·exact (World.ownsMap_made w _ _ _).alloc _
theorem ne_size {a b : ByteArray} (h : a.size ≠ b.size) : a ≠ b := fun e => h (by rw [e])
theorem notIn1 : sCloneable ∉ ([putE [] objC (-1) []] : List Ent).map (·.c.f0) := by
 intro h
 exact ne_size (by decide) (List.mem_singleton.1 h)
theorem notIn2 : sSerializable ∉ ([putE [] objC (-1) [], putE [putE [] objC (-1) []] (ifaceC sCloneable) 0 []] : List Ent).map (·.c.f0) := by
 intro h
 rcases List.mem_cons.1 h with h | h
 ·exact ne_size (by decide) h
 ·exact ne_size (by decide) (List.mem_singleton.1 h)
theorem new_any (w : World) : Calls Tryd.prog 7 #[] w fun e w' => ∃ g v mb ps, e = .returned (.pointer (some ⟨g, 0, none⟩)) ∧ WIn w' w.heap.size g v mb ps newE ∧ Below w.heap.size w w' := by
 have hmm := @run_makeMap Tryd.prog; have S0 := Lib.hid (WIn.start w); have B0 : Hid (Below w.heap.size w ((w.alloc (.map #[] 0)).alloc (.cells #[.slice none 0 0, .map (some w.heap.size)] 63))) := Lib.hid (((Below.refl _ _).alloc (Nat.le_refl _) _).alloc (by simp) _); go_enter Tryd.func7, Tryd.ntmps7; go_wp2_with fail; refine (object_any _).mono ?_; rintro e w1 ⟨v5, rfl, R5, hb1⟩; obtain ⟨A5, c5, rfl⟩ := Kd.R_slice R5; have S1 := Lib.hid (S0.out.below hb1); have B1 := Lib.hid (B0.out.trans (hb1.mono B0.out.size)); have P1 := Lib.hid (put_any w1 w.heap.size (w.heap.size + 1) _ w.heap.size [] [] S1.out B1.out.size objC.f0 objC.f1 (.slice none 0 0) (.slice A5 objC.f5.length c5) [] objC.f3 objC.f4 objC.f5 (Kd.R_nil _ _ _ _ _) (Kd.R_lower R5 B0.out.size) (-1) (.inl rfl) none 0 [] (Kd.C_nil _ _) (fun i hi => by cases hi) (by decide) (fun x hx => by cases hx) (by decide) (by simp) (by decide)); clear S0 B0 R5 hb1; go_wp2_with fail; refine P1.out.mono ?_; rintro e w2 ⟨rfl, v2, p, S2, hb2, hk2⟩; have RB := Lib.hid (blk_new w2 (.cells #[.string sCloneable, .string sSerializable] 9)); have AB := (Below.refl w2.heap.size w2).alloc (Nat.le_refl _) (.cells #[.string sCloneable, .string sSerializable] 9); have S3 := Lib.hid (S2.below AB); have B2 := B1.out.trans hb2; have B3 := Lib.hid (B2.trans (AB.mono B2.size)); clear P1 S1 B1 S2 hb2 hk2 AB B2; go_wp2_with fail; change Code.wp _ _ _ _ (w2.alloc (.cells #[.string sCloneable, .string sSerializable] 9)); generalize w2.alloc (.cells #[.string sCloneable, .string sSerializable] 9) = w3 at *; have q0 : w3.cell? ⟨w2.heap.size, 0, none⟩ = some (.string sCloneable) := (blk_cell RB.out 0).trans rfl
 have P2 := Lib.hid (put_any w3 w.heap.size (w.heap.size + 1) _ w.heap.size _ _ S3.out B3.out.size sCloneable sObject (.slice none 0 0) (.slice none 0 0) [] 1537 0 [] (Kd.R_nil _ _ _ _ _) (Kd.R_nil _ _ _ _ _) 0 (.inr ⟨by omega, by decide⟩) none 0 [] (Kd.C_nil _ _) (fun i hi => by cases hi) (by decide) (fun x hx => by
  rw [List.mem_singleton.1 hx]
  exact ⟨Rng.nil _, by decide, by decide⟩) (by decide) notIn1 (by decide))
 clear S3; refine wp_loop_rounds 3 ?_; rw [rounds_succ]; go_wp2_with fail; refine P2.out.mono ?_; rintro e w4 ⟨rfl, v4, p4, S4, hb4, hk4⟩; have B4 := Lib.hid (B3.out.trans hb4); have RB4 := Lib.hid (hk4 _ _ _ RB.out (by decide) (by decide)); have q1 : w4.cell? ⟨w2.heap.size, 1, none⟩ = some (.string sSerializable) := (blk_cell RB4.out 1).trans rfl
 have P3 := Lib.hid (put_any w4 w.heap.size (w.heap.size + 1) _ w.heap.size _ _ S4 B4.out.size sSerializable sObject (.slice none 0 0) (.slice none 0 0) [] 1537 0 [] (Kd.R_nil _ _ _ _ _) (Kd.R_nil _ _ _ _ _) 0 (.inr ⟨by omega, by decide⟩) none 0 [] (Kd.C_nil _ _) (fun i hi => by cases hi) (by decide) (fun x hx => by
  rcases List.mem_cons.1 hx with rfl | hx
  ·exact ⟨Rng.nil _, by decide, by decide⟩
  ·rw [List.mem_singleton.1 hx]
   exact ⟨Rng.nil _, by decide, by decide⟩) (by decide) notIn2 (by decide))
 clear S4 hb4 hk4 P2 B3 RB RB4 q0; go_wp2_with fail; rw [rounds_succ]; go_wp2_with fail; refine P3.out.mono ?_; rintro e w5 ⟨rfl, v5, p5, S5, hb5, hk5⟩; have B5 := Lib.hid (B4.out.trans hb5); replace S5 := Lib.hid S5; clear hb5 hk5 P3 B4 q1; go_wp2_with fail; rw [rounds_succ]; go_wp2; go_ret
 exact ⟨_, _, _, _, rfl, S5.out, B5.out⟩
end Go.Proofs.YtaipkdglhfhhiaaDoor.Hi

namespace Go.Proofs.YtaipkdglhfhhiaaDoor.Pt
open Go Go.RowKit Go.Proofs.YtaipkdglhfhhiaaDoor.Nm Go.Proofs.YtaipkdglhfhhiaaDoor.Hi Go.Proofs.YtaipkdglhfhhiaaDoorW.PrintWords Go.Proofs.YtaipkdglhfhhiaaDoorW.PrintLast Go.Proofs.YtaipkdglhfhhiaaDoorW.PrintMore
set_option linter.unusedVariables false
set_option linter.unusedSimpArgs false
theorem fine_new : ∀ x ∈ newE, Fine x := by
 intro x hx; simp only [newE, List.mem_cons, List.not_mem_nil, or_false] at hx
 rcases hx with rfl | rfl | rfl
 ·exact ⟨⟨by decide, by decide, by decide⟩, by decide, by decide⟩
 ·exact ⟨⟨by decide, by decide, by decide⟩, by decide, by decide⟩
 ·exact ⟨⟨by decide, by decide, by decide⟩, by decide, by decide⟩
theorem tree_new : Tree newE := by
 intro i x hx
 match i, hx with
 | 0, hx => simp [newE] at hx; subst hx; exact .inl ⟨rfl, rfl⟩
 | 1, hx => simp [newE] at hx; subst hx; exact .inr ⟨by decide, by decide, by decide⟩
 | 2, hx => simp [newE] at hx; subst hx; exact .inr ⟨by decide, by decide, by decide⟩
 | i + 3, hx => simp [newE] at hx
theorem _root_.Go.Proofs.YtaipkdglhfhhiaaDoor.Pt.WOK.at_ {w w' : World} {m g : Nat} {es : List Ent} (hq : w.drewN m = w') (h : WOK w g es) : WOK w' g es := hq ▸ h.drewN m
theorem wok_new {w : World} {base g : Nat} {v : Value} {mb : Nat} {ps : List Nat} (h : WIn w base g v mb ps newE) : WOK w g newE := ⟨⟨_, _, _, _, h⟩, fine_new, tree_new, by decide⟩
end Go.Proofs.YtaipkdglhfhhiaaDoor.Pt

namespace Go.Proofs.YtaipkdglhfhhiaaDoor.Hi
open Go Go.RowKit Go.Proofs.YtaipkdglhfhhiaaDoor.Nm Go.Proofs.YtaipkdglhfhhiaaDoorW.PrintWords Go.Proofs.YtaipkdglhfhhiaaDoorW.PrintLast Go.Proofs.YtaipkdglhfhhiaaDoorW.PrintMore Go.Proofs.YtaipkdglhfhhiaaDoor.Pt
set_option linter.unusedVariables false
set_option linter.unusedSimpArgs false
set_option maxRecDepth 100000
def stepF (es : List Ent) (c : S40) : List Ent := (defF (chkC c) es c).1
def builtF (l : List S40) : List Ent := l.foldl stepF newE
inductive Made : List Ent → Prop
 | new : Made newE
 | step (es : List Ent) (c : S40) : Made es → Made (stepF es c)
theorem made_fold (l : List S40) : ∀ es, Made es → Made (l.foldl stepF es) := by
 induction l with
 | nil => exact fun es h => h
 | cons c l ih => exact fun es h => ih _ (.step es c h)
theorem made_built (l : List S40) : Made (builtF l) := made_fold l _ .new
theorem sound_sizes {c : S40} (h : chkC c = 0) : c.f0.size ≤ 60 ∧ c.f1.size ≤ 60 ∧ c.f2.length ≤ 20 ∧ (∀ n ∈ c.f2, n.size ≤ 60) ∧ Short c.f5 := by
 obtain ⟨s0, s1, s2, s3, s4, s5⟩ := chk_sizes h
 exact ⟨s0, s1, s2, s3, by omega, fun x hx => by have := s5 x hx; omega⟩
structure Took (es : List Ent) (c : S40) (x : Ent) : Prop where
 sound : chkC c = 0
 len : es.length < 300
 fresh : c.f0 ∉ es.map (·.c.f0)
 sup : (aboveF es c c.f1 false).2 = 0
 ifs : ∀ n ∈ c.f2, (aboveF es c n true).2 = 0
 isx : x = putE es c (aboveF es c c.f1 false).1 (c.f2.map fun n => (aboveF es c n true).1)
theorem ifs_all (es : List Ent) (c : S40) : ∀ (l : List ByteArray), (ifsF es c l).1 = 0 → (∀ n ∈ l, (aboveF es c n true).2 = 0) ∧ (ifsF es c l).2 = l.map fun n => (aboveF es c n true).1
 | [], _ => ⟨fun n hn => (by cases hn), rfl⟩
 | m :: l, h => by
  unfold ifsF at h ⊢
  by_cases h0 : (aboveF es c m true).2 = 0
  ·rw [if_pos h0] at h ⊢
   obtain ⟨h1, h2⟩ := ifs_all es c l h; refine ⟨fun n hn => ?_, ?_⟩
   ·rcases List.mem_cons.1 hn with rfl | hn
    ·exact h0
    ·exact h1 n hn
   ·show _ :: (ifsF es c l).2 = _
    rw [h2]
    rfl
  ·rw [if_neg h0] at h
   exact absurd h h0
theorem stepF_cases (es : List Ent) (c : S40) : stepF es c = es ∨ ∃ x, stepF es c = es ++ [x] ∧ Took es c x := by
 unfold stepF defF
 by_cases h0 : chkC c = 0
 ·rw [if_neg (fun h => h h0)]
  by_cases h1 : es.length ≥ 300
  ·rw [if_pos h1]; exact .inl rfl
  ·rw [if_neg h1]
   by_cases h2 : (nameF es c.f0).2 = 0
   ·rw [if_pos h2]; exact .inl rfl
   ·rw [if_neg h2]
    by_cases h3 : (aboveF es c c.f1 false).2 = 0
    ·rw [if_neg (fun h => h h3)]
     by_cases h4 : (ifsF es c c.f2).1 = 0
     ·rw [if_neg (fun h => h h4)]
      obtain ⟨h5, h6⟩ := ifs_all es c c.f2 h4
      exact .inr ⟨_, rfl, h0, by omega, (nameF_not h2).2, h3, h5, by rw [h6]⟩
     ·rw [if_pos h4]; exact .inl rfl
    ·rw [if_pos h3]; exact .inl rfl
 ·rw [if_pos h0]; exact .inl rfl
theorem ent_old {es : List Ent} {x : Ent} {i : Int} (h0 : 0 ≤ i) (h1 : i < es.length) : ent (es ++ [x]) i = ent es i := by
 unfold ent; rw [List.getD_eq_getElem?_getD, List.getD_eq_getElem?_getD, List.getElem?_append_left (by omega)]
theorem rng_more {n m : Nat} {l : List Int} (h : Rng n l) (hm : n ≤ m) : Rng m l := ⟨h.1, fun x hx => by have := h.2 x hx; omega⟩
theorem Took.clo {es : List Ent} {c : S40} {x : Ent} (h : Took es c x) (hg : Good es) : Rng es.length x.clo := by
 have h1 := aboveF_in h.sup; have hm : ent es (aboveF es c c.f1 false).1 ∈ es := List.mem_of_getElem? (get_ent h1.1 h1.2.1); rw [h.isx]
 show Rng _ (closF es _ _)
 rw [if_pos h1.1]; refine Rng.clos (fun y hy => (hg.clo y hy).1) (hg.clo _ hm).1 (fun i hi => ?_) (Nat.le_refl _); obtain ⟨n, hn, rfl⟩ := List.mem_map.1 hi; have := aboveF_in (h.ifs n hn)
 exact ⟨this.1, this.2.1⟩
theorem good_new : Good newE := by
 refine ⟨fine_new, tree_new, fun x hx => ?_, by decide⟩; simp only [newE, List.mem_cons, List.not_mem_nil, or_false] at hx
 rcases hx with rfl | rfl | rfl
 all_goals exact ⟨Rng.nil _, by decide, by decide⟩
theorem good_took {es : List Ent} {c : S40} {x : Ent} (hg : Good es) (h : Took es c x) : Good (es ++ [x]) := by
 have h1 := aboveF_in h.sup; have hm : ent es (aboveF es c c.f1 false).1 ∈ es := List.mem_of_getElem? (get_ent h1.1 h1.2.1)
 have hl : (es ++ [x]).length = es.length + 1 := by simp
 have hc := h.clo hg; obtain ⟨s0, s1, s2, s3, s5⟩ := sound_sizes h.sound
 have hxc : x.c = c := by rw [h.isx]; rfl
 have hxa : x.above = (aboveF es c c.f1 false).1 := by rw [h.isx]; rfl
 have hxd : x.depth = (ent es (aboveF es c c.f1 false).1).depth + 1 := by
  rw [h.isx]
  exact if_pos h1.1
 have hlen := h.len; refine ⟨fun y hy => ?_, fun i y hi => ?_, fun y hy => ?_, by omega⟩
 ·rcases List.mem_append.1 hy with hy | hy
  ·exact hg.fine y hy
  ·rw [List.mem_singleton.1 hy]
   refine ⟨?_, ?_, ?_⟩
   ·rw [hxc]
    exact ⟨by omega, s5⟩
   ·rw [hxc]
    omega
   ·have := hc.len
    omega
 ·rcases Nat.lt_trichotomy i es.length with hi2 | hi2 | hi2
  ·rw [List.getElem?_append_left hi2] at hi
   rcases hg.tree i y hi with h2 | ⟨h2, h3, h4⟩
   ·exact .inl h2
   ·exact .inr ⟨h2, h3, by rw [ent_old h2 (by omega)]; exact h4⟩
  ·subst hi2
   rw [List.getElem?_append_right (Nat.le_refl _), Nat.sub_self] at hi
   cases hi
   refine .inr ⟨by rw [hxa]; exact h1.1, by rw [hxa]; exact h1.2.1, ?_⟩; rw [hxa, ent_old h1.1 h1.2.1]
   exact hxd
  ·rw [List.getElem?_eq_none (by omega)] at hi
   cases hi
 ·rcases List.mem_append.1 hy with hy | hy
  ·have := hg.clo y hy
   exact ⟨rng_more this.1 (by omega), this.2.1, by omega⟩
  ·rw [List.mem_singleton.1 hy]
   have h2 := hg.clo _ hm
   exact ⟨rng_more hc (by omega), by omega, by omega⟩
theorem good_step {es : List Ent} {c : S40} (hg : Good es) : Good (stepF es c) := by
 rcases stepF_cases es c with h | ⟨x, h, ht⟩
 ·rw [h]; exact hg
 ·rw [h]; exact good_took hg ht
theorem good_made {es : List Ent} (h : Made es) : Good es := by
 induction h with
 | new => exact good_new
 | step es c _ ih => exact good_step ih
end Go.Proofs.YtaipkdglhfhhiaaDoor.Hi

namespace Go.Proofs.YtaipkdglhfhhiaaDoor.Hi
open Go Go.RowKit Go.Proofs.YtaipkdglhfhhiaaDoor.Nm Go.Proofs.YtaipkdglhfhhiaaDoorW.PrintWords Go.Proofs.YtaipkdglhfhhiaaDoorW.PrintLast Go.Proofs.YtaipkdglhfhhiaaDoorW.PrintMore Go.Proofs.YtaipkdglhfhhiaaDoor.Pt
set_option linter.unusedVariables false
set_option linter.unusedSimpArgs false
set_option maxRecDepth 100000
theorem mem_addI {l : List Int} {i k : Int} : k ∈ addI l i ↔ k ∈ l ∨ k = i := by
 unfold addI
 split
 ·rename_i h
  have h : i ∈ l := by simpa using h
  exact ⟨.inl, fun h2 => h2.elim id (fun e => e ▸ h)⟩
 ·simp
theorem mem_foldI {ks : List Int} {k : Int} : ∀ {l : List Int}, k ∈ foldI ks l ↔ k ∈ l ∨ k ∈ ks := by
 induction ks with
 | nil => intro l; simp [foldI]
 | cons a ks ih =>
  intro l
  show k ∈ foldI ks (addI l a) ↔ _
  rw [ih, mem_addI]; simp [or_assoc]
theorem mem_closF {es : List Ent} {ifs : List Int} {k : Int} : ∀ {acc : List Int}, k ∈ closF es acc ifs ↔ k ∈ acc ∨ ∃ i ∈ ifs, k = i ∨ k ∈ (ent es i).clo := by
 induction ifs with
 | nil => intro l; simp [closF]
 | cons a ifs ih =>
  intro l
  show k ∈ closF es (addI (foldI (ent es a).clo l) a) ifs ↔ _
  rw [ih, mem_addI, mem_foldI]
  constructor
  ·rintro (((h | h) | h) | ⟨i, hi, h⟩)
   ·exact .inl h
   ·exact .inr ⟨a, by simp, .inr h⟩
   ·exact .inr ⟨a, by simp, .inl h⟩
   ·exact .inr ⟨i, by simp [hi], h⟩
  ·rintro (h | ⟨i, hi, h⟩)
   ·exact .inl (.inl (.inl h))
   ·rcases List.mem_cons.1 hi with rfl | hi
    ·rcases h with h | h
     ·exact .inl (.inr h)
     ·exact .inl (.inl (.inr h))
    ·exact .inr ⟨i, hi, h⟩
theorem aboveF_fit {es : List Ent} {c : S40} {n : ByteArray} {want : Bool} (h : (aboveF es c n want).2 = 0) : isI (ent es (aboveF es c n want).1).c = want ∧ (want = false → isI c = true → (aboveF es c n want).1 = 0) ∧
  (Go.bits .and .i64 (ent es (aboveF es c n want).1).c.f3 1 ≠ 0 ∨ tog c (ent es (aboveF es c n want).1).c = true) := by
 have h0 := aboveF_in h; have h1 : aboveF es c n want = fitF (nameF es n).1 (ent es (nameF es n).1).c c want := if_pos h0.2.2.2; have h2 := h0.2.2.1; rw [h2]; rw [h1] at h; unfold fitF at h
 split at h
 ·cases h
 ·rename_i c1
  split at h
  ·cases h
  ·rename_i c2
   split at h
   ·cases h
   ·rename_i c3
    refine ⟨by simpa using c1, fun hw hi => ?_, ?_⟩
    ·subst hw
     rw [hi] at c2
     simpa using c2
    ·by_cases hp : Go.bits .and .i64 (ent es (nameF es n).1).c.f3 1 = 0
     ·right
      rw [hp] at c3
      simpa using c3
     ·exact .inl hp
structure Thy (es : List Ent) : Prop where
 good : Good es
 base : ∃ rest, es = newE ++ rest
 names : (es.map (·.c.f0)).Nodup
 sup : ∀ (i : Nat) (x : Ent), es[i]? = some x → 1 ≤ i → 0 ≤ x.above ∧ x.above < i ∧ isI (ent es x.above).c = false ∧ (isI x.c = true → x.above = 0)
 clo : ∀ (i : Nat) (x : Ent), es[i]? = some x → ∀ j ∈ x.clo, 0 ≤ j ∧ j < i ∧ isI (ent es j).c = true ∧ ∀ k ∈ (ent es j).clo, k ∈ x.clo
 up : ∀ (i : Nat) (x : Ent), es[i]? = some x → 1 ≤ i → ∀ k ∈ (ent es x.above).clo, k ∈ x.clo
 src : ∀ (i : Nat) (x : Ent), es[i]? = some x → 3 ≤ i → Took (es.take i) x.c x
theorem thy_new : Thy newE := by
 have h3 : ∀ (i : Nat) (x : Ent), newE[i]? = some x → (i = 0 ∧ x = ⟨objC, -1, 0, []⟩) ∨ (i = 1 ∧ x = ⟨ifaceC sCloneable, 0, 1, []⟩) ∨ (i = 2 ∧ x = ⟨ifaceC sSerializable, 0, 1, []⟩) := by
  intro i x hx
  match i, hx with
  | 0, hx => simp [newE] at hx; exact .inl ⟨rfl, hx.symm⟩
  | 1, hx => simp [newE] at hx; exact .inr (.inl ⟨rfl, hx.symm⟩)
  | 2, hx => simp [newE] at hx; exact .inr (.inr ⟨rfl, hx.symm⟩)
  | i + 3, hx => simp [newE] at hx
 refine ⟨good_new, ⟨[], by simp⟩, by decide, fun i x hx h1 => ?_, fun i x hx j hj => ?_, fun i x hx h1 k hk => ?_, fun i x hx h1 => ?_⟩
 ·rcases h3 i x hx with ⟨rfl, rfl⟩ | ⟨rfl, rfl⟩ | ⟨rfl, rfl⟩
  ·omega
  ·exact ⟨by decide, by decide, by decide, fun _ => rfl⟩
  ·exact ⟨by decide, by decide, by decide, fun _ => rfl⟩
 ·rcases h3 i x hx with ⟨rfl, rfl⟩ | ⟨rfl, rfl⟩ | ⟨rfl, rfl⟩ <;> cases hj
 ·rcases h3 i x hx with ⟨rfl, rfl⟩ | ⟨rfl, rfl⟩ | ⟨rfl, rfl⟩
  ·omega
  ·exact hk
  ·exact hk
 ·rcases h3 i x hx with ⟨rfl, rfl⟩ | ⟨rfl, rfl⟩ | ⟨rfl, rfl⟩ <;> omega
theorem get_last {es : List Ent} {x y : Ent} {i : Nat} (h : (es ++ [x])[i]? = some y) : (i < es.length ∧ es[i]? = some y) ∨ (i = es.length ∧ y = x) := by
 rcases Nat.lt_trichotomy i es.length with hi | hi | hi
 ·rw [List.getElem?_append_left hi] at h
  exact .inl ⟨hi, h⟩
 ·subst hi
  rw [List.getElem?_append_right (Nat.le_refl _), Nat.sub_self] at h
  cases h
  exact .inr ⟨rfl, rfl⟩
 ·rw [List.getElem?_eq_none (by simp; omega)] at h
  cases h
theorem len_base {es : List Ent} (h : ∃ rest, es = newE ++ rest) : 3 ≤ es.length := by
 obtain ⟨r, rfl⟩ := h; rw [List.length_append]
 show 3 ≤ 3 + _
 omega
theorem thy_took {es : List Ent} {c : S40} {x : Ent} (h : Thy es) (ht : Took es c x) : Thy (es ++ [x]) := by
  have h1 := aboveF_in ht.sup
  have f1 := aboveF_fit ht.sup
  have hxc : x.c = c := by rw [ht.isx]; rfl
  have hxa : x.above = (aboveF es c c.f1 false).1 := by rw [ht.isx]; rfl
  have hxk : x.clo = closF es (ent es x.above).clo (c.f2.map fun n => (aboveF es c n true).1) := by
    rw [hxa, ht.isx]
    show closF es _ _ = _
    rw [if_pos h1.1]
  generalize (aboveF es c c.f1 false).1 = sp at *
  have hl3 := len_base h.base
  have hsp := get_ent h1.1 h1.2.1
  -- what is in the new closure
  have hcl : ∀ j ∈ x.clo, 0 ≤ j ∧ j < es.length ∧ isI (ent es j).c = true ∧ ∀ k ∈ (ent es j).clo, k ∈ x.clo := by
    intro j hj
    rw [hxk] at hj ⊢
    rcases mem_closF.1 hj with hj | ⟨i, hi, hj⟩
    · rw [hxa] at hj
      obtain ⟨a1, a2, a3, a4⟩ := h.clo _ _ hsp j hj
      exact ⟨a1, by omega, a3, fun k hk => mem_closF.2 (.inl (by rw [hxa]; exact a4 k hk))⟩
    · obtain ⟨n, hn, rfl⟩ := List.mem_map.1 hi
      have hi2 := aboveF_in (ht.ifs n hn)
      have hf := (aboveF_fit (ht.ifs n hn)).1
      generalize (aboveF es c n true).1 = i at *
      rcases hj with rfl | hj
      · exact ⟨hi2.1, hi2.2.1, hf, fun k hk => mem_closF.2 (.inr ⟨_, hi, .inr hk⟩)⟩
      · obtain ⟨a1, a2, a3, a4⟩ := h.clo _ _ (get_ent hi2.1 hi2.2.1) j hj
        exact ⟨a1, by omega, a3, fun k hk => mem_closF.2 (.inr ⟨_, hi, .inr (a4 k hk)⟩)⟩
  refine ⟨good_took h.good ht, ?_, ?_, fun i y hy hi => ?_, fun i y hy j hj => ?_, fun i y hy hi k hk => ?_, fun i y hy hi => ?_⟩
  · obtain ⟨r, rfl⟩ := h.base
    exact ⟨r ++ [x], by rw [List.append_assoc]⟩
  · rw [List.map_append]
    refine List.nodup_append.2 ⟨h.names, by simp, fun a ha b hb => ?_⟩
    rw [List.map_cons, List.map_nil, List.mem_singleton, hxc] at hb
    rw [hb]
    rintro rfl
    exact ht.fresh ha
  · rcases get_last hy with ⟨hi2, hy⟩ | ⟨rfl, rfl⟩
    · obtain ⟨a1, a2, a3, a4⟩ := h.sup i y hy hi
      exact ⟨a1, a2, by rw [ent_old a1 (by omega)]; exact a3, a4⟩
    · rw [hxa]
      exact ⟨h1.1, h1.2.1, by rw [ent_old h1.1 h1.2.1]; exact f1.1, fun hi => f1.2.1 rfl (by rw [← hxc]; exact hi)⟩
  · rcases get_last hy with ⟨hi2, hy⟩ | ⟨rfl, rfl⟩
    · obtain ⟨a1, a2, a3, a4⟩ := h.clo i y hy j hj
      refine ⟨a1, a2, ?_⟩
      rw [ent_old a1 (by omega)]
      exact ⟨a3, a4⟩
    · obtain ⟨a1, a2, a3, a4⟩ := hcl j hj
      refine ⟨a1, a2, ?_⟩
      rw [ent_old a1 (by omega)]
      exact ⟨a3, a4⟩
  · rcases get_last hy with ⟨hi2, hy⟩ | ⟨rfl, rfl⟩
    · obtain ⟨a1, a2, _, _⟩ := h.sup i y hy hi
      rw [ent_old a1 (by omega)] at hk
      exact h.up i y hy hi k hk
    · rw [hxa, ent_old h1.1 h1.2.1] at hk
      rw [hxk]
      exact mem_closF.2 (.inl (by rw [hxa]; exact hk))
  · rcases get_last hy with ⟨hi2, hy⟩ | ⟨rfl, rfl⟩
    · rw [List.take_append_of_le_length (by omega)]
      exact h.src i y hy hi
    · rw [List.take_append_of_le_length (Nat.le_refl _), List.take_length, hxc]
      exact ht
theorem thy_made {es : List Ent} (h : Made es) : Thy es := by
 induction h with
 | new => exact thy_new
 | step es c _ ih =>
  rcases stepF_cases es c with h | ⟨x, h, ht⟩
  ·rw [h]; exact ih
  ·rw [h]; exact thy_took ih ht
inductive Anc (es : List Ent) : Int → Int → Prop
 | refl (a : Int) : Anc es a a
 | up (a b : Int) : 0 ≤ (ent es a).above → Anc es (ent es a).above b → Anc es a b
theorem Anc.trans {es : List Ent} {a b c : Int} (h : Anc es a b) (h2 : Anc es b c) : Anc es a c := by
 induction h with
 | refl => exact h2
 | up a b h0 _ ih => exact .up a c h0 (ih h2)
end Go.Proofs.YtaipkdglhfhhiaaDoor.Hi

namespace Go.Proofs.YtaipkdglhfhhiaaDoor.Hi
open Go Go.RowKit Go.Proofs.YtaipkdglhfhhiaaDoor.Nm Go.Proofs.YtaipkdglhfhhiaaDoorW.PrintWords Go.Proofs.YtaipkdglhfhhiaaDoorW.PrintLast Go.Proofs.YtaipkdglhfhhiaaDoorW.PrintMore Go.Proofs.YtaipkdglhfhhiaaDoor.Pt
set_option linter.unusedVariables false
set_option linter.unusedSimpArgs false
set_option maxRecDepth 100000
def chL (es : List Ent) (a : Int) : List Int := chainL es es.length a
theorem chain_more {es : List Ent} (h : Tree es) : ∀ (k : Nat) (a : Int), 0 ≤ a → a < es.length → (ent es a).depth < k → ∀ j, chainL es (k + j) a = chainL es k a
 | 0, a, h0, h1, hk, j => by
  have := (h.depth_ h0 h1).1
  omega
 | k + 1, a, h0, h1, hk, j => by
  rw [show k + 1 + j = (k + j) + 1 by omega, chainL, chainL]
  rcases h.at_ h0 h1 with ⟨h2, hz⟩ | ⟨h2, h3, hz⟩
  ·rw [if_pos (by omega), if_pos (by omega)]
  ·rw [if_neg (by omega), if_neg (by omega), chain_more h k _ h2 (by omega) (by omega) j]
theorem chL_up {es : List Ent} (h : Tree es) {a : Int} (h0 : 0 ≤ a) (h1 : a < es.length) : chL es a = a :: (if (ent es a).above < 0 then [] else chL es (ent es a).above) := by
 unfold chL
 obtain ⟨N, hN⟩ : ∃ N, es.length = N + 1 := ⟨es.length - 1, by omega⟩
 rw [hN, chainL]
 rcases h.at_ h0 h1 with ⟨h2, hz⟩ | ⟨h2, h3, hz⟩
 ·rw [if_pos (by omega), if_pos (by omega)]
 ·rw [if_neg (by omega), if_neg (by omega), chain_more h N _ h2 (by omega) (by have := (h.depth_ h2 (by omega)).2; omega) 1]
theorem chL_top {es : List Ent} (h : Tree es) {a : Int} (h0 : 0 ≤ a) (h1 : a < es.length) (ha : (ent es a).above < 0) : chL es a = [a] := by
 rw [chL_up h h0 h1, if_pos ha]
theorem chL_step {es : List Ent} (h : Tree es) {a : Int} (h0 : 0 ≤ a) (h1 : a < es.length) (ha : ¬ (ent es a).above < 0) : chL es a = a :: chL es (ent es a).above ∧ 0 ≤ (ent es a).above ∧ (ent es a).above < a := by
 rcases h.at_ h0 h1 with ⟨h2, hz⟩ | ⟨h2, h3, hz⟩
 ·omega
 ·exact ⟨by rw [chL_up h h0 h1, if_neg ha], h2, h3⟩
theorem tree_ind {es : List Ent} (h : Tree es) {P : Int → Prop} (top : ∀ a : Int, 0 ≤ a → a < es.length → (ent es a).above < 0 → (ent es a).depth = 0 → P a)
  (up : ∀ a : Int, 0 ≤ a → a < es.length → 0 ≤ (ent es a).above → (ent es a).above < a → (ent es a).depth = (ent es (ent es a).above).depth + 1 → P (ent es a).above → P a) : ∀ (n : Nat) (a : Int), a.toNat < n → 0 ≤ a → a < es.length → P a
 | 0, a, hn, _, _ => absurd hn (by omega)
 | n + 1, a, hn, h0, h1 => by
  rcases h.at_ h0 h1 with ⟨h2, hz⟩ | ⟨h2, h3, hz⟩
  ·exact top a h0 h1 (by omega) hz
  ·exact up a h0 h1 h2 h3 hz (tree_ind h top up n _ (by omega) h2 (by omega))
theorem chL_len {es : List Ent} (h : Tree es) {a : Int} (h0 : 0 ≤ a) (h1 : a < es.length) : ((chL es a).length : Int) = (ent es a).depth + 1 := by
 refine tree_ind h (P := fun a => ((chL es a).length : Int) = (ent es a).depth + 1) (fun a h0 h1 ha hd => ?_) (fun a h0 h1 ha ha2 hd ih => ?_) _ a (Nat.lt_succ_self _) h0 h1
 ·rw [chL_top h h0 h1 ha, hd]; rfl
 ·rw [(chL_step h h0 h1 (by omega)).1, List.length_cons, hd]
  push_cast
  omega
theorem chL_at {es : List Ent} (h : Tree es) {a : Int} (h0 : 0 ≤ a) (h1 : a < es.length) (d : Nat) (hd : (d : Int) ≤ (ent es a).depth) : (chL es a).reverse[d]? = some (climb es es.length a d) := by
 revert hd
 refine tree_ind h (P := fun a => (d : Int) ≤ (ent es a).depth → (chL es a).reverse[d]? = some (climb es es.length a d)) (fun a h0 h1 ha hz hd => ?_) (fun a h0 h1 ha ha2 hz ih hd => ?_) _ a (Nat.lt_succ_self _) h0 h1
 ·rw [chL_top h h0 h1 ha, climb_end (by omega)]
  obtain rfl : d = 0 := by omega
  rfl
 ·have hl := chL_len h ha (show (ent es a).above < es.length by omega)
  rw [(chL_step h h0 h1 (by omega)).1, List.reverse_cons]
  by_cases he : (d : Int) = (ent es a).depth
  ·rw [climb_end (by omega), List.getElem?_append_right (by rw [List.length_reverse]; omega), List.length_reverse, show d - (chL es (ent es a).above).length = 0 by omega]
   rfl
  ·rw [List.getElem?_append_left (by rw [List.length_reverse]; omega), ih (by omega), (climb_up h h0 h1 (by omega) (by omega)).2.2]
theorem climb_in {es : List Ent} (h : Tree es) {a d : Int} (h0 : 0 ≤ a) (h1 : a < es.length) (hd : 0 ≤ d) (hle : d ≤ (ent es a).depth) : 0 ≤ climb es es.length a d ∧ climb es es.length a d ≤ a ∧ (ent es (climb es es.length a d)).depth = d := by
 revert hle
 refine tree_ind h (P := fun a => d ≤ (ent es a).depth → 0 ≤ climb es es.length a d ∧ climb es es.length a d ≤ a ∧ (ent es (climb es es.length a d)).depth = d) (fun a h0 h1 ha hz hd => ?_) (fun a h0 h1 ha ha2 hz ih hd => ?_) _ a (Nat.lt_succ_self _) h0 h1
 ·rw [climb_end (by omega)]
  exact ⟨h0, Int.le_refl _, by omega⟩
 ·by_cases he : d = (ent es a).depth
  ·rw [climb_end (by omega)]
   exact ⟨h0, Int.le_refl _, by omega⟩
  ·obtain ⟨i1, i2, i3⟩ := ih (by omega)
   rw [(climb_up h h0 h1 (by omega) (by omega)).2.2]
   exact ⟨i1, by omega, i3⟩
end Go.Proofs.YtaipkdglhfhhiaaDoor.Hi

namespace Go.Proofs.YtaipkdglhfhhiaaDoor.Pt
open Go.RowKit Go.Proofs.YtaipkdglhfhhiaaDoorW.PrintWords Go.Proofs.YtaipkdglhfhhiaaDoorW.PrintLast Go.Proofs.YtaipkdglhfhhiaaDoorW.PrintMore
attribute [local go_sem] max2_int min2_int max_two min_two max_three min_three max_four min_four   -- for this text's walks alone
set_option linter.unusedVariables false
set_option linter.unusedSimpArgs false
def arrays_Loaded.f (a0 : List Hi.Ent) (a1_0 : Int) (a1_1 : ByteArray) : Option (Int) := (types_Check.f a1_0 a1_1).bind fun t102 => (if t102 = 0 then ((hier_World_ByName.f a0 a1_1).bind fun bt103 => (if a1_1.toList = ([] : List UInt8) then (some 0) else (if bt103.2 = 0 then (some 0) else (some 20)))) else (some t102))
def hier_iface.f (a0_0 : ByteArray) (a0_1 : ByteArray) (l0_2 : List ByteArray) (a0_3 : Int) (a0_4 : Int) (l0_5 : List (S94)) : Option (Bool) := some ((Go.bits .and .i64 a0_3 512) != 0)
end Go.Proofs.YtaipkdglhfhhiaaDoor.Pt

namespace Go.Proofs.YtaipkdglhfhhiaaDoor.Pt
open Go.RowKit Go.Proofs.YtaipkdglhfhhiaaDoorW.PrintWords Go.Proofs.YtaipkdglhfhhiaaDoorW.PrintLast Go.Proofs.YtaipkdglhfhhiaaDoorW.PrintMore
attribute [local go_sem] max2_int min2_int max_two min_two max_three min_three max_four min_four   -- for this text's walks alone
set_option linter.unusedVariables false
set_option linter.unusedSimpArgs false
theorem eqA31 (d : Nat) (w : World) (x0 y0 : Int) (x1 y1 : ByteArray) :
  (Op.equalIn (d + 2) 31 (.agg #[.int .i64 x0, .string x1]) (.agg #[.int .i64 y0, .string y1])).run Tryd.prog w = .ok (x0 == y0 && (x1.toList == y1.toList)) w := by
 refine eqA_of Tryd.underlying31 (by kernel_rfl) ?_; refine eqf_cons (by rfl) (by go_simp; rfl) (by go_simp; rfl) (by go_simp) ?_
 exact eqf_last (by rfl) (by go_simp; rfl) (by go_simp; rfl) (by go_simp)
end Go.Proofs.YtaipkdglhfhhiaaDoor.Pt

namespace Go.Proofs.YtaipkdglhfhhiaaDoor.Pt
open Go.RowKit Go.Proofs.YtaipkdglhfhhiaaDoorW.PrintWords Go.Proofs.YtaipkdglhfhhiaaDoorW.PrintLast Go.Proofs.YtaipkdglhfhhiaaDoorW.PrintMore
attribute [local go_sem] max2_int min2_int max_two min_two max_three min_three max_four min_four   -- for this text's walks alone
set_option linter.unusedVariables false
set_option linter.unusedSimpArgs false
attribute [local go_sem high] eqA31
def arrays_isInt.f (a0_0 : Int) (a0_1 : ByteArray) : Option (Bool) := some (a0_0 == 0 && (a0_1.toList == ([] : List UInt8)))
def arrays_top.f (a0 : ByteArray) : Option (Bool) := if a0.toList = ([79, 98, 106, 101, 99, 116] : List UInt8) then (some true) else (if a0.toList = ([67, 108, 111, 110, 101, 97, 98, 108, 101] : List UInt8) then (some true) else (some (a0.toList == ([83, 101, 114, 105, 97, 108, 105, 122, 97, 98, 108, 101] : List UInt8))))
end Go.Proofs.YtaipkdglhfhhiaaDoor.Pt

namespace Go.Proofs.YtaipkdglhfhhiaaDoor.Pt
open Go.RowKit Go.Proofs.YtaipkdglhfhhiaaDoorW.PrintWords Go.Proofs.YtaipkdglhfhhiaaDoorW.PrintLast Go.Proofs.YtaipkdglhfhhiaaDoorW.PrintMore
attribute [local go_sem] max2_int min2_int max_two min_two max_three min_three max_four min_four   -- for this text's walks alone
set_option linter.unusedVariables false
set_option linter.unusedSimpArgs false
attribute [local go_sem high] eqA31
mutual
def arrays_below.j1 : Nat → List Hi.Ent → Int → ByteArray → Int → ByteArray → Option (Bool)
 | 0, _, _, _, _, _ => none
 | k + 1, x0, x108000, x108001, x109000, x109001 => (arrays_isInt.f x108000 x108001).bind fun t109 => (if t109 = true then (arrays_below.j2 k x0 true x108000 x108001 x109000 x109001) else ((arrays_isInt.f x109000 x109001).bind fun t110 => (arrays_below.j2 k x0 t110 x108000 x108001 x109000 x109001)))
def arrays_below.j2 : Nat → List Hi.Ent → Bool → Int → ByteArray → Int → ByteArray → Option (Bool)
 | 0, _, _, _, _, _, _ => none
 | k + 1, x0, x27, x108000, x108001, x109000, x109001 => if x27 = true then (some (x108000 == x109000 && (x108001.toList == x109001.toList))) else (if x108000 > 0 then ((arrays_top.f x109001).bind fun t111 => (some t111)) else (if x109000 > 0 then (some false) else ((hier_World_ByName.f x0 x108001).bind fun bt112 => ((hier_World_ByName.f x0 x109001).bind fun bt114 => ((hier_World_Extends.f x0 bt112.1 bt114.1).bind fun t116 => (some t116))))))
def arrays_below.l0 : Nat → List Hi.Ent → Int → ByteArray → Int → ByteArray → Option (Bool)
 | 0, _, _, _, _, _ => none
 | k + 1, x0, x108000, x108001, x109000, x109001 => if x108000 > 0 then (if x109000 > 0 then (arrays_below.l0 k x0 (wrap64 (x108000 - 1)) x108001 (wrap64 (x109000 - 1)) x109001) else (arrays_below.j1 k x0 x108000 x108001 x109000 x109001)) else (arrays_below.j1 k x0 x108000 x108001 x109000 x109001)
end
def arrays_below.f (k : Nat) (a0 : List Hi.Ent) (a1_0 : Int) (a1_1 : ByteArray) (a2_0 : Int) (a2_1 : ByteArray) : Option (Bool) := arrays_below.l0 k a0 a1_0 a1_1 a2_0 a2_1
end Go.Proofs.YtaipkdglhfhhiaaDoor.Pt

namespace Go.Proofs.YtaipkdglhfhhiaaDoor.Hi
open Go Go.RowKit Go.Proofs.YtaipkdglhfhhiaaDoor.Nm Go.Proofs.YtaipkdglhfhhiaaDoorW.PrintWords Go.Proofs.YtaipkdglhfhhiaaDoorW.PrintLast Go.Proofs.YtaipkdglhfhhiaaDoorW.PrintMore Go.Proofs.YtaipkdglhfhhiaaDoor.Pt
set_option linter.unusedVariables false
set_option linter.unusedSimpArgs false
set_option maxRecDepth 100000
def superF (es : List Ent) (i : Int) : Int × Int := if 0 ≤ i ∧ i < es.length then (if (ent es i).above < 0 then (0, 6) else ((ent es i).above, 0)) else (0, 3)
def depthF (es : List Ent) (i : Int) : Int × Int := if 0 ≤ i ∧ i < es.length then ((ent es i).depth, 0) else (0, 3)
def closureF (es : List Ent) (i : Int) : List Int × Int := if 0 ≤ i ∧ i < es.length then ((ent es i).clo, 0) else ([], 3)
def chainF (es : List Ent) (i : Int) : List Int × Int := if 0 ≤ i ∧ i < es.length then (chL es i, 0) else ([], 3)
def rcL (es : List Ent) (i : Int) : List Int := (chL es i).reverse
def buildF (es : List Ent) (i : Int) : List Int × List Int × List Int × Int := if 0 ≤ i ∧ i < es.length then ((rcL es i).take 8, (rcL es i).drop 8, (ent es i).clo, 0) else ([], [], [], 3)
def atF (p q : List Int) (d : Int) : Int := if d < p.length then p.getD d.toNat 0 else if 8 ≤ d ∧ d - 8 < q.length then q.getD (d - 8).toNat 0 else -1
def scanN (t : Int) : List Int → Int
 | [] => 0
 | x :: l => if x = t then 1 else 1 + scanN t l
def lookF (es : List Ent) (s t : Int) : Bool × Int :=
 if isI (ent es t).c = true ∧ s = t then (true, 1)
 else if isI (ent es t).c = false then (atF (buildF es s).1 (buildF es s).2.1 (ent es t).depth == t, 1)
 else (decide (t ∈ (ent es s).clo), 1 + scanN t (ent es s).clo)
def testF (es : List Ent) (s t : Int) : Bool × Int × Int :=
 if 0 ≤ s ∧ s < es.length then (if 0 ≤ t ∧ t < es.length then ((lookF es s t).1, (lookF es s t).2, 0) else (false, 0, 3)) else (false, 0, 3)
end Go.Proofs.YtaipkdglhfhhiaaDoor.Hi

namespace Go.Proofs.YtaipkdglhfhhiaaDoor.Pt
open Go.RowKit Go.Proofs.YtaipkdglhfhhiaaDoorW.PrintWords Go.Proofs.YtaipkdglhfhhiaaDoorW.PrintLast Go.Proofs.YtaipkdglhfhhiaaDoorW.PrintMore
attribute [local go_sem] max2_int min2_int max_two min_two max_three min_three max_four min_four   -- for this text's walks alone
set_option linter.unusedVariables false
set_option linter.unusedSimpArgs false
def arbiterref06_SameNums.l0 : Nat → List Int → List Int → Int → Option (Bool)
 | 0, _, _, _ => none
 | k + 1, x0, x1, x5 => if x5 < (x0.length : Int) then (if 0 ≤ x5 then (if x5 < (x1.length : Int) then (if (rd x0 x5) = (rd x1 x5) then (arbiterref06_SameNums.l0 k x0 x1 (wrap64 (x5 + 1))) else (some false)) else (none)) else (none)) else (some true)
def arbiterref06_SameNums.f (k : Nat) (l0 : List Int) (l1 : List Int) : Option (Bool) := if (l0.length : Int) = (l1.length : Int) then (arbiterref06_SameNums.l0 k l0 l1 0) else (some false)
set_option maxHeartbeats 8000000 in
set_option maxRecDepth 100000 in
theorem arbiterref06_SameNums.calls (k : Nat) (A0 : Option Addr) (c0 : Nat) (l0 : List Int) (A1 : Option Addr) (c1 : Nat) (l1 : List Int) (r : Bool) (w : World) (hr0 : Kd.C (Kd.int .i64) w A0 l0.length l0) (hc0 : l0.length ≤ c0) (hr1 : Kd.C (Kd.int .i64) w A1 l1.length l1) (hc1 : l1.length ≤ c1) (h : arbiterref06_SameNums.f k l0 l1 = some r) :
  Calls Tryd.prog 18 #[.slice A0 l0.length c0, .slice A1 l1.length c1] w fun e w' => e = .returned (.bool r) ∧ Drawn0 w w' := by
 have HR0 := Aside0.mk hr0; have HC0 := Aside0.mk hc0; clear hr0 hc0; have HR1 := Aside0.mk hr1; have HC1 := Aside0.mk hc1; clear hr1 hc1; have H : (if (l0.length : Int) = (l1.length : Int) then (arbiterref06_SameNums.l0 k l0 l1 0) else (some false)) = some r := h; clear h
 by_cases c3 : (l0.length : Int) = (l1.length : Int)
 ·rw [if_pos c3] at H
  have c3b0 : ((l0.length : Int) == (l1.length : Int)) = true := beq_iff_eq.mpr c3; have c3b1 : ((l0.length : Int) != (l1.length : Int)) = false := bne_eq_false_iff_eq.mpr c3
  have c3b2 : (l0.length == l1.length) = true := by first | simpa using c3 | (simp at c3 ⊢; omega)
  clear c3; have H' := Aside0.mk H; clear H; go_enter Tryd.func18, Tryd.ntmps18; go_wp2
  repeat (go_quiet (fail); try go_wp2)
  go_loopg [5] k (fun kq v5 w' => ∃ (x5_1 : Int), v5 = .int .i64 x5_1 ∧ Aside0 (arbiterref06_SameNums.l0 kq l0 l1 x5_1 = some r) ∧ Aside0 (kq ≤ k) ∧ Drawn0 w w')
  case atStart => exact ⟨(0), vX, H', ⟨Nat.le_refl _⟩, by repeat (first | exact Drawn0.refl _ | apply Drawn0.step)⟩
  case round =>
   clear H'
   try clear c1
   try clear p2
   try clear c3
   try clear c3b0
   try clear c3b1
   try clear c3b2
   obtain ⟨x5_1, rfl, HA, HK1, ⟨m1, rfl⟩⟩ := hrel
   cases gk with
   | zero => exact absurd HA.out (by simp [arbiterref06_SameNums.l0])
   | succ k1 =>
    have H := HA.out; clear HA; simp only [arbiterref06_SameNums.l0] at H
    by_cases c4 : x5_1 < (l0.length : Int)
    ·rw [if_pos c4] at H
     have c4b0 : decide (x5_1 < (l0.length : Int)) = true := decide_eq_true c4; clear c4
     by_cases c5 : 0 ≤ x5_1
     ·rw [if_pos c5] at H
      have c5b0 : decide (0 ≤ x5_1) = true := decide_eq_true c5; clear c5
      by_cases c6 : x5_1 < (l1.length : Int)
      ·rw [if_pos c6] at H
       have c6b0 : decide (x5_1 < (l1.length : Int)) = true := decide_eq_true c6; clear c6
       by_cases c7 : (rd l0 x5_1) = (rd l1 x5_1)
       ·rw [if_pos c7] at H
        have c7b0 : ((rd l0 x5_1) == (rd l1 x5_1)) = true := beq_iff_eq.mpr c7; have c7b1 : ((rd l0 x5_1) != (rd l1 x5_1)) = false := bne_eq_false_iff_eq.mpr c7; clear c7; have H' := Aside0.mk H; clear H; have p161 : 0 ≤ (x5_1 : Int) := qX; have q161 : x5_1 < (l0.length : Int) := qX; obtain ⟨ad161, e161, hx161_0⟩ := Kd.at_int HR0.out x5_1 p161 q161
        cases e161
        replace p161 := eq_true p161; replace q161 := eq_true q161; have p162 : 0 ≤ (x5_1 : Int) := qX; have q162 : x5_1 < (l1.length : Int) := qX; obtain ⟨ad162, e162, hx162_0⟩ := Kd.at_int HR1.out x5_1 p162 q162
        cases e162
        replace p162 := eq_true p162; replace q162 := eq_true q162; go_wp2
        repeat (go_quiet (fail); try go_wp2)
        go_roundg k1
        case measure => have := HK1.out; omega
        case rel => exact ⟨(wrap64 (x5_1 + 1)), vX, H', ⟨by have := HK1.out; omega⟩, by repeat (first | exact Drawn0.refl _ | apply Drawn0.step)⟩
       ·rw [if_neg c7] at H
        have c7b0 : ((rd l0 x5_1) == (rd l1 x5_1)) = false := beq_eq_false_iff_ne.mpr c7; have c7b1 : ((rd l0 x5_1) != (rd l1 x5_1)) = true := bne_iff_ne.mpr c7; obtain rfl := Option.some.inj H; have p161 : 0 ≤ (x5_1 : Int) := qX; have q161 : x5_1 < (l0.length : Int) := qX; obtain ⟨ad161, e161, hx161_0⟩ := Kd.at_int HR0.out x5_1 p161 q161
        cases e161
        replace p161 := eq_true p161; replace q161 := eq_true q161; have p162 : 0 ≤ (x5_1 : Int) := qX; have q162 : x5_1 < (l1.length : Int) := qX; obtain ⟨ad162, e162, hx162_0⟩ := Kd.at_int HR1.out x5_1 p162 q162
        cases e162
        replace p162 := eq_true p162; replace q162 := eq_true q162; go_wp2
        repeat (go_quiet (fail); try go_wp2)
        go_ret
        exact ⟨by first | rfl | (simp; done) | (simp [*]; done), by repeat (first | exact Drawn0.refl _ | apply Drawn0.step)⟩
      ·rw [if_neg c6] at H
       exact absurd H (by simp)
     ·rw [if_neg c5] at H
      exact absurd H (by simp)
    ·rw [if_neg c4] at H
     have c4b0 : decide (x5_1 < (l0.length : Int)) = false := decide_eq_false c4; clear c4; obtain rfl := Option.some.inj H; go_wp2
     repeat (go_quiet (fail); try go_wp2)
     go_ret
     exact ⟨by first | rfl | (simp; done) | (simp [*]; done), by repeat (first | exact Drawn0.refl _ | apply Drawn0.step)⟩
 ·rw [if_neg c3] at H
  have c3b0 : ((l0.length : Int) == (l1.length : Int)) = false := beq_eq_false_iff_ne.mpr c3; have c3b1 : ((l0.length : Int) != (l1.length : Int)) = true := bne_iff_ne.mpr c3
  have c3b2 : (l0.length == l1.length) = false := by first | simpa using c3 | (simp at c3 ⊢; omega)
  obtain rfl := Option.some.inj H; go_enter Tryd.func18, Tryd.ntmps18; go_wp2
  repeat (go_quiet (fail); try go_wp2)
  go_ret
  exact ⟨by first | rfl | (simp; done) | (simp [*]; done), by repeat (first | exact Drawn0.refl _ | apply Drawn0.step)⟩
def hier_object.f  : Option (ByteArray × ByteArray × List ByteArray × Int × Int × (List (S94))) := some ((⟨#[79, 98, 106, 101, 99, 116]⟩ : ByteArray), (⟨#[]⟩ : ByteArray), ([] : List ByteArray), 33, 0, (([(⟨(⟨#[60, 105, 110, 105, 116, 62]⟩ : ByteArray), (⟨#[40, 41, 86]⟩ : ByteArray), 1, 1, 0, (([(⟨38, 0, (⟨#[]⟩ : ByteArray), (⟨false, (⟨#[]⟩ : ByteArray), (⟨#[]⟩ : ByteArray), (⟨#[]⟩ : ByteArray)⟩ : S89)⟩ : S91)] : List (S91)))⟩ : S94), (⟨(⟨#[105, 100]⟩ : ByteArray), (⟨#[40, 41, 73]⟩ : ByteArray), 1, 1, 1, (([(⟨1, 7, (⟨#[]⟩ : ByteArray), (⟨false, (⟨#[]⟩ : ByteArray), (⟨#[]⟩ : ByteArray), (⟨#[]⟩ : ByteArray)⟩ : S89)⟩ : S91), (⟨36, 0, (⟨#[]⟩ : ByteArray), (⟨false, (⟨#[]⟩ : ByteArray), (⟨#[]⟩ : ByteArray), (⟨#[]⟩ : ByteArray)⟩ : S89)⟩ : S91)] : List (S91)))⟩ : S94), (⟨(⟨#[107, 105, 110]⟩ : ByteArray), (⟨#[40, 41, 76, 79, 98, 106, 101, 99, 116, 59]⟩ : ByteArray), 4, 1, 1, (([(⟨4, 0, (⟨#[]⟩ : ByteArray), (⟨false, (⟨#[]⟩ : ByteArray), (⟨#[]⟩ : ByteArray), (⟨#[]⟩ : ByteArray)⟩ : S89)⟩ : S91), (⟨37, 0, (⟨#[]⟩ : ByteArray), (⟨false, (⟨#[]⟩ : ByteArray), (⟨#[]⟩ : ByteArray), (⟨#[]⟩ : ByteArray)⟩ : S89)⟩ : S91)] : List (S91)))⟩ : S94)] : List (S94))))
def flags_all.f (a0 : Int) (a1 : Int) : Option (Bool) := some ((Go.bits .and .i64 a0 a1) == a1)
def flags_CheckClass.j0 : Nat → Int → Bool → Bool → Option (Int)
 | 0, _, _, _ => none
 | k + 1, x0, x3, x6 => if x6 = true then (some 1) else (if x3 = true then ((flags_all.f x0 1024).bind fun t180 => (if t180 = true then (if (Go.bits .and .i64 x0 48) = 0 then (some 0) else (some 1)) else (some 1))) else (some 0))
def flags_CheckClass.f (k : Nat) (a0 : Int) : Option (Int) := (flags_all.f a0 512).bind fun t178 => (if (Go.bits .andNot .i64 a0 1585) = 0 then ((flags_all.f a0 1040).bind fun t179 => (flags_CheckClass.j0 k a0 t178 t179)) else (flags_CheckClass.j0 k a0 t178 ((Go.bits .andNot .i64 a0 1585) != 0)))
def slices_Index_string_string.l0 : Nat → List ByteArray → ByteArray → Int → Int → Option (Int)
 | 0, _, _, _, _ => none
 | k + 1, x0, x1, x7, x8 => if x8 < x7 then (if 0 ≤ x8 then (if x8 < (x0.length : Int) then (if x1.toList = (rdOf ByteArray.empty x0 x8).toList then (some x8) else (slices_Index_string_string.l0 k x0 x1 x7 (wrap64 (x8 + 1)))) else (none)) else (none)) else (some (-1))
def slices_Index_string_string.f (k : Nat) (l0 : List ByteArray) (a1 : ByteArray) : Option (Int) := slices_Index_string_string.l0 k l0 a1 (l0.length : Int) 0
def slices_Contains_string_string.f (k : Nat) (l0 : List ByteArray) (a1 : ByteArray) : Option (Bool) := (slices_Index_string_string.f k l0 a1).bind fun t182 => (some (decide (t182 ≥ 0)))
end Go.Proofs.YtaipkdglhfhhiaaDoor.Pt

namespace Go.Proofs.YtaipkdglhfhhiaaDoor.Pt
open Go Go.RowKit Go.Proofs.YtaipkdglhfhhiaaDoor.Nm Go.Proofs.YtaipkdglhfhhiaaDoor.Ty Go.Proofs.YtaipkdglhfhhiaaDoor.Hi Go.Proofs.YtaipkdglhfhhiaaDoorW.PrintWords Go.Proofs.YtaipkdglhfhhiaaDoorW.PrintLast Go.Proofs.YtaipkdglhfhhiaaDoorW.PrintMore
set_option linter.unusedVariables false
set_option linter.unusedSimpArgs false
set_option maxRecDepth 100000
theorem same_l0 (l : List Int) (hl : l.length ≤ 1000) : ∀ (d j k : Nat), j + d = l.length → d < k → arbiterref06_SameNums.l0 k l l (j : Int) = some true := by
 intro d
 induction d with
 | zero =>
  intro j k hj hk
  obtain ⟨k, rfl⟩ : ∃ m, k = m + 1 := ⟨k - 1, by omega⟩
  rw [arbiterref06_SameNums.l0, if_neg (by omega)]
 | succ d ih =>
  intro j k hj hk
  obtain ⟨k, rfl⟩ : ∃ m, k = m + 1 := ⟨k - 1, by omega⟩
  rw [arbiterref06_SameNums.l0, if_pos (by omega), if_pos (by omega), if_pos (by omega), if_pos rfl, show wrap64 ((j : Int) + 1) = ((j + 1 : Nat) : Int) by unfold wrap64; omega]
  exact ih (j + 1) k (by omega) (by omega)
theorem same_ok (l : List Int) (hl : l.length ≤ 1000) (k : Nat) (hk : l.length < k) : arbiterref06_SameNums.f k l l = some true := by
 unfold arbiterref06_SameNums.f; rw [if_pos rfl]
 exact same_l0 l hl l.length 0 k (by omega) hk
end Go.Proofs.YtaipkdglhfhhiaaDoor.Pt

namespace Go.Proofs.YtaipkdglhfhhiaaDoor.Hi
open Go Go.RowKit Go.Proofs.YtaipkdglhfhhiaaDoor.Nm Go.Proofs.YtaipkdglhfhhiaaDoorW.PrintWords Go.Proofs.YtaipkdglhfhhiaaDoorW.PrintLast Go.Proofs.YtaipkdglhfhhiaaDoorW.PrintMore Go.Proofs.YtaipkdglhfhhiaaDoor.Pt
set_option linter.unusedVariables false
set_option linter.unusedSimpArgs false
set_option maxHeartbeats 2000000
set_option maxRecDepth 100000
theorem super_any (w : World) (g : Nat) (es : List Ent) (hq : WOK w g es) (i : Int) :
  Calls Tryd.prog 17 #[.pointer (some ⟨g, 0, none⟩), .int .i64 i] w fun e w' => e = .returned (.tuple #[.int .i64 (superF es i).1, .int .i64 (superF es i).2]) ∧ Below w.heap.size w w' := by
 generalize hV : superF es i = V; replace hV := Lib.hid hV; unfold superF at hV
 by_cases hi : 0 ≤ i ∧ i < es.length
 ·obtain ⟨p, A2, c2, A5, c5, A8, c8, hb, l2, g2, l5, g5, l8, R8, HA⟩ := at_in hq hi.1 hi.2
  rw [if_pos hi] at hV; have CA := Lib.hid (HA w (Below.refl _ _)); generalize ent es i = x at *; replace hb := Lib.hid hb; clear HA hq l2 g2 l5 g5 l8 R8; go_enter Tryd.func17, Tryd.ntmps17; go_wp2_with fail; refine CA.out.mono ?_; rintro e w1 ⟨rfl, hb1⟩; have p6 : w1.cell? ⟨p, 6, none⟩ = some (.int .i64 x.above) := (blk_cell (blk_below hb.out hb1) 6).trans rfl; replace hb1 := Lib.hid hb1; clear CA
  by_cases ha : x.above < 0
  ·have hd : decide (x.above < 0) = true := decide_eq_true ha
   rw [if_pos ha] at hV; have hz := hV.out; subst hz; clear ha; go_wp2; go_ret2
   exact ⟨rfl, hb1.out⟩
  ·have hd : decide (x.above < 0) = false := decide_eq_false ha
   rw [if_neg ha] at hV; have hz := hV.out; subst hz; clear ha; go_wp2; go_ret2
   exact ⟨rfl, hb1.out⟩
 ·have CA := Lib.hid (at_out hq hi w (Below.refl _ _))
  rw [if_neg hi] at hV; have hz := hV.out; subst hz; clear hq hV; go_enter Tryd.func17, Tryd.ntmps17; go_wp2_with fail; refine CA.out.mono ?_; rintro e w1 ⟨rfl, hb1⟩; replace hb1 := Lib.hid hb1; clear CA; go_wp2; go_ret2
  exact ⟨rfl, hb1.out⟩
theorem depth_any (w : World) (g : Nat) (es : List Ent) (hq : WOK w g es) (i : Int) :
  Calls Tryd.prog 16 #[.pointer (some ⟨g, 0, none⟩), .int .i64 i] w fun e w' => e = .returned (.tuple #[.int .i64 (depthF es i).1, .int .i64 (depthF es i).2]) ∧ Below w.heap.size w w' := by
 generalize hV : depthF es i = V; replace hV := Lib.hid hV; unfold depthF at hV
 by_cases hi : 0 ≤ i ∧ i < es.length
 ·obtain ⟨p, A2, c2, A5, c5, A8, c8, hb, l2, g2, l5, g5, l8, R8, HA⟩ := at_in hq hi.1 hi.2
  rw [if_pos hi] at hV; have CA := Lib.hid (HA w (Below.refl _ _)); generalize ent es i = x at *; replace hb := Lib.hid hb; have hz := hV.out; subst hz; clear HA hq l2 g2 l5 g5 l8 R8 hV; go_enter Tryd.func16, Tryd.ntmps16; go_wp2_with fail; refine CA.out.mono ?_; rintro e w1 ⟨rfl, hb1⟩; have p7 : w1.cell? ⟨p, 7, none⟩ = some (.int .i64 x.depth) := (blk_cell (blk_below hb.out hb1) 7).trans rfl; replace hb1 := Lib.hid hb1; clear CA; go_wp2; go_ret2
  exact ⟨rfl, hb1.out⟩
 ·have CA := Lib.hid (at_out hq hi w (Below.refl _ _))
  rw [if_neg hi] at hV; have hz := hV.out; subst hz; clear hq hV; go_enter Tryd.func16, Tryd.ntmps16; go_wp2_with fail; refine CA.out.mono ?_; rintro e w1 ⟨rfl, hb1⟩; replace hb1 := Lib.hid hb1; clear CA; go_wp2; go_ret2
  exact ⟨rfl, hb1.out⟩
theorem closure_any (w : World) (g : Nat) (es : List Ent) (hq : WOK w g es) (i : Int) :
  Calls Tryd.prog 20 #[.pointer (some ⟨g, 0, none⟩), .int .i64 i] w fun e w' => ∃ v, e = .returned (.tuple #[v, .int .i64 (closureF es i).2]) ∧ Kd.R (Kd.int .i64) 3 w' w.heap.size (fun _ => True) v (closureF es i).1 ∧ Below w.heap.size w w' := by
 generalize hV : closureF es i = V; replace hV := Lib.hid hV; unfold closureF at hV
 by_cases hi : 0 ≤ i ∧ i < es.length
 ·have hcl := (hq.fine _ (List.mem_of_getElem? (get_ent hi.1 hi.2))).2.2
  obtain ⟨p, A2, c2, A5, c5, A8, c8, hb, l2, g2, l5, g5, l8, ⟨base, R8⟩, HA⟩ := at_in hq hi.1 hi.2; rw [if_pos hi] at hV; have CA := Lib.hid (HA w (Below.refl _ _)); generalize ent es i = x at *; have CL := Lib.hid (fun (W : World) (hb : Below w.heap.size w W) => cloneInt A8 c8 x.clo W (Kd.C_below (Kd.R_reads' R8).2.2 hb) (by omega)); replace hb := Lib.hid hb; have hz := hV.out; subst hz; clear HA hq l2 g2 l5 g5 l8 R8 hV; go_enter Tryd.func20, Tryd.ntmps20; go_wp2_with fail; refine CA.out.mono ?_; rintro e w1 ⟨rfl, hb1⟩; have p8 : w1.cell? ⟨p, 8, none⟩ = some (.slice A8 x.clo.length c8) := (blk_cell (blk_below hb.out hb1) 8).trans rfl; have C2 := Lib.hid (CL.out w1 hb1); replace hb1 := Lib.hid hb1; clear CA CL; go_wp2_with fail; refine C2.out.mono ?_; rintro e w2 ⟨v, rfl, R2, hb2⟩; obtain ⟨A9, c9, rfl⟩ := Kd.R_slice R2; have R3 := Lib.hid (Kd.R_lower R2 hb1.out.size); replace hb2 := Lib.hid hb2; clear C2 R2; go_wp2; go_ret2
  exact ⟨_, rfl, R3.out, hb1.out.trans (hb2.out.mono hb1.out.size)⟩
 ·have CA := Lib.hid (at_out hq hi w (Below.refl _ _))
  rw [if_neg hi] at hV; have hz := hV.out; subst hz; clear hq hV; go_enter Tryd.func20, Tryd.ntmps20; go_wp2_with fail; refine CA.out.mono ?_; rintro e w1 ⟨rfl, hb1⟩; replace hb1 := Lib.hid hb1; clear CA; go_wp2; go_ret2
  exact ⟨_, rfl, Kd.R_nil _ _ _ _ _, hb1.out⟩
theorem chain_any (w : World) (g : Nat) (es : List Ent) (hq : WOK w g es) (i : Int) :
  Calls Tryd.prog 15 #[.pointer (some ⟨g, 0, none⟩), .int .i64 i] w fun e w' => ∃ v, e = .returned (.tuple #[v, .int .i64 (chainF es i).2]) ∧ Kd.R (Kd.int .i64) 3 w' w.heap.size (fun _ => True) v (chainF es i).1 ∧ Below w.heap.size w w' := by
 generalize hV : chainF es i = V; replace hV := Lib.hid hV; unfold chainF at hV
 by_cases hi : 0 ≤ i ∧ i < es.length
 ·obtain ⟨p, A2, c2, A5, c5, A8, c8, hb, l2, g2, l5, g5, l8, _, HA⟩ := at_in hq hi.1 hi.2
  rw [if_pos hi] at hV; have CA := Lib.hid (HA w (Below.refl _ _)); have HW := Lib.hid hq; have hlen := hq.len; have hz := hV.out; subst hz; clear HA hb l2 g2 l5 g5 l8 hV; have hgl := Lib.hid hq.inn; clear hq; go_enter Tryd.func15, Tryd.ntmps15; go_wp2
  go_step3
  go_wp2_with fail; refine CA.out.mono ?_; rintro e w1 ⟨rfl, hb1⟩; replace hb1 := Lib.hid hb1; clear CA; go_wp2
  go_step3
  go_wp2
  go_loopw [1, 6] (fun v1 v6 wr => ∃ (c : Int) (acc : List Int), v1 = .int .i64 c ∧ Hid (0 ≤ c ∧ c < es.length) ∧ Hid (Kd.R (Kd.int .i64) 3 wr w.heap.size (fun _ => True) v6 acc) ∧ Hid (acc ++ chL es c = chL es i) ∧ Hid (acc.length + c.toNat ≤ i.toNat) ∧ Hid (Below w.heap.size w wr)) (fun v1 _ _ => (intOf v1).toNat)
  case atStart => exact ⟨i, [], rfl, Lib.hid hi, Lib.hid (Kd.R_nil _ _ _ _ _), Lib.hid rfl, Lib.hid (by simp), hb1⟩
  case round =>
   clear hb1; obtain ⟨c, acc, rfl, hc, hR, hA, hL, hbr⟩ := hrel; obtain ⟨Aa, ca, rfl⟩ := Kd.R_slice hR.out
   have hll : acc.length ≤ 1000 := by
    have h1 := hL.out; have h2 := hc.out
    omega
   obtain ⟨base, v, mb, ps, h⟩ := hgl.out; obtain ⟨Av, cv, rfl⟩ := Kd.R_slice h.row; obtain ⟨hnl, ad, p2, A2', c2', A5', c5', A8', c8', rfl, hrow, hent, _, _, _⟩ := WIn_all_at h hc.out.1 hc.out.2; have hg0 : w.cell? ⟨g, 0, none⟩ = some (.slice (some ad) ps.length cv) := (blk_cell h.blk 0).trans rfl; have u6 : w.cell? ⟨p2, 6, none⟩ = some (.int .i64 (ent es c).above) := (blk_cell hent 6).trans rfl
   have hlt2 : c < (ps.length : Int) := by have := hc.out.2; omega
   have hge2 : 0 ≤ c := hc.out.1; have HT := Lib.hid HW.out.tree; replace hg0 := Lib.hid hg0; replace hrow := Lib.hid hrow; replace u6 := Lib.hid u6; clear h hent; have hll2 : Hid ((acc ++ [c]).length = acc.length + 1) := Lib.hid (by simp)
   by_cases ha : (ent es c).above < 0
   ·have hd : decide ((ent es c).above < 0) = true := decide_eq_true ha
    have hF : Hid (acc ++ [c] = chL es i) := Lib.hid (by rw [← hA.out, chL_top HT.out hc.out.1 hc.out.2 ha]); clear hA; generalize (ent es c).above = ab at *; clear ha; go_wp2_with (at_builtin; refine Kd.R_append (Kd.int .i64) (w0 := w) (W := wr) w.heap.size rfl (.tmp 11) (.tmp 13) 43 3 (.int .i64 0) 8 rfl Tryd.underlying43 info_int rfl (by decide) (by omega) _ acc c [.int .i64 c] (fun _ => True) (fun _ => False) rfl rfl rfl (fun _ h => h.elim) (fun _ _ => trivial) hR.out hbr.out hbr.out.size (by omega) ?_; intro v1 w4 g1 g2 g3 g4; obtain ⟨A12, c12, rfl⟩ := Kd.R_slice g1; rw [hll2.out] at g1; replace g1 := Lib.hid g1; replace g2 := Lib.hid g2; clear g3 g4; have y0 := pw_cell_below g2.out hg0.out; have y1 := pw_cell_below g2.out hrow.out; have y2 := pw_cell_below g2.out u6.out); rw [Exit.noGoto_ret]; go_ret2
    exact ⟨_, rfl, by rw [← hF.out]; exact g1.out, g2.out⟩
   ·have hd : decide ((ent es c).above < 0) = false := decide_eq_false ha
    obtain ⟨e1, e2, e3⟩ := chL_step HT.out hc.out.1 hc.out.2 ha; have hF : Hid ((acc ++ [c]) ++ chL es (ent es c).above = chL es i) := Lib.hid (by rw [← hA.out, e1]; simp); have nr : Hid (0 ≤ (ent es c).above ∧ (ent es c).above < es.length) := Lib.hid ⟨e2, by have := hc.out.2; omega⟩; have nl : Hid ((acc ++ [c]).length + (ent es c).above.toNat ≤ i.toNat) := Lib.hid (by rw [hll2.out]; have := hL.out; omega); clear hA e1; generalize (ent es c).above = ab at *; clear ha; go_wp2_with (at_builtin; refine Kd.R_append (Kd.int .i64) (w0 := w) (W := wr) w.heap.size rfl (.tmp 11) (.tmp 13) 43 3 (.int .i64 0) 8 rfl Tryd.underlying43 info_int rfl (by decide) (by omega) _ acc c [.int .i64 c] (fun _ => True) (fun _ => False) rfl rfl rfl (fun _ h => h.elim) (fun _ _ => trivial) hR.out hbr.out hbr.out.size (by omega) ?_; intro v1 w4 g1 g2 g3 g4; obtain ⟨A12, c12, rfl⟩ := Kd.R_slice g1; rw [hll2.out] at g1; replace g1 := Lib.hid g1; replace g2 := Lib.hid g2; clear g3 g4; have y0 := pw_cell_below g2.out hg0.out; have y1 := pw_cell_below g2.out hrow.out; have y2 := pw_cell_below g2.out u6.out)
    exact ⟨⟨ab, acc ++ [c], rfl, nr, g1, hF, nl, g2⟩, by simp [intOf]; omega⟩
 ·have CA := Lib.hid (at_out hq hi w (Below.refl _ _))
  rw [if_neg hi] at hV; have hz := hV.out; subst hz; clear hq hV; go_enter Tryd.func15, Tryd.ntmps15; go_wp2
  go_step3
  go_wp2_with fail; refine CA.out.mono ?_; rintro e w1 ⟨rfl, hb1⟩; replace hb1 := Lib.hid hb1; clear CA; go_wp2; rw [Exit.noGoto_ret]; go_ret2
  exact ⟨_, rfl, Kd.R_nil _ _ _ _ _, hb1.out⟩
end Go.Proofs.YtaipkdglhfhhiaaDoor.Hi

namespace Go.Proofs.YtaipkdglhfhhiaaDoor.Pt
open Go Go.RowKit Go.Proofs.YtaipkdglhfhhiaaDoor.Nm Go.Proofs.YtaipkdglhfhhiaaDoor.Hi Go.Proofs.YtaipkdglhfhhiaaDoorW.PrintWords Go.Proofs.YtaipkdglhfhhiaaDoorW.PrintLast Go.Proofs.YtaipkdglhfhhiaaDoorW.PrintMore
set_option linter.unusedVariables false
set_option linter.unusedSimpArgs false
def hier_World_Len.f (a0 : List Hi.Ent) : Option Int := some (a0.length : Int)
def hier_World_Super.f (a0 : List Hi.Ent) (a1 : Int) : Option (Int × Int) := some (superF a0 a1)
theorem hier_World_Super.calls (G_ : Nat) (a0 : List Hi.Ent) (a1 : Int) (r1 : Int) (r2 : Int) (w : World) (hq0 : WOK w G_ a0) (h : hier_World_Super.f a0 a1 = some (r1, r2)) :
  Calls Tryd.prog 17 #[.pointer (some ⟨G_, 0, none⟩), .int .i64 a1] w fun e w' => e = .returned (.tuple #[.int .i64 r1, .int .i64 r2]) ∧ Below w.heap.size w w' := by
 have h := Option.some.inj h
 obtain rfl : (superF a0 a1).1 = r1 := by rw [h]
 obtain rfl : (superF a0 a1).2 = r2 := by rw [h]
 exact super_any w G_ a0 hq0 a1
def hier_World_Depth.f (a0 : List Hi.Ent) (a1 : Int) : Option (Int × Int) := some (depthF a0 a1)
theorem hier_World_Depth.calls (G_ : Nat) (a0 : List Hi.Ent) (a1 : Int) (r1 : Int) (r2 : Int) (w : World) (hq0 : WOK w G_ a0) (h : hier_World_Depth.f a0 a1 = some (r1, r2)) :
  Calls Tryd.prog 16 #[.pointer (some ⟨G_, 0, none⟩), .int .i64 a1] w fun e w' => e = .returned (.tuple #[.int .i64 r1, .int .i64 r2]) ∧ Below w.heap.size w w' := by
 have h := Option.some.inj h
 obtain rfl : (depthF a0 a1).1 = r1 := by rw [h]
 obtain rfl : (depthF a0 a1).2 = r2 := by rw [h]
 exact depth_any w G_ a0 hq0 a1
def hier_World_Closure.f (a0 : List Hi.Ent) (a1 : Int) : Option (List Int × Int) := some (closureF a0 a1)
theorem hier_World_Closure.calls (G_ : Nat) (a0 : List Hi.Ent) (a1 : Int) (r1 : List Int) (r2 : Int) (w : World) (hq0 : WOK w G_ a0) (h : hier_World_Closure.f a0 a1 = some (r1, r2)) :
  Calls Tryd.prog 20 #[.pointer (some ⟨G_, 0, none⟩), .int .i64 a1] w fun e w' => ∃ v0_ : Value, e = .returned (.tuple #[v0_, .int .i64 r2]) ∧ Kd.R (Kd.int .i64) 3 w' w.heap.size (fun _ => True) v0_ r1 ∧ Below w.heap.size w w' := by
 have h := Option.some.inj h
 obtain rfl : (closureF a0 a1).1 = r1 := by rw [h]
 obtain rfl : (closureF a0 a1).2 = r2 := by rw [h]
 exact closure_any w G_ a0 hq0 a1
def hier_World_Chain.f (a0 : List Hi.Ent) (a1 : Int) : Option (List Int × Int) := some (chainF a0 a1)
theorem hier_World_Chain.calls (G_ : Nat) (a0 : List Hi.Ent) (a1 : Int) (r1 : List Int) (r2 : Int) (w : World) (hq0 : WOK w G_ a0) (h : hier_World_Chain.f a0 a1 = some (r1, r2)) :
  Calls Tryd.prog 15 #[.pointer (some ⟨G_, 0, none⟩), .int .i64 a1] w fun e w' => ∃ v0_ : Value, e = .returned (.tuple #[v0_, .int .i64 r2]) ∧ Kd.R (Kd.int .i64) 3 w' w.heap.size (fun _ => True) v0_ r1 ∧ Below w.heap.size w w' := by
 have h := Option.some.inj h
 obtain rfl : (chainF a0 a1).1 = r1 := by rw [h]
 obtain rfl : (chainF a0 a1).2 = r2 := by rw [h]
 exact chain_any w G_ a0 hq0 a1
def slices_Clone_int_int.f (l0 : List Int) : Option (List Int) := if l0.length ≤ 1000000 then some l0 else none
theorem slices_Clone_int_int.calls (A0 : Option Addr) (c0 : Nat) (l0 : List Int) (r : List Int) (w : World) (hr0 : Kd.C (Kd.int .i64) w A0 l0.length l0) (hc0 : l0.length ≤ c0) (h : slices_Clone_int_int.f l0 = some r) :
  Calls Tryd.prog 36 #[.slice A0 l0.length c0] w fun e w' => ∃ v_ : Value, e = .returned v_ ∧ Kd.R (Kd.int .i64) 3 w' w.heap.size (fun _ => True) v_ r ∧ Below w.heap.size w w' := by
 obtain ⟨hl, h⟩ := if_some h; obtain rfl := Option.some.inj h
 exact cloneInt A0 c0 l0 w hr0 (by omega)
end Go.Proofs.YtaipkdglhfhhiaaDoor.Pt

namespace Go.Proofs.YtaipkdglhfhhiaaDoor.Pt
open Go.RowKit Go.Proofs.YtaipkdglhfhhiaaDoorW.PrintWords Go.Proofs.YtaipkdglhfhhiaaDoorW.PrintLast Go.Proofs.YtaipkdglhfhhiaaDoorW.PrintMore
attribute [local go_sem] max2_int min2_int max_two min_two max_three min_three max_four min_four   -- for this text's walks alone
set_option linter.unusedVariables false
set_option linter.unusedSimpArgs false
def display_at.f (l0_0 : List Int) (l0_1 : List Int) (l0_2 : List Int) (a1 : Int) : Option (Int) := if a1 < (l0_0.length : Int) then (if 0 ≤ a1 then (some (rd l0_0 a1)) else (none)) else (if a1 ≥ 8 then (if (wrap64 (a1 - 8)) < (l0_1.length : Int) then (if 0 ≤ (wrap64 (a1 - 8)) then (some (rd l0_1 (wrap64 (a1 - 8)))) else (none)) else (some (-1))) else (some (-1)))
set_option maxHeartbeats 8000000 in
set_option maxRecDepth 100000 in
theorem display_at.calls (A0_0 : Option Addr) (c0_0 : Nat) (l0_0 : List Int) (A0_1 : Option Addr) (c0_1 : Nat) (l0_1 : List Int) (A0_2 : Option Addr) (c0_2 : Nat) (l0_2 : List Int) (a1 : Int) (r : Int) (w : World) (hr0_0 : Kd.C (Kd.int .i64) w A0_0 l0_0.length l0_0) (hc0_0 : l0_0.length ≤ c0_0) (hr0_1 : Kd.C (Kd.int .i64) w A0_1 l0_1.length l0_1) (hc0_1 : l0_1.length ≤ c0_1) (hr0_2 : Kd.C (Kd.int .i64) w A0_2 l0_2.length l0_2) (hc0_2 : l0_2.length ≤ c0_2) (h : display_at.f l0_0 l0_1 l0_2 a1 = some r) :
  Calls Tryd.prog 53 #[.agg #[.slice A0_0 l0_0.length c0_0, .slice A0_1 l0_1.length c0_1, .slice A0_2 l0_2.length c0_2], .int .i64 a1] w fun e w' => e = .returned (.int .i64 r) ∧ Below w.heap.size w w' := by
 have hu45 := Tryd.underlying45; have HR0_0 := Aside0.mk hr0_0; have HC0_0 := Aside0.mk hc0_0; clear hr0_0 hc0_0; have HR0_1 := Aside0.mk hr0_1; have HC0_1 := Aside0.mk hc0_1; clear hr0_1 hc0_1; have HR0_2 := Aside0.mk hr0_2; have HC0_2 := Aside0.mk hc0_2; clear hr0_2 hc0_2; have HB := Aside0.mk (Below.refl w.heap.size w); have H : (if a1 < (l0_0.length : Int) then (if 0 ≤ a1 then (some (rd l0_0 a1)) else (none)) else (if a1 ≥ 8 then (if (wrap64 (a1 - 8)) < (l0_1.length : Int) then (if 0 ≤ (wrap64 (a1 - 8)) then (some (rd l0_1 (wrap64 (a1 - 8)))) else (none)) else (some (-1))) else (some (-1)))) = some r := h; clear h
 by_cases c3 : a1 < (l0_0.length : Int)
 ·rw [if_pos c3] at H
  have c3b0 : decide (a1 < (l0_0.length : Int)) = true := decide_eq_true c3; clear c3
  by_cases c4 : 0 ≤ a1
  ·rw [if_pos c4] at H
   have c4b0 : decide (0 ≤ a1) = true := decide_eq_true c4; clear c4; obtain rfl := Option.some.inj H; go_enter Tryd.func53, Tryd.ntmps53; go_wp2_with (first | ((with_reducible refine gate_dst (N := 2) rfl ?_); (try (refine gate_guard (by rfl) ?_; dsimp only)); refine eX 2 #[.slice A0_0 l0_0.length c0_0, .slice A0_1 l0_1.length c0_1, .slice A0_2 l0_2.length c0_2] 45 ?_; intro gb117 hg w5 hbox hb; have n0_ := Aside0.mk (below_step (bX HB) hb); have n1_ := Aside0.mk (hbox); have n2_ := Aside0.mk ((by rw [hg]; exact (below_size (bX HB)) : w.heap.size ≤ gb117)); have n3_ := Aside0.mk ((by rw [hg]; exact (below_size (bX HB)) : w.heap.size ≤ gb117)); clear HB; have HB := n0_; have BK117 := n1_; have GW117 := n2_; have GE117 := n3_; clear n0_ n1_ n2_ n3_; clear hb hbox hg; obtain ⟨hcz6_0, hcz6_1, hcz6_2, hfz6_0, hfz6_1, hfz6_2⟩ := c3X BK117; have p118 : 0 ≤ (a1 : Int) := qX; have q118 : a1 < (l0_0.length : Int) := qX; obtain ⟨ad118, e118, hx118_0⟩ := Kd.at_int HR0_0.out a1 p118 q118; cases e118; replace hx118_0 := (HB.out.cell (World.block_lt_of_cell? w _ hx118_0)).trans hx118_0; replace p118 := eq_true p118; replace q118 := eq_true q118)); go_ret
   exact ⟨by first | rfl | (simp [errW_none, errW_some] <;> rfl) | (simp [*, errW_none, errW_some] <;> rfl), bX1 HB GE117⟩
  ·rw [if_neg c4] at H
   exact absurd H (by simp)
 ·rw [if_neg c3] at H
  have c3b0 : decide (a1 < (l0_0.length : Int)) = false := decide_eq_false c3; clear c3
  by_cases c7 : a1 ≥ 8
  ·rw [if_pos c7] at H
   have c7b0 : decide (8 ≤ a1) = true := decide_eq_true c7; clear c7
   by_cases c8 : (wrap64 (a1 - 8)) < (l0_1.length : Int)
   ·rw [if_pos c8] at H
    have c8b0 : decide ((wrap64 (a1 - 8)) < (l0_1.length : Int)) = true := decide_eq_true c8; clear c8
    obtain ⟨ji9, hji9⟩ : ∃ j_ : Int, (wrap64 (a1 - 8)) = j_ := ⟨_, rfl⟩
    replace H : (if 0 ≤ (ji9) then (some (rd l0_1 (ji9))) else (none)) = some r := by first | (rw [hji9] at H; exact H) | (simp only [hji9] at H ⊢; exact H)
    (try rw [hji9] at c8b0)
    have hji9w : (IntKind.i64.wrap (a1 - 8)) = ji9 := (i64_w _).trans hji9
    by_cases c10 : 0 ≤ (ji9)
    ·rw [if_pos c10] at H
     have c10b0 : decide (0 ≤ (ji9)) = true := decide_eq_true c10; clear c10; obtain rfl := Option.some.inj H; go_enter Tryd.func53, Tryd.ntmps53; go_wp2_with (first | ((with_reducible refine gate_dst (N := 2) rfl ?_); (try (refine gate_guard (by rfl) ?_; dsimp only)); refine eX 2 #[.slice A0_0 l0_0.length c0_0, .slice A0_1 l0_1.length c0_1, .slice A0_2 l0_2.length c0_2] 45 ?_; intro gb117 hg w11 hbox hb; have n0_ := Aside0.mk (below_step (bX HB) hb); have n1_ := Aside0.mk (hbox); have n2_ := Aside0.mk ((by rw [hg]; exact (below_size (bX HB)) : w.heap.size ≤ gb117)); have n3_ := Aside0.mk ((by rw [hg]; exact (below_size (bX HB)) : w.heap.size ≤ gb117)); clear HB; have HB := n0_; have BK117 := n1_; have GW117 := n2_; have GE117 := n3_; clear n0_ n1_ n2_ n3_; clear hb hbox hg; obtain ⟨hcz12_0, hcz12_1, hcz12_2, hfz12_0, hfz12_1, hfz12_2⟩ := c3X BK117; have p119 : 0 ≤ ((ji9) : Int) := qX; have q119 : (ji9) < (l0_1.length : Int) := qX; obtain ⟨ad119, e119, hx119_0⟩ := Kd.at_int HR0_1.out (ji9) p119 q119; cases e119; replace hx119_0 := (HB.out.cell (World.block_lt_of_cell? w _ hx119_0)).trans hx119_0; replace p119 := eq_true p119; replace q119 := eq_true q119)); go_ret
     exact ⟨by first | rfl | (simp [errW_none, errW_some] <;> rfl) | (simp only [← hji9]; first | rfl | (simp [errW_none, errW_some] <;> rfl)) | (simp [*, errW_none, errW_some] <;> rfl), bX1 HB GE117⟩
    ·rw [if_neg c10] at H
     exact absurd H (by simp)
   ·rw [if_neg c8] at H
    have c8b0 : decide ((wrap64 (a1 - 8)) < (l0_1.length : Int)) = false := decide_eq_false c8; clear c8; obtain rfl := Option.some.inj H; go_enter Tryd.func53, Tryd.ntmps53; go_wp2_with (first | ((with_reducible refine gate_dst (N := 2) rfl ?_); (try (refine gate_guard (by rfl) ?_; dsimp only)); refine eX 2 #[.slice A0_0 l0_0.length c0_0, .slice A0_1 l0_1.length c0_1, .slice A0_2 l0_2.length c0_2] 45 ?_; intro gb117 hg w13 hbox hb; have n0_ := Aside0.mk (below_step (bX HB) hb); have n1_ := Aside0.mk (hbox); have n2_ := Aside0.mk ((by rw [hg]; exact (below_size (bX HB)) : w.heap.size ≤ gb117)); have n3_ := Aside0.mk ((by rw [hg]; exact (below_size (bX HB)) : w.heap.size ≤ gb117)); clear HB; have HB := n0_; have BK117 := n1_; have GW117 := n2_; have GE117 := n3_; clear n0_ n1_ n2_ n3_; clear hb hbox hg; obtain ⟨hcz14_0, hcz14_1, hcz14_2, hfz14_0, hfz14_1, hfz14_2⟩ := c3X BK117)); go_ret
    exact ⟨by first | rfl | (simp [errW_none, errW_some] <;> rfl) | (simp [*, errW_none, errW_some] <;> rfl), bX1 HB GE117⟩
  ·rw [if_neg c7] at H
   have c7b0 : decide (8 ≤ a1) = false := decide_eq_false c7; clear c7; obtain rfl := Option.some.inj H; go_enter Tryd.func53, Tryd.ntmps53; go_wp2_with (first | ((with_reducible refine gate_dst (N := 2) rfl ?_); (try (refine gate_guard (by rfl) ?_; dsimp only)); refine eX 2 #[.slice A0_0 l0_0.length c0_0, .slice A0_1 l0_1.length c0_1, .slice A0_2 l0_2.length c0_2] 45 ?_; intro gb117 hg w15 hbox hb; have n0_ := Aside0.mk (below_step (bX HB) hb); have n1_ := Aside0.mk (hbox); have n2_ := Aside0.mk ((by rw [hg]; exact (below_size (bX HB)) : w.heap.size ≤ gb117)); have n3_ := Aside0.mk ((by rw [hg]; exact (below_size (bX HB)) : w.heap.size ≤ gb117)); clear HB; have HB := n0_; have BK117 := n1_; have GW117 := n2_; have GE117 := n3_; clear n0_ n1_ n2_ n3_; clear hb hbox hg; obtain ⟨hcz16_0, hcz16_1, hcz16_2, hfz16_0, hfz16_1, hfz16_2⟩ := c3X BK117)); go_ret
   exact ⟨by first | rfl | (simp [errW_none, errW_some] <;> rfl) | (simp [*, errW_none, errW_some] <;> rfl), bX1 HB GE117⟩
end Go.Proofs.YtaipkdglhfhhiaaDoor.Pt

namespace Go.Proofs.YtaipkdglhfhhiaaDoor.Pt
open Go.RowKit Go.Proofs.YtaipkdglhfhhiaaDoorW.PrintWords Go.Proofs.YtaipkdglhfhhiaaDoorW.PrintLast Go.Proofs.YtaipkdglhfhhiaaDoorW.PrintMore
attribute [local go_sem] max2_int min2_int max_two min_two max_three min_three max_four min_four   -- for this text's walks alone
set_option linter.unusedVariables false
set_option linter.unusedSimpArgs false
def slices_Reverse_int_int.l0 : Nat → List Int → Int → Int → Option (List Int)
 | 0, _, _, _ => none
 | k + 1, x0, x2, x3 => if x2 < x3 then (if 0 ≤ x3 then (if x3 < (x0.length : Int) then (if 0 ≤ x2 then (if x2 < (x0.length : Int) then (slices_Reverse_int_int.l0 k ((x0.set (x2 : Int).toNat (rd x0 x3)).set (x3 : Int).toNat (rd x0 x2)) (wrap64 (x2 + 1)) (wrap64 (x3 - 1))) else (none)) else (none)) else (none)) else (none)) else (some x0)
def slices_Reverse_int_int.f (k : Nat) (l0 : List Int) : Option (List Int) := slices_Reverse_int_int.l0 k l0 0 (wrap64 ((l0.length : Int) - 1))
def slices_Reverse_int_int.T3 : Bool × List (List Nat × List Nat) := (true, [([], []), ([], []), ([], []), ([], []), ([], []), ([], []), ([4, 5], [4, 5]), ([6], [6]), ([], []), ([], []), ([8, 9], [8, 9]), ([10], [10]), ([0, 1, 0, 1, 4, 5, 6, 7, 11], [0, 1]), ([12, 7, 0, 1, 4, 5, 6, 7, 11], [7, 12]), ([2, 3, 0, 1, 2, 3, 4, 5, 6, 7, 8, 9, 10, 11, 12, 13], [2, 3]), ([14, 11, 13, 0, 1, 2, 3, 4, 5, 6, 7, 8, 9, 10, 11, 12, 13], [11, 14])])
def slices_Reverse_int_int.B3 : List Nat := [0, 0, 0, 0, 0, 0, 48, 112, 0, 0, 768, 1792, 4083, 8179, 16383, 32767]
theorem slices_Reverse_int_int.tab3 : rtab .any (opsOf Tryd.f35 3) = slices_Reverse_int_int.T3 := by kernel_rfl
theorem slices_Reverse_int_int.bits3 : waitsOk slices_Reverse_int_int.T3.2 slices_Reverse_int_int.B3 = true := by kernel_rfl
set_option maxHeartbeats 8000000 in
set_option maxRecDepth 100000 in
theorem slices_Reverse_int_int.calls (k : Nat) (P0_ : Nat → Prop) (u9000_ : Value) (l0 : List Int) (r : List Int) (w0 w : World) (hB : Below w0.heap.size w0 w) (ho0 : Kd.R (Kd.int .i64) 3 w w0.heap.size P0_ u9000_ l0) (h : slices_Reverse_int_int.f k l0 = some r) :
  Calls Tryd.prog 35 #[u9000_] w fun e w' => e = .returned (.tuple #[]) ∧ Kd.R (Kd.int .i64) 3 w' w0.heap.size (fun k_ => (P0_ k_ ∨ w.heap.size ≤ k_)) u9000_ r ∧ Below w0.heap.size w0 w' ∧ Kept w w' (fun k_ => P0_ k_) := by
 have HO0 := Aside0.mk (show Kd.R (Kd.int .i64) 3 w w0.heap.size (fun k_ => (P0_ k_ ∨ w.heap.size ≤ k_)) u9000_ l0 from Kd.R_mono ho0 (fun k_ hk => (.inl hk))); have HK := Aside0.mk (Kept.refl w (fun k_ => P0_ k_)); have HW0 := Aside0.mk hB.size; have HB := Aside0.mk hB; clear hB; have H : (slices_Reverse_int_int.l0 k l0 0 (wrap64 ((l0.length : Int) - 1))) = some r := h; clear h; have H' := Aside0.mk H; clear H; obtain ⟨Ao2, co2, eo2⟩ := Kd.R_slice HO0.out; subst eo2; go_enter Tryd.func35, Tryd.ntmps35; go_wp2
 go_loopg [2, 3] k (fun kq v2 v3 w' => ∃ (x0_1 : List Int) (x2_1 : Int) (x3_1 : Int), v2 = .int .i64 x2_1 ∧ v3 = .int .i64 x3_1 ∧ Aside0 (slices_Reverse_int_int.l0 kq x0_1 x2_1 x3_1 = some r) ∧ Aside0 (kq ≤ k) ∧ Aside0 (Kd.R (Kd.int .i64) 3 w' w0.heap.size (fun k_ => (P0_ k_ ∨ w.heap.size ≤ k_)) (.slice Ao2 l0.length co2) x0_1) ∧ Aside0 (Kept w w' (fun k_ => P0_ k_)) ∧ Aside0 (Below w0.heap.size w0 w'))
 case atStart => exact ⟨(l0), (0), (wrap64 ((l0.length : Int) - 1)), vX, vX, H', ⟨Nat.le_refl _⟩, ⟨rX HO0⟩, ⟨by repeat (first | (with_reducible first | exact HK.out | apply Kept.alloc | apply Kept.drewN | apply Kept.drew) | exact HK.out)⟩, ⟨bX HB⟩⟩
 case round =>
  clear H'
  try clear p2
  obtain ⟨x0_1, x2_1, x3_1, rfl, rfl, HA, HK1, HO_0, HK, HB⟩ := hrel; have hl0_1 := (Kd.R_reads' HO_0.out).1; rw [hl0_1] at HO_0
  (try simp only [hl0_1])
  cases gk with
  | zero => exact absurd HA.out (by simp [slices_Reverse_int_int.l0])
  | succ k1 =>
   have H := HA.out; clear HA; simp only [slices_Reverse_int_int.l0] at H
   by_cases c3 : x2_1 < x3_1
   ·rw [if_pos c3] at H
    have c3b0 : decide (x2_1 < x3_1) = true := decide_eq_true c3; clear c3
    by_cases c4 : 0 ≤ x3_1
    ·rw [if_pos c4] at H
     have c4b0 : decide (0 ≤ x3_1) = true := decide_eq_true c4; clear c4
     by_cases c5 : x3_1 < (x0_1.length : Int)
     ·rw [if_pos c5] at H
      have c5b0 : decide (x3_1 < (x0_1.length : Int)) = true := decide_eq_true c5; clear c5
      by_cases c6 : 0 ≤ x2_1
      ·rw [if_pos c6] at H
       have c6b0 : decide (0 ≤ x2_1) = true := decide_eq_true c6; clear c6
       by_cases c7 : x2_1 < (x0_1.length : Int)
       ·rw [if_pos c7] at H
        have c7b0 : decide (x2_1 < (x0_1.length : Int)) = true := decide_eq_true c7; clear c7
        obtain ⟨y122, hy122⟩ : ∃ y_ : List Int, y_ = (x0_1.set (x2_1 : Int).toNat (rd x0_1 x3_1)) := ⟨_, rfl⟩
        replace H : (slices_Reverse_int_int.l0 k1 (y122.set (x3_1 : Int).toNat (rd x0_1 x2_1)) (wrap64 (x2_1 + 1)) (wrap64 (x3_1 - 1))) = some r := by first | (rw [hy122]; with_reducible exact H) | (have H2_ := (Option.bind_some _ _).symm.trans H; rw [hy122]; with_reducible exact H2_) | (have H2_ := (Option.bind_some _ _).symm.trans H; with_reducible exact H2_) | with_reducible exact H | (rw [hy122]; exact H) | exact H
        have Ny122 := Aside0.mk hy122; clear hy122
        obtain ⟨y123, hy123⟩ : ∃ y_ : List Int, y_ = (y122.set (x3_1 : Int).toNat (rd x0_1 x2_1)) := ⟨_, rfl⟩
        replace H : (slices_Reverse_int_int.l0 k1 y123 (wrap64 (x2_1 + 1)) (wrap64 (x3_1 - 1))) = some r := by first | (rw [hy123]; with_reducible exact H) | (have H2_ := (Option.bind_some _ _).symm.trans H; rw [hy123]; with_reducible exact H2_) | (have H2_ := (Option.bind_some _ _).symm.trans H; with_reducible exact H2_) | with_reducible exact H | (rw [hy123]; exact H) | exact H
        have Ny123 := Aside0.mk hy123; clear hy123; have H' := Aside0.mk H; clear H
        try go_wp2
        have n0_ := Aside0.mk (Kd.R_drew HO_0.out); have n1_ := Aside0.mk (Kept.drew HK.out); have n2_ := Aside0.mk (below_drew1 HB.out); clear HO_0; clear HK; clear HB; have HO_0 := n0_; have HK := n1_; have HB := n2_; clear n0_ n1_ n2_; have p120 : 0 ≤ (x3_1 : Int) := qX; have q120 : x3_1 < (x0_1.length : Int) := qX; obtain ⟨ad120, e120, hx120_0⟩ := Kd.at_int (Kd.R_reads' HO_0.out).2.2 x3_1 p120 q120
        cases e120
        replace p120 := eq_true p120; replace q120 := eq_true q120; have p121 : 0 ≤ (x2_1 : Int) := qX; have q121 : x2_1 < (x0_1.length : Int) := qX; obtain ⟨ad121, e121, hx121_0⟩ := Kd.at_int (Kd.R_reads' HO_0.out).2.2 x2_1 p121 q121
        obtain rfl : ad120 = ad121 := (by injection e121)
        replace p121 := eq_true p121; replace q121 := eq_true q121; have p8 : 0 ≤ (x2_1 : Int) := qX; have q8 : (x2_1 : Int) < ((x0_1.length : Int) : Int) := qX; obtain ⟨go8, co8, eo8, gb8, gl8, cl8, HG8⟩ := Kd.R_form HO_0.out (by omega)
        (first | cases eo8 | (injection eo8 with ea_ en_ ec_; (first | subst ea_ | (injection ea_ with ea_; subst ea_)); subst ec_; clear en_))
        have GB8 := Aside0.mk gb8; have GG8 := Aside0.mk HG8; clear gb8 gl8 HG8; have HMgo8 := Aside0.mk (show (P0_ go8 ∨ w.heap.size ≤ go8) from (HO_0.out.1 _ rfl))
        (first | simp only [add_plain] at hx120_0 | skip)
        (first | simp only [add_plain] at hx121_0 | skip)
        obtain ⟨hx8_0, hf8_0⟩ := Kd.R_celln 0 HO_0.out (x2_1 : Int) p8 q8; replace p8 := eq_true p8; replace q8 := eq_true q8; have HP11 := Kd.R_putn HO_0.out (x2_1 : Int) (rd x0_1 x3_1); rw [← Ny122.out] at HP11; have HQ11 := Aside0.mk HP11; clear HP11; have p9 : 0 ≤ (x3_1 : Int) := qX; have q9 : (x3_1 : Int) < ((x0_1.length : Int) : Int) := qX; obtain ⟨hx9_0, hf9_0⟩ := Kd.R_celln 0 HQ11.out (x3_1 : Int) p9 q9; replace p9 := eq_true p9; replace q9 := eq_true q9; have HP12 := Kd.R_putn HQ11.out (x3_1 : Int) (rd x0_1 x2_1); rw [← Ny123.out] at HP12; have HQ12 := Aside0.mk HP12; clear HP12; refine start_ (n := 16) (S := fun w' => w'.cell? ⟨go8, (x3_1).toNat, none⟩ = some (.int .i64 (rd x0_1 x3_1)) ∧ w'.cell? ⟨go8, (x2_1).toNat, none⟩ = some (.int .i64 (rd x0_1 x2_1))) (ds := [13, 15]) #[false, false, false, false, false, false, false, false, false, false, false, false, false, false, false, false] (by kernel_rfl) rfl rfl ⟨hx120_0, hx121_0⟩ (fun hHeld => ?_); refine with_tabW slices_Reverse_int_int.tab3 slices_Reverse_int_int.bits3 (fun HT_ HW_ => ?_); generalize wr.drew = w10 at HO_0 HK HB GG8 HQ11 HQ12 hf8_0 hf9_0 hx120_0 hx121_0 hx8_0 hx9_0 hHeld ⊢; refine pX HT_ 0 (some 14) ?_; refine pX HT_ 1 (some 15) ?_; refine pX HT_ 2 (some 16) ?_; refine pX HT_ 3 (some 17) ?_; refine pX HT_ 4 (some 18) ?_; refine pX HT_ 5 (some 19) ?_; refine pX HT_ 6 (some 20) ?_; refine pX HT_ 8 (some 22) ?_; refine pX HT_ 9 (some 23) ?_; refine pX HT_ 10 (some 24) ?_; refine tX HT_ HW_ hHeld 7 (some 21) ?_; refine tX HT_ HW_ hHeld 11 (some 25) ?_; refine pX HT_ 12 (some 26) ?_; refine last_ (i := 13) (N := none) #[true, true, true, true, true, true, true, true, true, true, true, true, true, true, false, false] rfl rfl (one_of HT_.out (by kernel_rfl)) (by decide) (fun K hK => ?_); refine skip_ (w1 := ?_) (by rfl) rfl ?_ ?_; rotate_left
        ·go_simp
         rfl
        refine hK.out _ _ ?_; clear hK K; refine pX HT_ 14 (some 27) ?_; refine last_ (i := 15) (N := none) #[true, true, true, true, true, true, true, true, true, true, true, true, true, true, true, true] rfl rfl (one_of HT_.out (by kernel_rfl)) (by decide) (fun K hK => ?_); refine skip_ (w1 := ?_) (by rfl) rfl ?_ ?_; rotate_left
        ·go_simp
         rfl
        refine hK.out _ _ ?_; clear hK K; refine done_ (done_of HT_.out (by kernel_rfl)) ?_
        try go_wp2
        (try simp only [← hl0_1])
        go_roundg k1
        case measure => have := HK1.out; omega
        case rel => exact ⟨(y123), (wrap64 (x2_1 + 1)), (wrap64 (x3_1 - 1)), vX, vX, H', ⟨by have := HK1.out; omega⟩, ⟨by (try simp only [hl0_1]); (with_reducible repeat (first | apply Kd.R_alloc | apply Kd.R_drewN | apply Kd.R_drew)); exact HQ12.out⟩, ⟨by repeat (first | (with_reducible first | exact HK.out | apply Kept.alloc | apply Kept.drewN | apply Kept.drew | refine Kept.setCell ?_ HMgo8.out _ | refine Kept.setCell ?_ HMgo8.out _) | exact HK.out)⟩, ⟨by repeat (first | (with_reducible first | exact HB.out | apply below_alloc | apply pw_below_drewN | apply below_drew1 | refine below_set ?_ GB8.out | refine below_set ?_ GB8.out) | exact HB.out)⟩⟩
       ·rw [if_neg c7] at H
        exact absurd H (by simp)
      ·rw [if_neg c6] at H
       exact absurd H (by simp)
     ·rw [if_neg c5] at H
      exact absurd H (by simp)
    ·rw [if_neg c4] at H
     exact absurd H (by simp)
   ·rw [if_neg c3] at H
    have c3b0 : decide (x2_1 < x3_1) = false := decide_eq_false c3; clear c3; obtain rfl := Option.some.inj H; go_wp2
    first | go_end0 | ((try simp only [Exit.inBlock, Exit.then]); refine bodyPost_ret (results_none rfl _ _ _) rfl ?_)
    exact ⟨by first | rfl | (simp [errW_none, errW_some] <;> rfl) | (simp [*, errW_none, errW_some] <;> rfl), (by first | exact (rX HO_0) | (simp only [hl0_1]; exact (rX HO_0))), bX HB, by repeat (first | (with_reducible first | exact HK.out | apply Kept.alloc | apply Kept.drewN | apply Kept.drew) | exact HK.out)⟩
end Go.Proofs.YtaipkdglhfhhiaaDoor.Pt

namespace Go.Proofs.YtaipkdglhfhhiaaDoor.Pt
open Go.RowKit Go.Proofs.YtaipkdglhfhhiaaDoorW.PrintWords Go.Proofs.YtaipkdglhfhhiaaDoorW.PrintLast Go.Proofs.YtaipkdglhfhhiaaDoorW.PrintMore
attribute [local go_sem] max2_int min2_int max_two min_two max_three min_three max_four min_four   -- for this text's walks alone
set_option linter.unusedVariables false
set_option linter.unusedSimpArgs false
def display_Build.f (k : Nat) (a0 : List Hi.Ent) (a1 : Int) : Option (List Int × List Int × List Int × Int) := (hier_World_Chain.f a0 a1).bind fun bt125 => (if bt125.2 = 0 then ((slices_Reverse_int_int.f k bt125.1).bind fun t129 => ((hier_World_Closure.f a0 a1).bind fun bt130 => (if 0 ≤ (mn (bt125.1.length : Int) 8) then (if (mn (bt125.1.length : Int) 8) ≤ (bt125.1.length : Int) then ((slices_Clone_int_int.f (t129.take ((mn (bt125.1.length : Int) 8) : Int).toNat)).bind fun t138 => ((slices_Clone_int_int.f (t129.drop ((mn (bt125.1.length : Int) 8) : Int).toNat)).bind fun t145 => (some (t138, t145, bt130.1, 0)))) else (none)) else (none)))) else (some (([] : List Int), ([] : List Int), ([] : List Int), bt125.2)))
def display_Build.T9 : Bool × List (List Nat × List Nat) := (true, [([], []), ([], []), ([0, 1], [0, 1]), ([2], [2]), ([], []), ([], []), ([4, 5], [4, 5]), ([6, 3], [6]), ([], []), ([3, 7, 8], [3, 7, 8]), ([9, 7, 0, 1, 2, 3, 4, 5, 6, 7, 8, 9], [9]), ([10, 0, 1, 2, 3, 4, 5, 6, 7, 8, 9, 10], [])])
def display_Build.B9 : List Nat := [0, 0, 3, 7, 0, 0, 48, 127, 0, 511, 1023, 2047]
theorem display_Build.tab9 : rtab .any (opsOf Tryd.f14 9) = display_Build.T9 := by kernel_rfl
theorem display_Build.bits9 : waitsOk display_Build.T9.2 display_Build.B9 = true := by kernel_rfl
set_option maxHeartbeats 8000000 in
set_option maxRecDepth 100000 in
theorem display_Build.calls (k : Nat) (G_ : Nat) (a0 : List Hi.Ent) (a1 : Int) (r1 : List Int) (r2 : List Int) (r3 : List Int) (r4 : Int) (w : World) (hq0 : WOK w G_ a0) (h : display_Build.f k a0 a1 = some (r1, r2, r3, r4)) :
  Calls Tryd.prog 14 #[.pointer (some ⟨G_, 0, none⟩), .int .i64 a1] w fun e w' => ∃ v0_ v1_ v2_ : Value, e = .returned (.tuple #[.agg #[v0_, v1_, v2_], .int .i64 r4]) ∧ Kd.R (Kd.int .i64) 3 w' w.heap.size (fun k_ => some k_ ≠ (v1_ : Value).ownBlock ∧ some k_ ≠ (v2_ : Value).ownBlock) v0_ r1 ∧ Kd.R (Kd.int .i64) 3 w' w.heap.size (fun k_ => some k_ ≠ (v0_ : Value).ownBlock ∧ some k_ ≠ (v2_ : Value).ownBlock) v1_ r2 ∧ Kd.R (Kd.int .i64) 3 w' w.heap.size (fun k_ => some k_ ≠ (v0_ : Value).ownBlock ∧ some k_ ≠ (v1_ : Value).ownBlock) v2_ r3 ∧ Below w.heap.size w w' := by
 have hu45 := Tryd.underlying45; have HQa0 := Aside0.mk hq0; clear hq0; have HB := Aside0.mk (Below.refl w.heap.size w); have H : ((hier_World_Chain.f a0 a1).bind fun bt125 => (if bt125.2 = 0 then ((slices_Reverse_int_int.f k bt125.1).bind fun t129 => ((hier_World_Closure.f a0 a1).bind fun bt130 => (if 0 ≤ (mn (bt125.1.length : Int) 8) then (if (mn (bt125.1.length : Int) 8) ≤ (bt125.1.length : Int) then ((slices_Clone_int_int.f (t129.take ((mn (bt125.1.length : Int) 8) : Int).toNat)).bind fun t138 => ((slices_Clone_int_int.f (t129.drop ((mn (bt125.1.length : Int) 8) : Int).toNat)).bind fun t145 => (some (t138, t145, bt130.1, 0)))) else (none)) else (none)))) else (some (([] : List Int), ([] : List Int), ([] : List Int), bt125.2)))) = some (r1, r2, r3, r4) := h; clear h; replace H := Option.bind_eq_some_iff.mp H; obtain ⟨⟨t125, t126⟩, A30, H⟩ := H; replace H : (if t126 = 0 then ((slices_Reverse_int_int.f k t125).bind fun t129 => ((hier_World_Closure.f a0 a1).bind fun bt130 => (if 0 ≤ (mn (t125.length : Int) 8) then (if (mn (t125.length : Int) 8) ≤ (t125.length : Int) then ((slices_Clone_int_int.f (t129.take ((mn (t125.length : Int) 8) : Int).toNat)).bind fun t138 => ((slices_Clone_int_int.f (t129.drop ((mn (t125.length : Int) 8) : Int).toNat)).bind fun t145 => (some (t138, t145, bt130.1, 0)))) else (none)) else (none)))) else (some (([] : List Int), ([] : List Int), ([] : List Int), t126))) = some (r1, r2, r3, r4) := H; have A3 := Aside0.mk A30; clear A30
 by_cases c4 : t126 = 0
 ·rw [if_pos c4] at H
  have c4b0 : (t126 == 0) = true := beq_iff_eq.mpr c4; have c4b1 : (t126 != 0) = false := bne_eq_false_iff_eq.mpr c4; clear c4; replace H := Option.bind_eq_some_iff.mp H; obtain ⟨t129, A50, H⟩ := H; replace H : ((hier_World_Closure.f a0 a1).bind fun bt130 => (if 0 ≤ (mn (t125.length : Int) 8) then (if (mn (t125.length : Int) 8) ≤ (t125.length : Int) then ((slices_Clone_int_int.f (t129.take ((mn (t125.length : Int) 8) : Int).toNat)).bind fun t138 => ((slices_Clone_int_int.f (t129.drop ((mn (t125.length : Int) 8) : Int).toNat)).bind fun t145 => (some (t138, t145, bt130.1, 0)))) else (none)) else (none))) = some (r1, r2, r3, r4) := H; have A5 := Aside0.mk A50; clear A50
  obtain ⟨ji6, hji6⟩ : ∃ j_ : Int, (mn (t125.length : Int) 8) = j_ := ⟨_, rfl⟩
  replace H : ((hier_World_Closure.f a0 a1).bind fun bt130 => (if 0 ≤ (ji6) then (if (ji6) ≤ (t125.length : Int) then ((slices_Clone_int_int.f (t129.take ((ji6) : Int).toNat)).bind fun t138 => ((slices_Clone_int_int.f (t129.drop ((ji6) : Int).toNat)).bind fun t145 => (some (t138, t145, bt130.1, 0)))) else (none)) else (none))) = some (r1, r2, r3, r4) := by first | (rw [hji6] at H; exact H) | (simp only [hji6] at H ⊢; exact H)
  (try rw [hji6] at A3)
  (try rw [hji6] at A5)
  (try (have hji6h : ji6 ≤ 8 := by (rw [← hji6]; unfold mn; (repeat' split) <;> omega)))
  (try (have hji6g : ji6 ≤ 64 := by omega))
  (try (have hji6l : 0 ≤ ji6 := by (rw [← hji6]; unfold mn; (repeat' split) <;> omega)))
  (try (have hji6m : 0 ≤ ji6 := by omega))
  have hji6_ : (if 8 < (t125.length : Int) then 8 else (t125.length : Int)) = ji6 := hji6; replace H := Option.bind_eq_some_iff.mp H; obtain ⟨⟨t130, t131⟩, A70, H⟩ := H; replace H : (if 0 ≤ (ji6) then (if (ji6) ≤ (t125.length : Int) then ((slices_Clone_int_int.f (t129.take ((ji6) : Int).toNat)).bind fun t138 => ((slices_Clone_int_int.f (t129.drop ((ji6) : Int).toNat)).bind fun t145 => (some (t138, t145, t130, 0)))) else (none)) else (none)) = some (r1, r2, r3, r4) := H; have A7 := Aside0.mk A70; clear A70
  by_cases c8 : 0 ≤ (ji6)
  ·rw [if_pos c8] at H
   have c8b0 := eq_true c8; have c8b1 : decide (0 ≤ (ji6)) = true := decide_eq_true c8; clear c8
   by_cases c9 : (ji6) ≤ (t125.length : Int)
   ·rw [if_pos c9] at H
    have c9b0 := eq_true c9; have c9b1 : decide ((ji6) ≤ (t125.length : Int)) = true := decide_eq_true c9; clear c9
    obtain ⟨y134, hy134⟩ : ∃ y_ : List Int, y_ = (t129.take ((ji6) : Int).toNat) := ⟨_, rfl⟩
    replace H : ((slices_Clone_int_int.f y134).bind fun t138 => ((slices_Clone_int_int.f (t129.drop ((ji6) : Int).toNat)).bind fun t145 => (some (t138, t145, t130, 0)))) = some (r1, r2, r3, r4) := by first | (rw [hy134]; with_reducible exact H) | (have H2_ := (Option.bind_some _ _).symm.trans H; rw [hy134]; with_reducible exact H2_) | (have H2_ := (Option.bind_some _ _).symm.trans H; with_reducible exact H2_) | with_reducible exact H | (rw [hy134]; exact H) | exact H
    have Ny134 := Aside0.mk hy134; clear hy134; replace H := Option.bind_eq_some_iff.mp H; obtain ⟨t138, A100, H⟩ := H; replace H : ((slices_Clone_int_int.f (t129.drop ((ji6) : Int).toNat)).bind fun t145 => (some (t138, t145, t130, 0))) = some (r1, r2, r3, r4) := H; have A10 := Aside0.mk A100; clear A100; have c11b0 := eq_true (qX : 0 ≤ (ji6)); have c12b0 := eq_true (qX : (ji6) ≤ (t125.length : Int))
    obtain ⟨y141, hy141⟩ : ∃ y_ : List Int, y_ = (t129.drop ((ji6) : Int).toNat) := ⟨_, rfl⟩
    replace H : ((slices_Clone_int_int.f y141).bind fun t145 => (some (t138, t145, t130, 0))) = some (r1, r2, r3, r4) := by first | (rw [hy141]; with_reducible exact H) | (have H2_ := (Option.bind_some _ _).symm.trans H; rw [hy141]; with_reducible exact H2_) | (have H2_ := (Option.bind_some _ _).symm.trans H; with_reducible exact H2_) | with_reducible exact H | (rw [hy141]; exact H) | exact H
    have Ny141 := Aside0.mk hy141; clear hy141; replace H := Option.bind_eq_some_iff.mp H; obtain ⟨t145, A130, H⟩ := H; replace H : (some (t138, t145, t130, 0)) = some (r1, r2, r3, r4) := H; have A13 := Aside0.mk A130; clear A130; simp only [Option.some.injEq, Prod.mk.injEq] at H; obtain ⟨rfl, rfl, rfl, rfl⟩ := H; go_enter Tryd.func14, Tryd.ntmps14
    try go_wp2_with (first | ((with_reducible refine gate_dst (N := 4) rfl ?_); refine eX 4 #[.slice none 0 0, .slice none 0 0, .slice none 0 0] 45 ?_; intro gb124 hg w14 hbox hb; have n0_ := Aside0.mk (below_step (bX HB) hb); have n1_ := Aside0.mk (hbox); have n2_ := Aside0.mk ((by rw [hg]; exact (below_size (bX HB)) : w.heap.size ≤ gb124)); have n3_ := Aside0.mk ((by rw [hg]; exact (below_size (bX HB)) : w.heap.size ≤ gb124)); clear HB; have HB := n0_; have BK124 := n1_; have GW124 := n2_; have GE124 := n3_; clear n0_ n1_ n2_ n3_; clear hb hbox hg) | ((with_reducible refine gate_callee (f := 15) rfl ?_); refine gX (some 17) Tryd.func15 #[.pointer (some ⟨G_, 0, none⟩), .int .i64 a1] ?_; (with_reducible refine (hier_World_Chain.calls G_ a0 a1 t125 t126 _ ?side1 A3.out).mono ?_); (case side1 => repeat (first | (with_reducible exact HQa0.out) | (with_reducible refine WOK.alloc ?_ _) | (with_reducible refine WOK.drewN ?_ _) | (with_reducible refine WOK.drew ?_) | exact WOK.below HQa0.out HB.out | exact WOK.below HQa0.out (bX1 HB GE124))); rintro e w15 ⟨v127, rfl, ho0, hb⟩; refine ⟨_, rfl, ?_⟩; have n0_ := Aside0.mk (Kd.R_lower ho0 (below_size (bX1 HB GE124))); have n1_ := Aside0.mk (blk_below (kX BK124) hb); have n2_ := Aside0.mk (below_step (bX1 HB GE124) hb); clear BK124; clear HB; have HO128 := n0_; have BK124 := n1_; have HB := n2_; clear n0_ n1_ n2_; (try clear hb); (try clear hb2); (try clear hk); (try clear hi); (try clear ho0); obtain ⟨Ao16, co16, eo16⟩ := Kd.R_slice HO128.out; subst eo16) | ((with_reducible refine gate_callee (f := 35) rfl ?_); refine gX (some 25) Tryd.func35 #[.slice Ao16 t125.length co16] ?_; (with_reducible refine (slices_Reverse_int_int.calls k (fun k_ => some k_ = (.slice Ao16 t125.length co16 : Value).ownBlock) (.slice Ao16 t125.length co16) t125 t129 w _ ?side1 ?side2 A5.out).mono ?_); (case side1 => repeat (first | (with_reducible first | exact HB.out | apply below_alloc | apply pw_below_drewN | apply below_drew1 | refine below_set ?_ GE124.out) | exact HB.out)); (case side2 => exact Kd.R_tight rfl HO128.out); rintro e w17 ⟨rfl, hy0, hb, hkp⟩; refine ⟨_, rfl, ?_⟩; have n0_ := Aside0.mk (blk_kept (kX BK124) hkp (fun hs_ => (fun e_ => (Kd.R_ne HO128.out BK124.out (by decide)) e_) hs_)); have n1_ := Aside0.mk (Kd.R_reok rfl hy0 (fun k_ e_ => HO128.out.1 k_ e_)); have n2_ := Aside0.mk (hb); clear BK124; clear HO128; clear HB; have BK124 := n0_; have HO128 := n1_; have HB := n2_; clear n0_ n1_ n2_; (try clear hb); (try clear hkp); (try clear hy0)) | ((with_reducible refine gate_callee (f := 20) rfl ?_); refine gX (some 32) Tryd.func20 #[.pointer (some ⟨G_, 0, none⟩), .int .i64 a1] ?_; (with_reducible refine (hier_World_Closure.calls G_ a0 a1 t130 t131 _ ?side1 A7.out).mono ?_); (case side1 => repeat (first | (with_reducible exact HQa0.out) | (with_reducible refine WOK.alloc ?_ _) | (with_reducible refine WOK.drewN ?_ _) | (with_reducible refine WOK.drew ?_) | exact WOK.below HQa0.out HB.out | exact WOK.below HQa0.out (bX1 HB GE124))); rintro e w18 ⟨v132, rfl, ho0, hb⟩; refine ⟨_, rfl, ?_⟩; have n0_ := Aside0.mk (Kd.R_elder' (rX HO128) (Kd.R_base ho0) hb); have n1_ := Aside0.mk (Kd.R_lower (Kd.R_new' ho0 (Kd.R_lt (rX HO128))) (below_size (bX1 HB GE124))); have n2_ := Aside0.mk (blk_below (kX BK124) hb); have n3_ := Aside0.mk (below_step (bX1 HB GE124) hb); clear HO128; clear BK124; clear HB; have HO128 := n0_; have HO133 := n1_; have BK124 := n2_; have HB := n3_; clear n0_ n1_ n2_ n3_; (try clear hb); (try clear hb2); (try clear hk); (try clear hi); (try clear ho0)))
    have n0_ := Aside0.mk (Kd.R_drew HO128.out); have n1_ := Aside0.mk (Kd.R_drew HO133.out); have n2_ := Aside0.mk (blk_drew BK124.out); have n3_ := Aside0.mk (below_drew1 HB.out); clear HO128; clear HO133; clear BK124; clear HB; have HO128 := n0_; have HO133 := n1_; have BK124 := n2_; have HB := n3_; clear n0_ n1_ n2_ n3_; have hlx20 := (Kd.R_reads' HO128.out).1; have q20 : ((ji6) : Int) ≤ ((t125.length : Int) : Int) := qX; obtain ⟨i020, hi020, _, hsz20, _⟩ := info_parts info3; have hroom20 : t125.length ≤ co16 := (Kd.R_reads' HO128.out).2.1
    have hroomc20 : t129.length ≤ co16 := (by rw [← hlx20]; exact hroom20)
    have hC20 : Kd.C (Kd.int .i64) _ Ao16 t129.length t129 := (Kd.R_reads' HO128.out).2.2; have hcut20 := cut_to (P := Tryd.prog) 43 3 .i64 Tryd.underlying43 hi020 Ao16 t125.length co16 (ji6) (qX) q20 hroom20; have hr20 := Kd.C_take (m := ((ji6) : Int).toNat) hC20 (by omega)
    have hy20 : y134.length = ((ji6) : Int).toNat := (by rw [Ny134.out, List.length_take]; omega)
    rw [← Ny134.out] at hr20; rw [← hy20] at hcut20; have HR137 := Aside0.mk hr20; have HC137 := Aside0.mk (show y134.length ≤ co16 from by omega); clear hr20 hC20 hroom20 hi020 hsz20 hroomc20; have KY20 := Aside0.mk hy20; clear hy20; have KE20 := Aside0.mk hlx20; have KL20 := Aside0.mk (show ((ji6) : Int).toNat ≤ t129.length from by omega); clear hlx20; replace q20 := eq_true q20; have hlx21 := (Kd.R_reads' HO128.out).1; have q21 : ((ji6) : Int) ≤ ((t125.length : Int) : Int) := qX; obtain ⟨i021, hi021, _, hsz21, _⟩ := info_parts info3; have hroom21 : t125.length ≤ co16 := (Kd.R_reads' HO128.out).2.1
    have hroomc21 : t129.length ≤ co16 := (by rw [← hlx21]; exact hroom21)
    have hC21 : Kd.C (Kd.int .i64) _ Ao16 t129.length t129 := (Kd.R_reads' HO128.out).2.2; have q021 : (0 : Int) ≤ ((ji6) : Int) := qX; have hcut21 := cut_from (P := Tryd.prog) 43 3 .i64 Tryd.underlying43 hi021 1 hsz21 Ao16 t125.length co16 (ji6) q021 q21; have hr21 := Kd.C_drop (m := ((ji6) : Int).toNat) (c := co16) hC21 (by omega) hroomc21
    obtain ⟨A21, hA21⟩ : ∃ A1, A1 = (if co16 = ((ji6) : Int).toNat then Ao16 else (Ao16 : Option Addr).map (·.add (((ji6) : Int).toNat * 1))) := ⟨_, rfl⟩
    obtain ⟨c21, hc21⟩ : ∃ c1, c1 = co16 - ((ji6) : Int).toNat := ⟨_, rfl⟩
    have hy21 : y141.length = t125.length - ((ji6) : Int).toNat := (by rw [Ny141.out, List.length_drop] <;> omega)
    rw [show (t129).drop ((ji6) : Int).toNat = y141 from Ny141.out.symm] at hr21
    replace hr21 : Kd.C (Kd.int .i64) _ A21 y141.length y141 := (by rw [hA21]; exact hr21)
    rw [← hy21, ← hA21, ← hc21] at hcut21; have HR144 := Aside0.mk hr21; have HC144 := Aside0.mk (show y141.length ≤ c21 from by rw [hy21, hc21]; exact Nat.sub_le_sub_right hroom21 _); clear hr21 hC21 hroom21 hi021 hsz21 hc21 hroomc21; have KY21 := Aside0.mk hy21; have KA21 := Aside0.mk hA21; clear hy21 hA21; have KE21 := Aside0.mk hlx21; have KL21 := Aside0.mk (show ((ji6) : Int).toNat ≤ t129.length from by omega); clear hlx21; replace q21 := eq_true q21; refine start_ (n := 12) (S := fun w' => True) (ds := []) #[false, false, false, false, false, false, false, false, false, false, false, false] (by kernel_rfl) rfl rfl trivial (fun hHeld => ?_); refine with_tabW display_Build.tab9 display_Build.bits9 (fun HT_ HW_ => ?_); generalize w18.drew = w19 at HO128 HO133 BK124 HB HR137 HR144 hHeld ⊢; refine pX HT_ 0 (some 35) ?_; refine pX HT_ 1 (some 36) ?_; refine pX HT_ 2 (some 37) ?_; refine pX HT_ 4 (some 39) ?_; refine pX HT_ 5 (some 40) ?_; refine pX HT_ 6 (some 41) ?_; refine pX HT_ 8 (some 43) ?_; refine oX HT_ 3 (some 38) (fun K hK => ?_); refine hX Tryd.func36 #[.slice Ao16 y134.length co16] ?_
    with_reducible refine (slices_Clone_int_int.calls _ _ y134 t138 _ ?side1 ?side2 A10.out).mono ?_
    (case side1 => repeat (first | exact (by repeat (first | (with_reducible exact HR137.out) | (with_reducible refine Kd.C_alloc ?_ _) | (with_reducible refine Kd.C_drewN ?_ _) | (with_reducible refine Kd.C_drew ?_) | exact HR137.out)) | (with_reducible refine Kd.C_alloc ?_ _) | (with_reducible refine Kd.C_drewN ?_ _) | (with_reducible refine Kd.C_drew ?_)))
    (case side2 => exact HC137.out)
    rintro e w22 ⟨v139, rfl, ho0, hb⟩; refine ⟨_, rfl, ?_⟩; have n0_ := Aside0.mk (Kd.R_elder' (rX HO128) (Kd.R_base ho0) hb); have n1_ := Aside0.mk (Kd.R_elder' (rX HO133) (Kd.R_base ho0) hb); have n2_ := Aside0.mk (Kd.R_lower (Kd.R_new' (Kd.R_new' ho0 (Kd.R_lt (rX HO128))) (Kd.R_lt (rX HO133))) (below_size (bX1 HB GE124))); have n3_ := Aside0.mk (blk_below (kX BK124) hb); have n4_ := Aside0.mk (Kd.C_below (by repeat (first | (with_reducible exact HR137.out) | (with_reducible refine Kd.C_alloc ?_ _) | (with_reducible refine Kd.C_drewN ?_ _) | (with_reducible refine Kd.C_drew ?_) | exact HR137.out)) hb); have n5_ := Aside0.mk (Kd.C_below (by repeat (first | (with_reducible exact HR144.out) | (with_reducible refine Kd.C_alloc ?_ _) | (with_reducible refine Kd.C_drewN ?_ _) | (with_reducible refine Kd.C_drew ?_) | exact HR144.out)) hb); have n6_ := Aside0.mk (below_step (bX1 HB GE124) hb); clear HO128; clear HO133; clear BK124; clear HR137; clear HR144; clear HB; have HO128 := n0_; have HO133 := n1_; have HO140 := n2_; have BK124 := n3_; have HR137 := n4_; have HR144 := n5_; have HB := n6_; clear n0_ n1_ n2_ n3_ n4_ n5_ n6_
    (try clear hb)
    (try clear hb2)
    (try clear hk)
    (try clear hi)
    (try clear ho0)
    refine hK.out _ _ trivial (fun hHeld => ?_); clear hK K; refine nX (some 38) ?_; refine oX HT_ 7 (some 42) (fun K hK => ?_); refine hX Tryd.func36 #[.slice A21 y141.length c21] ?_
    with_reducible refine (slices_Clone_int_int.calls _ _ y141 t145 _ ?side1 ?side2 A13.out).mono ?_
    (case side1 => repeat (first | exact (by repeat (first | (with_reducible exact HR144.out) | (with_reducible refine Kd.C_alloc ?_ _) | (with_reducible refine Kd.C_drewN ?_ _) | (with_reducible refine Kd.C_drew ?_) | exact HR144.out)) | (with_reducible refine Kd.C_alloc ?_ _) | (with_reducible refine Kd.C_drewN ?_ _) | (with_reducible refine Kd.C_drew ?_)))
    (case side2 => exact HC144.out)
    rintro e w23 ⟨v146, rfl, ho0, hb⟩; refine ⟨_, rfl, ?_⟩; have n0_ := Aside0.mk (Kd.R_elder' (rX HO128) (Kd.R_base ho0) hb); have n1_ := Aside0.mk (Kd.R_elder' (rX HO133) (Kd.R_base ho0) hb); have n2_ := Aside0.mk (Kd.R_elder' (rX HO140) (Kd.R_base ho0) hb); have n3_ := Aside0.mk (Kd.R_lower (Kd.R_new' (Kd.R_new' (Kd.R_new' ho0 (Kd.R_lt (rX HO128))) (Kd.R_lt (rX HO133))) (Kd.R_lt (rX HO140))) (below_size (bX1 HB GE124))); have n4_ := Aside0.mk (blk_below (kX BK124) hb); have n5_ := Aside0.mk (Kd.C_below (by repeat (first | (with_reducible exact HR137.out) | (with_reducible refine Kd.C_alloc ?_ _) | (with_reducible refine Kd.C_drewN ?_ _) | (with_reducible refine Kd.C_drew ?_) | exact HR137.out)) hb); have n6_ := Aside0.mk (Kd.C_below (by repeat (first | (with_reducible exact HR144.out) | (with_reducible refine Kd.C_alloc ?_ _) | (with_reducible refine Kd.C_drewN ?_ _) | (with_reducible refine Kd.C_drew ?_) | exact HR144.out)) hb); have n7_ := Aside0.mk (below_step (bX1 HB GE124) hb); clear HO128; clear HO133; clear HO140; clear BK124; clear HR137; clear HR144; clear HB; have HO128 := n0_; have HO133 := n1_; have HO140 := n2_; have HO147 := n3_; have BK124 := n4_; have HR137 := n5_; have HR144 := n6_; have HB := n7_; clear n0_ n1_ n2_ n3_ n4_ n5_ n6_ n7_
    (try clear hb)
    (try clear hb2)
    (try clear hk)
    (try clear hi)
    (try clear ho0)
    obtain ⟨Ao24, co24, eo24⟩ := Kd.R_slice HO133.out
    (first | subst eo24 | (injection eo24 with f1_ f2_ f3_; have f4_ := f1_.symm; have f5_ := f3_.symm; clear f1_ f2_ f3_; subst f4_; subst f5_))
    obtain ⟨Ao25, co25, eo25⟩ := Kd.R_slice HO147.out
    (first | subst eo25 | (injection eo25 with f1_ f2_ f3_; have f4_ := f1_.symm; have f5_ := f3_.symm; clear f1_ f2_ f3_; subst f4_; subst f5_))
    obtain ⟨Ao26, co26, eo26⟩ := Kd.R_slice HO140.out
    (first | subst eo26 | (injection eo26 with f1_ f2_ f3_; have f4_ := f1_.symm; have f5_ := f3_.symm; clear f1_ f2_ f3_; subst f4_; subst f5_))
    refine hK.out _ _ trivial (fun hHeld => ?_); clear hK K; refine nX (some 42) ?_; refine pX HT_ 9 (some 44) ?_; refine oX HT_ 10 none (fun K hK => ?_); have hs27 : w23.cell? ⟨gb124, 0, none⟩ = some (.slice none 0 0) := (blk_cell BK124.out 0).trans rfl; have hfs27 := blk_frozen BK124.out 0; have hs28 : w23.cell? ⟨gb124, 1, none⟩ = some (.slice none 0 0) := (blk_cell BK124.out 1).trans rfl; have hfs28 := blk_frozen BK124.out 1; have hs29 : w23.cell? ⟨gb124, 2, none⟩ = some (.slice none 0 0) := (blk_cell BK124.out 2).trans rfl; have hfs29 := blk_frozen BK124.out 2; refine skip_ (w1 := ?_) (by rfl) rfl ?_ ?_; rotate_left
    ·go_simp
     rfl
    refine hK.out _ _ trivial (fun hHeld => ?_); clear hK K; refine pX HT_ 11 (some 5) ?_; refine done_ (done_of HT_.out (by kernel_rfl)) ?_
    try go_wp2
    refine bodyPost_ret (results_ct rfl _ _ gb124 45 #[.slice Ao26 t138.length co26, .slice Ao25 t145.length co25, .slice Ao24 t130.length co24] (0, 0) _ rfl (by (with_reducible repeat (first | refine blk_drewN ?_ _ | refine blk_drew ?_ | refine blk_alloc ?_ _)); refine blk_put (cs := #[.slice Ao26 t138.length co26, .slice Ao25 t145.length co25, .slice none 0 0]) ?_ 2 _ rfl; (with_reducible repeat (first | refine blk_drewN ?_ _ | refine blk_drew ?_ | refine blk_alloc ?_ _)); refine blk_put (cs := #[.slice Ao26 t138.length co26, .slice none 0 0, .slice none 0 0]) ?_ 1 _ rfl; (with_reducible repeat (first | refine blk_drewN ?_ _ | refine blk_drew ?_ | refine blk_alloc ?_ _)); refine blk_put (cs := #[.slice none 0 0, .slice none 0 0, .slice none 0 0]) ?_ 0 _ rfl; (with_reducible repeat (first | refine blk_drewN ?_ _ | refine blk_drew ?_ | refine blk_alloc ?_ _)); exact BK124.out) Tryd.underlying45 rfl (by kernel_rfl)) rfl ?_
    exact ⟨_, _, _, by first | rfl | (simp [errW_none, errW_some] <;> rfl) | (simp only [← hji6]; first | rfl | (simp [errW_none, errW_some] <;> rfl)) | (simp [*, errW_none, errW_some] <;> rfl), by (with_reducible repeat (first | apply Kd.R_alloc | apply Kd.R_drewN | apply Kd.R_drew)); exact Kd.R_mono (Kd.R_far (p := ⟨gb124, 2, none⟩) (Kd.R_far (p := ⟨gb124, 1, none⟩) (Kd.R_far (p := ⟨gb124, 0, none⟩) (Kd.R_types HO140.out BK124.out (by decide)) (fun _ hk => hk.2) (.slice Ao26 t138.length co26)) (fun _ hk => hk.2) (.slice Ao25 t145.length co25)) (fun _ hk => hk.2) (.slice Ao24 t130.length co24)) (fun _ hk => ⟨hk.1.2, hk.1.1.2⟩), by (with_reducible repeat (first | apply Kd.R_alloc | apply Kd.R_drewN | apply Kd.R_drew)); exact Kd.R_mono (Kd.R_far (p := ⟨gb124, 2, none⟩) (Kd.R_far (p := ⟨gb124, 1, none⟩) (Kd.R_far (p := ⟨gb124, 0, none⟩) (Kd.R_types HO147.out BK124.out (by decide)) (fun _ hk => hk.2) (.slice Ao26 t138.length co26)) (fun _ hk => hk.2) (.slice Ao25 t145.length co25)) (fun _ hk => hk.2) (.slice Ao24 t130.length co24)) (fun _ hk => ⟨hk.1.2, hk.1.1.2⟩), by (with_reducible repeat (first | apply Kd.R_alloc | apply Kd.R_drewN | apply Kd.R_drew)); exact Kd.R_mono (Kd.R_far (p := ⟨gb124, 2, none⟩) (Kd.R_far (p := ⟨gb124, 1, none⟩) (Kd.R_far (p := ⟨gb124, 0, none⟩) (Kd.R_types HO133.out BK124.out (by decide)) (fun _ hk => hk.2) (.slice Ao26 t138.length co26)) (fun _ hk => hk.2) (.slice Ao25 t145.length co25)) (fun _ hk => hk.2) (.slice Ao24 t130.length co24)) (fun _ hk => ⟨hk.1.1.2, hk.1.2⟩), bX1 HB GE124⟩
   ·rw [if_neg c9] at H
    exact absurd H (by simp)
  ·rw [if_neg c8] at H
   exact absurd H (by simp)
 ·rw [if_neg c4] at H
  have c4b0 : (t126 == 0) = false := beq_eq_false_iff_ne.mpr c4; have c4b1 : (t126 != 0) = true := bne_iff_ne.mpr c4; simp only [Option.some.injEq, Prod.mk.injEq] at H; obtain ⟨rfl, rfl, rfl, rfl⟩ := H; go_enter Tryd.func14, Tryd.ntmps14; go_wp2_with (first | ((with_reducible refine gate_dst (N := 4) rfl ?_); refine eX 4 #[.slice none 0 0, .slice none 0 0, .slice none 0 0] 45 ?_; intro gb124 hg w30 hbox hb; have n0_ := Aside0.mk (below_step (bX HB) hb); have n1_ := Aside0.mk (hbox); have n2_ := Aside0.mk ((by rw [hg]; exact (below_size (bX HB)) : w.heap.size ≤ gb124)); have n3_ := Aside0.mk ((by rw [hg]; exact (below_size (bX HB)) : w.heap.size ≤ gb124)); clear HB; have HB := n0_; have BK124 := n1_; have GW124 := n2_; have GE124 := n3_; clear n0_ n1_ n2_ n3_; clear hb hbox hg) | ((with_reducible refine gate_callee (f := 15) rfl ?_); refine gX (some 17) Tryd.func15 #[.pointer (some ⟨G_, 0, none⟩), .int .i64 a1] ?_; (with_reducible refine (hier_World_Chain.calls G_ a0 a1 t125 t126 _ ?side1 A3.out).mono ?_); (case side1 => repeat (first | (with_reducible exact HQa0.out) | (with_reducible refine WOK.alloc ?_ _) | (with_reducible refine WOK.drewN ?_ _) | (with_reducible refine WOK.drew ?_) | exact WOK.below HQa0.out HB.out | exact WOK.below HQa0.out (bX1 HB GE124))); rintro e w31 ⟨v127, rfl, ho0, hb⟩; refine ⟨_, rfl, ?_⟩; have n0_ := Aside0.mk (Kd.R_lower ho0 (below_size (bX1 HB GE124))); have n1_ := Aside0.mk (blk_below (kX BK124) hb); have n2_ := Aside0.mk (below_step (bX1 HB GE124) hb); clear BK124; clear HB; have HO128 := n0_; have BK124 := n1_; have HB := n2_; clear n0_ n1_ n2_; (try clear hb); (try clear hb2); (try clear hk); (try clear hi); (try clear ho0); obtain ⟨hcz32_0, hcz32_1, hcz32_2, hfz32_0, hfz32_1, hfz32_2⟩ := c3X BK124)); refine bodyPost_ret (results_ct rfl _ _ gb124 45 #[.slice none 0 0, .slice none 0 0, .slice none 0 0] (0, 0) _ rfl (by (with_reducible repeat (first | refine blk_drewN ?_ _ | refine blk_drew ?_ | refine blk_alloc ?_ _)); refine blk_put (cs := #[.slice none 0 0, .slice none 0 0, .slice none 0 0]) ?_ 2 _ rfl; (with_reducible repeat (first | refine blk_drewN ?_ _ | refine blk_drew ?_ | refine blk_alloc ?_ _)); refine blk_put (cs := #[.slice none 0 0, .slice none 0 0, .slice none 0 0]) ?_ 1 _ rfl; (with_reducible repeat (first | refine blk_drewN ?_ _ | refine blk_drew ?_ | refine blk_alloc ?_ _)); refine blk_put (cs := #[.slice none 0 0, .slice none 0 0, .slice none 0 0]) ?_ 0 _ rfl; (with_reducible repeat (first | refine blk_drewN ?_ _ | refine blk_drew ?_ | refine blk_alloc ?_ _)); exact BK124.out) Tryd.underlying45 rfl (by kernel_rfl)) rfl ?_
  exact ⟨_, _, _, by first | rfl | (simp [errW_none, errW_some] <;> rfl) | (simp [*, errW_none, errW_some] <;> rfl), by first | exact Kd.R_nil _ _ _ _ _ | exact Kd.N_nil _ _ _ _ _ | exact Kd.V_nil _ _ _ _ _ | exact Kd.Q_nil _ _ _ _ _ | exact Kd.S_nil _ _ _ _ _, by first | exact Kd.R_nil _ _ _ _ _ | exact Kd.N_nil _ _ _ _ _ | exact Kd.V_nil _ _ _ _ _ | exact Kd.Q_nil _ _ _ _ _ | exact Kd.S_nil _ _ _ _ _, by first | exact Kd.R_nil _ _ _ _ _ | exact Kd.N_nil _ _ _ _ _ | exact Kd.V_nil _ _ _ _ _ | exact Kd.Q_nil _ _ _ _ _ | exact Kd.S_nil _ _ _ _ _, bX1 HB GE124⟩
end Go.Proofs.YtaipkdglhfhhiaaDoor.Pt

namespace Go.Proofs.YtaipkdglhfhhiaaDoor.Pt
open Go Go.RowKit Go.Proofs.YtaipkdglhfhhiaaDoor.Nm Go.Proofs.YtaipkdglhfhhiaaDoor.Hi Go.Proofs.YtaipkdglhfhhiaaDoorW.PrintWords Go.Proofs.YtaipkdglhfhhiaaDoorW.PrintLast Go.Proofs.YtaipkdglhfhhiaaDoorW.PrintMore
set_option linter.unusedVariables false
set_option linter.unusedSimpArgs false
set_option maxHeartbeats 2000000
set_option maxRecDepth 100000
theorem rev_l0 (l : List Int) (hl : l.length ≤ 1000) : ∀ (k i : Nat) (acc : List Int), acc.length = l.length → l.length < k + i → i ≤ l.length →
  (∀ j, j < l.length → acc[j]? = if j < i ∨ l.length ≤ j + i then l[l.length - 1 - j]? else l[j]?) → slices_Reverse_int_int.l0 k acc (i : Int) ((l.length : Int) - 1 - i) = some l.reverse := by
 intro k
 induction k with
 | zero => intro i acc _ h1 h2 _; omega
 | succ k ih =>
  intro i acc ha h1 h2 hp; rw [slices_Reverse_int_int.l0]
  by_cases h : (i : Int) < (l.length : Int) - 1 - i
  ·obtain ⟨q, hq⟩ : ∃ q : Nat, (l.length : Int) - 1 - i = q := ⟨l.length - 1 - i, by omega⟩
   have hr : ∀ j : Nat, j < l.length → rd acc (j : Int) = (acc[j]?).getD 0 := fun j _ => by simp [rd, List.getD_eq_getElem?_getD]
   rw [if_pos h, hq, if_pos (by omega), if_pos (by omega), if_pos (by omega), if_pos (by omega), Int.toNat_natCast, Int.toNat_natCast, hr q (by omega), hr i (by omega), hp q (by omega), hp i (by omega)]; rw [if_neg (by omega), if_neg (by omega), show wrap64 ((i : Int) + 1) = ((i + 1 : Nat) : Int) by unfold wrap64; omega, show wrap64 ((q : Int) - 1) = (l.length : Int) - 1 - ((i + 1 : Nat) : Int) by unfold wrap64; omega]; refine ih (i + 1) _ (by simp [ha]) (by omega) (by omega) fun j hj => ?_
   have hg : ∀ m : Nat, m < l.length → some ((l[m]?).getD 0) = l[m]? := fun m hm => by rw [List.getElem?_eq_getElem hm]; rfl
   rw [List.getElem?_set, List.getElem?_set, List.length_set, ha]
   by_cases c1 : q = j
   ·subst c1
    rw [if_pos rfl, if_pos hj, if_pos (by omega), hg i (by omega)]
    congr 1
    omega
   ·rw [if_neg c1]
    by_cases c2 : i = j
    ·subst c2
     rw [if_pos rfl, if_pos hj, if_pos (by omega), hg q (by omega)]
     congr 1
     omega
    ·rw [if_neg c2, hp j hj]
     by_cases c3 : j < i ∨ l.length ≤ j + i
     ·rw [if_pos c3, if_pos (by omega)]
     ·rw [if_neg c3, if_neg (by omega)]
  ·rw [if_neg h]
   congr 1
   refine List.ext_getElem? fun j => ?_
   by_cases hj : j < l.length
   ·rw [hp j hj, List.getElem?_reverse hj]
    by_cases c3 : j < i ∨ l.length ≤ j + i
    ·rw [if_pos c3]
    ·rw [if_neg c3]
     congr 1
     omega
   ·rw [List.getElem?_eq_none (by omega), List.getElem?_eq_none (by rw [List.length_reverse]; omega)]
theorem rev_tot (l : List Int) (hl : l.length ≤ 1000) (k : Nat) (hk : l.length < k) : slices_Reverse_int_int.f k l = some l.reverse := by
 unfold slices_Reverse_int_int.f
 have := rev_l0 l hl k 0 l rfl (by omega) (by omega) fun j hj => by rw [if_neg (by omega)]
 rw [show wrap64 ((l.length : Int) - 1) = (l.length : Int) - 1 - ((0 : Nat) : Int) by unfold wrap64; omega]
 exact this
theorem build_tot (es : List Ent) (ht : Tree es) (hl : es.length ≤ 1000) (hc : ∀ x ∈ es, x.clo.length ≤ 1000) (k : Nat) (hk : 1000 < k) (i : Int) : display_Build.f k es i = some (buildF es i) := by
 unfold display_Build.f; rw [show hier_World_Chain.f es i = some (chainF es i) from rfl, Option.bind_some, show hier_World_Closure.f es i = some (closureF es i) from rfl]
 by_cases hi : 0 ≤ i ∧ i < es.length
 ·have h1 := chL_len ht hi.1 hi.2
  have h2 := ht.depth_ hi.1 hi.2
  have hcl : (chL es i).length ≤ 1000 := by omega
  rw [show chainF es i = (chL es i, 0) from if_pos hi, show closureF es i = ((ent es i).clo, 0) from if_pos hi, buildF, if_pos hi]
  show (if (0 : Int) = 0 then (slices_Reverse_int_int.f k (chL es i)).bind _ else _) = _
  rw [if_pos rfl, rev_tot _ hcl k (by omega), Option.bind_some, Option.bind_some]
  obtain ⟨m, hm, hm2⟩ : ∃ m : Nat, mn ((chL es i).length : Int) 8 = m ∧ m = min (chL es i).length 8 := ⟨_, by unfold mn; omega, rfl⟩
  show (if 0 ≤ mn ((chL es i).length : Int) 8 then _ else _) = _
  rw [hm, if_pos (by omega), if_pos (show (m : Int) ≤ ((chL es i).length : Int) by omega), Int.toNat_natCast]; unfold slices_Clone_int_int.f; rw [if_pos (by rw [List.length_take, List.length_reverse]; omega), Option.bind_some, if_pos (by rw [List.length_drop, List.length_reverse]; omega), Option.bind_some]
  have e1 : (chL es i).reverse.take m = (rcL es i).take 8 := by
   rw [hm2]; unfold rcL
   by_cases h8 : (chL es i).length ≤ 8
   ·rw [show min (chL es i).length 8 = (chL es i).reverse.length by rw [List.length_reverse]; omega, List.take_length, List.take_of_length_le (by rw [List.length_reverse]; exact h8)]
   ·rw [show min (chL es i).length 8 = 8 by omega]
  have e2 : (chL es i).reverse.drop m = (rcL es i).drop 8 := by
   rw [hm2]; unfold rcL
   by_cases h8 : (chL es i).length ≤ 8
   ·rw [List.drop_eq_nil_of_le (by rw [List.length_reverse]; omega), List.drop_eq_nil_of_le (by rw [List.length_reverse]; omega)]
   ·rw [show min (chL es i).length 8 = 8 by omega]
  rw [e1, e2]
 ·rw [show chainF es i = ([], 3) from if_neg hi, buildF, if_neg hi]
  rfl
theorem at_tot (p q r : List Int) (hp : p.length ≤ 1000) (hq : q.length ≤ 1000) (d : Int) (h0 : 0 ≤ d) (h1 : d ≤ 1000) : display_at.f p q r d = some (atF p q d) := by
 unfold display_at.f atF
 by_cases c1 : d < p.length
 ·rw [if_pos c1, if_pos h0, if_pos c1]
  rfl
 ·rw [if_neg c1, if_neg c1]
  by_cases c2 : d ≥ 8
  ·rw [if_pos c2, show wrap64 (d - 8) = d - 8 by unfold wrap64; omega]
   by_cases c3 : d - 8 < q.length
   ·rw [if_pos c3, if_pos (by omega), if_pos ⟨c2, c3⟩]
    rfl
   ·rw [if_neg c3, if_neg (fun h => c3 h.2)]
  ·rw [if_neg c2, if_neg (fun h => c2 h.1)]
theorem cell_heap {w w' : World} {ad : Addr} {i : Nat} (h : w'.heap[ad.block]? = w.heap[ad.block]?) : w'.cell? (ad.add i) = w.cell? (ad.add i) := by
 unfold World.cell?; rw [add_block, h]
theorem scan_at (l : List Int) (t : Int) (j : Nat) : ((∀ i, i < j → l[i]? ≠ some t) → l[j]? = some t → decide (t ∈ l) = true ∧ scanN t l = (j : Int) + 1) ∧ ((∀ i, i < j → l[i]? ≠ some t) → l.length ≤ j → decide (t ∈ l) = false ∧ scanN t l = (l.length : Int)) := by
 constructor
 ·intro h1 h2
  refine ⟨decide_eq_true (List.mem_of_getElem? h2), ?_⟩
  induction l generalizing j with
  | nil => simp at h2
  | cons x l ih =>
   rw [scanN]
   cases j with
   | zero =>
    rw [if_pos (by simpa using h2)]
    rfl
   | succ j =>
    have h0 := h1 0 (by omega); rw [if_neg (by simpa using h0), ih j (fun i hi => by have := h1 (i + 1) (by omega); simpa using this) (by simpa using h2)]; push_cast
    omega
 ·intro h1 h2
  refine ⟨decide_eq_false (fun hm => ?_), ?_⟩
  ·obtain ⟨i, hi⟩ := List.getElem?_of_mem hm
   have : i < l.length := by
    rcases Nat.lt_or_ge i l.length with h | h
    ·exact h
    ·rw [List.getElem?_eq_none h] at hi; cases hi
   exact h1 i (by omega) hi
  ·induction l generalizing j with
   | nil => rfl
   | cons x l ih =>
    rw [List.length_cons] at h2 ⊢; have h0 := h1 0 (by omega); rw [scanN, if_neg (by simpa using h0), ih (j - 1) (fun i hi => by have := h1 (i + 1) (by omega); simpa using this) (by omega)]; push_cast
    omega
theorem look_any (w wr : World) (g : Nat) (es : List Ent) (hq : WOK w g es) (hb : Below w.heap.size w wr) (br : Nat) (hbr : w.heap.size ≤ br) (n : Int) (h0 : 0 ≤ n) (h1 : n ≤ 1000) (hblk : wr.heap[br]? = some (.cells #[.int .i64 n] 3 (0, 0)))
  (s t : Int) (hs : 0 ≤ s ∧ s < es.length) (ht : 0 ≤ t ∧ t < es.length) :
  Calls Tryd.prog 38 #[.pointer (some ⟨g, 0, none⟩), .int .i64 s, .int .i64 t, .pointer (some ⟨br, 0, none⟩)] wr fun e w' => e = .returned (.bool (lookF es s t).1) ∧ w'.heap[br]? = some (.cells #[.int .i64 (n + (lookF es s t).2)] 3 (0, 0)) ∧ Below w.heap.size w w' := by
 have HW := Lib.hid hq; have IF := Lib.hid (fun (W : World) (hb : Below w.heap.size w W) => hier_World_IsIface.calls g es t (isI (ent es t).c) W (hq.below hb) (by unfold hier_World_IsIface.f; rw [show inB es t = true from decide_eq_true ht]; rfl)); have BD := Lib.hid (fun (W : World) (hb : Below w.heap.size w W) => display_Build.calls 2000 g es s (buildF es s).1 (buildF es s).2.1 (buildF es s).2.2.1 (buildF es s).2.2.2 W (hq.below hb) (build_tot es hq.tree hq.len (fun x hx => (hq.fine x hx).2.2) 2000 (by decide) s)); have DP := Lib.hid (fun (W : World) (hb : Below w.heap.size w W) => hier_World_Depth.calls g es t (ent es t).depth 0 W (hq.below hb) (by unfold hier_World_Depth.f depthF; rw [if_pos ht])); have hdt := hq.tree.depth_ ht.1 ht.2; have hlen := hq.len; have hcl := (hq.fine _ (List.mem_of_getElem? (get_ent hs.1 hs.2))).2.2
 have hbs : (buildF es s).1.length ≤ 1000 ∧ (buildF es s).2.1.length ≤ 1000 ∧ (buildF es s).2.2.1 = (ent es s).clo := by
  have hc := chL_len hq.tree hs.1 hs.2; have hd := hq.tree.depth_ hs.1 hs.2; unfold buildF; rw [if_pos hs]; refine ⟨?_, ?_, rfl⟩
  ·show ((rcL es s).take 8).length ≤ 1000
   rw [List.length_take, rcL, List.length_reverse]; omega
  ·show ((rcL es s).drop 8).length ≤ 1000
   rw [List.length_drop, rcL, List.length_reverse]; omega
 have AT := Lib.hid (at_tot (buildF es s).1 (buildF es s).2.1 (buildF es s).2.2.1 hbs.1 hbs.2.1 (ent es t).depth hdt.1 (by omega)); have hL : Hid (lookF es s t = if isI (ent es t).c = true ∧ s = t then (true, 1) else if isI (ent es t).c = false then (atF (buildF es s).1 (buildF es s).2.1 (ent es t).depth == t, 1) else (decide (t ∈ (buildF es s).2.2.1), 1 + scanN t (buildF es s).2.2.1)) := Lib.hid (by rw [hbs.2.2]; rfl)
 have hclo : (buildF es s).2.2.1.length ≤ 1000 := by rw [hbs.2.2]; exact hcl
 generalize lookF es s t = L at *; generalize buildF es s = B at *; generalize isI (ent es t).c = iI at *; generalize (ent es t).depth = dt at *; obtain ⟨bp, bd, bc, be⟩ := B; have q0 : wr.cell? ⟨br, 0, none⟩ = some (.int .i64 n) := (blk_cell hblk 0).trans rfl; have f0 := blk_frozen hblk 0; have B1 := Lib.hid (blk_put hblk 0 (.int .i64 (n + 1)) rfl); have H1 := Lib.hid (hb.setCell (p := ⟨br, 0, none⟩) hbr (.int .i64 (n + 1))); clear hblk hb hq hbs; go_enter Tryd.func38, Tryd.ntmps38
 go_upto_region 2 with (fail)
 generalize wr.setCell ⟨br, 0, none⟩ (.int .i64 (n + 1)) = w1 at *; have C1 := Lib.hid (IF.out w1 H1.out); clear q0 f0
 cases iI with
 | false =>
  have hL2 : Hid (L = (atF bp bd dt == t, 1)) := Lib.hid (by rw [hL.out, if_neg (fun h => by cases h.1), if_pos rfl]); clear hL; go_wp2_with fail; refine C1.out.mono ?_; rintro e w2 ⟨rfl, hb2⟩; have H2 := Lib.hid (H1.out.trans (hb2.mono H1.out.size)); have B2 := Lib.hid (blk_below B1.out hb2); have CB := Lib.hid (BD.out w2 H2.out); clear C1 hb2 B1 H1; go_wp2_with fail; refine CB.out.mono ?_; rintro e w3 ⟨v0, v1, v2, rfl, R0, R1, R2, hb3⟩; obtain ⟨A0, c0, rfl⟩ := Kd.R_slice R0; obtain ⟨A1, c1, rfl⟩ := Kd.R_slice R1; obtain ⟨A2, c2, rfl⟩ := Kd.R_slice R2; have L0 := Lib.hid (Kd.R_reads' R0).2.1; have L1 := Lib.hid (Kd.R_reads' R1).2.1; have L2 := Lib.hid (Kd.R_reads' R2).2.1; have H3 := Lib.hid (H2.out.trans (hb3.mono H2.out.size)); have B3 := Lib.hid (blk_below B2.out hb3); replace R0 := Lib.hid R0; replace R1 := Lib.hid R1; replace R2 := Lib.hid R2; clear CB hb3 B2 H2; have H4 := Lib.hid (H3.out.alloc H3.out.size (.cells #[.slice A0 bp.length c0, .slice A1 bd.length c1, .slice A2 bc.length c2] 45)); have D4 := Lib.hid (blk_new w3 (.cells #[.slice A0 bp.length c0, .slice A1 bd.length c1, .slice A2 bc.length c2] 45)); have A4 := (Below.refl w3.heap.size w3).alloc (Nat.le_refl _) (.cells #[.slice A0 bp.length c0, .slice A1 bd.length c1, .slice A2 bc.length c2] 45); have B4 := Lib.hid (blk_below B3.out A4); replace R0 := Lib.hid (Kd.C_below (Kd.R_reads' R0.out).2.2 A4); replace R1 := Lib.hid (Kd.C_below (Kd.R_reads' R1.out).2.2 A4); replace R2 := Lib.hid (Kd.C_below (Kd.R_reads' R2.out).2.2 A4); have C4 := Lib.hid (IF.out _ H4.out); clear A4 B3 H3; go_wp2_with fail; refine C4.out.mono ?_; rintro e w5 ⟨rfl, hb5⟩; have H5 := Lib.hid (H4.out.trans (hb5.mono H4.out.size)); have B5 := Lib.hid (blk_below B4.out hb5); have D5 := Lib.hid (blk_below D4.out hb5); replace R0 := Lib.hid (Kd.C_below R0.out hb5); replace R1 := Lib.hid (Kd.C_below R1.out hb5); replace R2 := Lib.hid (Kd.C_below R2.out hb5); have C5 := Lib.hid (DP.out _ H5.out); clear C4 hb5 B4 D4 H4; go_wp2_with fail; refine C5.out.mono ?_; rintro e w6 ⟨rfl, hb6⟩; have H6 := Lib.hid (H5.out.trans (hb6.mono H5.out.size)); have B6 := Lib.hid (blk_below B5.out hb6); have D6 := Lib.hid (blk_below D5.out hb6); replace R0 := Lib.hid (Kd.C_below R0.out hb6); replace R1 := Lib.hid (Kd.C_below R1.out hb6); replace R2 := Lib.hid (Kd.C_below R2.out hb6); clear C5 hb6 B5 D5 H5; have x0 : w6.cell? ⟨w3.heap.size, 0, none⟩ = some (.slice A0 bp.length c0) := (blk_cell D6.out 0).trans rfl; have x1 : w6.cell? ⟨w3.heap.size, 1, none⟩ = some (.slice A1 bd.length c1) := (blk_cell D6.out 1).trans rfl; have x2 : w6.cell? ⟨w3.heap.size, 2, none⟩ = some (.slice A2 bc.length c2) := (blk_cell D6.out 2).trans rfl; have C6 := Lib.hid (display_at.calls A0 c0 bp A1 c1 bd A2 c2 bc dt (atF bp bd dt) w6 R0.out L0.out R1.out L1.out R2.out L2.out AT.out); go_wp2_with fail; refine C6.out.mono ?_; rintro e w7 ⟨rfl, hb7⟩; go_wp2; go_ret
  exact ⟨by rw [hL2.out]; rfl, by rw [hL2.out]; exact blk_below B6.out hb7, H6.out.trans (hb7.mono H6.out.size)⟩
 | true =>
  by_cases hst : s = t
  ·have hst2 : (s == t) = true := beq_iff_eq.2 hst
   have hL2 : Hid (L = (true, 1)) := Lib.hid (by rw [hL.out, if_pos ⟨rfl, hst⟩]); clear hL hst; go_wp2_with fail; refine C1.out.mono ?_; rintro e w2 ⟨rfl, hb2⟩; go_wp2; go_ret
   exact ⟨by rw [hL2.out]; rfl, by rw [hL2.out]; exact blk_below B1.out hb2, H1.out.trans (hb2.mono H1.out.size)⟩
  ·have hst2 : (s == t) = false := beq_eq_false_iff_ne.2 hst
   have hL2 : Hid (L = (decide (t ∈ bc), 1 + scanN t bc)) := Lib.hid (by rw [hL.out, if_neg (fun h => hst h.2), if_neg (by decide)]); clear hL hst; go_wp2_with fail; refine C1.out.mono ?_; rintro e w2 ⟨rfl, hb2⟩; have H2 := Lib.hid (H1.out.trans (hb2.mono H1.out.size)); have B2 := Lib.hid (blk_below B1.out hb2); have CB := Lib.hid (BD.out w2 H2.out); clear C1 hb2 B1 H1; go_wp2_with fail; refine CB.out.mono ?_; rintro e w3 ⟨v0, v1, v2, rfl, R0, R1, R2, hb3⟩; obtain ⟨A0, c0, rfl⟩ := Kd.R_slice R0; obtain ⟨A1, c1, rfl⟩ := Kd.R_slice R1; obtain ⟨A2, c2, rfl⟩ := Kd.R_slice R2
   have hne : Hid (∀ ad, A2 = some ad → ad.block ≠ br) := Lib.hid (by
    rintro ad rfl he; have h1 := ((Kd.R_bound R2).1 ad.block rfl).2.1; have h2 := blk_lt B2.out
    omega)
   have H3 := Lib.hid (H2.out.trans (hb3.mono H2.out.size)); have B3 := Lib.hid (blk_below B2.out hb3); replace R0 := Lib.hid R0; replace R1 := Lib.hid R1; replace R2 := Lib.hid R2; clear CB hb3 B2 H2; have H4 := Lib.hid (H3.out.alloc H3.out.size (.cells #[.slice A0 bp.length c0, .slice A1 bd.length c1, .slice A2 bc.length c2] 45)); have D4 := Lib.hid (blk_new w3 (.cells #[.slice A0 bp.length c0, .slice A1 bd.length c1, .slice A2 bc.length c2] 45)); have A4 := (Below.refl w3.heap.size w3).alloc (Nat.le_refl _) (.cells #[.slice A0 bp.length c0, .slice A1 bd.length c1, .slice A2 bc.length c2] 45); have B4 := Lib.hid (blk_below B3.out A4); replace R0 := Lib.hid (Kd.C_below (Kd.R_reads' R0.out).2.2 A4); replace R1 := Lib.hid (Kd.C_below (Kd.R_reads' R1.out).2.2 A4); replace R2 := Lib.hid (Kd.C_below (Kd.R_reads' R2.out).2.2 A4); have C4 := Lib.hid (IF.out _ H4.out); clear A4 B3 H3; go_wp2_with fail; refine C4.out.mono ?_; rintro e w5 ⟨rfl, hb5⟩; have H5 := Lib.hid (H4.out.trans (hb5.mono H4.out.size)); have B5 := Lib.hid (blk_below B4.out hb5); have D5 := Lib.hid (blk_below D4.out hb5); have M5 := Lib.hid (Kd.C_below R2.out hb5); clear C4 hb5 B4 D4 H4 R0 R1 R2; have x2 : w5.cell? ⟨w3.heap.size, 2, none⟩ = some (.slice A2 bc.length c2) := (blk_cell D5.out 2).trans rfl; go_wp2
   go_loopw [52] (fun v52 wx => ∃ j : Nat, j ≤ bc.length ∧ v52 = .int .i64 j ∧ Hid (∀ i, i < j → bc[i]? ≠ some t) ∧ Hid (wx.heap[br]? = some (.cells #[.int .i64 (n + 1 + j)] 3 (0, 0))) ∧ Hid (∀ ad, A2 = some ad → wx.heap[ad.block]? = w5.heap[ad.block]?) ∧ Hid (Below w.heap.size w wx)) (fun v52 _ => bc.length - (intOf v52).toNat)
   case atStart => exact ⟨0, Nat.zero_le _, rfl, Lib.hid (fun i hi => absurd hi (by omega)), Lib.hid (by simpa using B5.out), Lib.hid (fun _ _ => rfl), H5⟩
   case round =>
    clear B5 D5 H5 x2; obtain ⟨j, hj, rfl, HN, BX, MX, HX⟩ := hrel; have hsc := scan_at bc t j
    by_cases hlt : j < bc.length
    ·have hjd : decide (j < bc.length) = true := decide_eq_true hlt
     obtain ⟨ad, rfl, hcell⟩ := Kd.at_int M5.out (j : Int) (by omega) (by omega)
     have hgj : bc[j]? = some (rd bc (j : Int)) := by simp [rd, List.getD_eq_getElem?_getD, List.getElem?_eq_getElem hlt]
     have hcell : wr.cell? (ad.add (j : Int).toNat) = some (.int .i64 (rd bc (j : Int))) := by rw [cell_heap (MX.out ad rfl)]; exact hcell
     rw [Int.toNat_natCast] at hcell; have q0 : wr.cell? ⟨br, 0, none⟩ = some (.int .i64 (n + 1 + j)) := (blk_cell BX.out 0).trans rfl; have f0 := blk_frozen BX.out 0; have B1 := Lib.hid (blk_put BX.out 0 (.int .i64 (n + 1 + j + 1)) rfl); have H1 := Lib.hid (HX.out.setCell (p := ⟨br, 0, none⟩) hbr (.int .i64 (n + 1 + j + 1)))
     have M1 : Hid (∀ ad', some ad = some ad' → (wr.setCell ⟨br, 0, none⟩ (.int .i64 (n + 1 + j + 1))).heap[ad'.block]? = w5.heap[ad'.block]?) := Lib.hid (by
      intro ad' he
      cases he
      exact (Below.heap_setCell wr ⟨br, 0, none⟩ _ _ (hne.out _ rfl)).trans (MX.out _ rfl))
     generalize hx : rd bc (j : Int) = x at *; clear BX HX MX hx
     by_cases hxt : x = t
     ·have e1 : (x == t) = true := beq_iff_eq.2 hxt
      have hs2 := hsc.1 HN.out (by rw [hgj, hxt]); replace hs2 := Lib.hid hs2; clear hxt hsc; go_wp2; go_ret
      exact ⟨by rw [hL2.out, hs2.out.1]; rfl, by rw [hL2.out]; show _ = some (Obj.cells #[.int .i64 (n + (1 + scanN t bc))] _ _); rw [hs2.out.2, show n + (1 + ((j : Int) + 1)) = n + 1 + j + 1 by omega]; exact B1.out, H1.out⟩
     ·have e1 : (x == t) = false := beq_eq_false_iff_ne.2 hxt
      have hN2 : Hid (∀ i, i < j + 1 → bc[i]? ≠ some t) := Lib.hid (by
       intro i hi
       by_cases hij : i = j
       ·subst hij
        rw [hgj]
        exact fun h => hxt (Option.some.inj h)
       ·exact HN.out i (by omega))
      clear hxt hsc hgj; go_wp2; refine ⟨⟨j + 1, by omega, by push_cast; rfl, hN2, Lib.hid (by rw [show n + 1 + ((j + 1 : Nat) : Int) = n + 1 + j + 1 by omega]; exact B1.out), M1, H1⟩, by simp [intOf]; omega⟩
    ·have hjd : decide (j < bc.length) = false := decide_eq_false hlt
     have hs2 := hsc.2 HN.out (by omega); replace hs2 := Lib.hid hs2
     have hje : j = bc.length := by omega
     replace hje := Lib.hid hje; clear hsc; go_wp2; go_ret
     exact ⟨by rw [hL2.out, hs2.out.1]; rfl, by rw [hL2.out]; show _ = some (Obj.cells #[.int .i64 (n + (1 + scanN t bc))] _ _); rw [hs2.out.2, show n + (1 + (bc.length : Int)) = n + 1 + j by have := hje.out; omega]; exact BX.out, HX.out⟩
theorem index_i0 (s t : Int) (w : World) : (Instr.index 82 (.agg #[.int .i64 s, .int .i64 t]) (.int .i64 0)).run Tryd.prog w = .ok (.int .i64 s) w := by rfl
theorem index_i1 (s t : Int) (w : World) : (Instr.index 82 (.agg #[.int .i64 s, .int .i64 t]) (.int .i64 1)).run Tryd.prog w = .ok (.int .i64 t) w := by rfl
def display_Test.f (a0 : List Hi.Ent) (a1 : Int) (a2 : Int) : Option (Bool × Int × Int) := some (testF a0 a1 a2)
theorem display_Test.calls (G_ : Nat) (a0 : List Hi.Ent) (a1 : Int) (a2 : Int) (r1 : Bool) (r2 : Int) (r3 : Int) (w : World) (hq0 : WOK w G_ a0) (h : display_Test.f a0 a1 a2 = some (r1, r2, r3)) :
  Calls Tryd.prog 19 #[.pointer (some ⟨G_, 0, none⟩), .int .i64 a1, .int .i64 a2] w fun e w' => e = .returned (.tuple #[.bool r1, .int .i64 r2, .int .i64 r3]) ∧ Below w.heap.size w w' := by
 have hF := Lib.hid (Option.some.inj h); have BB := Lib.hid ((Below.refl w.heap.size w).alloc (Nat.le_refl _) (.cells #[.int .i64 0] 3)); have B0 := Lib.hid (blk_new w (.cells #[.int .i64 0] 3)); have CL := Lib.hid (fun (W : World) (hb : Below w.heap.size w W) (i : Int) => hier_World_Class.calls G_ a0 i (classF a0 i).1.f0 (classF a0 i).1.f1 (classF a0 i).1.f2 (classF a0 i).1.f3 (classF a0 i).1.f4 (classF a0 i).1.f5 (classF a0 i).2 W (hq0.below hb) rfl); have LK := Lib.hid (fun (wr : World) (hb : Below w.heap.size w wr) (hblk : wr.heap[w.heap.size]? = some (.cells #[.int .i64 0] 3 (0, 0))) (h1 : 0 ≤ a1 ∧ a1 < a0.length) (h2 : 0 ≤ a2 ∧ a2 < a0.length) => look_any w wr G_ a0 hq0 hb w.heap.size (Nat.le_refl _) 0 (by decide) (by decide) hblk a1 a2 h1 h2); have I0 := fun w => index_i0 a1 a2 w; have I1 := fun w => index_i1 a1 a2 w; have E1 : Hid ((classF a0 a1).2 = if 0 ≤ a1 ∧ a1 < a0.length then 0 else 3) := Lib.hid (by unfold classF; split <;> rfl); have E2 : Hid ((classF a0 a2).2 = if 0 ≤ a2 ∧ a2 < a0.length then 0 else 3) := Lib.hid (by unfold classF; split <;> rfl); have C1 := Lib.hid (CL.out _ BB.out a1); have C2 := Lib.hid (fun W hb => CL.out W hb a2); clear h hq0 CL; unfold testF at hF; generalize classF a0 a1 = K1 at *; generalize classF a0 a2 = K2 at *; obtain ⟨⟨x0, x1, x2, x3, x4, x5⟩, xe⟩ := K1; obtain ⟨⟨y0, y1, y2, y3, y4, y5⟩, ye⟩ := K2; simp only at C1 C2 E1 E2; generalize lookF a0 a1 a2 = L at *; have q0 : (w.alloc (.cells #[.int .i64 0] 3)).cell? ⟨w.heap.size, 0, none⟩ = some (.int .i64 0) := (blk_cell B0.out 0).trans rfl; have f0 := blk_frozen B0.out 0; go_enter Tryd.func19, Tryd.ntmps19; go_wp2_with fail; generalize w.alloc (.cells #[.int .i64 0] 3) = w0 at *; refine wp_loop_rounds 3 ?_; rw [rounds_succ]; go_wp2_with fail; refine C1.out.mono ?_; rintro e w1 ⟨v2, v5, rfl, R2, R5, hb1⟩; obtain ⟨A2, c2, rfl⟩ := Kd.R_slice R2; obtain ⟨A5, c5, rfl⟩ := Kd.R_slice R5; have M1 := Lib.hid ((BB.out.trans (hb1.mono BB.out.size)).alloc (BB.out.trans (hb1.mono BB.out.size)).size (.cells #[.string x0, .string x1, .slice A2 x2.length c2, .int .i64 x3, .int .i64 x4, .slice A5 x5.length c5] 40)); have Z1 := Lib.hid (blk_below (blk_below B0.out hb1) ((Below.refl w1.heap.size w1).alloc (Nat.le_refl _) (.cells #[.string x0, .string x1, .slice A2 x2.length c2, .int .i64 x3, .int .i64 x4, .slice A5 x5.length c5] 40))); have q0 : (w1.alloc (.cells #[.string x0, .string x1, .slice A2 x2.length c2, .int .i64 x3, .int .i64 x4, .slice A5 x5.length c5] 40)).cell? ⟨w.heap.size, 0, none⟩ = some (.int .i64 0) := (blk_cell Z1.out 0).trans rfl; have f0 := blk_frozen Z1.out 0; clear C1 hb1 R2 R5 BB B0
 by_cases h1 : 0 ≤ a1 ∧ a1 < a0.length
 ·have hx : xe = 0 := by rw [E1.out, if_pos h1]
  rw [if_pos h1] at hF; have hk1 := Lib.hid h1; subst hx; clear h1 E1; have L2 := Lib.hid (C2.out _ M1.out); go_wp2_with fail; rw [rounds_succ]; go_wp2_with fail; refine L2.out.mono ?_; rintro e w2 ⟨v2, v5, rfl, R2, R5, hb2⟩; obtain ⟨B2, d2, rfl⟩ := Kd.R_slice R2; obtain ⟨B5, d5, rfl⟩ := Kd.R_slice R5; have M2 := Lib.hid ((M1.out.trans (hb2.mono M1.out.size)).alloc (M1.out.trans (hb2.mono M1.out.size)).size (.cells #[.string y0, .string y1, .slice B2 y2.length d2, .int .i64 y3, .int .i64 y4, .slice B5 y5.length d5] 40)); have Z2 := Lib.hid (blk_below (blk_below Z1.out hb2) ((Below.refl w2.heap.size w2).alloc (Nat.le_refl _) (.cells #[.string y0, .string y1, .slice B2 y2.length d2, .int .i64 y3, .int .i64 y4, .slice B5 y5.length d5] 40))); have q0 : (w2.alloc (.cells #[.string y0, .string y1, .slice B2 y2.length d2, .int .i64 y3, .int .i64 y4, .slice B5 y5.length d5] 40)).cell? ⟨w.heap.size, 0, none⟩ = some (.int .i64 0) := (blk_cell Z2.out 0).trans rfl; have f0 := blk_frozen Z2.out 0; clear L2 hb2 R2 R5 M1 Z1 C2
  by_cases h2 : 0 ≤ a2 ∧ a2 < a0.length
  ·have hy : ye = 0 := by rw [E2.out, if_pos h2]
   rw [if_pos h2] at hF; subst hy; have L3 := Lib.hid (LK.out _ M2.out Z2.out hk1.out h2); clear h2 E2 LK; go_wp2_with fail; rw [rounds_succ]; go_wp2_with fail; refine L3.out.mono ?_; rintro e w3 ⟨rfl, Z3, M3⟩; have q0 : w3.cell? ⟨w.heap.size, 0, none⟩ = some (.int .i64 (0 + L.2)) := (blk_cell Z3 0).trans rfl; rw [Int.zero_add] at q0; have f0 := blk_frozen Z3 0; have Z4 := Lib.hid (blk_put Z3 0 (.int .i64 L.2) rfl); replace M3 := Lib.hid M3; clear L3 Z2 Z3 M2; go_wp2; go_region
   all_goals go_wp2
   have z4 : (w3.setCell ⟨w.heap.size, 0, none⟩ (.int .i64 L.2)).drew.cell? ⟨w.heap.size, 0, none⟩ = some (.int .i64 L.2) := (blk_cell (blk_drew Z4.out) 0).trans rfl; refine bodyPost_ret (v := .tuple #[.bool L.1, .int .i64 L.2, .int .i64 0]) (by simp [results, Tryd.results19, go_sem, z4]) rfl ⟨?_, below_drew1 (Below.setCell (p := ⟨w.heap.size, 0, none⟩) M3.out (Nat.le_refl _) _)⟩; have := hF.out
   cases this
   rfl
  ·have hy : (ye != 0) = true := by rw [E2.out, if_neg h2]; rfl
   have hye : ye = 3 := by rw [E2.out, if_neg h2]
   rw [if_neg h2] at hF; clear h2 E2 LK; go_wp2; have z4 : ((w2.alloc (.cells #[.string y0, .string y1, .slice B2 y2.length d2, .int .i64 y3, .int .i64 y4, .slice B5 y5.length d5] 40)).setCell ⟨w.heap.size, 0, none⟩ (.int .i64 0)).cell? ⟨w.heap.size, 0, none⟩ = some (.int .i64 0) := (blk_cell (blk_put Z2.out 0 (.int .i64 0) rfl) 0).trans rfl; refine bodyPost_ret (v := .tuple #[.bool false, .int .i64 0, .int .i64 3]) (by simp [results, Tryd.results19, go_sem, z4, hye]) rfl ⟨?_, Below.setCell (p := ⟨w.heap.size, 0, none⟩) M2.out (Nat.le_refl _) _⟩; have := hF.out
   cases this
   rfl
 ·have hx : (xe != 0) = true := by rw [E1.out, if_neg h1]; rfl
  have hxe : xe = 3 := by rw [E1.out, if_neg h1]
  rw [if_neg h1] at hF; clear h1 E1 LK; go_wp2; have z4 : ((w1.alloc (.cells #[.string x0, .string x1, .slice A2 x2.length c2, .int .i64 x3, .int .i64 x4, .slice A5 x5.length c5] 40)).setCell ⟨w.heap.size, 0, none⟩ (.int .i64 0)).cell? ⟨w.heap.size, 0, none⟩ = some (.int .i64 0) := (blk_cell (blk_put Z1.out 0 (.int .i64 0) rfl) 0).trans rfl; refine bodyPost_ret (v := .tuple #[.bool false, .int .i64 0, .int .i64 3]) (by simp [results, Tryd.results19, go_sem, z4, hxe]) rfl ⟨?_, Below.setCell (p := ⟨w.heap.size, 0, none⟩) M1.out (Nat.le_refl _) _⟩; have := hF.out
  cases this
  rfl
end Go.Proofs.YtaipkdglhfhhiaaDoor.Pt

namespace Go.Proofs.YtaipkdglhfhhiaaDoor.Pt
open Go Go.RowKit Go.Proofs.YtaipkdglhfhhiaaDoor.Nm Go.Proofs.YtaipkdglhfhhiaaDoor.Hi Go.Proofs.YtaipkdglhfhhiaaDoorW.PrintWords Go.Proofs.YtaipkdglhfhhiaaDoorW.PrintLast Go.Proofs.YtaipkdglhfhhiaaDoorW.PrintMore
set_option linter.unusedVariables false
set_option linter.unusedSimpArgs false
set_option maxHeartbeats 2000000
set_option maxRecDepth 100000
theorem test_new : display_Test.f newE 1 0 = some (true, 1, 0) := by
 unfold display_Test.f
 decide +kernel
def arbiterlaw15_awake.f : Option Bool := some true
theorem arbiterlaw15_awake.calls (r : Bool) (w : World) (h : arbiterlaw15_awake.f = some r) : Calls Tryd.prog 12 #[] w fun e w' => e = .returned (.bool r) ∧ Below w.heap.size w w' := by
 obtain rfl := Option.some.inj h; go_enter Tryd.func12, Tryd.ntmps12; go_wp2_with fail; refine (new_any _).mono ?_; rintro e w1 ⟨g, v, mb, ps, rfl, hI, hb⟩; have HO := Lib.hid (display_Test.calls g newE 1 0 true 1 0 w1 (wok_new hI) test_new); have HB := Lib.hid hb; clear hI hb; go_wp2_with fail; refine HO.out.mono ?_; rintro e w2 ⟨rfl, hb2⟩; have HB2 := Lib.hid (HB.out.trans (hb2.mono HB.out.size)); clear hb2; go_wp2; go_ret
 exact ⟨rfl, HB2.out⟩
end Go.Proofs.YtaipkdglhfhhiaaDoor.Pt

namespace Go.Proofs.YtaipkdglhfhhiaaDoor.Pt
open Go Go.RowKit Go.Proofs.YtaipkdglhfhhiaaDoor.Nm Go.Proofs.YtaipkdglhfhhiaaDoor.Hi Go.Proofs.YtaipkdglhfhhiaaDoorW.PrintWords Go.Proofs.YtaipkdglhfhhiaaDoorW.PrintLast Go.Proofs.YtaipkdglhfhhiaaDoorW.PrintMore
set_option linter.unusedVariables false
set_option linter.unusedSimpArgs false
set_option maxHeartbeats 2000000
set_option maxRecDepth 100000
theorem rd44 {l : List S40} {i : Nat} (h : i < l.length) : l[i]? = some (rd_T40 l (i : Int)) := by
 simp [rd_T40, List.getD_eq_getElem?_getD, List.getElem?_eq_getElem h]
def arbiterlaw07_built.f (l0 : List (S40)) : Option (List Hi.Ent) := some (builtF l0)
def arbiterlaw08_built.f (l0 : List (S40)) : Option (List Hi.Ent) := some (builtF l0)
def arbiterlaw15_built.f (l0 : List (S40)) : Option (List Hi.Ent) := some (builtF l0)
theorem arbiterlaw15_built.calls (A0 : Option Addr) (c0 : Nat) (l0 : List (S40)) (r : List Hi.Ent) (w : World) (hr0 : Kd.C k40 w A0 l0.length l0) (hc0 : l0.length ≤ c0) (h : arbiterlaw15_built.f l0 = some r) :
  Calls Tryd.prog 13 #[.slice A0 l0.length c0] w fun e w' => ∃ G_, e = .returned (.pointer (some ⟨G_, 0, none⟩)) ∧ WOK w' G_ r ∧ Below w.heap.size w w' := by
 obtain rfl := Option.some.inj h; have HR := Lib.hid hr0; have hmax := Kd.C_max hr0; clear h hr0; go_enter Tryd.func13, Tryd.ntmps13; go_wp2_with fail; refine (new_any _).mono ?_; rintro e w1 ⟨g, v, mb, ps, rfl, hI, hb⟩; have HI := Lib.hid hI; have HB := Lib.hid hb; clear hI hb; go_wp2_with fail
 go_loopw [4] (fun v4 wr => ∃ j : Nat, j ≤ l0.length ∧ v4 = .int .i64 j ∧ Hid (∃ v ps, WIn wr w.heap.size g v mb ps (builtF (l0.take j))) ∧ Hid (Below w.heap.size w wr)) (fun v4 _ => l0.length - (intOf v4).toNat)
 case atStart => exact ⟨0, Nat.zero_le _, rfl, Lib.hid ⟨_, _, HI.out⟩, HB⟩
 case round =>
  clear HI HB; obtain ⟨j, hj, rfl, HI, HB⟩ := hrel
  by_cases hlt : j < l0.length
  ·have hjd : decide (j < l0.length) = true := decide_eq_true hlt
   obtain ⟨ad, A2, c2, A5, c5, rfl, q0, q1, q2, q3, q4, q5, hc2, K2, hc5, K5⟩ := at_T40 (Kd.C_below HR.out HB.out) (j : Int) (by omega) (by omega); have hx := rd44 hlt; rw [Int.toNat_natCast] at q0 q1 q2 q3 q4 q5; generalize rd_T40 l0 (j : Int) = x at *; obtain ⟨v, ps, hI⟩ := HI.out
   have hst : Hid (builtF (l0.take (j + 1)) = stepF (builtF (l0.take j)) x) := Lib.hid (by
    unfold builtF; rw [List.take_add_one, hx, List.foldl_append]
    rfl)
   have DF := Lib.hid (define_any wr w.heap.size g v mb ps _ hI HB.out.size (good_made (made_built _)) x.f0 x.f1 A2 c2 x.f2 x.f3 x.f4 A5 c5 x.f5 K2 hc2 K5 hc5 (chkC x) rfl (fun h => by
    obtain ⟨s0, s1, s2, s3, s5⟩ := sound_sizes h
    exact ⟨by omega, by omega, by omega, fun n hn => by have := s3 n hn; omega, s5⟩))
   clear K2 K5 hI HI hx; obtain ⟨n0, n1, n2, n3, n4, n5⟩ := x; go_wp2_with fail; refine DF.out.mono ?_; rintro e w2 ⟨rfl, v', ps', I2, hb2, hk2⟩; replace I2 := Lib.hid I2; have HB2 := Lib.hid (HB.out.trans hb2); clear hb2 hk2 DF HB q0 q1 q2 q3 q4 q5; go_wp2
   exact ⟨⟨j + 1, by omega, by push_cast; rfl, Lib.hid ⟨_, _, by rw [hst.out]; exact I2.out⟩, HB2⟩, by simp [intOf]; omega⟩
  ·have hjd : decide (j < l0.length) = false := decide_eq_false hlt
   have e1 : j = l0.length := by omega
   subst e1; rw [List.take_length] at HI; go_wp2; go_ret; obtain ⟨v, ps, hI⟩ := HI.out; have hg := good_made (made_built l0)
   exact ⟨g, rfl, ⟨⟨_, _, _, _, hI⟩, hg.fine, hg.tree, by have := hg.len; omega⟩, HB.out⟩
end Go.Proofs.YtaipkdglhfhhiaaDoor.Pt

namespace Go.Proofs.YtaipkdglhfhhiaaDoor.Hi
open Go Go.RowKit Go.Proofs.YtaipkdglhfhhiaaDoor.Nm Go.Proofs.YtaipkdglhfhhiaaDoorW.PrintWords Go.Proofs.YtaipkdglhfhhiaaDoorW.PrintLast Go.Proofs.YtaipkdglhfhhiaaDoorW.PrintMore Go.Proofs.YtaipkdglhfhhiaaDoor.Pt
theorem len_made {es : List Ent} (h : Made es) : es.length ≤ 300 := by
 induction h with
 | new => decide
 | step es c _ ih =>
  rcases stepF_cases es c with h | ⟨x, h, ht⟩
  ·rw [h]; exact ih
  ·rw [h, List.length_append]
   have := ht.len; simp
   omega
end Go.Proofs.YtaipkdglhfhhiaaDoor.Hi

namespace Go.Proofs.YtaipkdglhfhhiaaDoor.Pt
open Go Go.RowKit Go.Proofs.YtaipkdglhfhhiaaDoor.Nm Go.Proofs.YtaipkdglhfhhiaaDoor.Ty Go.Proofs.YtaipkdglhfhhiaaDoor.Hi Go.Proofs.YtaipkdglhfhhiaaDoorW.PrintWords Go.Proofs.YtaipkdglhfhhiaaDoorW.PrintLast Go.Proofs.YtaipkdglhfhhiaaDoorW.PrintMore
set_option linter.unusedVariables false
set_option linter.unusedSimpArgs false
set_option maxHeartbeats 2000000
set_option maxRecDepth 100000
theorem rcL_len {es : List Ent} (h : Tree es) {a : Int} (h0 : 0 ≤ a) (h1 : a < es.length) : ((rcL es a).length : Int) = (ent es a).depth + 1 := by
 rw [rcL, List.length_reverse]
 exact chL_len h h0 h1
theorem rc_at {es : List Ent} (ht : Tree es) {a : Int} (ha : 0 ≤ a ∧ a < es.length) {j : Nat} (hj : j < (rcL es a).length) : Go.Proofs.YtaipkdglhfhhiaaDoorW.PrintWords.rd (chL es a) (((rcL es a).length : Int) - 1 - j) = Go.Proofs.YtaipkdglhfhhiaaDoorW.PrintWords.rd (rcL es a) j ∧ depthF es (Go.Proofs.YtaipkdglhfhhiaaDoorW.PrintWords.rd (rcL es a) j) = ((j : Int), 0) ∧ (Go.Proofs.YtaipkdglhfhhiaaDoorW.PrintWords.rd (rcL es a) j = a → (j : Int) = ((rcL es a).length : Int) - 1) := by
 have hr := rcL_len ht ha.1 ha.2
 have hlen : (rcL es a).length = (chL es a).length := by rw [rcL, List.length_reverse]
 have hd := ht.depth_ ha.1 ha.2
 have hjd : (j : Int) ≤ (ent es a).depth := by omega
 have hat := chL_at ht ha.1 ha.2 j hjd; obtain ⟨c1, c2, c3⟩ := climb_in ht (d := (j : Int)) ha.1 ha.2 (by omega) hjd
 have e1 : Go.Proofs.YtaipkdglhfhhiaaDoorW.PrintWords.rd (rcL es a) (j : Int) = climb es es.length a j := by
  unfold Go.Proofs.YtaipkdglhfhhiaaDoorW.PrintWords.rd; rw [List.getD_eq_getElem?_getD, Int.toNat_natCast, rcL, hat]
  rfl
 have e2 : Go.Proofs.YtaipkdglhfhhiaaDoorW.PrintWords.rd (chL es a) (((rcL es a).length : Int) - 1 - j) = climb es es.length a j := by
  unfold Go.Proofs.YtaipkdglhfhhiaaDoorW.PrintWords.rd; rw [List.getD_eq_getElem?_getD, show (((rcL es a).length : Int) - 1 - j).toNat = (chL es a).length - 1 - j by omega, ← List.getElem?_reverse (by omega), hat]
  rfl
 refine ⟨by rw [e1, e2], ?_, fun h => ?_⟩
 ·rw [e1]
  unfold depthF; rw [if_pos ⟨c1, by omega⟩, c3]
 ·rw [e1] at h
  rw [h] at c3
  omega
def dchT : Bool × List (List Nat × List Nat) := (true, [([], []), ([0], [0]), ([1], [1]), ([2], [2]), ([2], [2]), ([3, 4, 2], [2, 3, 4]), ([5, 2], [2, 5]), ([2], [2]), ([2], [2]), ([8, 2], [2, 8]), ([9, 2], [2, 9]), ([2], [2]), ([10, 11, 2], [2, 10, 11]), ([7, 12, 2], [2, 7, 12]), ([13, 2], [2, 13]), ([6, 14, 2], [2, 6, 14]), ([2, 15], [2, 15]), ([16, 2], [16]), ([17], [17]), ([17], [17]), ([18, 19, 17], [17, 18, 19]), ([20, 17, 17], [17, 20]), ([21], [21]), ([21], [21]), ([22, 23, 21], [21, 22, 23]), ([24, 21], [21, 24]), ([21], [21]), ([25, 26, 21], [21, 25, 26]), ([21, 27, 17], [17, 21, 27]), ([17, 28], [17, 28]), ([29, 21], [29]), ([30], [30]), ([30], [30]), ([31, 32, 30], [30, 31, 32]), ([33, 30], [30, 33]), ([30], [30]), ([34, 35, 30], [30, 34, 35]), ([36, 30, 30], [30, 36]), ([37], [37]), ([37], [37]), ([39, 37], [37, 39]), ([40, 37], [37, 40]), ([38, 41, 37], [37, 38, 41]), ([37, 42, 30], [30, 37, 42]), ([30, 43], [30, 43])])
def dchB : List Nat := [0, 1, 3, 7, 7, 31, 63, 7, 7, 263, 775, 7, 3847, 8071, 16263, 32767, 65535, 131071, 262143, 262143, 1048575, 2097151, 4194303, 4194303, 16777215, 33554431, 4194303, 134217727, 268435455, 536870911, 1073741823, 2147483647, 2147483647, 8589934591, 17179869183, 2147483647, 68719476735, 137438953471, 274877906943, 274877906943, 824633720831, 1924145348607, 4398046511103, 8796093022207, 17592186044415]
theorem dch_tab : rtab .any (opsOf Tryd.f4 15) = dchT := by kernel_rfl
theorem dch_bits : waitsOk dchT.2 dchB = true := by kernel_rfl
theorem dch_any {W : World} {A : Option Addr} {n : Nat} {l : List S40} (hk : Kd.C k40 W A l.length l) (hc : l.length ≤ n) (a : Int) :
  Calls Tryd.prog 4 #[.slice A l.length n, .int .i64 a] W fun e W' => e = .returned (.bool true) ∧ Below W.heap.size W W' := by
 have hT := thy_made (made_built l); have hn := len_made (made_built l); have CA := Lib.hid (arbiterlaw15_awake.calls true W rfl); have CB := Lib.hid (fun (W1 : World) (hb : Below W.heap.size W W1) => arbiterlaw15_built.calls A n l (builtF l) W1 (Kd.C_below hk hb) hc rfl); clear hk hc; generalize builtF l = es at *; have ht := hT.good.tree; have hcl : ∀ x ∈ es, x.clo.length ≤ 1000 := fun x hx => (hT.good.fine x hx).2.2; have BD := Lib.hid (fun (g : Nat) (W1 : World) (hq : WOK W1 g es) (i : Int) => display_Build.calls 2000 g es i (buildF es i).1 (buildF es i).2.1 (buildF es i).2.2.1 (buildF es i).2.2.2 W1 hq (build_tot es ht (by omega) hcl 2000 (by decide) i)); have CH := Lib.hid (fun (g : Nat) (W1 : World) (hq : WOK W1 g es) => hier_World_Chain.calls g es a (chainF es a).1 (chainF es a).2 W1 hq rfl); have DP := Lib.hid (fun (g : Nat) (W1 : World) (hq : WOK W1 g es) (i : Int) => hier_World_Depth.calls g es i (depthF es i).1 (depthF es i).2 W1 hq rfl); have SP := Lib.hid (fun (g : Nat) (W1 : World) (hq : WOK W1 g es) => hier_World_Super.calls g es a (superF es a).1 (superF es a).2 W1 hq rfl); go_enter Tryd.func4, Tryd.ntmps4; go_wp2_with fail; refine CA.out.mono ?_; rintro e w0 ⟨rfl, hb0⟩; have C1 := Lib.hid (CB.out w0 hb0); replace hb0 := Lib.hid hb0; clear CA CB; go_wp2_with fail; refine C1.out.mono ?_; rintro e w1 ⟨g, rfl, hq1, hb1⟩; have H1 := Lib.hid (hb0.out.trans (hb1.mono hb0.out.size)); have C2 := Lib.hid (BD.out g w1 hq1 a); replace hq1 := Lib.hid hq1; clear C1 hb0 hb1; go_wp2_with fail; refine C2.out.mono ?_; rintro e w2 ⟨v0, v1, v2, rfl, R0, R1, R2, hb2⟩; have hq2 := hq1.out.below hb2; have H2 := H1.out.trans (hb2.mono H1.out.size)
 have RP := (Kd.R_reads R0)
 have RD := (Kd.R_reads R1)
 obtain ⟨A0, c0, rfl, hcP, RP⟩ := RP; obtain ⟨A1, c1, rfl, hcD, RD⟩ := RD; obtain ⟨A2, c2, rfl⟩ := Kd.R_slice R2; clear C2 R0 R1 R2 hb2; generalize hP : (buildF es a).1 = P at *; generalize hD : (buildF es a).2.1 = D at *; generalize (buildF es a).2.2.1 = K at *; generalize hE : (buildF es a).2.2.2 = be at *; have A3 := (Below.refl w2.heap.size w2).alloc (Nat.le_refl _) (.cells #[.slice A0 P.length c0, .slice A1 D.length c1, .slice A2 K.length c2] 45); have Z3 := Lib.hid (blk_new w2 (.cells #[.slice A0 P.length c0, .slice A1 D.length c1, .slice A2 K.length c2] 45)); have H3 := Lib.hid (H2.trans (A3.mono H2.size)); have hq3 := Lib.hid (hq2.below A3); replace RP := Lib.hid (Kd.C_below RP A3); replace RD := Lib.hid (Kd.C_below RD A3); have C3 := Lib.hid (CH.out g _ hq3.out); clear A3 H2 hq2 H1 hq1 CH; go_wp2_with fail; refine C3.out.mono ?_; rintro e w4 ⟨v3, rfl, R3, hb4⟩; obtain ⟨A3, c3, rfl, hcC, RC⟩ := Kd.R_reads R3; have hq4 := Lib.hid (hq3.out.below hb4); have H4 := Lib.hid (H3.out.trans (hb4.mono H3.out.size)); have Z4 := Lib.hid (blk_below Z3.out hb4); replace RP := Lib.hid (Kd.C_below RP.out hb4); replace RD := Lib.hid (Kd.C_below RD.out hb4); replace RC := Lib.hid RC; clear C3 R3 hb4 hq3 H3 Z3
 by_cases ha : 0 ≤ a ∧ a < es.length
 ·have eB : buildF es a = ((rcL es a).take 8, (rcL es a).drop 8, (ent es a).clo, 0) := if_pos ha
  have eC : chainF es a = (chL es a, 0) := if_pos ha; have hr := rcL_len ht ha.1 ha.2; have hd := ht.depth_ ha.1 ha.2
  have hlen : (chL es a).length = (rcL es a).length := by rw [rcL, List.length_reverse]
  have hPD : Hid (P ++ D = rcL es a) := Lib.hid (by rw [← hP, ← hD, eB]; exact List.take_append_drop 8 _)
  have hP8 : P.length ≤ 8 := by rw [← hP, eB]; show ((rcL es a).take 8).length ≤ 8; rw [List.length_take]; omega
  have hD8 : 0 < D.length → P.length = 8 := by
   rw [← hP, ← hD, eB]
   show 0 < ((rcL es a).drop 8).length → ((rcL es a).take 8).length = 8
   rw [List.length_take, List.length_drop]
   omega
  have hDl : D.length ≤ 1000 := by
   have := congrArg List.length hPD.out; rw [List.length_append] at this
   omega
  have hbe : be = 0 := by rw [← hE, eB]
  have RT := Lib.hid (fun (j : Nat) (hj : j < (rcL es a).length) => rc_at ht ha hj)
  have hsup : Hid (((superF es a).2 = 6 ∧ (rcL es a).length = 1) ∨ ((superF es a).2 = 0 ∧ (rcL es a).take ((rcL es a).length - 1) = rcL es (superF es a).1 ∧ 0 ≤ (superF es a).1 ∧ (superF es a).1 < es.length)) := Lib.hid (by
   by_cases hs : (ent es a).above < 0
   ·left
    rw [show superF es a = (0, 6) by unfold superF; rw [if_pos ha, if_pos hs]]; refine ⟨rfl, ?_⟩; rw [← hlen, chL_top ht ha.1 ha.2 hs]
    rfl
   ·right
    obtain ⟨e1, e2, e3⟩ := chL_step ht ha.1 ha.2 hs; rw [show superF es a = ((ent es a).above, 0) by unfold superF; rw [if_pos ha, if_neg hs]]; refine ⟨rfl, ?_, e2, by show (ent es a).above < _; omega⟩
    have hrc : rcL es a = rcL es (ent es a).above ++ [a] := by unfold rcL; rw [e1, List.reverse_cons]
    show (rcL es a).take ((rcL es a).length - 1) = rcL es (ent es a).above
    rw [hrc, List.length_append]
    show List.take ((rcL es (ent es a).above).length + 1 - 1) _ = _
    rw [Nat.add_sub_cancel]
    exact List.take_left' rfl)
  rw [eC] at RC hcC ⊢; rw [show ((chL es a, (0 : Int)) : List Int × Int).1 = chL es a from rfl, hlen] at hcC ⊢; rw [show ((chL es a, (0 : Int)) : List Int × Int).1 = chL es a from rfl] at RC
  have hrl : (rcL es a).length ≤ 1000 := by omega
  subst hbe; replace hE := Lib.hid hE; replace hP := Lib.hid hP; replace hD := Lib.hid hD; replace hcC := Lib.hid hcC; replace hcP := Lib.hid hcP; replace hcD := Lib.hid hcD; replace hlen := Lib.hid hlen; have hD82 := Lib.hid hD8; clear eB eC hr hd hD8; go_wp2_with fail; have s0 : w4.drew.cell? ⟨w2.heap.size, 0, none⟩ = some (.slice A0 P.length c0) := (blk_cell Z4.out 0).trans rfl; have s1 : w4.drew.cell? ⟨w2.heap.size, 1, none⟩ = some (.slice A1 D.length c1) := (blk_cell Z4.out 1).trans rfl; have HO := Lib.hid (own_empty (Kd.int .i64) 3 w4.drew); have BA := Lib.hid ((Below.refl w4.heap.size w4.drew).alloc (Nat.le_refl _) (.cells #[] 3)); have CP := Lib.hid (Kd.C_below (Kd.C_below RP.out (below_drew1 (Below.refl w4.heap.size w4))) BA.out); have CD := Lib.hid (Kd.C_below RD.out (below_drew1 (Below.refl w4.heap.size w4))); have a0 := pw_cell_below (w := w4.drew) BA.out s0; have a1 := pw_cell_below (w := w4.drew) BA.out s1; replace a0 := Lib.hid a0; replace a1 := Lib.hid a1; have hlP : Hid (P.length ≤ 1000) := Lib.hid (by omega); have hlD : Hid (D.length ≤ 1000) := Lib.hid (by omega)
  first
  | go_region_held3 (fun w' => w'.cell? ⟨w2.heap.size, 0, none⟩ = some (.slice A0 P.length c0) ∧ w'.cell? ⟨w2.heap.size, 1, none⟩ = some (.slice A1 D.length c1)) (first | exact ⟨s0, s1⟩ | exact ⟨a0.out, a1.out⟩ | exact ⟨b0.out, b1.out⟩ | exact ⟨d0.out, d1.out⟩)
    (first
    | (refine Kd.R_append_rows_step (Kd.int .i64) (Rr := (Kd.int .i64).K (w4.drew.alloc (.cells #[] 3))) (W := w4.drew.alloc (.cells #[] 3)) (w0 := w4.drew) w4.heap.size (by rfl) (.tmp 43) (.tmp 45) 43 3 (.int .i64 0) 8 (by rfl) Tryd.underlying43 info_int rfl (by decide) (by omega) _ [] P _ P.length c0 (fun _ => True) (fun _ => False) (by rfl) (by rfl) HO.out CP.out (fun _ _ h => h) (fun _ h => h.elim) (fun _ _ => trivial) BA.out (by simp) (by have := hlP.out; simp only [List.length_nil]; omega) ?_; intro vP w5 g1 g2 _ _; obtain ⟨AP, cP, rfl⟩ := Kd.R_slice g1; simp only [List.nil_append] at g1; replace g1 := Lib.hid g1; replace g2 := Lib.hid g2; have b0 := Lib.hid (pw_cell_below (w := w4.drew) g2.out s0); have b1 := Lib.hid (pw_cell_below (w := w4.drew) g2.out s1); have CD5 := Lib.hid (Kd.C_below CD.out g2.out))
    | (refine Kd.R_append_rows_step (Kd.int .i64) (Rr := (Kd.int .i64).K w5) (W := w5) (w0 := w4.drew) w4.heap.size (by rfl) (.tmp 46) (.tmp 48) 43 3 (.int .i64 0) 8 (by rfl) Tryd.underlying43 info_int rfl (by decide) (by omega) _ P D _ D.length c1 (fun _ => True) (fun _ => False) (by rfl) (by rfl) g1.out CD5.out (fun _ _ h => h) (fun _ h => h.elim) (fun _ _ => trivial) g2.out g2.out.size (by have h1 := hlP.out; have h2 := hlD.out; omega) ?_; intro vD w6 g3 g4 _ _; obtain ⟨AD, cD, rfl⟩ := Kd.R_slice g3; replace g3 := Lib.hid g3; replace g4 := Lib.hid g4; have d0 := Lib.hid (pw_cell_below (w := w4.drew) g4.out s0); have d1 := Lib.hid (pw_cell_below (w := w4.drew) g4.out s1)))
  | fail "two appends"
  have hPn : P.length + D.length = (rcL es a).length := by rw [← hPD.out, List.length_append]
  have B6 := Lib.hid ((below_drew1 (Below.refl w4.heap.size w4)).trans g4.out); have hq6 := Lib.hid (hq4.out.below B6.out); have H6 := Lib.hid (H4.out.trans (B6.out.mono H4.out.size)); have Z6 := Lib.hid (blk_below Z4.out B6.out); have CC := Lib.hid (Kd.C_below RC.out B6.out); have CT := Lib.hid (Kd.R_reads' g3.out); rw [List.length_append, hPn, hPD.out] at CT; rw [hPn]; clear s0 s1 HO BA CP CD a0 a1 b0 b1 d0 d1 g1 g2 g3 g4 CD5 RP RD RC hq4 H4 Z4 B6; generalize hN : (rcL es a).length = N at *; replace hN := Lib.hid hN
  go_upto_region 9 with (fail)
  go_cut [1, 5, 8, 10, 72] (fun u1 u5 u8 u10 u72 wr => u1 = .int .i64 a ∧ u5 = .pointer (some ⟨g, 0, none⟩) ∧ u8 = .slice A3 N c3 ∧ u10 = .slice AD N cD ∧ u72 = .bool false ∧ wr = w6)
  case first =>
   have z0 : w6.cell? ⟨w2.heap.size, 0, none⟩ = some (.slice A0 P.length c0) := (blk_cell Z6.out 0).trans rfl; have z1 : w6.cell? ⟨w2.heap.size, 1, none⟩ = some (.slice A1 D.length c1) := (blk_cell Z6.out 1).trans rfl; have e0 : decide ((P.length : Int) > 8) = false := decide_eq_false (by omega)
   by_cases hD0 : 0 < D.length
   ·have e1 : decide ((D.length : Int) > 0) = true := decide_eq_true (by omega)
    have e2 : P.length = 8 := hD82.out hD0; go_wp2; go_meet
    case rel => exact ⟨rfl, rfl, rfl, rfl, by first | rfl | (rw [e2]; rfl), rfl⟩
   ·have e1 : decide ((D.length : Int) > 0) = false := decide_eq_false (by omega)
    have e3 : D.length = 0 := by omega
    go_wp2; go_meet
    case rel => exact ⟨rfl, rfl, rfl, rfl, rfl, rfl⟩
  case rest =>
   obtain ⟨rfl, rfl, rfl, rfl, rfl, rfl⟩ := hcut; clear Z6 hP hD hPD hP8 hDl hPn hD82 hE hlP hlD hcP hcD; go_wp2_with fail
   go_loopw [11] (fun v11 wr => ∃ j : Nat, j ≤ N ∧ v11 = .int .i64 j ∧ Hid (Below wc.heap.size wc wr)) (fun v11 _ => N - (intOf v11).toNat)
   case atStart => exact ⟨0, Nat.zero_le _, rfl, Lib.hid (Below.refl _ _)⟩
   case round =>
    obtain ⟨j, hj, rfl, hbr⟩ := hrel
    by_cases hlt : j < N
    ·have hjd : decide (j < N) = true := decide_eq_true hlt
     obtain ⟨r1, r2, r3⟩ := RT.out j hlt; obtain ⟨ad, rfl, k1⟩ := Kd.at_int (Kd.C_below CT.out.2.2 hbr.out) (j : Int) (by omega) (by omega); obtain ⟨ac, rfl, k2⟩ := Kd.at_int (Kd.C_below CC.out hbr.out) ((N : Int) - 1 - j) (by omega) (by have := hlen.out; have := hN.out; omega); rw [r1] at k2
     obtain ⟨m, hm⟩ : ∃ m : Int, (N : Int) - 1 - j = m := ⟨_, rfl⟩
     have hw : wrap64 (wrap64 ((N : Int) - 1) - (j : Int)) = m := by rw [← hm]; unfold wrap64; omega
     have hm0 : (0 ≤ m) = True := eq_true (by omega); have hm1 : (m < (N : Int)) = True := eq_true (by omega); rw [hm] at k2; replace hm := Lib.hid hm; rw [Int.toNat_natCast] at k1; have CD := Lib.hid (DP.out g wr (hq6.out.below hbr.out) (Go.Proofs.YtaipkdglhfhhiaaDoorW.PrintWords.rd (rcL es a) (j : Int))); rw [r2] at CD; generalize Go.Proofs.YtaipkdglhfhhiaaDoorW.PrintWords.rd (rcL es a) (j : Int) = x at *; replace k2 := Lib.hid k2; replace k1h := Lib.hid k1; clear r1 r2; go_wp2_with fail; refine CD.out.mono ?_; rintro e w7 ⟨rfl, hb7⟩; have k1 : w7.cell? (ad.add j) = some (.int .i64 x) := pw_cell_below hb7 k1h.out; have k2 : w7.cell? (ac.add m.toNat) = some (.int .i64 x) := pw_cell_below hb7 k2.out; have hb8 := Lib.hid (hbr.out.trans (hb7.mono hbr.out.size)); clear CD hb7 hbr
     by_cases hx : x = a
     ·have e1 : (x == a) = true := beq_iff_eq.2 hx
      have e2 : ((j : Int) != wrap64 ((N : Int) - 1)) = false := by rw [bne_eq_false_iff_eq, show wrap64 ((N : Int) - 1) = (N : Int) - 1 by unfold wrap64; omega]; exact r3 hx
      clear hx r3; go_wp2; have hb9 := Lib.hid (below_drew1 hb8.out); refine start_ (n := 45) (S := fun w' => w'.cell? (ad.add j) = some (.int .i64 x) ∧ w'.cell? (ac.add m.toNat) = some (.int .i64 x)) (ds := []) (Array.replicate 45 false) (by kernel_rfl) rfl rfl ⟨k1, k2⟩ (fun hHeld => ?_); refine with_tabW dch_tab dch_bits (fun HT_ HW_ => ?_); generalize w7.drew = w8 at hHeld hb9 ⊢; refine pX HT_ 0 (some 88) ?_; refine pX HT_ 1 (some 89) ?_; refine pX HT_ 2 (some 90) ?_; refine pX HT_ 3 (some 91) ?_; refine pX HT_ 4 (some 92) ?_; refine pX HT_ 5 (some 93) ?_; refine pX HT_ 7 (some 95) ?_; refine pX HT_ 8 (some 96) ?_; refine pX HT_ 9 (some 97) ?_; refine pX HT_ 10 (some 98) ?_; refine pX HT_ 11 (some 99) ?_; refine pX HT_ 12 (some 100) ?_; refine pX HT_ 13 (some 101) ?_; refine tX HT_ HW_ hHeld 6 (some 94) ?_; refine tX HT_ HW_ hHeld 14 (some 102) ?_; refine pX HT_ 15 (some 103) ?_; refine pX HT_ 16 (some 104) ?_; refine pX HT_ 17 (some 105) ?_; refine pX HT_ 18 (some 106) ?_; refine pX HT_ 19 (some 107) ?_; refine pX HT_ 20 (some 108) ?_; refine pX HT_ 21 (some 109) ?_; refine uX HT_ 22 (some 110) ?_; refine uX HT_ 23 (some 111) ?_; refine uX HT_ 24 (some 112) ?_; refine uX HT_ 25 (some 113) ?_; refine uX HT_ 26 (some 114) ?_; refine uX HT_ 27 (some 115) ?_; refine pX HT_ 28 (some 116) ?_; refine pX HT_ 29 (some 117) ?_; refine pX HT_ 30 (some 118) ?_; refine pX HT_ 31 (some 119) ?_; refine pX HT_ 32 (some 120) ?_; refine pX HT_ 33 (some 121) ?_; refine pX HT_ 35 (some 123) ?_; refine tX HT_ HW_ hHeld 34 (some 122) ?_; refine pX HT_ 36 (some 124) ?_; refine pX HT_ 37 (some 125) ?_; refine pX HT_ 38 (some 126) ?_; refine pX HT_ 39 (some 127) ?_; refine pX HT_ 40 (some 128) ?_; refine pX HT_ 41 (some 129) ?_; refine pX HT_ 42 (some 130) ?_; refine pX HT_ 43 (some 131) ?_; refine pX HT_ 44 (some 132) ?_; refine done_ (done_of HT_.out (by kernel_rfl)) ?_; go_wp2
      exact ⟨⟨j + 1, by omega, by push_cast; rfl, hb9⟩, by simp [intOf]; omega⟩
     ·have e1 : (x == a) = false := beq_eq_false_iff_ne.2 hx
      clear hx r3; go_wp2; have hb9 := Lib.hid (below_drew1 hb8.out); refine start_ (n := 45) (S := fun w' => w'.cell? (ad.add j) = some (.int .i64 x) ∧ w'.cell? (ac.add m.toNat) = some (.int .i64 x)) (ds := []) (Array.replicate 45 false) (by kernel_rfl) rfl rfl ⟨k1, k2⟩ (fun hHeld => ?_); refine with_tabW dch_tab dch_bits (fun HT_ HW_ => ?_); generalize w7.drew = w8 at hHeld hb9 ⊢; refine pX HT_ 0 (some 88) ?_; refine pX HT_ 1 (some 89) ?_; refine pX HT_ 2 (some 90) ?_; refine pX HT_ 3 (some 91) ?_; refine pX HT_ 4 (some 92) ?_; refine pX HT_ 5 (some 93) ?_; refine pX HT_ 7 (some 95) ?_; refine pX HT_ 8 (some 96) ?_; refine pX HT_ 9 (some 97) ?_; refine pX HT_ 10 (some 98) ?_; refine pX HT_ 11 (some 99) ?_; refine pX HT_ 12 (some 100) ?_; refine pX HT_ 13 (some 101) ?_; refine tX HT_ HW_ hHeld 6 (some 94) ?_; refine tX HT_ HW_ hHeld 14 (some 102) ?_; refine pX HT_ 15 (some 103) ?_; refine pX HT_ 16 (some 104) ?_; refine pX HT_ 17 (some 105) ?_; refine pX HT_ 18 (some 106) ?_; refine pX HT_ 19 (some 107) ?_; refine pX HT_ 20 (some 108) ?_; refine pX HT_ 21 (some 109) ?_; refine uX HT_ 22 (some 110) ?_; refine uX HT_ 23 (some 111) ?_; refine uX HT_ 24 (some 112) ?_; refine uX HT_ 25 (some 113) ?_; refine uX HT_ 26 (some 114) ?_; refine uX HT_ 27 (some 115) ?_; refine pX HT_ 28 (some 116) ?_; refine pX HT_ 29 (some 117) ?_; refine pX HT_ 30 (some 118) ?_; refine pX HT_ 31 (some 119) ?_; refine pX HT_ 32 (some 120) ?_; refine pX HT_ 33 (some 121) ?_; refine pX HT_ 35 (some 123) ?_; refine tX HT_ HW_ hHeld 34 (some 122) ?_; refine pX HT_ 36 (some 124) ?_; refine pX HT_ 37 (some 125) ?_; refine uX HT_ 38 (some 126) ?_; refine uX HT_ 39 (some 127) ?_; refine uX HT_ 40 (some 128) ?_; refine uX HT_ 41 (some 129) ?_; refine uX HT_ 42 (some 130) ?_; refine pX HT_ 43 (some 131) ?_; refine pX HT_ 44 (some 132) ?_; refine done_ (done_of HT_.out (by kernel_rfl)) ?_; go_wp2
      exact ⟨⟨j + 1, by omega, by push_cast; rfl, hb9⟩, by simp [intOf]; omega⟩
    ·have hjd : decide (j < N) = false := decide_eq_false hlt
     have CS := Lib.hid (SP.out g wr (hq6.out.below hbr.out)); generalize superF es a = sp at *; obtain ⟨sp1, sp2⟩ := sp
     rcases hsup.out with ⟨q1, q2⟩ | ⟨q1, q2, q3, q4⟩
     ·have q1 : sp2 = 6 := q1
      subst q1; have q2 : N = 1 := q2; subst q2; go_wp2_with fail; refine CS.out.mono ?_; rintro e w7 ⟨rfl, hb7⟩; have hb8 := Lib.hid (hbr.out.trans (hb7.mono hbr.out.size)); clear hb7; go_wp2; go_ret
      exact ⟨rfl, H6.out.trans (hb8.out.mono H6.out.size)⟩
     ·have q1 : sp2 = 0 := q1
      subst q1; have q2 : (rcL es a).take (N - 1) = rcL es sp1 := q2; have q3 : 0 ≤ sp1 := q3; have q4 : sp1 < es.length := q4; have eB : buildF es sp1 = ((rcL es sp1).take 8, (rcL es sp1).drop 8, (ent es sp1).clo, 0) := if_pos ⟨q3, q4⟩; have hr2 := rcL_len ht q3 q4; have hd2 := ht.depth_ q3 q4
      have hl2 : (rcL es sp1).length = N - 1 := by rw [← q2, List.length_take, hN.out]; omega
      go_wp2_with fail; refine CS.out.mono ?_; rintro e w7 ⟨rfl, hb7⟩; have hb8 := Lib.hid (hbr.out.trans (hb7.mono hbr.out.size)); have C8 := Lib.hid (BD.out g w7 (hq6.out.below hb8.out) sp1); clear CS hb7 hbr; go_wp2_with fail; refine C8.out.mono ?_; rintro e x2 ⟨v0, v1, v2, rfl, R0, R1, R2, hbx⟩; obtain ⟨B0, d0_, rfl, _, QP⟩ := Kd.R_reads R0; obtain ⟨B1, d1_, rfl, _, QD⟩ := Kd.R_reads R1; obtain ⟨B2, d2_, rfl⟩ := Kd.R_slice R2; have hbx2 := hb8.out.trans (hbx.mono hb8.out.size); clear C8 R0 R1 R2 hbx; generalize hP2 : (buildF es sp1).1 = P2 at *; generalize hD2 : (buildF es sp1).2.1 = D2 at *; generalize (buildF es sp1).2.2.1 = K2 at *; generalize hE2 : (buildF es sp1).2.2.2 = be2 at *
      have hbe2 : be2 = 0 := by rw [← hE2, eB]
      subst hbe2
      have hPD2 : P2 ++ D2 = rcL es sp1 := by rw [← hP2, ← hD2, eB]; exact List.take_append_drop 8 _
      have hPn2 : P2.length + D2.length = N - 1 := by rw [← hl2, ← hPD2, List.length_append]
      replace hP2 := Lib.hid hP2; replace hD2 := Lib.hid hD2; replace hE2 := Lib.hid hE2; replace hPD2 := Lib.hid hPD2; have A3' := (Below.refl x2.heap.size x2).alloc (Nat.le_refl _) (.cells #[.slice B0 P2.length d0_, .slice B1 D2.length d1_, .slice B2 K2.length d2_] 45); have Y4 := Lib.hid (blk_new x2 (.cells #[.slice B0 P2.length d0_, .slice B1 D2.length d1_, .slice B2 K2.length d2_] 45)); have H9 := Lib.hid (hbx2.trans (A3'.mono hbx2.size)); replace QP := Lib.hid (Kd.C_below QP A3'); replace QD := Lib.hid (Kd.C_below QD A3'); clear A3' hbx2 eB; go_wp2_with fail; generalize hx4 : x2.alloc (.cells #[.slice B0 P2.length d0_, .slice B1 D2.length d1_, .slice B2 K2.length d2_] 45) = x4 at *; replace hx4 := Lib.hid hx4; have s0' : x4.drew.cell? ⟨x2.heap.size, 0, none⟩ = some (.slice B0 P2.length d0_) := (blk_cell Y4.out 0).trans rfl; have s1' : x4.drew.cell? ⟨x2.heap.size, 1, none⟩ = some (.slice B1 D2.length d1_) := (blk_cell Y4.out 1).trans rfl; have HO' := Lib.hid (own_empty (Kd.int .i64) 3 x4.drew); have BA' := Lib.hid ((Below.refl x4.heap.size x4.drew).alloc (Nat.le_refl _) (.cells #[] 3)); have CP' := Lib.hid (Kd.C_below (Kd.C_below QP.out (below_drew1 (Below.refl x4.heap.size x4))) BA'.out); have CD' := Lib.hid (Kd.C_below QD.out (below_drew1 (Below.refl x4.heap.size x4))); have a0' := pw_cell_below (w := x4.drew) BA'.out s0'; have a1' := pw_cell_below (w := x4.drew) BA'.out s1'; replace a0' := Lib.hid a0'; replace a1' := Lib.hid a1'; have hlP' : Hid (P2.length ≤ 1000) := Lib.hid (by omega); have hlD' : Hid (D2.length ≤ 1000) := Lib.hid (by omega)
      first
      | go_region_held3 (fun w' => w'.cell? ⟨x2.heap.size, 0, none⟩ = some (.slice B0 P2.length d0_) ∧ w'.cell? ⟨x2.heap.size, 1, none⟩ = some (.slice B1 D2.length d1_)) (first | exact ⟨s0', s1'⟩ | exact ⟨a0'.out, a1'.out⟩ | exact ⟨b0'.out, b1'.out⟩ | exact ⟨d0'.out, d1'.out⟩)
        (first
        | (refine Kd.R_append_rows_step (Kd.int .i64) (Rr := (Kd.int .i64).K (x4.drew.alloc (.cells #[] 3))) (W := x4.drew.alloc (.cells #[] 3)) (w0 := x4.drew) x4.heap.size (by rfl) (.tmp 150) (.tmp 152) 43 3 (.int .i64 0) 8 (by rfl) Tryd.underlying43 info_int rfl (by decide) (by omega) _ [] P2 _ P2.length d0_ (fun _ => True) (fun _ => False) (by rfl) (by rfl) HO'.out CP'.out (fun _ _ h => h) (fun _ h => h.elim) (fun _ _ => trivial) BA'.out (by simp) (by have := hlP'.out; simp only [List.length_nil]; omega) ?_; intro vP' x5 g1' g2' _ _; obtain ⟨AP', cP', rfl⟩ := Kd.R_slice g1'; simp only [List.nil_append] at g1'; replace g1' := Lib.hid g1'; replace g2' := Lib.hid g2'; have b0' := Lib.hid (pw_cell_below (w := x4.drew) g2'.out s0'); have b1' := Lib.hid (pw_cell_below (w := x4.drew) g2'.out s1'); have CD5' := Lib.hid (Kd.C_below CD'.out g2'.out))
        | (refine Kd.R_append_rows_step (Kd.int .i64) (Rr := (Kd.int .i64).K x5) (W := x5) (w0 := x4.drew) x4.heap.size (by rfl) (.tmp 153) (.tmp 155) 43 3 (.int .i64 0) 8 (by rfl) Tryd.underlying43 info_int rfl (by decide) (by omega) _ P2 D2 _ D2.length d1_ (fun _ => True) (fun _ => False) (by rfl) (by rfl) g1'.out CD5'.out (fun _ _ h => h) (fun _ h => h.elim) (fun _ _ => trivial) g2'.out g2'.out.size (by have h1 := hlP'.out; have h2 := hlD'.out; omega) ?_; intro vD' x6 g3' g4' _ _; obtain ⟨AD', cD', rfl⟩ := Kd.R_slice g3'; replace g3' := Lib.hid g3'; replace g4' := Lib.hid g4'; have d0' := Lib.hid (pw_cell_below (w := x4.drew) g4'.out s0'); have d1' := Lib.hid (pw_cell_below (w := x4.drew) g4'.out s1')))
      | fail "two appends"
      have B9 := Lib.hid ((below_drew1 (Below.refl x4.heap.size x4)).trans g4'.out); have H10 := Lib.hid (H9.out.trans (B9.out.mono H9.out.size)); have hpd3 := hPD2.out; have CU := Lib.hid (Kd.R_reads' g3'.out); rw [List.length_append, hPn2, hpd3] at CU
      try rw [hPn2]
      have CT2 := Lib.hid (Kd.C_below CT.out.2.2 H10.out); clear s0' s1' HO' BA' CP' CD' a0' a1' b0' b1' d0' d1' g1' g2' g3' g4' CD5' QP QD Y4 B9 H9 hlP' hlD'
      have hw : wrap64 ((N : Int) - 1) = ((N - 1 : Nat) : Int) := by unfold wrap64; omega
      have hcT := CT.out.2.1
      have CT3 : Kd.C (Kd.int .i64) x6 AD (rcL es sp1).length (rcL es sp1) := by
       have h1 : Kd.C (Kd.int .i64) x6 AD (rcL es a).length (rcL es a) := by rw [hN.out]; exact CT2.out
       have h2 := Kd.C_take (m := N - 1) h1 (by rw [hN.out]; omega)
       rwa [q2] at h2
      have CU2 : Kd.C (Kd.int .i64) x6 AD' (rcL es sp1).length (rcL es sp1) := by rw [hl2]; exact CU.out.2.2
      have CQ := Lib.hid (arbiterref06_SameNums.calls 2000 AD' cD' (rcL es sp1) AD cD (rcL es sp1) true x6 CU2 (by rw [hl2]; exact CU.out.2.1) CT3 (by rw [hl2]; omega) (same_ok (rcL es sp1) (by omega) 2000 (by omega))); rw [hl2] at CQ; clear CT3 CU2 CT2 CU; go_wp2_with fail; refine CQ.out.mono ?_; rintro e x7 ⟨rfl, ⟨nd, rfl⟩⟩; go_wp2; go_ret
      exact ⟨rfl, pw_below_drewN (H6.out.trans (H10.out.mono H6.out.size)) nd⟩
 ·have eB : buildF es a = ([], [], [], 3) := if_neg ha
  have eC : chainF es a = ([], 3) := if_neg ha
  have hbe : be = 3 := by rw [← hE, eB]
  rw [eC] at RC hcC ⊢; subst hbe; clear eB eC; go_wp2; go_ret
  exact ⟨rfl, H4.out⟩
end Go.Proofs.YtaipkdglhfhhiaaDoor.Pt

namespace Go.Proofs.YtaipkdglhfhhiaaDoor.RowC
open Go Go.RowKit Go.WideShapes Go.Deep Go.Proofs.YtaipkdglhfhhiaaDoorW.PrintWords Go.Proofs.YtaipkdglhfhhiaaDoorW.PrintLast Go.Proofs.YtaipkdglhfhhiaaDoorW.PrintMore Go.Proofs.YtaipkdglhfhhiaaDoor.Pt
set_option linter.unusedVariables false
set_option linter.unusedSimpArgs false
set_option maxRecDepth 100000
variable {H : Type} {enc : TypeId × Value → H} {w : World}
def Opens {H : Type} (enc : TypeId × Value → H) (w : World) (t : TypeId) {α : Type} (d : Kd α) : Prop :=
 ∀ (fuel : Nat) (cs : List Value) (x : DataW H × List MemPlace), DataW.trod enc Tryd.prog w 0 (fun _ => true) true fuel t cs = some x → ∃ a : α, d.K w a cs
theorem opens_int : Opens enc w 3 (Kd.int .i64) := fun fuel cs x h => by
 obtain ⟨n, rfl, _⟩ := DataW.trod_int Tryd.underlying3 h
 exact ⟨n, rfl⟩
theorem opens_bool : Opens enc w 4 Kd.bool := fun fuel cs x h => by
 obtain ⟨n, rfl, _⟩ := DataW.trod_bool Tryd.underlying4 h
 exact ⟨n, rfl⟩
theorem opens_string : Opens enc w 9 Kd.string := fun fuel cs x h => by
 obtain ⟨n, rfl, _⟩ := DataW.trod_string Tryd.underlying9 h
 exact ⟨n, rfl⟩
theorem opens_slice {α : Type} {d : Kd α} {t e : TypeId} (tag : Nat) (ht : Tryd.prog.underlying t = some (.slice e)) (he : Tryd.prog.cellsOf e = d.sz) (ho : Opens enc w e d) : Opens enc w t (Kd.slice tag d) := fun fuel cs x h => by
 rcases open_slice ht h with ⟨rfl, _⟩ | ⟨a, len, cap, m, n, D, Pl, rfl, _, hl, hm, hmm, _, hx⟩
 ·exact ⟨[], none, 0, rfl, Nat.le_refl _, Kd.C_nil _ _⟩
 ·have hmm : m = cap := by simpa using hmm
  have hel : ∀ i : Fin len, ∃ p : α, ∃ c : List Value, c.length = d.sz ∧ d.K w p c ∧ ∀ j u, c[j]? = some u → w.cell? (a.add (i.val * d.sz + j)) = some u := by
   intro i; obtain ⟨cs', h1, h2⟩ := hx i.val (by omega); obtain ⟨p, hp⟩ := ho _ _ _ h2; obtain ⟨_, h3, h4⟩ := World.cells?_some h1; rw [he] at h3 h4; refine ⟨p, cs', h3, hp, fun j u hj => ?_⟩
   have hjl : j < d.sz := by
    rcases Nat.lt_or_ge j d.sz with h | h
    ·exact h
    ·rw [List.getElem?_eq_none (by omega)] at hj; cases hj
   have h5 := h4 j hjl; rw [hj] at h5; rw [← h5]; rw [Addr.add_add]
  let f : Fin len → α := fun i => Classical.choose (hel i)
  have hf : ∀ i : Fin len, ∃ c : List Value, c.length = d.sz ∧ d.K w (f i) c ∧ ∀ j u, c[j]? = some u → w.cell? (a.add (i.val * d.sz + j)) = some u := fun i => Classical.choose_spec (hel i); have hlen : (List.ofFn f).length = len := List.length_ofFn; refine ⟨List.ofFn f, some a, cap, by rw [hlen], by omega, ?_⟩; rw [hlen]; refine ⟨hlen, by unfold maxLen at hm; omega, fun h0 => ⟨a, rfl, fun j p hj => ?_⟩⟩
  have hjl : j < len := by
   rcases Nat.lt_or_ge j len with h | h
   ·exact h
   ·rw [List.getElem?_eq_none (by omega)] at hj; cases hj
  rw [List.getElem?_eq_getElem (by omega), List.getElem_ofFn] at hj; obtain rfl := Option.some.inj hj
  exact hf ⟨j, hjl⟩
theorem cut (cs : List Value) (o n : Nat) : cs.drop o = (cs.drop o).take n ++ cs.drop (o + n) := by
 rw [← List.drop_drop, List.take_append_drop]
theorem field {n : Nat} {fs : Array Field} {cs : List Value} {xs : List (DataW H × List MemPlace)} (hlen : xs.length = fs.size)
  (hf : ∀ (i : Nat) (f : Field), fs[i]? = some f → DataW.trod enc Tryd.prog w 0 (fun _ => true) true n f.type ((cs.drop f.offset).take (Tryd.prog.cellsOf f.type)) = xs[i]?) {α : Type} {d : Kd α} (i : Nat) (f : Field) (hi : fs[i]? = some f) (ho : Opens enc w f.type d) (k : Nat) (hk : Tryd.prog.cellsOf f.type = k) :
  ∃ a : α, d.K w a ((cs.drop f.offset).take k) := by
 have hl : i < fs.size := by
  rcases Nat.lt_or_ge i fs.size with h | h
  ·exact h
  ·rw [Array.getElem?_eq_none h] at hi; cases hi
 have h := hf i f hi; rw [hk, List.getElem?_eq_getElem (by omega)] at h
 exact ho _ _ _ h
theorem opens_Ref : Opens enc w 89 k89 := fun fuel cs x h => by
 obtain ⟨xs, n, _, _, hl, hlen, hf⟩ := DataW.trod_struct Tryd.underlying89 h; rw [show Tryd.prog.cellsOf 89 = 4 by kernel_rfl] at hl; obtain ⟨a0, e0⟩ := field hlen hf 0 _ rfl opens_bool 1 (by kernel_rfl); obtain ⟨a1, e1⟩ := field hlen hf 1 _ rfl opens_string 1 (by kernel_rfl); obtain ⟨a2, e2⟩ := field hlen hf 2 _ rfl opens_string 1 (by kernel_rfl); obtain ⟨a3, e3⟩ := field hlen hf 3 _ rfl opens_string 1 (by kernel_rfl); refine ⟨⟨a0, a1, a2, a3⟩, _, _, cut cs 0 1, e0, _, _, cut cs 1 1, e1, _, _, cut cs 2 1, e2, ?_⟩; rw [List.take_of_length_le (by simp; omega)] at e3
 exact e3
theorem opens_Inst : Opens enc w 91 k91 := fun fuel cs x h => by
 obtain ⟨xs, n, _, _, hl, hlen, hf⟩ := DataW.trod_struct Tryd.underlying91 h; rw [show Tryd.prog.cellsOf 91 = 7 by kernel_rfl] at hl; obtain ⟨a0, e0⟩ := field hlen hf 0 _ rfl opens_int 1 (by kernel_rfl); obtain ⟨a1, e1⟩ := field hlen hf 1 _ rfl opens_int 1 (by kernel_rfl); obtain ⟨a2, e2⟩ := field hlen hf 2 _ rfl opens_string 1 (by kernel_rfl); obtain ⟨a3, e3⟩ := field hlen hf 3 _ rfl opens_Ref 4 (by kernel_rfl); refine ⟨⟨a0, a1, a2, a3⟩, _, _, cut cs 0 1, e0, _, _, cut cs 1 1, e1, _, _, cut cs 2 1, e2, ?_⟩; rw [List.take_of_length_le (by simp; omega)] at e3
 exact e3
theorem opens_Method : Opens enc w 94 k94 := fun fuel cs x h => by
 obtain ⟨xs, n, _, _, hl, hlen, hf⟩ := DataW.trod_struct Tryd.underlying94 h; rw [show Tryd.prog.cellsOf 94 = 6 by kernel_rfl] at hl; obtain ⟨a0, e0⟩ := field hlen hf 0 _ rfl opens_string 1 (by kernel_rfl); obtain ⟨a1, e1⟩ := field hlen hf 1 _ rfl opens_string 1 (by kernel_rfl); obtain ⟨a2, e2⟩ := field hlen hf 2 _ rfl opens_int 1 (by kernel_rfl); obtain ⟨a3, e3⟩ := field hlen hf 3 _ rfl opens_int 1 (by kernel_rfl); obtain ⟨a4, e4⟩ := field hlen hf 4 _ rfl opens_int 1 (by kernel_rfl); obtain ⟨a5, e5⟩ := field hlen hf 5 _ rfl (opens_slice 91 Tryd.underlying92 (by kernel_rfl) opens_Inst) 1 (by kernel_rfl); refine ⟨⟨a0, a1, a2, a3, a4, a5⟩, _, _, cut cs 0 1, e0, _, _, cut cs 1 1, e1, _, _, cut cs 2 1, e2, _, _, cut cs 3 1, e3, _, _, cut cs 4 1, e4, ?_⟩; rw [List.take_of_length_le (by simp; omega)] at e5
 exact e5
theorem opens_Class : Opens enc w 40 k40 := fun fuel cs x h => by
 obtain ⟨xs, n, _, _, hl, hlen, hf⟩ := DataW.trod_struct Tryd.underlying40 h; rw [show Tryd.prog.cellsOf 40 = 6 by kernel_rfl] at hl; obtain ⟨a0, e0⟩ := field hlen hf 0 _ rfl opens_string 1 (by kernel_rfl); obtain ⟨a1, e1⟩ := field hlen hf 1 _ rfl opens_string 1 (by kernel_rfl); obtain ⟨a2, e2⟩ := field hlen hf 2 _ rfl (opens_slice 9 Tryd.underlying37 (by kernel_rfl) opens_string) 1 (by kernel_rfl); obtain ⟨a3, e3⟩ := field hlen hf 3 _ rfl opens_int 1 (by kernel_rfl); obtain ⟨a4, e4⟩ := field hlen hf 4 _ rfl opens_int 1 (by kernel_rfl); obtain ⟨a5, e5⟩ := field hlen hf 5 _ rfl (opens_slice 94 Tryd.underlying38 (by kernel_rfl) opens_Method) 1 (by kernel_rfl); refine ⟨⟨a0, a1, a2, a3, a4, a5⟩, _, _, cut cs 0 1, e0, _, _, cut cs 1 1, e1, _, _, cut cs 2 1, e2, _, _, cut cs 3 1, e3, _, _, cut cs 4 1, e4, ?_⟩; rw [List.take_of_length_le (by simp; omega)] at e5
 exact e5
theorem open_list {base : Nat} {R : Reach} {v : Value} {d : DataW H} {p : List MemPlace} (hv : Value.okWide Tryd.prog w R base 22 v) (h : DataW.Trod enc Tryd.prog w 0 (fun _ => true) true 22 v d p) :
  ∃ (A : Option Addr) (c : Nat) (l : List S40), v = .slice A l.length c ∧ l.length ≤ c ∧ Kd.C k40 w A l.length l := by
 obtain ⟨a, len, cap, rfl⟩ := okWide_slice Tryd.underlying22 hv; obtain ⟨fuel, hf⟩ := h; obtain ⟨l, A, c, e, hc, hk⟩ := opens_slice 40 Tryd.underlying22 (by kernel_rfl) opens_Class _ _ _ hf; have e : [Value.slice a len cap] = [.slice A l.length c] := e
 obtain ⟨rfl, rfl, rfl⟩ : a = A ∧ len = l.length ∧ cap = c := by simpa using e
 exact ⟨_, _, l, rfl, hc, hk⟩
end Go.Proofs.YtaipkdglhfhhiaaDoor.RowC
