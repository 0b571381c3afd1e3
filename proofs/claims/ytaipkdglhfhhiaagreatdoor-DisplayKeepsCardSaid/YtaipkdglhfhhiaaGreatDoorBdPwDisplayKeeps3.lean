/- Lemmas and contracts for the statement of PwDisplayKeeps: joined by program out of this session's texts. -/
import Derived.Test.YtaipkdglhfhhiaaGreatDoorBdPwDisplayKeeps2
import Derived.Outline
import Derived.Laws.StructEq
import Derived.Laws.Rows
import Derived.RegionTactic
import Derived.ChangeAlike
import Derived.Deep.RegionHeld3
import Derived.Laws.BitsLemmas
import Derived.RowKit
import Derived.Test.YtaipkdglhfhhiaaGreatDoorProg
import Derived.Lib.Hide
import Derived.Deep.DeepCutAuto
namespace Go.Proofs.YtaipkdglhfhhiaaGreatDoor.Hi
open Go Go.RowKit Go.Proofs.YtaipkdglhfhhiaaGreatDoor.Nm Go.Proofs.YtaipkdglhfhhiaaGreatDoorW.PrintWords Go.Proofs.YtaipkdglhfhhiaaGreatDoorW.PrintLast Go.Proofs.YtaipkdglhfhhiaaGreatDoorW.PrintMore Go.Proofs.YtaipkdglhfhhiaaGreatDoor.Pt
set_option linter.unusedVariables false
set_option linter.unusedSimpArgs false
set_option maxHeartbeats 4000000
set_option maxRecDepth 100000
def fitF (id : Int) (p c : S85) (want : Bool) : Int × Int :=
 if isI p != want then (0, 23) else if !want && isI c && id != 0 then (0, 23) else if Go.bits .and .i64 p.f3 1 == 0 && !(tog c p) then (0, 22) else (id, 0)
def aboveF (es : List Ent) (c : S85) (name : ByteArray) (want : Bool) : Int × Int :=
 if (nameF es name).2 = 0 then fitF (nameF es name).1 (ent es (nameF es name).1).c c want else (0, 20)
theorem above_any (w : World) (base g : Nat) (v : Value) (mb : Nat) (ps : List Nat) (es : List Ent) (h : WIn w base g v mb ps es) (hf : ∀ x ∈ es, Fine x) (c : S85) (v1 v2 v5 : Value) (name : ByteArray) (want : Bool) (hc : c.f0.size < 4611686018427387904) (hs : name.size ≤ 9223372036854775807) (hlen : es.length ≤ 1000) :
  Calls Tryz.prog 88 #[.pointer (some ⟨g, 0, none⟩), .agg #[.string c.f0, v1, v2, .int .i64 c.f3, .int .i64 c.f4, v5], .string name, .bool want] w fun e w' => e = .returned (.tuple #[.int .i64 (aboveF es c name want).1, .int .i64 (aboveF es c name want).2]) ∧ Below w.heap.size w w' := by
 generalize hV : aboveF es c name want = V; replace hV := Lib.hid hV; obtain ⟨D, hD, hS⟩ := h.map; have q1 : w.cell? ⟨g, 1, none⟩ = some (.map (some mb)) := (blk_cell h.blk 1).trans rfl; have hgl := blk_lt h.blk; have HW := Lib.hid h; replace hS := Lib.hid hS; have hD1 := Lib.hid (hD.alloc (.cells #[.string c.f0, v1, v2, .int .i64 c.f3, .int .i64 c.f4, v5] 85)); clear h hD
 cases hh : Maps.has D (.string name.data.toList)
 ·have LN := Lib.hid (fun c hc => (look_name hS.out name c hc).2 hh)
  go_enter Tryz.func88, Tryz.ntmps88; go_wp2_with (at_lookup; refine wpList_lookup_own_ok_int _ rfl _ _ 130 rfl 9 3 .i64 (Maps.string_keyed Tryz.underlying9) Tryz.underlying130 Tryz.underlying3 (zeroInt _) mb es.length D rfl hD1.out _ _ rfl (Go.WideMaps.keyOf_string_mk Tryz.underlying9 hs) ?_; intro i hat hwc; replace hat := Lib.hid hat; clear hwc); go_ret2; have e1 := LN.out i hat.out
  exact ⟨by rw [← hV.out, aboveF, e1]; rfl, (Below.refl _ _).alloc (Nat.le_refl _) _⟩
 ·have LN := Lib.hid (fun c hc => (look_name hS.out name c hc).1 hh)
  have B5 := Lib.hid (blk_new w (.cells #[.string c.f0, v1, v2, .int .i64 c.f3, .int .i64 c.f4, v5] 85)); have HB : Hid (Below w.heap.size w (w.alloc (.cells #[.string c.f0, v1, v2, .int .i64 c.f3, .int .i64 c.f4, v5] 85))) := Lib.hid ((Below.refl _ _).alloc (Nat.le_refl _) _); obtain ⟨Av, cv, rfl⟩ := Kd.R_slice HW.out.row; have qg0 : w.cell? ⟨g, 0, none⟩ = some (.slice Av ps.length cv) := (blk_cell HW.out.blk 0).trans rfl; go_enter Tryz.func88, Tryz.ntmps88
  go_upto_region 2 with (at_lookup; refine wpList_lookup_own_ok_int _ rfl _ _ 130 rfl 9 3 .i64 (Maps.string_keyed Tryz.underlying9) Tryz.underlying130 Tryz.underlying3 (zeroInt _) mb es.length D rfl hD1.out _ _ rfl (Go.WideMaps.keyOf_string_mk Tryz.underlying9 hs) ?_; intro id hat hwc; replace hat := Lib.hid hat; clear hwc)
  obtain ⟨n1, n2, n3, n4, n5⟩ := LN.out id hat.out; clear n5; have hVV : Hid (fitF id (ent es id).c c want = V) := Lib.hid (by rw [← hV.out, aboveF, n1, n2]; rfl); obtain ⟨hnl, ad, p, A2', c2', A5', c5', A8', c8', rfl, hrow, hent, _, _, _⟩ := WIn_all_at HW.out n3 n4; have sx : Hid ((ent es id).c.f0.size < 4611686018427387904) := Lib.hid (hf _ (List.mem_of_getElem? (get_ent n3 n4))).2.1; clear LN hV hat n1 n2 hD1 hS hf q1; generalize ent es id = x at *; have p0 : w.cell? ⟨p, 0, none⟩ = some (.string x.c.f0) := (blk_cell hent 0).trans rfl; have p1 : w.cell? ⟨p, 1, none⟩ = some (.string x.c.f1) := (blk_cell hent 1).trans rfl; have p2 : w.cell? ⟨p, 2, none⟩ = some (.slice A2' x.c.f2.length c2') := (blk_cell hent 2).trans rfl; have p3 : w.cell? ⟨p, 3, none⟩ = some (.int .i64 x.c.f3) := (blk_cell hent 3).trans rfl; have p4 : w.cell? ⟨p, 4, none⟩ = some (.int .i64 x.c.f4) := (blk_cell hent 4).trans rfl; have p5 : w.cell? ⟨p, 5, none⟩ = some (.slice A5' x.c.f5.length c5') := (blk_cell hent 5).trans rfl; replace hrow := pw_cell_below HB.out hrow; replace p0 := pw_cell_below HB.out p0; replace p1 := pw_cell_below HB.out p1; replace p2 := pw_cell_below HB.out p2; replace p3 := pw_cell_below HB.out p3; replace p4 := pw_cell_below HB.out p4; replace p5 := pw_cell_below HB.out p5; replace qg0 := pw_cell_below HB.out qg0
  have hlt : id < (ps.length : Int) := by omega
  have hws : Hid (w.heap.size < (w.alloc (.cells #[.string c.f0, v1, v2, .int .i64 c.f3, .int .i64 c.f4, v5] 85)).heap.size) := Lib.hid (by simp); clear hent HW hnl; generalize w.alloc (.cells #[.string c.f0, v1, v2, .int .i64 c.f3, .int .i64 c.f4, v5] 85) = W at *; have B12 := Lib.hid (blk_new W (.cells #[.string x.c.f0, .string x.c.f1, .slice A2' x.c.f2.length c2', .int .i64 x.c.f3, .int .i64 x.c.f4, .slice A5' x.c.f5.length c5'] 85)); have HB2 : Hid (Below w.heap.size w (W.alloc (.cells #[.string x.c.f0, .string x.c.f1, .slice A2' x.c.f2.length c2', .int .i64 x.c.f3, .int .i64 x.c.f4, .slice A5' x.c.f5.length c5'] 85))) := Lib.hid (below_alloc HB.out _); have B5b := Lib.hid (blk_alloc B5.out (.cells #[.string x.c.f0, .string x.c.f1, .slice A2' x.c.f2.length c2', .int .i64 x.c.f3, .int .i64 x.c.f4, .slice A5' x.c.f5.length c5'] 85)); clear B5; go_wp2_with fail; clear p0 p1 p2 p3 p4 p5 qg0 hrow; generalize W.alloc (.cells #[.string x.c.f0, .string x.c.f1, .slice A2' x.c.f2.length c2', .int .i64 x.c.f3, .int .i64 x.c.f4, .slice A5' x.c.f5.length c5'] 85) = U at *; refine (iface_any U (.string x.c.f0) (.string x.c.f1) (.slice A2' x.c.f2.length c2') (.int .i64 x.c.f4) (.slice A5' x.c.f5.length c5') x.c.f3).mono ?_; rintro e U1 ⟨rfl, hb1⟩; have B5c := blk_below B5b.out hb1; have B12c := blk_below B12.out hb1; have HB3 := Lib.hid (HB2.out.trans (hb1.mono HB2.out.size)); have y0 : U1.cell? ⟨w.heap.size, 0, none⟩ = some (.string c.f0) := (blk_cell B5c 0).trans rfl; have y1 : U1.cell? ⟨w.heap.size, 1, none⟩ = some v1 := (blk_cell B5c 1).trans rfl; have y2 : U1.cell? ⟨w.heap.size, 2, none⟩ = some v2 := (blk_cell B5c 2).trans rfl; have y3 : U1.cell? ⟨w.heap.size, 3, none⟩ = some (.int .i64 c.f3) := (blk_cell B5c 3).trans rfl; have y4 : U1.cell? ⟨w.heap.size, 4, none⟩ = some (.int .i64 c.f4) := (blk_cell B5c 4).trans rfl; have y5 : U1.cell? ⟨w.heap.size, 5, none⟩ = some v5 := (blk_cell B5c 5).trans rfl; have z0 : U1.cell? ⟨W.heap.size, 0, none⟩ = some (.string x.c.f0) := (blk_cell B12c 0).trans rfl; have z1 : U1.cell? ⟨W.heap.size, 1, none⟩ = some (.string x.c.f1) := (blk_cell B12c 1).trans rfl; have z2 : U1.cell? ⟨W.heap.size, 2, none⟩ = some (.slice A2' x.c.f2.length c2') := (blk_cell B12c 2).trans rfl; have z3 : U1.cell? ⟨W.heap.size, 3, none⟩ = some (.int .i64 x.c.f3) := (blk_cell B12c 3).trans rfl; have z4 : U1.cell? ⟨W.heap.size, 4, none⟩ = some (.int .i64 x.c.f4) := (blk_cell B12c 4).trans rfl; have z5 : U1.cell? ⟨W.heap.size, 5, none⟩ = some (.slice A5' x.c.f5.length c5') := (blk_cell B12c 5).trans rfl; have IC := Lib.hid (iface_any U1 (.string c.f0) v1 v2 (.int .i64 c.f4) v5 c.f3); have TG := Lib.hid (fun W => together_any W c x.c v1 v2 v5 (.string x.c.f1) (.slice A2' x.c.f2.length c2') (.slice A5' x.c.f5.length c5') (.int .i64 c.f3) (.int .i64 x.c.f3) hc sx.out); replace B5c := Lib.hid B5c; replace B12c := Lib.hid B12c; clear B5b B12 HB HB2 hb1 hws hlt n3 n4; have hI : Hid (isI x.c = (Go.bits .and .i64 x.c.f3 512 != 0)) := Lib.hid rfl; have hJ : Hid (isI c = (Go.bits .and .i64 c.f3 512 != 0)) := Lib.hid rfl; generalize (Go.bits .and .i64 x.c.f3 512 != 0) = ip at *; generalize (Go.bits .and .i64 c.f3 512 != 0) = ic at *
  cases ip with
  | true =>
   cases want with
   | false =>
    go_wp2; go_ret2
    exact ⟨by rw [← hVV.out, fitF, hI.out]; rfl, HB3.out⟩
   | true =>
    by_cases hp : Go.bits .and .i64 x.c.f3 1 = 0
    ·have hp1 : (Go.bits .and .i64 x.c.f3 1 == 0) = true := beq_iff_eq.2 hp
     clear hp
     cases ht : tog c x.c
     ·have ht2 := Lib.hid ht
      replace TG := Lib.hid (fun W => by have := TG.out W; rw [ht] at this; exact this); clear ht; go_wp2_with (first | (go_at_call 113; refine (TG.out _).mono ?_; rintro e U9 ⟨rfl, hb2⟩; replace hb2 := Lib.hid hb2)); go_ret2
      exact ⟨by rw [← hVV.out, fitF, hI.out, hJ.out, ht2.out, hp1]; rfl, HB3.out.trans (hb2.out.mono HB3.out.size)⟩
     ·have ht2 := Lib.hid ht
      replace TG := Lib.hid (fun W => by have := TG.out W; rw [ht] at this; exact this); clear ht; go_wp2_with (first | (go_at_call 113; refine (TG.out _).mono ?_; rintro e U9 ⟨rfl, hb2⟩; replace hb2 := Lib.hid hb2)); go_ret2
      exact ⟨by rw [← hVV.out, fitF, hI.out, hJ.out, ht2.out, hp1]; rfl, HB3.out.trans (hb2.out.mono HB3.out.size)⟩
    ·have hp1 : (Go.bits .and .i64 x.c.f3 1 == 0) = false := beq_eq_false_iff_ne.2 hp
     clear hp; go_wp2_with fail; go_ret2
     exact ⟨by rw [← hVV.out, fitF, hI.out, hJ.out, hp1]; rfl, HB3.out⟩
  | false =>
   cases want with
   | true =>
    go_wp2; go_ret2
    exact ⟨by rw [← hVV.out, fitF, hI.out]; rfl, HB3.out⟩
   | false =>
    go_wp2_with fail; refine IC.out.mono ?_; rintro e U2 ⟨rfl, hbc⟩; have B5d := blk_below B5c.out hbc; have B12d := blk_below B12c.out hbc; have HB4 := Lib.hid (HB3.out.trans (hbc.mono HB3.out.size)); clear y0 y1 y2 y3 y4 y5 z0 z1 z2 z3 z4 z5 hbc IC HB3 B5c B12c; have y0 : U2.cell? ⟨w.heap.size, 0, none⟩ = some (.string c.f0) := (blk_cell B5d 0).trans rfl; have y1 : U2.cell? ⟨w.heap.size, 1, none⟩ = some (v1) := (blk_cell B5d 1).trans rfl; have y2 : U2.cell? ⟨w.heap.size, 2, none⟩ = some (v2) := (blk_cell B5d 2).trans rfl; have y3 : U2.cell? ⟨w.heap.size, 3, none⟩ = some (.int .i64 c.f3) := (blk_cell B5d 3).trans rfl; have y4 : U2.cell? ⟨w.heap.size, 4, none⟩ = some (.int .i64 c.f4) := (blk_cell B5d 4).trans rfl; have y5 : U2.cell? ⟨w.heap.size, 5, none⟩ = some (v5) := (blk_cell B5d 5).trans rfl; have z0 : U2.cell? ⟨W.heap.size, 0, none⟩ = some (.string x.c.f0) := (blk_cell B12d 0).trans rfl; have z1 : U2.cell? ⟨W.heap.size, 1, none⟩ = some (.string x.c.f1) := (blk_cell B12d 1).trans rfl; have z2 : U2.cell? ⟨W.heap.size, 2, none⟩ = some (.slice A2' x.c.f2.length c2') := (blk_cell B12d 2).trans rfl; have z3 : U2.cell? ⟨W.heap.size, 3, none⟩ = some (.int .i64 x.c.f3) := (blk_cell B12d 3).trans rfl; have z4 : U2.cell? ⟨W.heap.size, 4, none⟩ = some (.int .i64 x.c.f4) := (blk_cell B12d 4).trans rfl; have z5 : U2.cell? ⟨W.heap.size, 5, none⟩ = some (.slice A5' x.c.f5.length c5') := (blk_cell B12d 5).trans rfl; clear B5d B12d
    cases ic with
    | true =>
     by_cases hi : id = 0
     ·have hi1 : (id != 0) = false := bne_eq_false_iff_eq.2 hi
      clear hi
      by_cases hp : Go.bits .and .i64 x.c.f3 1 = 0
      ·have hp1 : (Go.bits .and .i64 x.c.f3 1 == 0) = true := beq_iff_eq.2 hp
       clear hp
       cases ht : tog c x.c
       ·have ht2 := Lib.hid ht
        replace TG := Lib.hid (fun W => by have := TG.out W; rw [ht] at this; exact this); clear ht; go_wp2_with (first | (go_at_call 113; refine (TG.out _).mono ?_; rintro e U9 ⟨rfl, hb2⟩; replace hb2 := Lib.hid hb2)); go_ret2
        exact ⟨by rw [← hVV.out, fitF, hI.out, hJ.out, ht2.out, hp1, hi1]; rfl, HB4.out.trans (hb2.out.mono HB4.out.size)⟩
       ·have ht2 := Lib.hid ht
        replace TG := Lib.hid (fun W => by have := TG.out W; rw [ht] at this; exact this); clear ht; go_wp2_with (first | (go_at_call 113; refine (TG.out _).mono ?_; rintro e U9 ⟨rfl, hb2⟩; replace hb2 := Lib.hid hb2)); go_ret2
        exact ⟨by rw [← hVV.out, fitF, hI.out, hJ.out, ht2.out, hp1, hi1]; rfl, HB4.out.trans (hb2.out.mono HB4.out.size)⟩
      ·have hp1 : (Go.bits .and .i64 x.c.f3 1 == 0) = false := beq_eq_false_iff_ne.2 hp
       clear hp; go_wp2_with fail; go_ret2
       exact ⟨by rw [← hVV.out, fitF, hI.out, hJ.out, hp1, hi1]; rfl, HB4.out⟩
     ·have hi1 : (id != 0) = true := bne_iff_ne.2 hi
      clear hi; go_wp2; go_ret2
      exact ⟨by rw [← hVV.out, fitF, hI.out, hJ.out, hi1]; rfl, HB4.out⟩
    | false =>
     by_cases hp : Go.bits .and .i64 x.c.f3 1 = 0
     ·have hp1 : (Go.bits .and .i64 x.c.f3 1 == 0) = true := beq_iff_eq.2 hp
      clear hp
      cases ht : tog c x.c
      ·have ht2 := Lib.hid ht
       replace TG := Lib.hid (fun W => by have := TG.out W; rw [ht] at this; exact this); clear ht; go_wp2_with (first | (go_at_call 113; refine (TG.out _).mono ?_; rintro e U9 ⟨rfl, hb2⟩; replace hb2 := Lib.hid hb2)); go_ret2
       exact ⟨by rw [← hVV.out, fitF, hI.out, hJ.out, ht2.out, hp1]; rfl, HB4.out.trans (hb2.out.mono HB4.out.size)⟩
      ·have ht2 := Lib.hid ht
       replace TG := Lib.hid (fun W => by have := TG.out W; rw [ht] at this; exact this); clear ht; go_wp2_with (first | (go_at_call 113; refine (TG.out _).mono ?_; rintro e U9 ⟨rfl, hb2⟩; replace hb2 := Lib.hid hb2)); go_ret2
       exact ⟨by rw [← hVV.out, fitF, hI.out, hJ.out, ht2.out, hp1]; rfl, HB4.out.trans (hb2.out.mono HB4.out.size)⟩
     ·have hp1 : (Go.bits .and .i64 x.c.f3 1 == 0) = false := beq_eq_false_iff_ne.2 hp
      clear hp; go_wp2_with fail; go_ret2
      exact ⟨by rw [← hVV.out, fitF, hI.out, hJ.out, hp1]; rfl, HB4.out⟩
end Go.Proofs.YtaipkdglhfhhiaaGreatDoor.Hi

namespace Go.Proofs.YtaipkdglhfhhiaaGreatDoor.Pt
open Go Go.RowKit Go.Proofs.YtaipkdglhfhhiaaGreatDoor.Nm Go.Proofs.YtaipkdglhfhhiaaGreatDoor.Ty Go.Proofs.YtaipkdglhfhhiaaGreatDoor.Cd Go.Proofs.YtaipkdglhfhhiaaGreatDoorW.PrintWords Go.Proofs.YtaipkdglhfhhiaaGreatDoorW.PrintLast Go.Proofs.YtaipkdglhfhhiaaGreatDoorW.PrintMore
set_option linter.unusedVariables false
set_option linter.unusedSimpArgs false
set_option maxHeartbeats 2000000
set_option maxRecDepth 100000
def clsV (f : Int) : Int :=
 if Go.bits .andNot .i64 f 1585 ≠ 0 ∨ Go.bits .and .i64 f 1040 = 1040 then 1
 else if Go.bits .and .i64 f 512 = 512 ∧ (Go.bits .and .i64 f 1024 ≠ 1024 ∨ Go.bits .and .i64 f 48 ≠ 0) then 1 else 0
def mflI (f : Int) (b i : Bool) : Int :=
 if Go.bits .andNot .i64 f 1055 ≠ 0 ∨ Go.bits .and .i64 (Go.bits .and .i64 f 7) (wrap64 (Go.bits .and .i64 f 7 - 1)) ≠ 0 then 1
 else if Go.bits .and .i64 f 1024 = 1024 ∧ Go.bits .and .i64 f 26 ≠ 0 then 1
 else if b = true ∧ (Go.bits .and .i64 (Go.bits .and .i64 f 7) 3 = 0 ∨ Go.bits .and .i64 f 16 ≠ 0 ∨ i = true) then 1
 else if i = true ∧ Go.bits .and .i64 f 1048 ≠ 0 then 1 else 0
def mflV (f : Int) (b : Bool) (s : ByteArray) : Int := mflI f b (s.toList == [60, 105, 110, 105, 116, 62])
theorem ret_eq {a b : Int} (h : a = b) : Ending.returned (.int .i64 a) = .returned (.int .i64 b) := by rw [h]
theorem all_any (a b : Int) (w : World) : Calls Tryz.prog 148 #[.int .i64 a, .int .i64 b] w fun e w' => e = .returned (.bool (Go.bits .and .i64 a b == b)) ∧ w' = w := by
 go_enter Tryz.func148, Tryz.ntmps148; go_wp2; go_ret
 exact ⟨rfl, rfl⟩
theorem mfl_any (f : Int) (b : Bool) (s : ByteArray) (w : World) :
  Calls Tryz.prog 130 #[.int .i64 f, .bool b, .string s] w fun e w' => e = .returned (.int .i64 (mflV f b s)) ∧ w' = w := by
 go_enter Tryz.func130, Tryz.ntmps130; go_wp2_with (go_at_call 148; refine (all_any _ _ _).mono ?_; rintro e w' ⟨rfl, rfl⟩)
 all_goals
  go_ret; refine ⟨ret_eq ?_, rfl⟩
  simp_all [mflV, mflI]
theorem cls_any (f : Int) (w : World) : Calls Tryz.prog 126 #[.int .i64 f] w fun e w' => e = .returned (.int .i64 (clsV f)) ∧ w' = w := by
 go_enter Tryz.func126, Tryz.ntmps126; go_wp2_with (go_at_call 148; refine (all_any _ _ _).mono ?_; rintro e w' ⟨rfl, rfl⟩)
 all_goals
  go_ret; refine ⟨ret_eq ?_, rfl⟩
  simp_all [clsV]
def wthB (a lo hi : Int) : Bool := decide (lo ≤ a) && decide (a ≤ hi)
theorem within_any (a lo hi : Int) (w : World) : Calls Tryz.prog 153 #[.int .i64 a, .int .i64 lo, .int .i64 hi] w fun e w' => e = .returned (.bool (wthB a lo hi)) ∧ w' = w := by
 by_cases h : lo ≤ a
 ·have hd : decide (lo ≤ a) = true := decide_eq_true h
  have hw : Hid (wthB a lo hi = decide (a ≤ hi)) := Lib.hid (by unfold wthB; rw [hd, Bool.true_and]); go_enter Tryz.func153, Tryz.ntmps153; go_wp2; go_ret
  exact ⟨by rw [hw.out]; rfl, rfl⟩
 ·have hd : decide (lo ≤ a) = false := decide_eq_false h
  have hw : Hid (wthB a lo hi = false) := Lib.hid (by unfold wthB; rw [hd, Bool.false_and]); go_enter Tryz.func153, Tryz.ntmps153; go_wp2; go_ret
  exact ⟨by rw [hw.out]; rfl, rfl⟩
def refV (rc rn rd : ByteArray) : Int := if (parseR rc.data.toList).2.2 ≠ 0 then 1 else if (parseD rd.data.toList).2 ≠ 0 then 1 else if memberB rn = true then 0 else 1
theorem cell_allocs {w : World} {p : Addr} {v : Value} (h : w.cell? p = some v) (o : Obj) : (w.alloc o).cell? p = some v := pw_cell_below ((Below.refl _ _).alloc (Nat.le_refl _) o) h
theorem refck_any (ri : Bool) (rc rn rd : ByteArray) (w : World) : Calls Tryz.prog 177 #[.agg #[.bool ri, .string rc, .string rn, .string rd]] w fun e w' => e = .returned (.int .i64 (refV rc rn rd)) ∧ Below w.heap.size w w' := by
 have B0 := Lib.hid (blk_new w (.cells #[.bool ri, .string rc, .string rn, .string rd] 141)); have AB := Lib.hid ((Below.refl w.heap.size w).alloc (Nat.le_refl _) (.cells #[.bool ri, .string rc, .string rn, .string rd] 141)); have C1 := Lib.hid (types_ParseRef.calls rc _ _ _ (w.alloc (.cells #[.bool ri, .string rc, .string rn, .string rd] 141)) rfl); have C2 := Lib.hid (fun W => types_ParseDesc.calls rd _ _ _ _ _ W rfl); have C3 := Lib.hid (fun W => names_Member.calls rn _ W rfl); have hV : Hid (refV rc rn rd = refV rc rn rd) := Lib.hid rfl; generalize hr : refV rc rn rd = r at *; replace hr := Lib.hid hr; unfold refV at hr; clear hV; generalize parseR rc.data.toList = p1 at *; generalize parseD rd.data.toList = p2 at *; obtain ⟨d1, s1, e1⟩ := p1; obtain ⟨d2, e2⟩ := p2; go_enter Tryz.func177, Tryz.ntmps177; go_wp2_with fail; refine C1.out.mono ?_; rintro e w1 ⟨rfl, hb1⟩; have B1 := blk_below B0.out hb1; have q3 : w1.cell? ⟨w.heap.size, 3, none⟩ = some (.string rd) := (blk_cell B1 3).trans rfl; have q3 := cell_allocs q3; have H1 := Lib.hid (AB.out.trans (hb1.mono AB.out.size)); replace B1 := Lib.hid B1; clear B0 AB C1 hb1; go_wp2_with fail; refine (C2.out _).mono ?_; rintro e w2 ⟨v0, rfl, R0, hb2⟩; obtain ⟨A0, c0, rfl⟩ := Kd.R_slice R0; have q2 : w2.cell? ⟨w.heap.size, 2, none⟩ = some (.string rn) := pw_cell_below hb2 (cell_allocs ((blk_cell B1.out 2).trans rfl) _); have q2 := cell_allocs q2; have H2 := Lib.hid ((H1.out.alloc H1.out.size _).trans (hb2.mono (H1.out.alloc H1.out.size _).size)); clear R0 hb2 C2 H1 B1 q3
 by_cases h1 : e1 = 0
 ·subst h1
  by_cases h2 : e2 = 0
  ·subst h2
   go_wp2_with fail; refine (C3.out _).mono ?_; rintro e w3 ⟨rfl, hb3⟩; have H3 := Lib.hid ((H2.out.alloc H2.out.size _).trans (hb3.mono (H2.out.alloc H2.out.size _).size)); clear hb3 H2 C3 q2
   cases hm : memberB rn
   all_goals
    rw [hm] at hr; go_wp2; go_ret; have := hr.out; simp at this; subst this
    exact ⟨rfl, H3.out⟩
  ·have hne : (e2 != 0) = true := bne_iff_ne.2 h2
   go_wp2; go_ret; have := hr.out; simp [h2] at this; subst this
   exact ⟨rfl, H2.out.alloc H2.out.size _⟩
 ·have hne : (e1 != 0) = true := bne_iff_ne.2 h1
  go_wp2; go_ret; have := hr.out; simp [h1] at this; subst this
  exact ⟨rfl, H2.out.alloc H2.out.size _⟩
def opB (op n : Int) (ty rc rn rd : ByteArray) : Bool :=
 if opnd op = 0 then true else if opnd op = 1 then wthB n (-2147483648) 2147483647 else if opnd op = 2 then wthB n 0 39 else if opnd op = 3 then wthB n 0 199 else if opnd op = 4 then validB ty
 else if opnd op = 5 then (parseR ty.data.toList).2.2 == 0 else if opnd op = 6 then ((parseT ty.data.toList).2.2 == 0 && decide ((parseT ty.data.toList).1 < 255))
 else if opnd op = 7 then ((parseR ty.data.toList).2.2 == 0 && wthB n 1 (parseR ty.data.toList).1) else if opnd op = 8 then refV rc rn rd == 0 else false
theorem opnd_cases (op : Int) : Cd.opnd op = -1 ∨ Cd.opnd op = 0 ∨ Cd.opnd op = 1 ∨ Cd.opnd op = 2 ∨ Cd.opnd op = 3 ∨ Cd.opnd op = 4 ∨ Cd.opnd op = 5 ∨ Cd.opnd op = 6 ∨ Cd.opnd op = 7 ∨ Cd.opnd op = 8 := by
 unfold Cd.opnd
 split
 ·exact .inl rfl
 ·have h : ∀ k : Nat, k < 41 → Cd.opTab.getD k 0 = 0 ∨ Cd.opTab.getD k 0 = 1 ∨ Cd.opTab.getD k 0 = 2 ∨ Cd.opTab.getD k 0 = 3 ∨ Cd.opTab.getD k 0 = 4 ∨ Cd.opTab.getD k 0 = 5 ∨ Cd.opTab.getD k 0 = 6 ∨ Cd.opTab.getD k 0 = 7 ∨ Cd.opTab.getD k 0 = 8 := by decide
  have := h op.toNat (by omega)
  omega
theorem oper_any (op n : Int) (ty : ByteArray) (ri : Bool) (rc rn rd : ByteArray) (w : World) :
  Calls Tryz.prog 166 #[.agg #[.int .i64 op, .int .i64 n, .string ty, .bool ri, .string rc, .string rn, .string rd]] w fun e w' => e = .returned (.bool (opB op n ty rc rn rd)) ∧ Below w.heap.size w w' := by
 have B0 := Lib.hid (blk_new w (.cells #[.int .i64 op, .int .i64 n, .string ty, .bool ri, .string rc, .string rn, .string rd] 143)); have AB := Lib.hid ((Below.refl w.heap.size w).alloc (Nat.le_refl _) (.cells #[.int .i64 op, .int .i64 n, .string ty, .bool ri, .string rc, .string rn, .string rd] 143)); have OP := Lib.hid (Cd.operand_any op (w.alloc (.cells #[.int .i64 op, .int .i64 n, .string ty, .bool ri, .string rc, .string rn, .string rd] 143))); have CV := Lib.hid (fun W => names_Valid.calls ty _ W rfl); have CR := Lib.hid (fun W => types_ParseRef.calls ty _ _ _ W rfl); have CP := Lib.hid (fun W => types_Parse.calls ty _ _ _ W rfl); have CF := Lib.hid (fun W => refck_any ri rc rn rd W); have K := opnd_cases op; generalize hr : opB op n ty rc rn rd = r; replace hr := Lib.hid hr; unfold opB at hr; generalize opnd op = k at *; generalize parseR ty.data.toList = p1 at *; generalize parseT ty.data.toList = p2 at *; generalize refV rc rn rd = fv at *; obtain ⟨d1, s1, e1⟩ := p1; obtain ⟨d2, s2, e2⟩ := p2; go_enter Tryz.func166, Tryz.ntmps166; go_wp2_with fail; refine OP.out.mono ?_; rintro e w1 ⟨rfl, hb1⟩; have B1 := blk_below B0.out hb1; have H1 := Lib.hid (AB.out.trans (hb1.mono AB.out.size)); have q1 : w1.cell? ⟨w.heap.size, 1, none⟩ = some (.int .i64 n) := (blk_cell B1 1).trans rfl; have q2 : w1.cell? ⟨w.heap.size, 2, none⟩ = some (.string ty) := (blk_cell B1 2).trans rfl; have q3 : w1.cell? ⟨w.heap.size, 3, none⟩ = some (.bool ri) := (blk_cell B1 3).trans rfl; have q4 : w1.cell? ⟨w.heap.size, 4, none⟩ = some (.string rc) := (blk_cell B1 4).trans rfl; have q5 : w1.cell? ⟨w.heap.size, 5, none⟩ = some (.string rn) := (blk_cell B1 5).trans rfl; have q6 : w1.cell? ⟨w.heap.size, 6, none⟩ = some (.string rd) := (blk_cell B1 6).trans rfl; replace B1 := Lib.hid B1; clear B0 AB OP hb1
 rcases K with rfl | rfl | rfl | rfl | rfl | rfl | rfl | rfl | rfl | rfl
 case inl =>
  go_wp2; go_ret
  exact ⟨by rw [← hr.out]; rfl, H1.out⟩
 case inr.inl =>
  go_wp2; go_ret
  exact ⟨by rw [← hr.out]; rfl, H1.out⟩
 case inr.inr.inr.inr.inr.inl =>
  go_wp2_with fail; refine (CV.out _).mono ?_; rintro e w2 ⟨rfl, hb2⟩; replace hb2 := Lib.hid hb2; go_wp2; go_ret
  exact ⟨by rw [← hr.out]; rfl, H1.out.trans (hb2.out.mono H1.out.size)⟩
 case inr.inr.inr.inr.inr.inr.inl =>
  go_wp2_with fail; refine (CR.out _).mono ?_; rintro e w2 ⟨rfl, hb2⟩; have H2 := Lib.hid (H1.out.trans (hb2.mono H1.out.size)); clear hb2; go_wp2; go_ret
  exact ⟨by rw [← hr.out]; rfl, H2.out.alloc H2.out.size _⟩
 case inr.inr.inr.inr.inr.inr.inr.inl =>
  go_wp2_with fail; refine (CP.out _).mono ?_; rintro e w2 ⟨rfl, hb2⟩; have H2 := Lib.hid (H1.out.trans (hb2.mono H1.out.size)); clear hb2
  by_cases h2 : e2 = 0
  ·subst h2
   go_wp2
   all_goals
    go_ret
    exact ⟨by rw [← hr.out]; simp_all, H2.out.alloc H2.out.size _⟩
  ·have hne : (e2 == 0) = false := beq_eq_false_iff_ne.2 h2
   go_wp2; go_ret
   exact ⟨by rw [← hr.out]; simp_all, H2.out.alloc H2.out.size _⟩
 case inr.inr.inr.inr.inr.inr.inr.inr.inl =>
  go_wp2_with fail; refine (CR.out _).mono ?_; rintro e w2 ⟨rfl, hb2⟩; have H2 := Lib.hid (H1.out.trans (hb2.mono H1.out.size)); have r1 := cell_allocs (pw_cell_below hb2 q1); clear hb2
  by_cases h1 : e1 = 0
  ·subst h1
   go_wp2_with fail; refine (within_any _ _ _ _).mono ?_; rintro e w3 ⟨rfl, rfl⟩; go_wp2; go_ret
   exact ⟨by rw [← hr.out]; simp_all, H2.out.alloc H2.out.size _⟩
  ·have hne : (e1 == 0) = false := beq_eq_false_iff_ne.2 h1
   go_wp2; go_ret
   exact ⟨by rw [← hr.out]; simp_all, H2.out.alloc H2.out.size _⟩
 case inr.inr.inr.inr.inr.inr.inr.inr.inr =>
  go_wp2_with fail; refine (CF.out _).mono ?_; rintro e w2 ⟨rfl, hb2⟩; have H2 := Lib.hid (H1.out.trans (hb2.mono H1.out.size)); clear hb2; go_wp2; go_ret
  exact ⟨by rw [← hr.out]; rfl, H2.out⟩
 all_goals
  go_wp2_with fail; refine (within_any _ _ _ _).mono ?_; rintro e w2 ⟨rfl, rfl⟩; go_wp2; go_ret
  exact ⟨by rw [← hr.out]; rfl, H1.out⟩
end Go.Proofs.YtaipkdglhfhhiaaGreatDoor.Pt

namespace Go.Proofs.YtaipkdglhfhhiaaGreatDoor.Pt
open Go Go.RowKit Go.Proofs.YtaipkdglhfhhiaaGreatDoorW.PrintWords Go.Proofs.YtaipkdglhfhhiaaGreatDoorW.PrintLast Go.Proofs.YtaipkdglhfhhiaaGreatDoorW.PrintMore
set_option linter.unusedVariables false
set_option linter.unusedSimpArgs false
set_option maxHeartbeats 1000000
theorem eqRef (d : Nat) (w : World) (x0 y0 : Bool) (x1 y1 : ByteArray) (x2 y2 : ByteArray) (x3 y3 : ByteArray) :
 (Op.equalIn (d + 2) 141 (.agg #[.bool x0, .string x1, .string x2, .string x3]) (.agg #[.bool y0, .string y1, .string y2, .string y3])).run Tryz.prog w = .ok (x0 == y0 && (x1.toList == y1.toList && (x2.toList == y2.toList && (x3.toList == y3.toList)))) w := by
 refine eqA_of Tryz.underlying141 (by kernel_rfl) ?_; refine eqf_cons (by rfl) (by go_simp; rfl) (by go_simp; rfl) (by go_simp) ?_; refine eqf_cons (by rfl) (by go_simp; rfl) (by go_simp; rfl) (by go_simp) ?_; refine eqf_cons (by rfl) (by go_simp; rfl) (by go_simp; rfl) (by go_simp) ?_
 exact eqf_last (by rfl) (by go_simp; rfl) (by go_simp; rfl) (by go_simp)
def sameI (x0 y0 : Int) (x1 y1 : Int) (x2 y2 : ByteArray) (x3 y3 : Bool) (x4 y4 : ByteArray) (x5 y5 : ByteArray) (x6 y6 : ByteArray) : Bool :=
 x0 == y0 && (x1 == y1 && (x2.toList == y2.toList && ((x3 == y3 && (x4.toList == y4.toList && (x5.toList == y5.toList && (x6.toList == y6.toList)))))))
theorem eqInst (d : Nat) (w : World) (x0 y0 : Int) (x1 y1 : Int) (x2 y2 : ByteArray) (x3 y3 : Bool) (x4 y4 : ByteArray) (x5 y5 : ByteArray) (x6 y6 : ByteArray) :
 (Op.equalIn (d + 3) 143 (.agg #[.int .i64 x0, .int .i64 x1, .string x2, .bool x3, .string x4, .string x5, .string x6]) (.agg #[.int .i64 y0, .int .i64 y1, .string y2, .bool y3, .string y4, .string y5, .string y6])).run Tryz.prog w = .ok (sameI x0 y0 x1 y1 x2 y2 x3 y3 x4 y4 x5 y5 x6 y6) w := by
 unfold sameI; refine eqA_of Tryz.underlying143 (by kernel_rfl) ?_; refine eqf_cons (by rfl) (by go_simp; rfl) (by go_simp; rfl) (by go_simp) ?_; refine eqf_cons (by rfl) (by go_simp; rfl) (by go_simp; rfl) (by go_simp) ?_; refine eqf_cons (by rfl) (by go_simp; rfl) (by go_simp; rfl) (by go_simp) ?_
 exact eqf_last (by rfl) (by go_simp) (by go_simp) (eqRef (d + 0) w _ _ _ _ _ _ _ _)
theorem neqInst (w : World) (x0 y0 : Int) (x1 y1 : Int) (x2 y2 : ByteArray) (x3 y3 : Bool) (x4 y4 : ByteArray) (x5 y5 : ByteArray) (x6 y6 : ByteArray) :
 (binOp .neq 143 (.agg #[.int .i64 x0, .int .i64 x1, .string x2, .bool x3, .string x4, .string x5, .string x6]) (.agg #[.int .i64 y0, .int .i64 y1, .string y2, .bool y3, .string y4, .string y5, .string y6])).run Tryz.prog w = .ok (.bool (!sameI x0 y0 x1 y1 x2 y2 x3 y3 x4 y4 x5 y5 x6 y6)) w := by
 have h := eqInst 9997 w x0 y0 x1 y1 x2 y2 x3 y3 x4 y4 x5 y5 x6 y6; simp only [binOp]; simp [Op.equal, Op.maxDepth, h]
def bareN (k n : Int) : Int := if k = 1 ∨ k = 2 ∨ k = 3 ∨ k = 7 then n else 0
def bareT (k : Int) (s : ByteArray) : ByteArray := if k = 4 ∨ k = 5 ∨ k = 6 ∨ k = 7 then s else ⟨#[]⟩
def bareS (k : Int) (s : ByteArray) : ByteArray := if k = 8 then s else ⟨#[]⟩
def bareB (k : Int) (b : Bool) : Bool := if k = 8 then b else false
def bareOk (op n : Int) (ty : ByteArray) (ri : Bool) (rc rn rd : ByteArray) : Bool :=
 sameI op op (bareN (Cd.opnd op) n) n (bareT (Cd.opnd op) ty) ty (bareB (Cd.opnd op) ri) ri (bareS (Cd.opnd op) rc) rc (bareS (Cd.opnd op) rn) rn (bareS (Cd.opnd op) rd) rd
def insV (x : S143) : Int := if bareOk x.f0 x.f1 x.f2 x.f3.f0 x.f3.f1 x.f3.f2 x.f3.f3 = true then (if opB x.f0 x.f1 x.f2 x.f3.f1 x.f3.f2 x.f3.f3 = true then 0 else 1) else 1
theorem cdck_any (op n : Int) (ty : ByteArray) (ri : Bool) (rc rn rd : ByteArray) (w : World) :
  Calls Tryz.prog 155 #[.agg #[.int .i64 op, .int .i64 n, .string ty, .bool ri, .string rc, .string rn, .string rd]] w fun e w' => e = .returned (.int .i64 (insV ⟨op, n, ty, ⟨ri, rc, rn, rd⟩⟩)) ∧ Below w.heap.size w w' := by
 have CO := Lib.hid (fun W => oper_any op n ty ri rc rn rd W); generalize hr : insV ⟨op, n, ty, ⟨ri, rc, rn, rd⟩⟩ = r; unfold insV at hr; simp only at hr; generalize opB op n ty rc rn rd = t at *; have OP := Lib.hid (fun W => Cd.operand_any op W); have K := opnd_cases op; have hb : bareOk op n ty ri rc rn rd = sameI op op (bareN (Cd.opnd op) n) n (bareT (Cd.opnd op) ty) ty (bareB (Cd.opnd op) ri) ri (bareS (Cd.opnd op) rc) rc (bareS (Cd.opnd op) rn) rn (bareS (Cd.opnd op) rd) rd := rfl; generalize bareOk op n ty ri rc rn rd = bo at *; generalize Cd.opnd op = k at *; have B0 := heap_alloc2_old w (.cells #[.int .i64 op, .int .i64 n, .string ty, .bool ri, .string rc, .string rn, .string rd] 143) (.cells #[.int .i64 op, .int .i64 0, .string ⟨#[]⟩, .bool false, .string ⟨#[]⟩, .string ⟨#[]⟩, .string ⟨#[]⟩] 143); have B1 := heap_alloc2_new w (.cells #[.int .i64 op, .int .i64 n, .string ty, .bool ri, .string rc, .string rn, .string rd] 143) (.cells #[.int .i64 op, .int .i64 0, .string ⟨#[]⟩, .bool false, .string ⟨#[]⟩, .string ⟨#[]⟩, .string ⟨#[]⟩] 143); have BB := ((Below.refl w.heap.size w).alloc (Nat.le_refl _) (.cells #[.int .i64 op, .int .i64 n, .string ty, .bool ri, .string rc, .string rn, .string rd] 143)).alloc (by simp) (.cells #[.int .i64 op, .int .i64 0, .string ⟨#[]⟩, .bool false, .string ⟨#[]⟩, .string ⟨#[]⟩, .string ⟨#[]⟩] 143); replace B0 := Lib.hid B0; replace B1 := Lib.hid B1; replace BB := Lib.hid BB; replace hb := Lib.hid hb; replace hr := Lib.hid hr; replace K := Lib.hid K; go_enter Tryz.func155, Tryz.ntmps155; go_wp2_with fail; refine (OP.out _).mono ?_; rintro e w1 ⟨rfl, hb1⟩; have C0 := blk_below B0.out hb1; have C1 := blk_below B1.out hb1; have CB := BB.out.trans (hb1.mono (by simp; omega)); have q0 : w1.cell? ⟨w.heap.size, 0, none⟩ = some (.int .i64 op) := (blk_cell C0 0).trans rfl; have q1 : w1.cell? ⟨w.heap.size, 1, none⟩ = some (.int .i64 n) := (blk_cell C0 1).trans rfl; have q2 : w1.cell? ⟨w.heap.size, 2, none⟩ = some (.string ty) := (blk_cell C0 2).trans rfl; have q3 : w1.cell? ⟨w.heap.size, 3, none⟩ = some (.bool ri) := (blk_cell C0 3).trans rfl; have q4 : w1.cell? ⟨w.heap.size, 4, none⟩ = some (.string rc) := (blk_cell C0 4).trans rfl; have q5 : w1.cell? ⟨w.heap.size, 5, none⟩ = some (.string rn) := (blk_cell C0 5).trans rfl; have q6 : w1.cell? ⟨w.heap.size, 6, none⟩ = some (.string rd) := (blk_cell C0 6).trans rfl; have p0 : w1.cell? ⟨w.heap.size + 1, 0, none⟩ = some (.int .i64 op) := (blk_cell C1 0).trans rfl; have p1 : w1.cell? ⟨w.heap.size + 1, 1, none⟩ = some (.int .i64 0) := (blk_cell C1 1).trans rfl; have p2 : w1.cell? ⟨w.heap.size + 1, 2, none⟩ = some (.string ⟨#[]⟩) := (blk_cell C1 2).trans rfl; have p3 : w1.cell? ⟨w.heap.size + 1, 3, none⟩ = some (.bool false) := (blk_cell C1 3).trans rfl; have p4 : w1.cell? ⟨w.heap.size + 1, 4, none⟩ = some (.string ⟨#[]⟩) := (blk_cell C1 4).trans rfl; have p5 : w1.cell? ⟨w.heap.size + 1, 5, none⟩ = some (.string ⟨#[]⟩) := (blk_cell C1 5).trans rfl; have p6 : w1.cell? ⟨w.heap.size + 1, 6, none⟩ = some (.string ⟨#[]⟩) := (blk_cell C1 6).trans rfl; have f1 := blk_frozen C1 1; have f2 := blk_frozen C1 2; have f3 := blk_frozen C1 3; have f4 := blk_frozen C1 4; have f5 := blk_frozen C1 5; have f6 := blk_frozen C1 6
 have hN : ∀ (b1 : Int) (b2 : ByteArray) (b3 : Bool) (b4 b5 b6 : ByteArray), bo = sameI op op b1 n b2 ty b3 ri b4 rc b5 rn b6 rd → ∀ W, (binOp .neq 143 (.agg #[.int .i64 op, .int .i64 b1, .string b2, .bool b3, .string b4, .string b5, .string b6]) (.agg #[.int .i64 op, .int .i64 n, .string ty, .bool ri, .string rc, .string rn, .string rd])).run Tryz.prog W = .ok (.bool (!bo)) W := fun b1 b2 b3 b4 b5 b6 e W => by rw [e]; exact neqInst W _ _ _ _ _ _ _ _ _ _ _ _ _ _
 replace hN := Lib.hid hN; replace CB := Lib.hid CB; clear C0 C1 B0 B1 BB hb1 OP
 rcases K.out with rfl | rfl | rfl | rfl | rfl | rfl | rfl | rfl | rfl | rfl
 case inr.inr.inr.inr.inr.inr.inr.inr.inl =>
  have e := hb.out; simp [bareN, bareT, bareS, bareB] at e; have N1 := hN.out _ _ _ _ _ _ e; clear e hb K hN; go_wp2; go_region
  cases bo
  ·have h1 : (1 : Int) = r := by have := hr.out; simpa using this
   subst h1; clear CO; go_wp2; go_ret; refine ⟨rfl, ?_⟩
   repeat' (first | exact CB.out | apply Below.setCell | apply Below.drew)
   all_goals (first | omega | (simp; done) | (simp; omega))
  ·have hr1 := hr.out
   cases t
   all_goals
    simp at hr1; subst hr1; go_wp2_with (go_at_call 166; refine (CO.out _).mono ?_; rintro e w2 ⟨rfl, hb2⟩; replace hb2 := Lib.hid hb2); go_ret; refine ⟨rfl, Below.trans ?_ (hb2.out.mono ?_)⟩
    ·repeat' (first | exact CB.out | apply Below.setCell | apply Below.drew)
     all_goals (first | omega | (simp; done) | (simp; omega))
    ·have := CB.out.size
     simp
     omega
 all_goals
  have e := hb.out; simp [bareN, bareT, bareS, bareB] at e; have N1 := hN.out _ _ _ _ _ _ e; clear e hb K hN
  cases bo
  ·have h1 : (1 : Int) = r := by have := hr.out; simpa using this
   subst h1; clear CO; go_wp2; go_ret; refine ⟨rfl, ?_⟩
   repeat' (first | exact CB.out | apply Below.setCell)
   all_goals (first | omega | (simp; done) | (simp; omega))
  ·have hr1 := hr.out
   cases t
   all_goals
    simp at hr1; subst hr1; go_wp2_with (go_at_call 166; refine (CO.out _).mono ?_; rintro e w2 ⟨rfl, hb2⟩; replace hb2 := Lib.hid hb2); go_ret; refine ⟨rfl, Below.trans ?_ (hb2.out.mono ?_)⟩
    ·repeat' (first | exact CB.out | apply Below.setCell)
     all_goals (first | omega | (simp; done) | (simp; omega))
    ·have := CB.out.size
     simp
     omega
end Go.Proofs.YtaipkdglhfhhiaaGreatDoor.Pt

namespace Go.Proofs.YtaipkdglhfhhiaaGreatDoor.Pt
open Go Go.RowKit Go.Proofs.YtaipkdglhfhhiaaGreatDoor.Nm Go.Proofs.YtaipkdglhfhhiaaGreatDoor.Ty Go.Proofs.YtaipkdglhfhhiaaGreatDoor.Cd Go.Proofs.YtaipkdglhfhhiaaGreatDoorW.PrintWords Go.Proofs.YtaipkdglhfhhiaaGreatDoorW.PrintLast Go.Proofs.YtaipkdglhfhhiaaGreatDoorW.PrintMore
set_option linter.unusedVariables false
set_option linter.unusedSimpArgs false
set_option maxHeartbeats 2000000
set_option maxRecDepth 100000
def insOk (x : S143) (a n : Int) : Bool := insV x == 0 && (!(opnd x.f0 == 2 && decide (a ≤ x.f1)) && !(opnd x.f0 == 3 && decide (n ≤ x.f1)))
def codeB (l : List S143) (a : Int) : Bool := wthB l.length 1 200 && l.all (fun x => insOk x a l.length)
theorem rd83 {l : List S143} {i : Nat} (h : i < l.length) : l[i]? = some (rd_T143 l (i : Int)) := by
 simp [rd_T143, List.getD_eq_getElem?_getD, List.getElem?_eq_getElem h]
theorem bad_all {α : Type} {l : List α} {p : α → Bool} {i : Nat} {x : α} (hx : l[i]? = some x) (h : p x = false) : l.all p = false := by
 rw [List.all_eq_false]
 exact ⟨x, List.mem_of_getElem? hx, by simp [h]⟩
theorem all_take {α : Type} {l : List α} {p : α → Bool} {i : Nat} {x : α} (hx : l[i]? = some x) (h : p x = true) (ht : (l.take i).all p = true) : (l.take (i + 1)).all p = true := by
 rw [List.take_add_one, hx, List.all_append, ht]; simp [h]
theorem code_any (A : Option Addr) (c : Nat) (l : List S143) (a : Int) (w : World) (hk : Kd.C k143 w A l.length l) (hc : l.length ≤ c) :
  Calls Tryz.prog 132 #[.slice A l.length c, .int .i64 a] w fun e w' => e = .returned (.int .i64 (if codeB l a = true then 0 else 1)) ∧ Below w.heap.size w w' := by
 have HK := Lib.hid hk; have hmx := Kd.C_max hk; clear hk; generalize hr : (if codeB l a = true then (0 : Int) else 1) = r; replace hr := Lib.hid hr; unfold codeB at hr
 cases hw : wthB l.length 1 200 with
 | false =>
  rw [hw] at hr; have C1 := Lib.hid (within_any (l.length : Int) 1 200 w); rw [hw] at C1; go_enter Tryz.func132, Tryz.ntmps132; go_wp2_with fail; refine C1.out.mono ?_; rintro e w2 ⟨rfl, rfl⟩; go_wp2; go_ret; have := hr.out; simp at this; subst this
  exact ⟨rfl, Below.refl _ _⟩
 | true =>
  rw [hw, Bool.true_and] at hr
  have hl : l.length ≤ 200 := by
   unfold wthB at hw; rw [Bool.and_eq_true, decide_eq_true_eq, decide_eq_true_eq] at hw
   omega
  have C1 := Lib.hid (within_any (l.length : Int) 1 200 w); rw [hw] at C1; clear hw; go_enter Tryz.func132, Tryz.ntmps132; go_wp2_with fail; refine C1.out.mono ?_; rintro e w2 ⟨rfl, rfl⟩; clear C1; go_wp2_with fail
  go_loopw [14] (fun v14 wr => ∃ j : Nat, j ≤ l.length ∧ v14 = .int .i64 j ∧ Hid ((l.take j).all (fun x => insOk x a l.length) = true) ∧ Hid (Below w2.heap.size w2 wr)) (fun v14 _ => l.length - (intOf v14).toNat)
  case atStart => exact ⟨0, Nat.zero_le _, rfl, Lib.hid (by simp), Lib.hid (Below.refl _ _)⟩
  case round =>
   obtain ⟨j, hj, rfl, HT, HB⟩ := hrel
   by_cases hlt : j < l.length
   ·have hjd : decide (j < l.length) = true := decide_eq_true hlt
    obtain ⟨ad, rfl, p0, p1, p2, p3, p4, p5, p6⟩ := at_T143 (Kd.C_below HK.out HB.out) (j : Int) (by omega) (by omega); have hx := rd83 hlt; rw [Int.toNat_natCast] at p0 p1 p2 p3 p4 p5 p6; have OPc := Lib.hid (fun W => Cd.operand_any (rd_T143 l (j : Int)).f0 W); have CK := Lib.hid (fun W => cdck_any (rd_T143 l (j : Int)).f0 (rd_T143 l (j : Int)).f1 (rd_T143 l (j : Int)).f2 (rd_T143 l (j : Int)).f3.f0 (rd_T143 l (j : Int)).f3.f1 (rd_T143 l (j : Int)).f3.f2 (rd_T143 l (j : Int)).f3.f3 W); generalize rd_T143 l (j : Int) = x at *; have hV : Hid (insOk x a l.length = (insV x == 0 && (!(opnd x.f0 == 2 && decide (a ≤ x.f1)) && !(opnd x.f0 == 3 && decide ((l.length : Int) ≤ x.f1))))) := Lib.hid rfl; have hx2 := Lib.hid hx; have hbad : Hid (insOk x a l.length = false → (1 : Int) = r) := Lib.hid (fun h => by rw [← hr.out, bad_all hx h]; rfl); have hgood : Hid (insOk x a l.length = true → (l.take (j + 1)).all (fun x => insOk x a l.length) = true) := Lib.hid (fun h => all_take hx h HT.out); clear hx; generalize insOk x a l.length = ok at *; obtain ⟨x0, x1, x2, ⟨x3, x4, x5, x6⟩⟩ := x; simp only at hV OPc CK p0 p1 p2 p3 p4 p5 p6; generalize insV ⟨x0, x1, x2, ⟨x3, x4, x5, x6⟩⟩ = iv at *; generalize opnd x0 = kk at *; have B0 := Lib.hid (blk_new wr (.cells #[.int .i64 x0, .int .i64 x1, .string x2, .bool x3, .string x4, .string x5, .string x6] 143)); have AB := Lib.hid (HB.out.alloc HB.out.size (.cells #[.int .i64 x0, .int .i64 x1, .string x2, .bool x3, .string x4, .string x5, .string x6] 143)); clear hx2 HT; go_wp2_with fail; refine (OPc.out _).mono ?_; rintro e w3 ⟨rfl, hb3⟩; have B3 := Lib.hid (blk_below B0.out hb3); have H3 := Lib.hid (AB.out.trans (hb3.mono AB.out.size)); clear hb3 B0 AB HB OPc p0 p1 p2 p3 p4 p5 p6; have p0 : w3.cell? ⟨wr.heap.size, 0, none⟩ = some (.int .i64 x0) := (blk_cell B3.out 0).trans rfl; have p1 : w3.cell? ⟨wr.heap.size, 1, none⟩ = some (.int .i64 x1) := (blk_cell B3.out 1).trans rfl; have p2 : w3.cell? ⟨wr.heap.size, 2, none⟩ = some (.string x2) := (blk_cell B3.out 2).trans rfl; have p3 : w3.cell? ⟨wr.heap.size, 3, none⟩ = some (.bool x3) := (blk_cell B3.out 3).trans rfl; have p4 : w3.cell? ⟨wr.heap.size, 4, none⟩ = some (.string x4) := (blk_cell B3.out 4).trans rfl; have p5 : w3.cell? ⟨wr.heap.size, 5, none⟩ = some (.string x5) := (blk_cell B3.out 5).trans rfl; have p6 : w3.cell? ⟨wr.heap.size, 6, none⟩ = some (.string x6) := (blk_cell B3.out 6).trans rfl; go_wp2_with fail; refine (CK.out _).mono ?_; rintro e w4 ⟨rfl, hb4⟩; have q1 := pw_cell_below hb4 p1; have H4 := Lib.hid (H3.out.trans (hb4.mono H3.out.size)); clear hb4 B3 H3 CK p0 p1 p2 p3 p4 p5 p6; have hend : Hid (ok = true → ∃ j' : Nat, j' ≤ l.length ∧ (Value.int .i64 ((j : Int) + 1)) = .int .i64 j' ∧ Hid ((l.take j').all (fun x => insOk x a l.length) = true) ∧ Hid (Below w2.heap.size w2 w4)) := Lib.hid (fun h => ⟨j + 1, by omega, by push_cast; rfl, Lib.hid (hgood.out h), H4⟩)
    by_cases hi : iv = 0
    ·subst hi
     by_cases h2 : kk = 2
     ·subst h2
      by_cases h3 : a ≤ x1
      ·have hd : decide (a ≤ x1) = true := decide_eq_true h3
       have hok := hV.out; simp [hd] at hok; obtain rfl := hbad.out hok; clear h3; go_wp2; go_ret
       exact ⟨rfl, H4.out⟩
      ·have hd : decide (a ≤ x1) = false := decide_eq_false h3
       have hok := hV.out; simp [hd] at hok; clear h3; go_wp2
       exact ⟨hend.out hok, by simp [intOf]; omega⟩
     ·have hk2 : (kk == 2) = false := beq_eq_false_iff_ne.2 h2
      by_cases h3 : kk = 3
      ·subst h3
       by_cases h4 : (l.length : Int) ≤ x1
       ·have hd : decide ((l.length : Int) ≤ x1) = true := decide_eq_true h4
        have hok := hV.out; simp [hd] at hok; obtain rfl := hbad.out hok; clear h4 h2; go_wp2; go_ret
        exact ⟨rfl, H4.out⟩
       ·have hd : decide ((l.length : Int) ≤ x1) = false := decide_eq_false h4
        have hok := hV.out; simp [hd] at hok; clear h4 h2; go_wp2
        exact ⟨hend.out hok, by simp [intOf]; omega⟩
      ·have hk3 : (kk == 3) = false := beq_eq_false_iff_ne.2 h3
       have hok := hV.out; rw [hk2, hk3] at hok; simp at hok; clear h2 h3; go_wp2
       exact ⟨hend.out hok, by simp [intOf]; omega⟩
    ·have hne : (iv != 0) = true := bne_iff_ne.2 hi
     have hok := hV.out; rw [show (iv == 0) = false from beq_eq_false_iff_ne.2 hi, Bool.false_and] at hok; obtain rfl := hbad.out hok; clear hi; go_wp2; go_ret
     exact ⟨rfl, H4.out⟩
   ·have hjd : decide (j < l.length) = false := decide_eq_false hlt
    have e1 : j = l.length := by omega
    subst e1; have h1 := HT.out; rw [List.take_length] at h1; have h2 := hr.out; rw [h1] at h2; simp at h2; subst h2; clear h1; go_wp2; go_ret
    exact ⟨rfl, HB.out⟩
def wordsV (d : ByteArray) (f : Int) : Int := if Go.bits .and .i64 f 8 = 0 then wrap64 (((parseD d.data.toList).1.args.length : Int) + 1) else ((parseD d.data.toList).1.args.length : Int)
theorem words_any (f0 d : ByteArray) (f f3 f4 : Int) (v5 : Value) (h5 : ∃ A n c, v5 = .slice A n c) (w : World) (hp : (parseD d.data.toList).2 = 0) :
  Calls Tryz.prog 131 #[.agg #[.string f0, .string d, .int .i64 f, .int .i64 f3, .int .i64 f4, v5]] w fun e w' => e = .returned (.tuple #[.int .i64 (wordsV d f), .int .i64 0]) ∧ Below w.heap.size w w' := by
 obtain ⟨A, n, c, rfl⟩ := h5; have B0 := Lib.hid (blk_new w (.cells #[.string f0, .string d, .int .i64 f, .int .i64 f3, .int .i64 f4, .slice A n c] 105)); have AB := Lib.hid ((Below.refl w.heap.size w).alloc (Nat.le_refl _) (.cells #[.string f0, .string d, .int .i64 f, .int .i64 f3, .int .i64 f4, .slice A n c] 105)); have C1 := Lib.hid (types_Args.calls d _ _ (w.alloc (.cells #[.string f0, .string d, .int .i64 f, .int .i64 f3, .int .i64 f4, .slice A n c] 105)) rfl); generalize hr : wordsV d f = r; replace hr := Lib.hid hr; unfold wordsV at hr; rw [hp] at C1; clear hp; generalize ((parseD d.data.toList).1.args.length : Int) = m at *; go_enter Tryz.func131, Tryz.ntmps131; go_wp2_with fail; refine C1.out.mono ?_; rintro e w2 ⟨rfl, hb2⟩; have q2 : w2.cell? ⟨w.heap.size, 2, none⟩ = some (.int .i64 f) := (blk_cell (blk_below B0.out hb2) 2).trans rfl; have H2 := Lib.hid (AB.out.trans (hb2.mono AB.out.size)); clear C1 hb2 B0 AB
 by_cases h8 : Go.bits .and .i64 f 8 = 0
 ·have hd : (Go.bits .and .i64 f 8 == 0) = true := beq_iff_eq.2 h8
  rw [if_pos h8] at hr; clear h8; go_wp2; go_ret2
  exact ⟨by rw [← hr.out]; rfl, H2.out⟩
 ·have hd : (Go.bits .and .i64 f 8 == 0) = false := beq_eq_false_iff_ne.2 h8
  rw [if_neg h8] at hr; clear h8; go_wp2; go_ret2
  exact ⟨by rw [← hr.out]; rfl, H2.out⟩
end Go.Proofs.YtaipkdglhfhhiaaGreatDoor.Pt

namespace Go.Proofs.YtaipkdglhfhhiaaGreatDoor.Pt
open Go Go.RowKit Go.Proofs.YtaipkdglhfhhiaaGreatDoor.Nm Go.Proofs.YtaipkdglhfhhiaaGreatDoor.Ty Go.Proofs.YtaipkdglhfhhiaaGreatDoor.Cd Go.Proofs.YtaipkdglhfhhiaaGreatDoorW.PrintWords Go.Proofs.YtaipkdglhfhhiaaGreatDoorW.PrintLast Go.Proofs.YtaipkdglhfhhiaaGreatDoorW.PrintMore
set_option linter.unusedVariables false
set_option linter.unusedSimpArgs false
set_option maxHeartbeats 2000000
set_option maxRecDepth 100000
def badV (n d : ByteArray) : Bool := !((parseD d.data.toList).2 == 0) || (!memberB n || ((n.toList == ([60, 105, 110, 105, 116, 62] : List UInt8)) && !(parseD d.data.toList).1.void))
def methB (m : S105) (b : Bool) : Bool := !badV m.f0 m.f1 && (mflV m.f2 b m.f0 == 0 &&
 (if Go.bits .and .i64 m.f2 1024 = 0 then decide (wordsV m.f1 m.f2 ≤ m.f3) && (decide (m.f3 ≤ 40) && (decide (0 ≤ m.f4) && (decide (m.f4 ≤ 40) && codeB m.f5 m.f3))) else m.f3 == 0 && (m.f4 == 0 && (m.f5.length : Int) == 0)))
theorem meth_any (f0 f1 : ByteArray) (f2 f3 f4 : Int) (A : Option Addr) (c : Nat) (l : List S143) (b : Bool) (w : World) (hk : Kd.C k143 w A l.length l) (hc : l.length ≤ c) :
  Calls Tryz.prog 111 #[.agg #[.string f0, .string f1, .int .i64 f2, .int .i64 f3, .int .i64 f4, .slice A l.length c], .bool b] w fun e w' => e = .returned (.bool (methB ⟨f0, f1, f2, f3, f4, l⟩ b)) ∧ Below w.heap.size w w' := by
 have B0 := Lib.hid (blk_new w (.cells #[.string f0, .string f1, .int .i64 f2, .int .i64 f3, .int .i64 f4, .slice A l.length c] 105)); have AB := Lib.hid ((Below.refl w.heap.size w).alloc (Nat.le_refl _) (.cells #[.string f0, .string f1, .int .i64 f2, .int .i64 f3, .int .i64 f4, .slice A l.length c] 105)); have C1 := Lib.hid (types_ParseDesc.calls f1 _ _ _ _ _ (w.alloc (.cells #[.string f0, .string f1, .int .i64 f2, .int .i64 f3, .int .i64 f4, .slice A l.length c] 105)) rfl); have CM := Lib.hid (fun W => names_Member.calls f0 _ W rfl); have CF := Lib.hid (fun W => mfl_any f2 b f0 W); have CW := Lib.hid (fun (W : World) (hp : (parseD f1.data.toList).2 = 0) => words_any f0 f1 f2 f3 f4 (.slice A l.length c) ⟨_, _, _, rfl⟩ W hp); have CC := Lib.hid (fun (W : World) (hb : Below w.heap.size w W) => code_any A c l f3 W (Kd.C_below hk hb) hc); clear hk; generalize hr : methB ⟨f0, f1, f2, f3, f4, l⟩ b = r; replace hr := Lib.hid hr; unfold methB badV at hr; simp only at hr; generalize mflV f2 b f0 = mf at *; generalize wordsV f1 f2 = wd at *; generalize codeB l f3 = cb at *; generalize memberB f0 = mb at *; generalize parseD f1.data.toList = pd at *; obtain ⟨dr, e1⟩ := pd; obtain ⟨ar, vd, rd, rn⟩ := dr; have hn : Hid ((f0.toList == ([60, 105, 110, 105, 116, 62] : List UInt8)) = (f0.toList == ([60, 105, 110, 105, 116, 62] : List UInt8))) := Lib.hid rfl; simp only at hr CW; go_enter Tryz.func111, Tryz.ntmps111; go_wp2_with fail; refine C1.out.mono ?_; rintro e w1 ⟨v0, rfl, R0, hb1⟩
 obtain ⟨A0, n0, c0, rfl⟩ : ∃ A n c, v0 = .slice A n c := by
  obtain ⟨A0, c0, e⟩ := Kd.R_slice R0
  exact ⟨_, _, _, e⟩
 have B1 := Lib.hid (blk_below B0.out hb1); have H1 := Lib.hid (AB.out.trans (hb1.mono AB.out.size)); clear C1 R0 hb1 B0 AB
 go_upto_region 2 with (fail)
 change Code.wp _ _ _ _ (w1.alloc (.cells #[.slice A0 n0 c0, .bool vd, .int .i64 rd, .string (bs rn)] 172)); have D2 := Lib.hid (blk_new w1 (.cells #[.slice A0 n0 c0, .bool vd, .int .i64 rd, .string (bs rn)] 172)); have B2 := Lib.hid (blk_below B1.out ((Below.refl _ _).alloc (Nat.le_refl _) (.cells #[.slice A0 n0 c0, .bool vd, .int .i64 rd, .string (bs rn)] 172))); have H2 := Lib.hid (H1.out.alloc H1.out.size (.cells #[.slice A0 n0 c0, .bool vd, .int .i64 rd, .string (bs rn)] 172)); generalize w1.alloc (.cells #[.slice A0 n0 c0, .bool vd, .int .i64 rd, .string (bs rn)] 172) = W at *; clear B1 H1
 go_cut [1, 2, 32] (fun v1 v2 v32 wr => v1 = .bool b ∧ v2 = .pointer (some ⟨w.heap.size, 0, none⟩) ∧ v32 = .bool (!(e1 == 0) || (!mb || ((f0.toList == ([60, 105, 110, 105, 116, 62] : List UInt8)) && !vd))) ∧ Hid (wr.heap[w.heap.size]? = some (.cells #[.string f0, .string f1, .int .i64 f2, .int .i64 f3, .int .i64 f4, .slice A l.length c] 105 (0, 0))) ∧ Hid (Below w.heap.size w wr))
 case first =>
  by_cases h1 : e1 = 0
  ·subst h1
   have q0 : W.cell? ⟨w.heap.size, 0, none⟩ = some (.string f0) := (blk_cell B2.out 0).trans rfl; go_wp2_with fail; refine (CM.out _).mono ?_; rintro e w3 ⟨rfl, hb3⟩; have B3 := Lib.hid (blk_below B2.out hb3); have H3 := Lib.hid (H2.out.trans (hb3.mono H2.out.size)); have r1 : w3.cell? ⟨w1.heap.size, 1, none⟩ = some (.bool vd) := pw_cell_below hb3 ((blk_cell D2.out 1).trans rfl); have q0 : w3.cell? ⟨w.heap.size, 0, none⟩ = some (.string f0) := (blk_cell B3.out 0).trans rfl; clear hb3 B2 H2 D2
   cases mb with
   | false =>
    go_wp2; go_meet
    case rel => exact ⟨rfl, rfl, by simp, B3, H3⟩
   | true =>
    cases hi : (f0.toList == ([60, 105, 110, 105, 116, 62] : List UInt8)) with
    | false =>
     go_wp2; go_meet
     case rel => exact ⟨rfl, rfl, by rw [hi]; cases vd <;> rfl, B3, H3⟩
    | true =>
     go_wp2; go_meet
     case rel => exact ⟨rfl, rfl, by rw [hi]; cases vd <;> rfl, B3, H3⟩
  ·have hne : (e1 != 0) = true := bne_iff_ne.2 h1
   have he : (e1 == 0) = false := beq_eq_false_iff_ne.2 h1; go_wp2; go_meet
   case rel => exact ⟨rfl, rfl, by rw [he]; rfl, B2, H2⟩
 case rest =>
  clear B2 D2 H2; obtain ⟨rfl, rfl, rfl, B2, H2⟩ := hcut
  cases hbad : (!(e1 == 0) || (!mb || ((f0.toList == ([60, 105, 110, 105, 116, 62] : List UInt8)) && !vd))) with
  | true =>
   rw [hbad] at hr; have hr := hr.out; simp at hr; subst hr; go_wp2; go_ret
   exact ⟨rfl, H2.out⟩
  | false =>
   have he1 : e1 = 0 := by
    cases h : (e1 == 0) with
    | true => exact beq_iff_eq.1 h
    | false => rw [h] at hbad; simp at hbad
   rw [hbad, Bool.not_false, Bool.true_and] at hr; clear hbad hn CM; have q0 : wc.cell? ⟨w.heap.size, 0, none⟩ = some (.string f0) := (blk_cell B2.out 0).trans rfl; have q1 : wc.cell? ⟨w.heap.size, 1, none⟩ = some (.string f1) := (blk_cell B2.out 1).trans rfl; have q2 : wc.cell? ⟨w.heap.size, 2, none⟩ = some (.int .i64 f2) := (blk_cell B2.out 2).trans rfl; have q3 : wc.cell? ⟨w.heap.size, 3, none⟩ = some (.int .i64 f3) := (blk_cell B2.out 3).trans rfl; have q4 : wc.cell? ⟨w.heap.size, 4, none⟩ = some (.int .i64 f4) := (blk_cell B2.out 4).trans rfl; have q5 : wc.cell? ⟨w.heap.size, 5, none⟩ = some (.slice A l.length c) := (blk_cell B2.out 5).trans rfl; go_wp2_with fail; refine (CF.out _).mono ?_; rintro e w4 ⟨rfl, rfl⟩
   by_cases hm : mf = 0
   ·subst hm
    rw [beq_self_eq_true, Bool.true_and] at hr
    by_cases ha : Go.bits .and .i64 f2 1024 = 0
    ·have ha2 : (Go.bits .and .i64 f2 1024 != 0) = false := bne_eq_false_iff_eq.2 ha
     rw [if_pos ha] at hr; have C3 := Lib.hid (CW.out w4 he1); clear ha CW he1; go_wp2_with fail; refine C3.out.mono ?_; rintro e w5 ⟨rfl, hb5⟩; have B5 := Lib.hid (blk_below B2.out hb5); have H5 := Lib.hid (H2.out.trans (hb5.mono H2.out.size)); have C4 := Lib.hid (CC.out w5 H5.out); clear hb5 B2 H2 q0 q1 q2 q3 q4 q5 C3 CC; have q3 : w5.cell? ⟨w.heap.size, 3, none⟩ = some (.int .i64 f3) := (blk_cell B5.out 3).trans rfl; have q4 : w5.cell? ⟨w.heap.size, 4, none⟩ = some (.int .i64 f4) := (blk_cell B5.out 4).trans rfl; have q5 : w5.cell? ⟨w.heap.size, 5, none⟩ = some (.slice A l.length c) := (blk_cell B5.out 5).trans rfl
     cases d1 : decide (wd ≤ f3) with
     | false =>
      rw [d1] at hr; have hr := hr.out; simp at hr; subst hr; go_wp2; go_ret
      exact ⟨rfl, H5.out⟩
     | true =>
      rw [d1, Bool.true_and] at hr
      cases d2 : decide (f3 ≤ 40) with
      | false =>
       rw [d2] at hr; have hr := hr.out; simp at hr; subst hr; go_wp2; go_ret
       exact ⟨rfl, H5.out⟩
      | true =>
       rw [d2, Bool.true_and] at hr
       cases d3 : decide (0 ≤ f4) with
       | false =>
        rw [d3] at hr; have hr := hr.out; simp at hr; subst hr; go_wp2; go_ret
        exact ⟨rfl, H5.out⟩
       | true =>
        rw [d3, Bool.true_and] at hr
        cases d4 : decide (f4 ≤ 40) with
        | false =>
         rw [d4] at hr; have hr := hr.out; simp at hr; subst hr; go_wp2; go_ret
         exact ⟨rfl, H5.out⟩
        | true =>
         rw [d4, Bool.true_and] at hr; go_wp2_with fail; refine C4.out.mono ?_; rintro e w6 ⟨rfl, hb6⟩; have H6 := Lib.hid (H5.out.trans (hb6.mono H5.out.size)); clear C4 hb6 H5 B5 q3 q4 q5
         cases cb
         all_goals
          have hr := hr.out; subst hr; go_wp2; go_ret
          exact ⟨rfl, H6.out⟩
    ·have ha2 : (Go.bits .and .i64 f2 1024 != 0) = true := bne_iff_ne.2 ha
     rw [if_neg ha] at hr; clear ha CW CC CF he1
     cases d1 : (f3 == 0) with
     | false =>
      rw [d1] at hr; have hr := hr.out; simp at hr; subst hr; go_wp2; go_ret
      exact ⟨rfl, H2.out⟩
     | true =>
      rw [d1, Bool.true_and] at hr
      cases d2 : (f4 == 0) with
      | false =>
       rw [d2] at hr; have hr := hr.out; simp at hr; subst hr; go_wp2; go_ret
       exact ⟨rfl, H2.out⟩
      | true =>
       rw [d2, Bool.true_and] at hr; go_wp2; go_ret
       exact ⟨by rw [← hr.out]; rfl, H2.out⟩
   ·have hne : (mf != 0) = true := bne_iff_ne.2 hm
    rw [show (mf == 0) = false from beq_eq_false_iff_ne.2 hm] at hr; have hr := hr.out; simp at hr; subst hr; clear hm; go_wp2; go_ret
    exact ⟨rfl, H2.out⟩
end Go.Proofs.YtaipkdglhfhhiaaGreatDoor.Pt

namespace Go.Proofs.YtaipkdglhfhhiaaGreatDoor.Pt
open Go Go.RowKit Go.Proofs.YtaipkdglhfhhiaaGreatDoor.Nm Go.Proofs.YtaipkdglhfhhiaaGreatDoor.Ty Go.Proofs.YtaipkdglhfhhiaaGreatDoor.Cd Go.Proofs.YtaipkdglhfhhiaaGreatDoorW.PrintWords Go.Proofs.YtaipkdglhfhhiaaGreatDoorW.PrintLast Go.Proofs.YtaipkdglhfhhiaaGreatDoorW.PrintMore
set_option linter.unusedVariables false
set_option linter.unusedSimpArgs false
set_option maxHeartbeats 2000000
set_option maxRecDepth 100000
theorem rd_at {l : List ByteArray} {i : Nat} (h : i < l.length) : l[i]? = some (rdOf ByteArray.empty l (i : Int)) := by
 simp [rdOf, List.getD_eq_getElem?_getD, List.getElem?_eq_getElem h]
theorem ba_eq {a b : ByteArray} (h : a.toList = b.toList) : a = b := by
 rw [ByteArray.toList_eq, ByteArray.toList_eq] at h
 exact ByteArray.ext (Array.toList_inj.1 h)
def placeF : List ByteArray → ByteArray → Int → Int
 | [], _, _ => -1
 | n :: l, s, i => if s.toList = n.toList then i else placeF l s (i + 1)
theorem place_in (l : List ByteArray) (s : ByteArray) : ∀ (i : Int), 0 ≤ i → (placeF l s i ≥ 0 ↔ s ∈ l) := by
 induction l with
 | nil => intro i hi; simp [placeF]
 | cons n l ih =>
  intro i hi; unfold placeF
  by_cases h : s.toList = n.toList
  ·rw [if_pos h, ba_eq h]
   simp
   omega
  ·rw [if_neg h, ih (i + 1) (by omega)]
   have : s ≠ n := fun e => h (by rw [e]); simp [this]
theorem place_step (l : List ByteArray) (s : ByteArray) (i : Nat) (n : ByteArray) (hx : l[i]? = some n) : placeF (l.drop i) s i = if s.toList = n.toList then (i : Int) else placeF (l.drop (i + 1)) s ((i + 1 : Nat) : Int) := by
 have hi : i < l.length := by
  rcases Nat.lt_or_ge i l.length with h | h
  ·exact h
  ·rw [List.getElem?_eq_none h] at hx; cases hx
 rw [List.drop_eq_getElem_cons hi, placeF]; rw [List.getElem?_eq_getElem hi] at hx; rw [Option.some.inj hx]; push_cast
 rfl
theorem index_any (A : Option Addr) (c : Nat) (l : List ByteArray) (s : ByteArray) (w : World) (hk : Kd.C Kd.string w A l.length l) :
  Calls Tryz.prog 149 #[.slice A l.length c, .string s] w fun e w' => e = .returned (.int .i64 (placeF l s 0)) ∧ w' = w := by
 have HK := Lib.hid hk; have hmx := Kd.C_max hk; clear hk; generalize hr : placeF l s 0 = r; replace hr := Lib.hid hr; go_enter Tryz.func149, Tryz.ntmps149; go_wp2_with fail
 go_loopw [8] (fun v8 wr => ∃ j : Nat, j ≤ l.length ∧ v8 = .int .i64 j ∧ Hid (placeF (l.drop j) s j = r) ∧ wr = w) (fun v8 _ => l.length - (intOf v8).toNat)
 case atStart => exact ⟨0, Nat.zero_le _, rfl, hr, rfl⟩
 case round =>
  obtain ⟨j, hj, rfl, HT, hw⟩ := hrel; subst hw
  by_cases hlt : j < l.length
  ·have hjd : decide (j < l.length) = true := decide_eq_true hlt
   obtain ⟨ad, cc, rfl, hcl, hKK, hic⟩ := Kd.C_get HK.out ByteArray.empty (j : Int) (by omega) (by omega); have hx := rd_at hlt; obtain rfl : cc = [.string (rdOf ByteArray.empty l (j : Int))] := hKK; have hic := hic 0 _ rfl; rw [show Kd.string.sz = 1 from rfl, Nat.mul_one, Nat.add_zero, Int.toNat_natCast] at hic; generalize rdOf ByteArray.empty l (j : Int) = n at *; have hst := HT.out; rw [place_step l s j n hx] at hst; clear HT hx hcl
   by_cases he : s.toList = n.toList
   ·rw [if_pos he] at hst
    have hq : (s.toList == n.toList) = true := beq_iff_eq.2 he; subst hst; go_wp2; go_ret
    exact ⟨rfl, rfl⟩
   ·rw [if_neg he] at hst
    have hq : (s.toList == n.toList) = false := beq_eq_false_iff_ne.2 he; replace hst := Lib.hid hst; go_wp2
    exact ⟨⟨j + 1, by omega, by push_cast; rfl, hst, trivial⟩, by simp [intOf]; omega⟩
  ·have hjd : decide (j < l.length) = false := decide_eq_false hlt
   have h1 := HT.out; rw [List.drop_eq_nil_of_le (by omega), placeF] at h1; subst h1; go_wp2; go_ret
   exact ⟨rfl, rfl⟩
def memB (l : List ByteArray) (s : ByteArray) : Bool := decide (placeF l s 0 ≥ 0)
theorem memB_iff {l : List ByteArray} {s : ByteArray} : memB l s = true ↔ s ∈ l := by
 unfold memB; rw [decide_eq_true_eq]
 exact place_in l s 0 (by omega)
theorem conts_any (A : Option Addr) (c : Nat) (l : List ByteArray) (s : ByteArray) (w : World) (hk : Kd.C Kd.string w A l.length l) :
  Calls Tryz.prog 127 #[.slice A l.length c, .string s] w fun e w' => e = .returned (.bool (memB l s)) ∧ w' = w := by
 have C1 := Lib.hid (index_any A c l s w hk); have hd : Hid (memB l s = decide (placeF l s 0 ≥ 0)) := Lib.hid rfl; clear hk; generalize placeF l s 0 = p at *; go_enter Tryz.func127, Tryz.ntmps127; go_wp2_with fail; refine C1.out.mono ?_; rintro e w2 ⟨rfl, rfl⟩; go_wp2; go_ret
 exact ⟨by rw [hd.out]; rfl, rfl⟩
def ifOk (l : List ByteArray) (f0 : ByteArray) (j : Nat) (n : ByteArray) : Bool := validB n && (!(n.toList == f0.toList) && !memB (l.take j) n)
def ifB (l : List ByteArray) (f0 : ByteArray) : Nat → List ByteArray → Bool
 | _, [] => true
 | j, n :: r => ifOk l f0 j n && ifB l f0 (j + 1) r
theorem ifB_step {l : List ByteArray} {f0 n : ByteArray} {j : Nat} (hx : l[j]? = some n) : ifB l f0 j (l.drop j) = (ifOk l f0 j n && ifB l f0 (j + 1) (l.drop (j + 1))) := by
 have hi : j < l.length := by
  rcases Nat.lt_or_ge j l.length with h | h
  ·exact h
  ·rw [List.getElem?_eq_none h] at hx; cases hx
 rw [List.drop_eq_getElem_cons hi, ifB]; rw [List.getElem?_eq_getElem hi] at hx; rw [Option.some.inj hx]
def headB (f0 f1 : ByteArray) (l : List ByteArray) (f3 f4 : Int) : Bool :=
 validB f0 && (validB f1 && (!(f0.toList == f1.toList) && (clsV f3 == 0 && (ifB l f0 0 l && (decide ((l.length : Int) ≤ 20) && (decide (0 ≤ f4) && decide (f4 ≤ 9)))))))
theorem head_any (f0 f1 : ByteArray) (A2 : Option Addr) (c2 : Nat) (l2 : List ByteArray) (f3 f4 : Int) (v5 : Value) (h5 : ∃ A n c, v5 = .slice A n c) (w : World) (hk : Kd.C Kd.string w A2 l2.length l2) (hc : l2.length ≤ c2) :
  Calls Tryz.prog 110 #[.agg #[.string f0, .string f1, .slice A2 l2.length c2, .int .i64 f3, .int .i64 f4, v5]] w fun e w' => e = .returned (.bool (headB f0 f1 l2 f3 f4)) ∧ Below w.heap.size w w' := by
 obtain ⟨A5, n5, c5, rfl⟩ := h5; have hmx := Kd.C_max hk; have HK := Lib.hid hk; have hcc := hc; have B0 := Lib.hid (blk_new w (.cells #[.string f0, .string f1, .slice A2 l2.length c2, .int .i64 f3, .int .i64 f4, .slice A5 n5 c5] 85)); have AB := Lib.hid ((Below.refl w.heap.size w).alloc (Nat.le_refl _) (.cells #[.string f0, .string f1, .slice A2 l2.length c2, .int .i64 f3, .int .i64 f4, .slice A5 n5 c5] 85)); have CV := Lib.hid (fun s W => names_Valid.calls s _ W rfl); have CF := Lib.hid (fun W => cls_any f3 W); clear hk; generalize hr : headB f0 f1 l2 f3 f4 = r; replace hr := Lib.hid hr; unfold headB at hr; generalize hv0 : validB f0 = b0 at hr; generalize hv1 : validB f1 = b1 at hr; have C0 := Lib.hid (CV.out f0 (w.alloc (.cells #[.string f0, .string f1, .slice A2 l2.length c2, .int .i64 f3, .int .i64 f4, .slice A5 n5 c5] 85))); have C1 := Lib.hid (fun W => CV.out f1 W); rw [hv0] at C0; rw [hv1] at C1; generalize clsV f3 = cv at *; go_enter Tryz.func110, Tryz.ntmps110
 go_upto_region 1 with (fail)
 go_cut [1, 27] (fun v1 v27 wr => v1 = .pointer (some ⟨w.heap.size, 0, none⟩) ∧ v27 = .bool (!b0 || (!b1 || ((f0.toList == f1.toList) || (cv != 0)))) ∧ Hid (wr.heap[w.heap.size]? = some (.cells #[.string f0, .string f1, .slice A2 l2.length c2, .int .i64 f3, .int .i64 f4, .slice A5 n5 c5] 85 (0, 0))) ∧ Hid (Below w.heap.size w wr))
 case first =>
  go_wp2_with fail; refine C0.out.mono ?_; rintro e w1 ⟨rfl, hb1⟩; have B1 := Lib.hid (blk_below B0.out hb1); have H1 := Lib.hid (AB.out.trans (hb1.mono AB.out.size)); clear hb1 C0; have q1 : w1.cell? ⟨w.heap.size, 1, none⟩ = some (.string f1) := (blk_cell B1.out 1).trans rfl
  cases b0 with
  | false =>
   go_wp2; go_meet
   case rel => exact ⟨rfl, rfl, B1, H1⟩
  | true =>
   go_wp2_with fail; refine (C1.out _).mono ?_; rintro e w2 ⟨rfl, hb2⟩; have B2 := Lib.hid (blk_below B1.out hb2); have H2 := Lib.hid (H1.out.trans (hb2.mono H1.out.size)); clear hb2 C1 q1; have q0 : w2.cell? ⟨w.heap.size, 0, none⟩ = some (.string f0) := (blk_cell B2.out 0).trans rfl; have q1 : w2.cell? ⟨w.heap.size, 1, none⟩ = some (.string f1) := (blk_cell B2.out 1).trans rfl; have q3 : w2.cell? ⟨w.heap.size, 3, none⟩ = some (.int .i64 f3) := (blk_cell B2.out 3).trans rfl
   cases b1 with
   | false =>
    go_wp2; go_meet
    case rel => exact ⟨rfl, rfl, B2, H2⟩
   | true =>
    cases he : (f0.toList == f1.toList) with
    | true =>
     go_wp2; go_meet
     case rel => exact ⟨rfl, by rw [he]; rfl, B2, H2⟩
    | false =>
     go_wp2_with fail; refine (CF.out _).mono ?_; rintro e w3 ⟨rfl, rfl⟩; go_wp2; go_meet
     case rel => exact ⟨rfl, by rw [he]; rfl, B2, H2⟩
 case rest =>
  clear B0 AB C0 C1 CF; obtain ⟨rfl, rfl, B2, H2⟩ := hcut
  cases hbad : (!b0 || (!b1 || ((f0.toList == f1.toList) || (cv != 0)))) with
  | true =>
   have hr2 : false = r := by
    rw [← hr.out]
    cases b0 <;> cases b1 <;> cases he : (f0.toList == f1.toList) <;> simp_all
   subst hr2; clear hbad; go_wp2; go_ret
   exact ⟨rfl, H2.out⟩
  | false =>
   have hr2 : Hid ((ifB l2 f0 0 l2 && (decide ((l2.length : Int) ≤ 20) && (decide (0 ≤ f4) && decide (f4 ≤ 9)))) = r) := Lib.hid (by
    rw [← hr.out]
    cases b0 <;> cases b1 <;> cases he : (f0.toList == f1.toList) <;> simp_all)
   clear hbad hr hv0 hv1; have q2 : wc.cell? ⟨w.heap.size, 2, none⟩ = some (.slice A2 l2.length c2) := (blk_cell B2.out 2).trans rfl; go_wp2_with fail
   go_loopw [31] (fun v31 wr => ∃ j : Nat, j ≤ l2.length ∧ v31 = .int .i64 j ∧ Hid (ifB l2 f0 0 l2 = ifB l2 f0 j (l2.drop j)) ∧ Hid (wr.heap[w.heap.size]? = some (.cells #[.string f0, .string f1, .slice A2 l2.length c2, .int .i64 f3, .int .i64 f4, .slice A5 n5 c5] 85 (0, 0))) ∧ Hid (Below w.heap.size w wr)) (fun v31 _ => l2.length - (intOf v31).toNat)
   case atStart => exact ⟨0, Nat.zero_le _, rfl, Lib.hid rfl, B2, H2⟩
   case round =>
    clear B2 H2 q2; obtain ⟨j, hj, rfl, HT, B2, H2⟩ := hrel
    by_cases hlt : j < l2.length
    ·have hjd : decide (j < l2.length) = true := decide_eq_true hlt
     obtain ⟨ad, cc, rfl, hcl, hKK, hic⟩ := Kd.C_get (Kd.C_below HK.out H2.out) ByteArray.empty (j : Int) (by omega) (by omega); have hx := rd_at hlt; obtain rfl : cc = [.string (rdOf ByteArray.empty l2 (j : Int))] := hKK; have hic := hic 0 _ rfl; rw [show Kd.string.sz = 1 from rfl, Nat.mul_one, Nat.add_zero, Int.toNat_natCast] at hic; generalize rdOf ByteArray.empty l2 (j : Int) = n at *; have hst : Hid (ifB l2 f0 0 l2 = (ifOk l2 f0 j n && ifB l2 f0 (j + 1) (l2.drop (j + 1)))) := Lib.hid (HT.out.trans (ifB_step hx)); have hok : Hid (ifOk l2 f0 j n = (validB n && (!(n.toList == f0.toList) && !memB (l2.take j) n))) := Lib.hid rfl; have C3 := Lib.hid (CV.out n wr); obtain ⟨i0, hi0, _, hsz0, _⟩ := info_parts (show (Tryz.prog.info? 9).map (fun i => (i.zero, i.size, i.bytes)) = some (some (.string ⟨#[]⟩), 1, 16) from by kernel_rfl); obtain ⟨hcut0, _, _⟩ := print_take_of (P := Tryz.prog) Value.string (⟨#[]⟩ : ByteArray) 82 9 .i64 Tryz.underlying82 hi0 hsz0 (some ad) c2 l2 (j : Int) (by omega) (by omega) hcc; rw [Int.toNat_natCast] at hcut0; have C4 := Lib.hid (fun (W : World) (hb : Below w.heap.size w W) => conts_any (some ad) c2 (l2.take j) n W (Kd.C_take (Kd.C_below HK.out hb) (by omega))); clear HT hx hcl hi0 hsz0; generalize ifOk l2 f0 j n = ok at *; go_wp2_with fail; refine C3.out.mono ?_; rintro e w3 ⟨rfl, hb3⟩; have B3 := Lib.hid (blk_below B2.out hb3); have H3 := Lib.hid (H2.out.trans (hb3.mono H2.out.size)); clear hb3 C3 B2 H2 hic; have q0 : w3.cell? ⟨w.heap.size, 0, none⟩ = some (.string f0) := (blk_cell B3.out 0).trans rfl; have q2 : w3.cell? ⟨w.heap.size, 2, none⟩ = some (.slice (some ad) l2.length c2) := (blk_cell B3.out 2).trans rfl; have hbad : Hid (ok = false → false = r) := Lib.hid (fun h => by rw [← hr2.out, hst.out, h]; rfl)
     cases hv : validB n with
     | false =>
      have h1 := hok.out; rw [hv, Bool.false_and] at h1; obtain rfl := hbad.out h1; go_wp2; go_ret
      exact ⟨rfl, H3.out⟩
     | true =>
      cases he : (n.toList == f0.toList) with
      | true =>
       have h1 := hok.out; rw [hv, he] at h1; obtain rfl := hbad.out h1; go_wp2; go_ret
       exact ⟨rfl, H3.out⟩
      | false =>
       have C5 := C4.out w3 H3.out; rw [show (l2.take j).length = j by rw [List.length_take]; omega] at C5; replace C5 := Lib.hid C5; go_wp2_with fail; refine C5.out.mono ?_; rintro e w4 ⟨rfl, rfl⟩; clear C5 C4
       cases hm : memB (l2.take j) n with
       | true =>
        have h1 := hok.out; rw [hv, he, hm] at h1; obtain rfl := hbad.out h1; go_wp2; go_ret
        exact ⟨rfl, H3.out⟩
       | false =>
        have h1 : Hid (ok = true) := Lib.hid (by rw [hok.out, hv, he, hm]; rfl); clear hv he hm; go_wp2
        exact ⟨⟨j + 1, by omega, by push_cast; rfl, Lib.hid (by rw [hst.out, h1.out, Bool.true_and]), B3, H3⟩, by simp [intOf]; omega⟩
    ·have hjd : decide (j < l2.length) = false := decide_eq_false hlt
     have h1 := HT.out; rw [List.drop_eq_nil_of_le (by omega), ifB] at h1; rw [h1, Bool.true_and] at hr2; clear h1 HT; have q2 : wr.cell? ⟨w.heap.size, 2, none⟩ = some (.slice A2 l2.length c2) := (blk_cell B2.out 2).trans rfl; have q4 : wr.cell? ⟨w.heap.size, 4, none⟩ = some (.int .i64 f4) := (blk_cell B2.out 4).trans rfl
     cases d1 : decide ((l2.length : Int) ≤ 20) with
     | false =>
      have h2 := hr2.out; rw [d1] at h2; simp at h2; subst h2; go_wp2; go_ret
      exact ⟨rfl, H2.out⟩
     | true =>
      cases d2 : decide (0 ≤ f4) with
      | false =>
       have h2 := hr2.out; rw [d1, d2] at h2; simp at h2; subst h2; go_wp2; go_ret
       exact ⟨rfl, H2.out⟩
      | true =>
       rw [d1, d2, Bool.true_and, Bool.true_and] at hr2; go_wp2; go_ret
       exact ⟨by rw [← hr2.out]; rfl, H2.out⟩
end Go.Proofs.YtaipkdglhfhhiaaGreatDoor.Pt

namespace Go.Proofs.YtaipkdglhfhhiaaGreatDoor.Pt
open Go Go.RowKit Go.Proofs.YtaipkdglhfhhiaaGreatDoor.Nm Go.Proofs.YtaipkdglhfhhiaaGreatDoor.Ty Go.Proofs.YtaipkdglhfhhiaaGreatDoor.Cd Go.Proofs.YtaipkdglhfhhiaaGreatDoorW.PrintWords Go.Proofs.YtaipkdglhfhhiaaGreatDoorW.PrintLast Go.Proofs.YtaipkdglhfhhiaaGreatDoorW.PrintMore
set_option linter.unusedVariables false
set_option linter.unusedSimpArgs false
set_option maxHeartbeats 2000000
set_option maxRecDepth 100000
def mOk (l : List S105) (b : Bool) (j : Nat) (m : S105) : Bool := methB m b && findM 0 l m.f0 m.f1 == (j : Int)
def msB (l : List S105) (b : Bool) : Nat → List S105 → Bool
 | _, [] => true
 | j, m :: r => mOk l b j m && msB l b (j + 1) r
theorem msB_step {l : List S105} {b : Bool} {m : S105} {j : Nat} (hx : l[j]? = some m) : msB l b j (l.drop j) = (mOk l b j m && msB l b (j + 1) (l.drop (j + 1))) := by
 have hi : j < l.length := by
  rcases Nat.lt_or_ge j l.length with h | h
  ·exact h
  ·rw [List.getElem?_eq_none h] at hx; cases hx
 rw [List.drop_eq_getElem_cons hi, msB]; rw [List.getElem?_eq_getElem hi] at hx; rw [Option.some.inj hx]
def soundB (c : S85) : Bool :=
 !decide ((c.f5.length : Int) > 40) && (!decide ((c.f2.length : Int) > 20) && (headB c.f0 c.f1 c.f2 c.f3 c.f4 && msB c.f5 (Go.bits .and .i64 c.f3 512 != 0) 0 c.f5))
def chkC (c : S85) : Int := if soundB c = true then 0 else 1
theorem rd51 {l : List S105} {i : Nat} (h : i < l.length) : l[i]? = some (rd_T105 l (i : Int)) := by
 simp [rd_T105, List.getD_eq_getElem?_getD, List.getElem?_eq_getElem h]
theorem chk_any (f0 f1 : ByteArray) (A2 : Option Addr) (c2 : Nat) (l2 : List ByteArray) (f3 f4 : Int) (A5 : Option Addr) (c5 : Nat) (l5 : List S105) (w : World) (hk : Kd.C Kd.string w A2 l2.length l2) (hc : l2.length ≤ c2) (hk5 : Kd.C k105 w A5 l5.length l5) (hc5 : l5.length ≤ c5) :
  Calls Tryz.prog 87 #[.agg #[.string f0, .string f1, .slice A2 l2.length c2, .int .i64 f3, .int .i64 f4, .slice A5 l5.length c5]] w fun e w' => e = .returned (.int .i64 (chkC ⟨f0, f1, l2, f3, f4, l5⟩)) ∧ Below w.heap.size w w' := by
 have B0 := Lib.hid (blk_new w (.cells #[.string f0, .string f1, .slice A2 l2.length c2, .int .i64 f3, .int .i64 f4, .slice A5 l5.length c5] 85)); have AB := Lib.hid ((Below.refl w.heap.size w).alloc (Nat.le_refl _) (.cells #[.string f0, .string f1, .slice A2 l2.length c2, .int .i64 f3, .int .i64 f4, .slice A5 l5.length c5] 85)); have HK := Lib.hid hk5; have CH := Lib.hid (head_any f0 f1 A2 c2 l2 f3 f4 (.slice A5 l5.length c5) ⟨_, _, _, rfl⟩ _ (Kd.C_below hk AB.out) hc); have CFd := Lib.hid (fun (W : World) (hb : Below w.heap.size w W) (hl : l5.length ≤ 4611686018427387904) (nm ds : ByteArray) => shapes_Find.calls f0 f1 A2 c2 l2 f3 f4 A5 c5 l5 nm ds _ W (Kd.C_below hk hb) hc (Kd.C_below hk5 hb) hc5 (if_pos hl)); clear hk hk5; generalize hr : chkC ⟨f0, f1, l2, f3, f4, l5⟩ = r; replace hr := Lib.hid hr; unfold chkC soundB at hr; simp only at hr; generalize headB f0 f1 l2 f3 f4 = hb_ at *; have q2 : (w.alloc (.cells #[.string f0, .string f1, .slice A2 l2.length c2, .int .i64 f3, .int .i64 f4, .slice A5 l5.length c5] 85)).cell? ⟨w.heap.size, 2, none⟩ = some (.slice A2 l2.length c2) := (blk_cell B0.out 2).trans rfl; go_enter Tryz.func87, Tryz.ntmps87
 go_upto_region 1 with (fail)
 cases d5 : decide ((l5.length : Int) > 40) with
 | true =>
  rw [d5] at hr; have h := hr.out; simp at h; subst h; go_wp2; go_ret
  exact ⟨rfl, AB.out⟩
 | false =>
  rw [d5, Bool.not_false, Bool.true_and] at hr
  cases d2 : decide ((l2.length : Int) > 20) with
  | true =>
   rw [d2] at hr; have h := hr.out; simp at h; subst h; go_wp2; go_ret
   exact ⟨rfl, AB.out⟩
  | false =>
   rw [d2, Bool.not_false, Bool.true_and] at hr; go_wp2_with fail; refine CH.out.mono ?_; rintro e w1 ⟨rfl, hb1⟩; have B1 := Lib.hid (blk_below B0.out hb1); have H1 := Lib.hid (AB.out.trans (hb1.mono AB.out.size)); clear CH B0 AB hb1 q2
   cases hb_ with
   | false =>
    have h := hr.out; simp at h; subst h; go_wp2; go_ret
    exact ⟨rfl, H1.out⟩
   | true =>
    rw [Bool.true_and] at hr
    have hl5 : l5.length ≤ 40 := by
     have := of_decide_eq_false d5
     omega
    clear d5 d2; have q5 : w1.cell? ⟨w.heap.size, 5, none⟩ = some (.slice A5 l5.length c5) := (blk_cell B1.out 5).trans rfl; go_wp2_with fail
    go_loopw [23] (fun v23 wr => ∃ j : Nat, j ≤ l5.length ∧ v23 = .int .i64 j ∧ Hid (msB l5 (Go.bits .and .i64 f3 512 != 0) 0 l5 = msB l5 (Go.bits .and .i64 f3 512 != 0) j (l5.drop j)) ∧ Hid (wr.heap[w.heap.size]? = some (.cells #[.string f0, .string f1, .slice A2 l2.length c2, .int .i64 f3, .int .i64 f4, .slice A5 l5.length c5] 85 (0, 0))) ∧ Hid (Below w.heap.size w wr)) (fun v23 _ => l5.length - (intOf v23).toNat)
    case atStart => exact ⟨0, Nat.zero_le _, rfl, Lib.hid rfl, B1, H1⟩
    case round =>
     clear B1 H1 q5; obtain ⟨j, hj, rfl, HT, B2, H2⟩ := hrel
     by_cases hlt : j < l5.length
     ·have hjd : decide (j < l5.length) = true := decide_eq_true hlt
      obtain ⟨ad, A6, c6, rfl, p0, p1, p2, p3, p4, p5, hc6, K6⟩ := at_T105 (Kd.C_below HK.out H2.out) (j : Int) (by omega) (by omega); have hx := rd51 hlt; rw [Int.toNat_natCast] at p0 p1 p2 p3 p4 p5; generalize rd_T105 l5 (j : Int) = x at *; obtain ⟨x0, x1, x2, x3, x4, x5⟩ := x; simp only at p0 p1 p2 p3 p4 p5 hc6 K6; have hst : Hid (msB l5 (Go.bits .and .i64 f3 512 != 0) 0 l5 = (mOk l5 (Go.bits .and .i64 f3 512 != 0) j ⟨x0, x1, x2, x3, x4, x5⟩ && msB l5 (Go.bits .and .i64 f3 512 != 0) (j + 1) (l5.drop (j + 1)))) := Lib.hid (HT.out.trans (msB_step hx)); have hok : Hid (mOk l5 (Go.bits .and .i64 f3 512 != 0) j ⟨x0, x1, x2, x3, x4, x5⟩ = (methB ⟨x0, x1, x2, x3, x4, x5⟩ (Go.bits .and .i64 f3 512 != 0) && findM 0 l5 x0 x1 == (j : Int))) := Lib.hid rfl; have D0 := Lib.hid (blk_new wr (.cells #[.string x0, .string x1, .int .i64 x2, .int .i64 x3, .int .i64 x4, .slice A6 x5.length c6] 105)); have hal := (Below.refl wr.heap.size wr).alloc (Nat.le_refl _) (.cells #[.string x0, .string x1, .int .i64 x2, .int .i64 x3, .int .i64 x4, .slice A6 x5.length c6] 105); have B3 := Lib.hid (blk_below B2.out hal); have H3 := Lib.hid (H2.out.trans (hal.mono H2.out.size)); have CM := Lib.hid (meth_any x0 x1 x2 x3 x4 A6 c6 x5 (Go.bits .and .i64 f3 512 != 0) _ (Kd.C_below K6 hal) hc6); have q3 : (wr.alloc (.cells #[.string x0, .string x1, .int .i64 x2, .int .i64 x3, .int .i64 x4, .slice A6 x5.length c6] 105)).cell? ⟨w.heap.size, 3, none⟩ = some (.int .i64 f3) := (blk_cell B3.out 3).trans rfl; clear HT hx K6 hal B2 H2; have hbad : Hid (mOk l5 (Go.bits .and .i64 f3 512 != 0) j ⟨x0, x1, x2, x3, x4, x5⟩ = false → (1 : Int) = r) := Lib.hid (fun h => by rw [← hr.out, hst.out, h]; rfl); generalize mOk l5 (Go.bits .and .i64 f3 512 != 0) j ⟨x0, x1, x2, x3, x4, x5⟩ = ok at *; generalize methB ⟨x0, x1, x2, x3, x4, x5⟩ (Go.bits .and .i64 f3 512 != 0) = mb at *; go_wp2_with fail; refine CM.out.mono ?_; rintro e w4 ⟨rfl, hb4⟩; have B4 := Lib.hid (blk_below B3.out hb4); have D4 := Lib.hid (blk_below D0.out hb4); have H4 := Lib.hid (H3.out.trans (hb4.mono H3.out.size)); clear CM hb4 B3 D0 H3 q3 p0 p1 p2 p3 p4 p5
      cases mb with
      | false =>
       have h1 := hok.out; rw [Bool.false_and] at h1; obtain rfl := hbad.out h1; go_wp2; go_ret
       exact ⟨rfl, H4.out⟩
      | true =>
       have q0 : w4.cell? ⟨w.heap.size, 0, none⟩ = some (.string f0) := (blk_cell B4.out 0).trans rfl; have q1 : w4.cell? ⟨w.heap.size, 1, none⟩ = some (.string f1) := (blk_cell B4.out 1).trans rfl; have q2 : w4.cell? ⟨w.heap.size, 2, none⟩ = some (.slice A2 l2.length c2) := (blk_cell B4.out 2).trans rfl; have q3 : w4.cell? ⟨w.heap.size, 3, none⟩ = some (.int .i64 f3) := (blk_cell B4.out 3).trans rfl; have q4 : w4.cell? ⟨w.heap.size, 4, none⟩ = some (.int .i64 f4) := (blk_cell B4.out 4).trans rfl; have q5 : w4.cell? ⟨w.heap.size, 5, none⟩ = some (.slice (some ad) l5.length c5) := (blk_cell B4.out 5).trans rfl; have r0 : w4.cell? ⟨wr.heap.size, 0, none⟩ = some (.string x0) := (blk_cell D4.out 0).trans rfl; have r1 : w4.cell? ⟨wr.heap.size, 1, none⟩ = some (.string x1) := (blk_cell D4.out 1).trans rfl; have CD := Lib.hid (CFd.out w4 H4.out (by omega) x0 x1); rw [Bool.true_and] at hok; generalize findM 0 l5 x0 x1 = fm at *; go_wp2_with fail; refine CD.out.mono ?_; rintro e w5 ⟨rfl, hb5⟩; have B5 := Lib.hid (blk_below B4.out hb5); have H5 := Lib.hid (H4.out.trans (hb5.mono H4.out.size)); clear CD hb5 B4 D4 H4 q0 q1 q2 q3 q4 q5 r0 r1
       by_cases hf : fm = (j : Int)
       ·have hne : (fm != (j : Int)) = false := bne_eq_false_iff_eq.2 hf
        have h1 : Hid (ok = true) := Lib.hid (hok.out.trans (beq_iff_eq.2 hf)); clear hf; go_wp2
        exact ⟨⟨j + 1, by omega, by push_cast; rfl, Lib.hid (by rw [hst.out, h1.out, Bool.true_and]), B5, H5⟩, by simp [intOf]; omega⟩
       ·have hne : (fm != (j : Int)) = true := bne_iff_ne.2 hf
        have h1 := hok.out.trans (beq_eq_false_iff_ne.2 hf); obtain rfl := hbad.out h1; clear hf; go_wp2; go_ret
        exact ⟨rfl, H5.out⟩
     ·have hjd : decide (j < l5.length) = false := decide_eq_false hlt
      have h1 := HT.out; rw [List.drop_eq_nil_of_le (by omega), msB] at h1; have h2 := hr.out; rw [h1] at h2; simp at h2; subst h2; clear h1; go_wp2; go_ret
      exact ⟨rfl, H2.out⟩
theorem valid_size {s : ByteArray} (h : validB s = true) : s.size ≤ 60 := by
 unfold validB at h; rw [Bool.and_eq_true] at h
 exact of_decide_eq_true h.1
theorem ifB_mem {l : List ByteArray} {f0 : ByteArray} : ∀ (r : List ByteArray) (j : Nat), ifB l f0 j r = true → ∀ n ∈ r, validB n = true
 | [], _, _ => fun n hn => by cases hn
 | m :: r, j, h => by
  rw [ifB, Bool.and_eq_true] at h; intro n hn
  rcases List.mem_cons.1 hn with rfl | hn
  ·have := h.1
   unfold ifOk at this; rw [Bool.and_eq_true] at this
   exact this.1
  ·exact ifB_mem r (j + 1) h.2 n hn
theorem msB_mem {l : List S105} {b : Bool} : ∀ (r : List S105) (j : Nat), msB l b j r = true → ∀ m ∈ r, methB m b = true
 | [], _, _ => fun n hn => by cases hn
 | m :: r, j, h => by
  rw [msB, Bool.and_eq_true] at h; intro n hn
  rcases List.mem_cons.1 hn with rfl | hn
  ·have := h.1
   unfold mOk at this; rw [Bool.and_eq_true] at this
   exact this.1
  ·exact msB_mem r (j + 1) h.2 n hn
theorem meth_code {m : S105} {b : Bool} (h : methB m b = true) : m.f5.length ≤ 200 := by
 unfold methB at h; rw [Bool.and_eq_true, Bool.and_eq_true] at h; have h2 := h.2.2
 by_cases ha : Go.bits .and .i64 m.f2 1024 = 0
 ·rw [if_pos ha] at h2
  simp only [Bool.and_eq_true] at h2; have h3 := h2.2.2.2.2; unfold codeB wthB at h3; simp only [Bool.and_eq_true, decide_eq_true_eq] at h3
  omega
 ·rw [if_neg ha] at h2
  simp only [Bool.and_eq_true, beq_iff_eq] at h2
  omega
theorem chk_sizes {c : S85} (h : chkC c = 0) : c.f0.size ≤ 60 ∧ c.f1.size ≤ 60 ∧ c.f2.length ≤ 20 ∧ (∀ n ∈ c.f2, n.size ≤ 60) ∧ c.f5.length ≤ 40 ∧ ∀ m ∈ c.f5, m.f5.length ≤ 200 := by
 have hs : soundB c = true := by
  cases hs : soundB c with
  | true => rfl
  | false => unfold chkC at h; rw [hs] at h; cases h
 unfold soundB headB at hs; simp only [Bool.and_eq_true, Bool.not_eq_true', decide_eq_false_iff_not] at hs; obtain ⟨h5, h2, ⟨v0, v1, _, _, hi, _⟩, hm⟩ := hs
 exact ⟨valid_size v0, valid_size v1, by omega, fun n hn => valid_size (ifB_mem _ _ hi n hn), by omega, fun m hm2 => meth_code (msB_mem _ _ hm m hm2)⟩
end Go.Proofs.YtaipkdglhfhhiaaGreatDoor.Pt

namespace Go.Proofs.YtaipkdglhfhhiaaGreatDoor.Hi
open Go Go.RowKit Go.Proofs.YtaipkdglhfhhiaaGreatDoor.Nm Go.Proofs.YtaipkdglhfhhiaaGreatDoorW.PrintWords Go.Proofs.YtaipkdglhfhhiaaGreatDoorW.PrintLast Go.Proofs.YtaipkdglhfhhiaaGreatDoorW.PrintMore Go.Proofs.YtaipkdglhfhhiaaGreatDoor.Pt
set_option linter.unusedVariables false
set_option linter.unusedSimpArgs false
set_option maxHeartbeats 4000000
set_option maxRecDepth 100000
def ifsF (es : List Ent) (c : S85) : List ByteArray → Int × List Int
 | [] => (0, [])
 | n :: l => if (aboveF es c n true).2 = 0 then ((ifsF es c l).1, (aboveF es c n true).1 :: (ifsF es c l).2) else ((aboveF es c n true).2, [])
def defF (r : Int) (es : List Ent) (c : S85) : List Ent × Int × Int :=
 if r ≠ 0 then (es, 0, r) else if es.length ≥ 300 then (es, 0, 5) else if (nameF es c.f0).2 = 0 then (es, 0, 25) else
 if (aboveF es c c.f1 false).2 ≠ 0 then (es, 0, (aboveF es c c.f1 false).2) else if (ifsF es c c.f2).1 ≠ 0 then (es, 0, (ifsF es c c.f2).1) else
 (es ++ [putE es c (aboveF es c c.f1 false).1 (ifsF es c c.f2).2], es.length, 0)
structure Good (es : List Ent) : Prop where
 fine : ∀ x ∈ es, Fine x
 tree : Tree es
 clo : ∀ x ∈ es, Rng es.length x.clo ∧ 0 ≤ x.depth ∧ x.depth ≤ es.length
 len : es.length ≤ 300
theorem ifsF_take (es : List Ent) (c : S85) : ∀ (l : List ByteArray) (k : Nat), (∀ (j : Nat) (n : ByteArray), j < k → l[j]? = some n → (aboveF es c n true).2 = 0) → (∀ (n : ByteArray), l[k]? = some n → (aboveF es c n true).2 ≠ 0 → (ifsF es c l).1 = (aboveF es c n true).2) ∧ (l.length ≤ k → ifsF es c l = (0, l.map fun n => (aboveF es c n true).1))
 | [], k, _ => ⟨fun n h => by simp at h, fun _ => rfl⟩
 | m :: l, 0, _ => ⟨fun n h hn => by
   simp at h; subst h; unfold ifsF
   rw [if_neg hn], fun h => by simp at h⟩
 | m :: l, k + 1, h => by
  have h0 := h 0 m (by omega) rfl; obtain ⟨h1, h2⟩ := ifsF_take es c l k (fun j n hj hn => h (j + 1) n (by omega) hn); refine ⟨fun n hn hne => ?_, fun hl => ?_⟩
  ·unfold ifsF
   rw [if_pos h0]
   exact h1 n hn hne
  ·have h3 := h2 (by simpa using hl)
   unfold ifsF; rw [if_pos h0, h3]
   rfl
theorem nameF_in {es : List Ent} {s : ByteArray} (h : (nameF es s).2 = 0) : 0 ≤ (nameF es s).1 ∧ (nameF es s).1 < es.length ∧ (ent es (nameF es s).1).c.f0 = s := by
 unfold nameF at h ⊢
 cases hf : (es.map (·.c.f0)).findIdx? (fun t => decide (t = s)) with
 | none => rw [hf] at h; simp at h
 | some i =>
  obtain ⟨hi, hs, _⟩ := List.findIdx?_eq_some_iff_getElem.1 hf; have hs := of_decide_eq_true hs; rw [List.length_map] at hi; refine ⟨by simp, by simpa using hi, ?_⟩; have := ent_get (List.getElem?_eq_getElem hi)
  show (ent es (i : Int)).c.f0 = s
  rw [this]
  simpa using hs
theorem nameF_not {es : List Ent} {s : ByteArray} (h : ¬ (nameF es s).2 = 0) : nameF es s = (0, 6) ∧ s ∉ es.map (·.c.f0) := by
 unfold nameF at h ⊢
 cases hf : (es.map (·.c.f0)).findIdx? (fun t => decide (t = s)) with
 | none =>
  refine ⟨rfl, fun hm => ?_⟩; rw [List.findIdx?_eq_none_iff] at hf; have := hf s hm; simp at this
 | some i => rw [hf] at h; simp at h
theorem aboveF_in {es : List Ent} {c : S85} {n : ByteArray} {want : Bool} (h : (aboveF es c n want).2 = 0) : 0 ≤ (aboveF es c n want).1 ∧ (aboveF es c n want).1 < es.length ∧ (aboveF es c n want).1 = (nameF es n).1 ∧ (nameF es n).2 = 0 := by
 unfold aboveF at h ⊢
 split at h
 ·rename_i h0
  rw [if_pos h0]; have h1 := nameF_in h0; unfold fitF at h ⊢
  split at h
  ·simp at h
  ·split at h
   ·simp at h
   ·split at h
    ·simp at h
    ·rename_i a b c
     rw [if_neg a, if_neg b, if_neg c]
     exact ⟨h1.1, h1.2.1, rfl, h0⟩
 ·simp at h
theorem fin_no {w W : World} {base g : Nat} {v : Value} {mb : Nat} {ps : List Nat} {es : List Ent} (h : WIn w base g v mb ps es) (hbs : base ≤ w.heap.size) (hb : Below w.heap.size w W) {V : List Ent × Int × Int} {err : Int} (hV : (es, (0 : Int), err) = V) :
  Ending.returned (.tuple #[.int .i64 0, .int .i64 err]) = Ending.returned (.tuple #[.int .i64 V.2.1, .int .i64 V.2.2]) ∧ ∃ v' ps', WIn W base g v' mb ps' V.1 ∧ Below base w W ∧ KeptT w W := by
 subst hV
 exact ⟨rfl, v, ps, h.below hb, hb.mono hbs, KeptT.of_below hb⟩
theorem define_any (w : World) (base g : Nat) (v : Value) (mb : Nat) (ps : List Nat) (es : List Ent) (h : WIn w base g v mb ps es) (hbs : base ≤ w.heap.size) (hg : Good es)
  (f0 f1 : ByteArray) (A2 : Option Addr) (c2 : Nat) (l2 : List ByteArray) (f3 f4 : Int) (A5 : Option Addr) (c5 : Nat) (l5 : List S105) (h2 : Kd.C Kd.string w A2 l2.length l2) (hc2 : l2.length ≤ c2) (h5 : Kd.C k105 w A5 l5.length l5) (hc5 : l5.length ≤ c5)
  (r : Int) (hr : chkC ⟨f0, f1, l2, f3, f4, l5⟩ = r) (hck : r = 0 → f0.size ≤ 1000 ∧ f1.size ≤ 1000 ∧ l2.length ≤ 1000 ∧ (∀ n ∈ l2, n.size ≤ 1000) ∧ Short l5) :
  Calls Tryz.prog 47 #[.pointer (some ⟨g, 0, none⟩), .agg #[.string f0, .string f1, .slice A2 l2.length c2, .int .i64 f3, .int .i64 f4, .slice A5 l5.length c5]] w fun e w' =>
   e = .returned (.tuple #[.int .i64 (defF r es ⟨f0, f1, l2, f3, f4, l5⟩).2.1, .int .i64 (defF r es ⟨f0, f1, l2, f3, f4, l5⟩).2.2]) ∧ ∃ v' ps', WIn w' base g v' mb ps' (defF r es ⟨f0, f1, l2, f3, f4, l5⟩).1 ∧ Below base w w' ∧ KeptT w w' := by
 generalize hV : defF r es ⟨f0, f1, l2, f3, f4, l5⟩ = V; replace hV := Lib.hid hV; have B0 := Lib.hid (blk_new w (.cells #[.string f0, .string f1, .slice A2 l2.length c2, .int .i64 f3, .int .i64 f4, .slice A5 l5.length c5] 85)); have AB : Hid (Below w.heap.size w (w.alloc (.cells #[.string f0, .string f1, .slice A2 l2.length c2, .int .i64 f3, .int .i64 f4, .slice A5 l5.length c5] 85))) := Lib.hid ((Below.refl _ _).alloc (Nat.le_refl _) _); have HW := Lib.hid h; have H2 := Lib.hid h2; have H5 := Lib.hid h5; have CK := Lib.hid (fun (W : World) (hb : Below w.heap.size w W) => chk_any f0 f1 A2 c2 l2 f3 f4 A5 c5 l5 W (Kd.C_below h2 hb) hc2 (Kd.C_below h5 hb) hc5); rw [hr] at CK; have HK := Lib.hid hck; have HG := Lib.hid hg; clear h h2 h5 hck hg hr; have C1 := Lib.hid (CK.out _ AB.out); go_enter Tryz.func47, Tryz.ntmps47; go_wp2_with fail; refine C1.out.mono ?_; rintro e w1 ⟨rfl, hb1⟩; have HB := Lib.hid (AB.out.trans (hb1.mono AB.out.size)); have B1 := Lib.hid (blk_below B0.out hb1); clear hb1 C1 CK AB B0; have HW1 := Lib.hid (HW.out.below HB.out)
 by_cases h0 : r = 0
 ·subst h0
  obtain ⟨s0, s1, s2, s3, s5⟩ := HK.out rfl; replace s3 := Lib.hid s3; replace s5 := Lib.hid s5; have q0 : w1.cell? ⟨g, 0, none⟩ = some v := (blk_cell HW1.out.blk 0).trans rfl; have q1 : w1.cell? ⟨g, 1, none⟩ = some (.map (some mb)) := (blk_cell HW1.out.blk 1).trans rfl; obtain ⟨Av, cv, rfl⟩ := Kd.R_slice HW.out.row; have hpl := Lib.hid HW.out.len
  by_cases h300 : es.length ≥ 300
  ·have hd : decide ((ps.length : Int) ≥ 300) = true := decide_eq_true (by rw [hpl.out]; omega)
   have hV2 : Hid ((es, (0 : Int), (5 : Int)) = V) := Lib.hid (by rw [← hV.out, defF, if_neg (by simp), if_pos h300]); clear hV; go_wp2; go_ret2
   exact fin_no HW.out hbs HB.out hV2.out
  ·have hd : decide ((ps.length : Int) ≥ 300) = false := decide_eq_false (by rw [hpl.out]; omega)
   have hlen : es.length ≤ 1000 := by omega
   have hl3 := Lib.hid (show ¬ es.length ≥ 300 from h300); clear h300; obtain ⟨D, hD, hS⟩ := HW1.out.map; obtain ⟨vi, pi_, hrun, hvi⟩ := hD.drew.look_ok (Maps.string_keyed Tryz.underlying9) Tryz.underlying130 (zeroInt _) (plainElem_int Tryz.underlying3 (by decide)) (Go.WideMaps.keyOf_string_mk Tryz.underlying9 (s := f0) (by unfold maxLen; omega)); obtain ⟨ci, rfl, hci, _⟩ := plainElem_int_inv Tryz.underlying3 hvi; have hci := Lib.hid (congrArg Prod.fst hci); have LN := Lib.hid (look_name hS f0 ci hci.out); clear hvi hD hS; have y0 : w1.cell? ⟨w.heap.size, 0, none⟩ = some (.string f0) := (blk_cell B1.out 0).trans rfl; have y1 : w1.cell? ⟨w.heap.size, 1, none⟩ = some (.string f1) := (blk_cell B1.out 1).trans rfl; have y2 : w1.cell? ⟨w.heap.size, 2, none⟩ = some (.slice A2 l2.length c2) := (blk_cell B1.out 2).trans rfl; have y3 : w1.cell? ⟨w.heap.size, 3, none⟩ = some (.int .i64 f3) := (blk_cell B1.out 3).trans rfl; have y4 : w1.cell? ⟨w.heap.size, 4, none⟩ = some (.int .i64 f4) := (blk_cell B1.out 4).trans rfl; have y5 : w1.cell? ⟨w.heap.size, 5, none⟩ = some (.slice A5 l5.length c5) := (blk_cell B1.out 5).trans rfl
   cases hh : Maps.has D (.string f0.data.toList)
   ·rw [hh] at hrun
    have hnm := Lib.hid (LN.out.2 hh); have hnn : Hid (¬ (nameF es f0).2 = 0) := Lib.hid (by rw [hnm.out]; decide); clear LN hh; go_wp2; go_region; go_wp2_with fail; clear hrun q1; have AB := Lib.hid (above_any w1.drew base g _ mb ps es (HW1.out.below (below_drew1 (Below.refl _ _))) HG.out.fine ⟨f0, f1, l2, f3, f4, l5⟩ (.string f1) (.slice A2 l2.length c2) (.slice A5 l5.length c5) f1 false (by show f0.size < _; omega) (by omega) hlen); refine AB.out.mono ?_; rintro e w2 ⟨rfl, hb2⟩; have B2 := Lib.hid (blk_below (blk_drew B1.out) hb2); have HB2 := Lib.hid ((below_drew1 HB.out).trans (hb2.mono HB.out.size)); clear AB B1 HB hb2 y0 y1 y2 y3 y4 y5 HW1 q0
    by_cases he : (aboveF es ⟨f0, f1, l2, f3, f4, l5⟩ f1 false).2 = 0
    ·have hsup := Lib.hid (aboveF_in he)
     have he1 := Lib.hid he; generalize hx : (aboveF es ⟨f0, f1, l2, f3, f4, l5⟩ f1 false).1 = sup at *; rw [he]; replace hx := Lib.hid hx; have y2 : w2.cell? ⟨w.heap.size, 2, none⟩ = some (.slice A2 l2.length c2) := (blk_cell B2.out 2).trans rfl; clear he; go_wp2_with fail
     go_loopw [11, 54] (fun v11 v54 wr => ∃ j : Nat, j ≤ l2.length ∧ v54 = .int .i64 j ∧ Hid (Kd.R (Kd.int .i64) 3 wr w.heap.size (fun _ => True) v11 ((l2.take j).map fun n => (aboveF es ⟨f0, f1, l2, f3, f4, l5⟩ n true).1)) ∧ Hid (∀ (i : Nat) (n : ByteArray), i < j → l2[i]? = some n → (aboveF es ⟨f0, f1, l2, f3, f4, l5⟩ n true).2 = 0) ∧
      Hid (wr.heap[w.heap.size]? = some (.cells #[.string f0, .string f1, .slice A2 l2.length c2, .int .i64 f3, .int .i64 f4, .slice A5 l5.length c5] 85 (0, 0))) ∧ Hid (Below w.heap.size w wr)) (fun _ v54 _ => l2.length - (intOf v54).toNat)
     case atStart => exact ⟨0, Nat.zero_le _, rfl, Lib.hid (Kd.R_nil _ _ _ _ _), Lib.hid (fun i n hi => absurd hi (by omega)), B2, HB2⟩
     case round =>
      clear B2 HB2 y2; obtain ⟨j, hj, rfl, RR, HE, B2, HB2⟩ := hrel; have y0 : wr.cell? ⟨w.heap.size, 0, none⟩ = some (.string f0) := (blk_cell B2.out 0).trans rfl; have y1 : wr.cell? ⟨w.heap.size, 1, none⟩ = some (.string f1) := (blk_cell B2.out 1).trans rfl; have y2 : wr.cell? ⟨w.heap.size, 2, none⟩ = some (.slice A2 l2.length c2) := (blk_cell B2.out 2).trans rfl; have y3 : wr.cell? ⟨w.heap.size, 3, none⟩ = some (.int .i64 f3) := (blk_cell B2.out 3).trans rfl; have y4 : wr.cell? ⟨w.heap.size, 4, none⟩ = some (.int .i64 f4) := (blk_cell B2.out 4).trans rfl; have y5 : wr.cell? ⟨w.heap.size, 5, none⟩ = some (.slice A5 l5.length c5) := (blk_cell B2.out 5).trans rfl
      by_cases hlt : j < l2.length
      ·obtain ⟨ad0, cc, rfl, hcl, hKK, hic⟩ := Kd.C_get H2.out ⟨#[]⟩ (j : Int) (by omega) (by omega)
       obtain rfl : cc = [.string (l2.getD j ⟨#[]⟩)] := hKK; have hic := hic 0 _ rfl; rw [show Kd.string.sz = 1 from rfl, Nat.mul_one, Nat.add_zero, Int.toNat_natCast] at hic
       have hx2 : l2[j]? = some (l2.getD j ⟨#[]⟩) := by rw [List.getD_eq_getElem?_getD, List.getElem?_eq_getElem hlt]; rfl
       have hns := s3.out _ (List.mem_of_getElem? hx2); generalize l2.getD j ⟨#[]⟩ = n at *; replace hx2 := Lib.hid hx2; have hic1 := pw_cell_below HB2.out hic; replace hic := Lib.hid hic; have hjd : decide (j < l2.length) = true := decide_eq_true hlt; have AB := Lib.hid (above_any wr base g _ mb ps es (HW.out.below HB2.out) HG.out.fine ⟨f0, f1, l2, f3, f4, l5⟩ (.string f1) (.slice (some ad0) l2.length c2) (.slice A5 l5.length c5) n true (by show f0.size < _; omega) (by omega) hlen); go_wp2_with fail; refine AB.out.mono ?_; rintro e w3 ⟨rfl, hb3⟩; have B3 := Lib.hid (blk_below B2.out hb3); have HB3 := Lib.hid (HB2.out.trans (hb3.mono HB2.out.size)); have R3 := Lib.hid (Kd.R_below RR.out hb3); clear AB B2 HB2 RR hb3 y0 y1 y2 y3 y4 y5 hic1
       by_cases hee : (aboveF es ⟨f0, f1, l2, f3, f4, l5⟩ n true).2 = 0
       ·have hee1 := Lib.hid hee
        rw [hee]; obtain ⟨A11, c11, rfl⟩ := Kd.R_slice R3.out
        have hll : ((l2.take j).map fun n => (aboveF es ⟨f0, f1, l2, f3, f4, l5⟩ n true).1).length ≤ 1000 := by
         rw [List.length_map, List.length_take]; omega
        have hstep : Hid ((l2.take (j + 1)).map (fun n => (aboveF es ⟨f0, f1, l2, f3, f4, l5⟩ n true).1) = (l2.take j).map (fun n => (aboveF es ⟨f0, f1, l2, f3, f4, l5⟩ n true).1) ++ [(aboveF es ⟨f0, f1, l2, f3, f4, l5⟩ n true).1]) := Lib.hid (by
         rw [List.take_add_one, hx2.out, List.map_append]; rfl)
        have HE2 : Hid (∀ (i : Nat) (m : ByteArray), i < j + 1 → l2[i]? = some m → (aboveF es ⟨f0, f1, l2, f3, f4, l5⟩ m true).2 = 0) := Lib.hid (fun i m hi hm => by
         by_cases hij : i = j
         ·subst hij
          rw [hx2.out] at hm
          cases hm
          exact hee1.out
         ·exact HE.out i m (by omega) hm)
        generalize (l2.take j).map (fun n => (aboveF es ⟨f0, f1, l2, f3, f4, l5⟩ n true).1) = ids at *; generalize (aboveF es ⟨f0, f1, l2, f3, f4, l5⟩ n true).1 = idn at *; clear hee HE; go_wp2_with (at_builtin; refine Kd.R_append (Kd.int .i64) (w0 := w) (W := w3) w.heap.size rfl (.tmp 68) (.tmp 70) 49 3 (.int .i64 0) 8 rfl Tryz.underlying49 info_int rfl (by decide) (by omega) _ ids idn [.int .i64 idn] (fun _ => True) (fun _ => False) rfl rfl rfl (fun _ h => h.elim) (fun _ _ => trivial) R3.out HB3.out HB3.out.size (by omega) ?_; intro v1 w4 g1 g2 g3 g4; obtain ⟨A12, c12, rfl⟩ := Kd.R_slice g1; replace g1 := Lib.hid g1; replace g2 := Lib.hid g2; have B4 := Lib.hid (blk_grown (w := w3) B3.out g3 (Kd.R_ne R3.out B3.out (by decide))); clear g3 g4)
        refine ⟨⟨j + 1, by omega, by push_cast; rfl, Lib.hid (by
         have e := g1.out; rw [hstep.out]
         rwa [show (ids ++ [idn]).length = ids.length + 1 by simp] at e), HE2, B4, g2⟩, by simp [intOf]; omega⟩
       ·have hne : ((aboveF es ⟨f0, f1, l2, f3, f4, l5⟩ n true).2 != 0) = true := bne_iff_ne.2 hee
        have hV2 : Hid ((es, (0 : Int), (aboveF es ⟨f0, f1, l2, f3, f4, l5⟩ n true).2) = V) := Lib.hid (by
         rw [← hV.out, defF, if_neg (by simp), if_neg hl3.out, if_neg hnn.out, if_neg (fun h => h he1.out)]; have e1 := (ifsF_take es ⟨f0, f1, l2, f3, f4, l5⟩ l2 j HE.out).1 n hx2.out hee
         show _ = if (ifsF es ⟨f0, f1, l2, f3, f4, l5⟩ l2).1 ≠ 0 then (es, (0 : Int), (ifsF es ⟨f0, f1, l2, f3, f4, l5⟩ l2).1) else _
         rw [if_pos (by rw [e1]; exact hee), e1])
        clear hV hee HE R3; generalize (aboveF es ⟨f0, f1, l2, f3, f4, l5⟩ n true).2 = err at *; go_wp2; go_ret2
        exact fin_no HW.out hbs HB3.out hV2.out
      ·have hjl : j = l2.length := by omega
       have hjd : decide (j < l2.length) = false := decide_eq_false hlt; have e2 := (ifsF_take es ⟨f0, f1, l2, f3, f4, l5⟩ l2 j HE.out).2 (by omega)
       have hV2 : Hid ((es ++ [putE es ⟨f0, f1, l2, f3, f4, l5⟩ sup (l2.map fun n => (aboveF es ⟨f0, f1, l2, f3, f4, l5⟩ n true).1)], (es.length : Int), (0 : Int)) = V) := Lib.hid (by
        rw [← hV.out, defF, if_neg (by simp), if_neg hl3.out, if_neg hnn.out, if_neg (fun h => h he1.out)]
        show _ = if (ifsF es ⟨f0, f1, l2, f3, f4, l5⟩ l2).1 ≠ 0 then (es, (0 : Int), (ifsF es ⟨f0, f1, l2, f3, f4, l5⟩ l2).1) else _
        rw [if_neg (by rw [e2]; simp), e2, hx.out])
       have hRng : Hid (∀ i ∈ (l2.map fun n => (aboveF es ⟨f0, f1, l2, f3, f4, l5⟩ n true).1), 0 ≤ i ∧ i < es.length) := Lib.hid (fun i hi => by
        obtain ⟨n, hn, rfl⟩ := List.mem_map.1 hi; obtain ⟨q, hq⟩ := List.getElem?_of_mem hn
        have hq2 : q < l2.length := by
         rcases Nat.lt_or_ge q l2.length with h | h
         ·exact h
         ·rw [List.getElem?_eq_none h] at hq; cases hq
        have := aboveF_in (HE.out q n (by omega) hq)
        exact ⟨this.1, this.2.1⟩)
       rw [hjl, List.take_length] at RR; clear hV e2 HE
       have hill : (l2.map fun n => (aboveF es ⟨f0, f1, l2, f3, f4, l5⟩ n true).1).length ≤ 1000 := by rw [List.length_map]; omega
       generalize (l2.map fun n => (aboveF es ⟨f0, f1, l2, f3, f4, l5⟩ n true).1) = ids at *; obtain ⟨A11, c11, rfl⟩ := Kd.R_slice RR.out; have CP := Lib.hid (copied_any f0 f1 A2 c2 l2 f3 f4 A5 c5 l5 wr (Kd.C_below H2.out HB2.out) (Kd.C_below H5.out HB2.out) (by omega) s5.out); go_wp2_with fail; clear y0 y1 y2 y3 y4 y5; refine CP.out.mono ?_; rintro e w3 ⟨v2, v5, rfl, R2, R5, hb3⟩; have HB3 := Lib.hid (HB2.out.trans (hb3.mono HB2.out.size)); have hsz := HB2.out.size; have PU := Lib.hid (put_any w3 base g _ mb ps es (HW.out.below HB3.out) (Nat.le_trans hbs HB3.out.size) f0 f1 v2 v5 l2 f3 f4 l5 (Kd.R_lower R2 (by omega)) (Kd.R_lower R5 (by omega)) sup (.inr ⟨hsup.out.1, hsup.out.2.1⟩) A11 c11 ids (Kd.R_reads' (Kd.R_below RR.out hb3)).2.2 hRng.out hlen (fun x hx => ⟨(HG.out.clo x hx).1, (HG.out.clo x hx).2.1, by have := (HG.out.clo x hx).2.2; omega⟩) hill (nameF_not hnn.out).2 (by omega)); clear CP R2 R5 hb3 RR HB2 B2; go_wp2_with fail; refine PU.out.mono ?_; rintro e w4 ⟨rfl, v', p, I4, hb4, hk4⟩; replace I4 := Lib.hid I4; have HB4 := Lib.hid ((HB3.out.mono hbs).trans hb4); have HK4 := Lib.hid ((KeptT.of_below HB3.out).trans hk4); clear PU hb4 hk4; go_wp2; go_ret2; have hV3 := hV2.out; clear hV2; subst hV3
       exact ⟨rfl, _, _, I4.out, HB4.out, HK4.out⟩
    ·have hne : ((aboveF es ⟨f0, f1, l2, f3, f4, l5⟩ f1 false).2 != 0) = true := bne_iff_ne.2 he
     have hV2 : Hid ((es, (0 : Int), (aboveF es ⟨f0, f1, l2, f3, f4, l5⟩ f1 false).2) = V) := Lib.hid (by
      rw [← hV.out, defF, if_neg (by simp), if_neg hl3.out, if_neg hnn.out]
      show _ = if (aboveF es ⟨f0, f1, l2, f3, f4, l5⟩ f1 false).2 ≠ 0 then _ else _
      rw [if_pos he])
     clear hV he; generalize (aboveF es ⟨f0, f1, l2, f3, f4, l5⟩ f1 false).2 = err at *; go_wp2; go_ret2
     exact fin_no HW.out hbs HB2.out hV2.out
   ·rw [hh] at hrun
    obtain ⟨n1, n2, n3⟩ := LN.out.1 hh; have hV2 : Hid ((es, (0 : Int), (25 : Int)) = V) := Lib.hid (by rw [← hV.out, defF, if_neg (by simp), if_neg hl3.out, if_pos (show (nameF es f0).2 = 0 from n2)]); clear n1 n2 n3 LN hh hV; go_wp2; go_region; go_wp2; go_ret2
    exact fin_no HW.out hbs (below_drew1 HB.out) hV2.out
 ·have hne : (r != 0) = true := bne_iff_ne.2 h0
  have hV2 : Hid ((es, (0 : Int), r) = V) := Lib.hid (by rw [← hV.out, defF, if_pos h0]); clear hV h0; go_wp2; go_ret2
  exact fin_no HW.out hbs HB.out hV2.out
end Go.Proofs.YtaipkdglhfhhiaaGreatDoor.Hi

namespace Go.Proofs.YtaipkdglhfhhiaaGreatDoor.Hi
open Go Go.RowKit Go.Proofs.YtaipkdglhfhhiaaGreatDoorW.PrintWords Go.Proofs.YtaipkdglhfhhiaaGreatDoorW.PrintLast Go.Proofs.YtaipkdglhfhhiaaGreatDoorW.PrintMore Go.Proofs.YtaipkdglhfhhiaaGreatDoor.Pt
set_option linter.unusedVariables false
set_option linter.unusedSimpArgs false
set_option maxHeartbeats 2000000
set_option maxRecDepth 100000
def inM (es : List Ent) (c i : Int) : Bool := inB es c && decide (0 ≤ i ∧ i < (ent es c).c.f5.length)
def methF (es : List Ent) (c i : Int) : S105 × Int := if inM es c i then (rd_T105 (ent es c).c.f5 i, 0) else (z105, 3)
end Go.Proofs.YtaipkdglhfhhiaaGreatDoor.Hi

namespace Go.Proofs.YtaipkdglhfhhiaaGreatDoor.Hi
open Go Go.RowKit Go.Proofs.YtaipkdglhfhhiaaGreatDoorW.PrintWords Go.Proofs.YtaipkdglhfhhiaaGreatDoorW.PrintLast Go.Proofs.YtaipkdglhfhhiaaGreatDoorW.PrintMore Go.Proofs.YtaipkdglhfhhiaaGreatDoor.Pt
set_option linter.unusedVariables false
set_option linter.unusedSimpArgs false
set_option maxHeartbeats 2000000
set_option maxRecDepth 100000
def EntAt (w : World) (es : List Ent) (i : Int) (p : Nat) : Prop := ∃ A2 c2 A5 c5 A8 c8, w.heap[p]? = some (.cells #[.string (ent es i).c.f0, .string (ent es i).c.f1, .slice A2 (ent es i).c.f2.length c2, .int .i64 (ent es i).c.f3, .int .i64 (ent es i).c.f4, .slice A5 (ent es i).c.f5.length c5, .int .i64 (ent es i).above, .int .i64 (ent es i).depth, .slice A8 (ent es i).clo.length c8] 150 (0, 0))
theorem EntAt.below {w w1 : World} {es : List Ent} {i : Int} {p : Nat} (h : EntAt w es i p) (hb : Below w.heap.size w w1) : EntAt w1 es i p := by
 obtain ⟨A2, c2, A5, c5, A8, c8, h⟩ := h
 exact ⟨A2, c2, A5, c5, A8, c8, blk_below h hb⟩
theorem EntAt.up {w : World} {es : List Ent} {i : Int} {p : Nat} (h : EntAt w es i p) : w.cell? ⟨p, 6, none⟩ = some (.int .i64 (ent es i).above) ∧ w.cell? ⟨p, 7, none⟩ = some (.int .i64 (ent es i).depth) := by
 obtain ⟨A2, c2, A5, c5, A8, c8, h⟩ := h
 exact ⟨(blk_cell h 6).trans rfl, (blk_cell h 7).trans rfl⟩
end Go.Proofs.YtaipkdglhfhhiaaGreatDoor.Hi

namespace Go.Proofs.YtaipkdglhfhhiaaGreatDoor.Hi
open Go Go.RowKit Go.Proofs.YtaipkdglhfhhiaaGreatDoor.Nm Go.Proofs.YtaipkdglhfhhiaaGreatDoorW.PrintWords Go.Proofs.YtaipkdglhfhhiaaGreatDoorW.PrintLast Go.Proofs.YtaipkdglhfhhiaaGreatDoorW.PrintMore Go.Proofs.YtaipkdglhfhhiaaGreatDoor.Pt
set_option linter.unusedVariables false
set_option linter.unusedSimpArgs false
set_option maxHeartbeats 2000000
def homeF (es : List Ent) (id : Int) : Int × ByteArray × S85 × Int := if 0 ≤ id ∧ id < es.length then ((es.getD id.toNat zE).c.f4, pkgB (es.getD id.toNat zE).c.f0, (es.getD id.toNat zE).c, 0) else (0, ⟨#[]⟩, z85, 3)
end Go.Proofs.YtaipkdglhfhhiaaGreatDoor.Hi

namespace Go.Proofs.YtaipkdglhfhhiaaGreatDoor.Pt
open Go Go.RowKit Go.Proofs.YtaipkdglhfhhiaaGreatDoor.Nm Go.Proofs.YtaipkdglhfhhiaaGreatDoor.Hi Go.Proofs.YtaipkdglhfhhiaaGreatDoorW.PrintWords Go.Proofs.YtaipkdglhfhhiaaGreatDoorW.PrintLast Go.Proofs.YtaipkdglhfhhiaaGreatDoorW.PrintMore
set_option linter.unusedVariables false
set_option linter.unusedSimpArgs false
def hier_World_Class.f (a0 : List Hi.Ent) (a1 : Int) : Option (ByteArray × ByteArray × (List ByteArray) × Int × Int × (List (S105)) × Int) :=
 some ((classF a0 a1).1.f0, (classF a0 a1).1.f1, (classF a0 a1).1.f2, (classF a0 a1).1.f3, (classF a0 a1).1.f4, (classF a0 a1).1.f5, (classF a0 a1).2)
theorem hier_World_Class.calls (G_ : Nat) (a0 : List Hi.Ent) (a1 : Int) (r1 : ByteArray) (r2 : ByteArray) (r3 : List ByteArray) (r4 : Int) (r5 : Int) (r6 : List (S105)) (r7 : Int) (w : World) (hq0 : WOK w G_ a0) (h : hier_World_Class.f a0 a1 = some (r1, r2, r3, r4, r5, r6, r7)) :
  Calls Tryz.prog 58 #[.pointer (some ⟨G_, 0, none⟩), .int .i64 a1] w fun e w' => ∃ v2_ v5_ : Value, e = .returned (.tuple #[.agg #[.string r1, .string r2, v2_, .int .i64 r4, .int .i64 r5, v5_], .int .i64 r7]) ∧ Kd.R Kd.string 9 w' w.heap.size (fun _ => True) v2_ r3 ∧ Kd.R k105 105 w' w.heap.size (fun _ => True) v5_ r6 ∧ Below w.heap.size w w' := by
 unfold hier_World_Class.f at h; simp only [Option.some.injEq, Prod.mk.injEq] at h; obtain ⟨rfl, rfl, rfl, rfl, rfl, rfl, rfl⟩ := h; obtain ⟨base, v, mb, ps, hi⟩ := hq0.inn; refine (class_any w base G_ v mb ps a0 hi hq0.small a1).mono ?_; rintro e w' ⟨vc, rfl, ⟨v2, v5, rfl, R2, R5⟩, hb⟩
 exact ⟨v2, v5, rfl, R2, R5, hb⟩
def access_homeOf.f (a0 : List Hi.Ent) (a1 : Int) : Option (Int × ByteArray × ByteArray × ByteArray × (List ByteArray) × Int × Int × (List (S105)) × Int) :=
 some ((homeF a0 a1).1, (homeF a0 a1).2.1, (homeF a0 a1).2.2.1.f0, (homeF a0 a1).2.2.1.f1, (homeF a0 a1).2.2.1.f2, (homeF a0 a1).2.2.1.f3, (homeF a0 a1).2.2.1.f4, (homeF a0 a1).2.2.1.f5, (homeF a0 a1).2.2.2)
def hier_World_ByName.f (a0 : List Hi.Ent) (a1 : ByteArray) : Option (Int × Int) := if a1.size ≤ 9223372036854775807 then some (nameF a0 a1) else none
def hier_World_IsIface.f (a0 : List Hi.Ent) (a1 : Int) : Option Bool := some (inB a0 a1 && isI (ent a0 a1).c)
theorem hier_World_IsIface.calls (G_ : Nat) (a0 : List Hi.Ent) (a1 : Int) (r : Bool) (w : World) (hq0 : WOK w G_ a0) (h : hier_World_IsIface.f a0 a1 = some r) :
  Calls Tryz.prog 61 #[.pointer (some ⟨G_, 0, none⟩), .int .i64 a1] w fun e w' => e = .returned (.bool r) ∧ Below w.heap.size w w' := by
 obtain rfl := Option.some.inj h
 exact isIface_any w G_ a0 hq0 a1
def hier_World_SamePackage.f (a0 : List Hi.Ent) (a1 : Int) (a2 : Int) : Option Bool := some (inB a0 a1 && inB a0 a2 && tog (ent a0 a1).c (ent a0 a2).c)
def hier_World_Extends.f (a0 : List Hi.Ent) (a1 : Int) (a2 : Int) : Option Bool := some (extF a0 a1 a2)
def hier_World_Method.f (a0 : List Hi.Ent) (a1_0 : Int) (a1_1 : Int) : Option (ByteArray × ByteArray × Int × Int × Int × (List (S143)) × Int) :=
 some ((methF a0 a1_0 a1_1).1.f0, (methF a0 a1_0 a1_1).1.f1, (methF a0 a1_0 a1_1).1.f2, (methF a0 a1_0 a1_1).1.f3, (methF a0 a1_0 a1_1).1.f4, (methF a0 a1_0 a1_1).1.f5, (methF a0 a1_0 a1_1).2)
def names_Package.f (a0 : ByteArray) : Option ByteArray := if a0.size < 4611686018427387904 then some (pkgB a0) else none
def access_Package_nil.f (a1 : Int) : Option (Int × ByteArray × Int) := some (0, ⟨#[]⟩, 2)
def access_ClassOpen_nil.f (a1 : Int) (a2 : Int) : Option (Bool × Int) := some (false, 2)
def access_TypeOpen_nil.f (a1 : Int) (a2_0 : Int) (a2_1 : ByteArray) : Option (Bool × Int) := some (false, 2)
def access_MethodOpen_nil.f (a1 : Int) (a2_0 : Int) (a2_1 : Int) (a3 : Int) : Option (Bool × Int) := some (false, 2)
end Go.Proofs.YtaipkdglhfhhiaaGreatDoor.Pt

namespace Go.Proofs.YtaipkdglhfhhiaaGreatDoor.Hi
open Go Go.RowKit Go.Proofs.YtaipkdglhfhhiaaGreatDoorW.PrintWords Go.Proofs.YtaipkdglhfhhiaaGreatDoorW.PrintLast Go.Proofs.YtaipkdglhfhhiaaGreatDoorW.PrintMore Go.Proofs.YtaipkdglhfhhiaaGreatDoor.Pt
set_option linter.unusedVariables false
set_option linter.unusedSimpArgs false
set_option maxHeartbeats 2000000
set_option maxRecDepth 100000
theorem R_block {α : Type} (d : Kd α) (e : Nat) {W : World} {base g : Nat} {ok : Nat → Prop} {xs : List α} {inner : List Value} (h : W.heap[g]? = some (.cells inner.toArray e (0, 0))) (hb : base ≤ g) (hok : ok g) (hm : xs.length ≤ maxLen) (hr : Reps (d.M W base (fun k => ok k ∧ some k ≠ some g)) d.sz xs inner) :
  d.R e W base ok (.slice (some ⟨g, 0, none⟩) xs.length xs.length) xs :=
 ⟨fun k hk => by
  have : g = k := by simpa [Value.ownBlock] using hk
  exact this ▸ hok, inner, ⟨hr.1, .inr ⟨g, xs.length, inner.toArray, rfl, hb, h, Nat.le_refl _, hm, by simpa using hr.1, by simp [← hr.1]⟩⟩, hr⟩
def inst (op n : Int) : S143 := ⟨op, n, ⟨#[]⟩, ⟨false, ⟨#[]⟩, ⟨#[]⟩, ⟨#[]⟩⟩⟩
def instC (op n : Int) : List Value := [.int .i64 op, .int .i64 n, .string ⟨#[]⟩, .bool false, .string ⟨#[]⟩, .string ⟨#[]⟩, .string ⟨#[]⟩]
theorem reps_inst (W : World) (base : Nat) (ok : Nat → Prop) (op n : Int) : Reps (k143.M W base ok) k143.sz [inst op n] (instC op n) :=
 (Reps.none _ _).snoc (k143_mkM W base ok (inst op n)) rfl
theorem reps_inst2 (W : World) (base : Nat) (ok : Nat → Prop) (op n op' n' : Int) : Reps (k143.M W base ok) k143.sz [inst op n, inst op' n'] (instC op n ++ instC op' n') :=
 (reps_inst W base ok op n).snoc (k143_mkM W base ok (inst op' n')) rfl
def sObject : ByteArray := ⟨#[79, 98, 106, 101, 99, 116]⟩
def sInit : ByteArray := ⟨#[60, 105, 110, 105, 116, 62]⟩
def sV : ByteArray := ⟨#[40, 41, 86]⟩
def sId : ByteArray := ⟨#[105, 100]⟩
def sI : ByteArray := ⟨#[40, 41, 73]⟩
def sKin : ByteArray := ⟨#[107, 105, 110]⟩
def sLO : ByteArray := ⟨#[40, 41, 76, 79, 98, 106, 101, 99, 116, 59]⟩
def objM : List S105 := [⟨sInit, sV, 1, 1, 0, [inst 38 0]⟩, ⟨sId, sI, 1, 1, 1, [inst 1 7, inst 36 0]⟩, ⟨sKin, sLO, 4, 1, 1, [inst 4 0, inst 37 0]⟩]
def objC : S85 := ⟨sObject, ⟨#[]⟩, [], 33, 0, objM⟩
def methC (g : Nat) : List Value := (([.string sInit, .string sV, .int .i64 1, .int .i64 1, .int .i64 0, .slice (some ⟨g + 1, 0, none⟩) 1 1] : List Value) ++ [.string sId, .string sI, .int .i64 1, .int .i64 1, .int .i64 1, .slice (some ⟨g + 1 + 1, 0, none⟩) 2 2]) ++ [.string sKin, .string sLO, .int .i64 4, .int .i64 1, .int .i64 1, .slice (some ⟨g + 1 + 1 + 1, 0, none⟩) 2 2]
theorem five_new (w : World) (o0 o1 o2 o3 o4 : Obj) : (((((w.alloc o0).alloc o1).alloc o2).alloc o3).alloc o4).heap[w.heap.size]? = some o0 ∧ (((((w.alloc o0).alloc o1).alloc o2).alloc o3).alloc o4).heap[w.heap.size + 1]? = some o1 ∧ (((((w.alloc o0).alloc o1).alloc o2).alloc o3).alloc o4).heap[w.heap.size + 1 + 1]? = some o2 ∧
  (((((w.alloc o0).alloc o1).alloc o2).alloc o3).alloc o4).heap[w.heap.size + 1 + 1 + 1]? = some o3 ∧ (((((w.alloc o0).alloc o1).alloc o2).alloc o3).alloc o4).heap[w.heap.size + 1 + 1 + 1 + 1]? = some o4 ∧ Below w.heap.size w (((((w.alloc o0).alloc o1).alloc o2).alloc o3).alloc o4) := by
 have e0 : (w.alloc o0).heap.size = w.heap.size + 1 := by simp
 have e1 : ((w.alloc o0).alloc o1).heap.size = w.heap.size + 1 + 1 := by simp
 have e2 : (((w.alloc o0).alloc o1).alloc o2).heap.size = w.heap.size + 1 + 1 + 1 := by simp
 have e3 : ((((w.alloc o0).alloc o1).alloc o2).alloc o3).heap.size = w.heap.size + 1 + 1 + 1 + 1 := by simp
 refine ⟨blk_alloc (blk_alloc (blk_alloc (blk_alloc (blk_new w o0) o1) o2) o3) o4, ?_, ?_, ?_, ?_, ?_⟩
 ·have := blk_alloc (blk_alloc (blk_alloc (blk_new (w.alloc o0) o1) o2) o3) o4
  rwa [e0] at this
 ·have := blk_alloc (blk_alloc (blk_new ((w.alloc o0).alloc o1) o2) o3) o4
  rwa [e1] at this
 ·have := blk_alloc (blk_new (((w.alloc o0).alloc o1).alloc o2) o3) o4
  rwa [e2] at this
 ·have := blk_new ((((w.alloc o0).alloc o1).alloc o2).alloc o3) o4
  rwa [e3] at this
 ·exact (((((Below.refl _ _).alloc (Nat.le_refl _) _).alloc (by omega) _).alloc (by omega) _).alloc (by omega) _).alloc (by omega) _
theorem objR {W : World} {base g : Nat} (hb : base ≤ g)
  (h1 : W.heap[g + 1]? = some (.cells (instC 38 0).toArray 143 (0, 0))) (h2 : W.heap[g + 1 + 1]? = some (.cells (instC 1 7 ++ instC 36 0).toArray 143 (0, 0))) (h3 : W.heap[g + 1 + 1 + 1]? = some (.cells (instC 4 0 ++ instC 37 0).toArray 143 (0, 0)))
  (h4 : W.heap[g + 1 + 1 + 1 + 1]? = some (.cells (methC g).toArray 105 (0, 0))) :
  Kd.R k105 105 W base (fun _ => True) (.slice (some ⟨g + 1 + 1 + 1 + 1, 0, none⟩) 3 3) objM := by
 have r1 := R_block k143 143 (base := base) (ok := fun k => True ∧ some k ≠ some (g + 1 + 1 + 1 + 1)) h1 (by omega) ⟨trivial, by simp⟩ (by decide) (reps_inst W base _ 38 0); have r2 := R_block k143 143 (base := base) (ok := fun k => True ∧ some k ≠ some (g + 1 + 1 + 1 + 1)) h2 (by omega) ⟨trivial, by simp⟩ (by decide) (reps_inst2 W base _ 1 7 36 0); have r3 := R_block k143 143 (base := base) (ok := fun k => True ∧ some k ≠ some (g + 1 + 1 + 1 + 1)) h3 (by omega) ⟨trivial, by simp⟩ (by decide) (reps_inst2 W base _ 4 0 37 0); refine R_block k105 105 (xs := objM) h4 (by omega) trivial (by decide) ?_
 exact (((Reps.none _ _).snoc (k105_mkM W base _ ⟨sInit, sV, 1, 1, 0, [inst 38 0]⟩ r1) rfl).snoc (k105_mkM W base _ ⟨sId, sI, 1, 1, 1, [inst 1 7, inst 36 0]⟩ r2) rfl).snoc (k105_mkM W base _ ⟨sKin, sLO, 4, 1, 1, [inst 4 0, inst 37 0]⟩ r3) rfl
theorem object_any (w : World) : Calls Tryz.prog 86 #[] w fun e w' => ∃ v5, e = .returned (.agg #[.string objC.f0, .string objC.f1, .slice none 0 0, .int .i64 objC.f3, .int .i64 objC.f4, v5]) ∧ Kd.R k105 105 w' w.heap.size (fun _ => True) v5 objC.f5 ∧ Below w.heap.size w w' := by
 go_enter Tryz.func86, Tryz.ntmps86; go_wp2; refine bodyPost_ret (results_cell_row rfl _ _ w.heap.size 85 _ (0, 0) _ rfl (five_new _ _ _ _ _ _).1 Tryz.underlying85 rfl (by kernel_rfl)) rfl ?_
 have F := five_new w (.cells #[.string sObject, .string ⟨#[]⟩, .slice none 0 0, .int .i64 33, .int .i64 0, .slice (some ⟨w.heap.size + 1 + 1 + 1 + 1, 0, none⟩) 3 3] 85) (.cells (instC 38 0).toArray 143) (.cells (instC 1 7 ++ instC 36 0).toArray 143) (.cells (instC 4 0 ++ instC 37 0).toArray 143)
  (.cells (methC w.heap.size).toArray 105)
 exact ⟨_, rfl, objR (Nat.le_refl _) F.2.1 F.2.2.1 F.2.2.2.1 F.2.2.2.2.1, F.2.2.2.2.2⟩
end Go.Proofs.YtaipkdglhfhhiaaGreatDoor.Hi

namespace Go.Proofs.YtaipkdglhfhhiaaGreatDoor.Hi
open Go Go.RowKit Go.Proofs.YtaipkdglhfhhiaaGreatDoorW.PrintWords Go.Proofs.YtaipkdglhfhhiaaGreatDoorW.PrintLast Go.Proofs.YtaipkdglhfhhiaaGreatDoorW.PrintMore Go.Proofs.YtaipkdglhfhhiaaGreatDoor.Pt
set_option linter.unusedVariables false
set_option linter.unusedSimpArgs false
set_option maxHeartbeats 2000000
set_option maxRecDepth 100000
def sCloneable : ByteArray := ⟨#[67, 108, 111, 110, 101, 97, 98, 108, 101]⟩
def sSerializable : ByteArray := ⟨#[83, 101, 114, 105, 97, 108, 105, 122, 97, 98, 108, 101]⟩
def ifaceC (s : ByteArray) : S85 := ⟨s, sObject, [], 1537, 0, []⟩
def newE : List Ent := [⟨objC, -1, 0, []⟩, ⟨ifaceC sCloneable, 0, 1, []⟩, ⟨ifaceC sSerializable, 0, 1, []⟩]
theorem WIn.start (w : World) : WIn ((w.alloc (.map #[] 0)).alloc (.cells #[.slice none 0 0, .map (some w.heap.size)] 133)) w.heap.size (w.heap.size + 1) (.slice none 0 0) w.heap.size [] [] := by
 have e0 : (w.alloc (.map #[] 0)).heap.size = w.heap.size + 1 := by simp
 refine ⟨Nat.le_succ _, ?_, Kd.R_nil _ _ _ _ _, rfl, fun j x p hx => by simp at hx, Nat.le_refl _, .map [], ?_, MapSays.nil⟩
 ·have := blk_new (w.alloc (.map #[] 0)) (.cells #[.slice none 0 0, .map (some w.heap.size)] 133)
  rwa [e0] at this
 ·exact (World.ownsMap_made w _ _ _).alloc _
theorem ne_size {a b : ByteArray} (h : a.size ≠ b.size) : a ≠ b := fun e => h (by rw [e])
theorem notIn1 : sCloneable ∉ ([putE [] objC (-1) []] : List Ent).map (·.c.f0) := by
 intro h
 exact ne_size (by decide) (List.mem_singleton.1 h)
theorem notIn2 : sSerializable ∉ ([putE [] objC (-1) [], putE [putE [] objC (-1) []] (ifaceC sCloneable) 0 []] : List Ent).map (·.c.f0) := by
 intro h
 rcases List.mem_cons.1 h with h | h
 ·exact ne_size (by decide) h
 ·exact ne_size (by decide) (List.mem_singleton.1 h)
theorem new_any (w : World) : Calls Tryz.prog 46 #[] w fun e w' => ∃ g v mb ps, e = .returned (.pointer (some ⟨g, 0, none⟩)) ∧ WIn w' w.heap.size g v mb ps newE ∧ Below w.heap.size w w' := by
 have hmm := @run_makeMap Tryz.prog; have S0 := Lib.hid (WIn.start w); have B0 : Hid (Below w.heap.size w ((w.alloc (.map #[] 0)).alloc (.cells #[.slice none 0 0, .map (some w.heap.size)] 133))) := Lib.hid (((Below.refl _ _).alloc (Nat.le_refl _) _).alloc (by simp) _); go_enter Tryz.func46, Tryz.ntmps46; go_wp2_with fail; refine (object_any _).mono ?_; rintro e w1 ⟨v5, rfl, R5, hb1⟩; obtain ⟨A5, c5, rfl⟩ := Kd.R_slice R5; have S1 := Lib.hid (S0.out.below hb1); have B1 := Lib.hid (B0.out.trans (hb1.mono B0.out.size)); have P1 := Lib.hid (put_any w1 w.heap.size (w.heap.size + 1) _ w.heap.size [] [] S1.out B1.out.size objC.f0 objC.f1 (.slice none 0 0) (.slice A5 objC.f5.length c5) [] objC.f3 objC.f4 objC.f5 (Kd.R_nil _ _ _ _ _) (Kd.R_lower R5 B0.out.size) (-1) (.inl rfl) none 0 [] (Kd.C_nil _ _) (fun i hi => by cases hi) (by decide) (fun x hx => by cases hx) (by decide) (by simp) (by decide)); clear S0 B0 R5 hb1; go_wp2_with fail; refine P1.out.mono ?_; rintro e w2 ⟨rfl, v2, p, S2, hb2, hk2⟩; have RB := Lib.hid (blk_new w2 (.cells #[.string sCloneable, .string sSerializable] 9)); have AB := (Below.refl w2.heap.size w2).alloc (Nat.le_refl _) (.cells #[.string sCloneable, .string sSerializable] 9); have S3 := Lib.hid (S2.below AB); have B2 := B1.out.trans hb2; have B3 := Lib.hid (B2.trans (AB.mono B2.size)); clear P1 S1 B1 S2 hb2 hk2 AB B2; go_wp2_with fail; change Code.wp _ _ _ _ (w2.alloc (.cells #[.string sCloneable, .string sSerializable] 9)); generalize w2.alloc (.cells #[.string sCloneable, .string sSerializable] 9) = w3 at *; have q0 : w3.cell? ⟨w2.heap.size, 0, none⟩ = some (.string sCloneable) := (blk_cell RB.out 0).trans rfl
 have P2 := Lib.hid (put_any w3 w.heap.size (w.heap.size + 1) _ w.heap.size _ _ S3.out B3.out.size sCloneable sObject (.slice none 0 0) (.slice none 0 0) [] 1537 0 [] (Kd.R_nil _ _ _ _ _) (Kd.R_nil _ _ _ _ _) 0 (.inr ⟨by omega, by decide⟩) none 0 [] (Kd.C_nil _ _) (fun i hi => by cases hi) (by decide) (fun x hx => by
  rw [List.mem_singleton.1 hx]
  exact ⟨Rng.nil _, by decide, by decide⟩) (by decide) notIn1 (by decide))
 clear S3; refine wp_loop_rounds 3 ?_; rw [rounds_succ]; go_wp2_with fail; refine P2.out.mono ?_; rintro e w4 ⟨rfl, v4, p4, S4, hb4, hk4⟩; have B4 := Lib.hid (B3.out.trans hb4); have RB4 := Lib.hid (hk4 _ _ _ RB.out (by decide) (by decide)); have q1 : w4.cell? ⟨w2.heap.size, 1, none⟩ = some (.string sSerializable) := (blk_cell RB4.out 1).trans rfl
 have P3 := Lib.hid (put_any w4 w.heap.size (w.heap.size + 1) _ w.heap.size _ _ S4 B4.out.size sSerializable sObject (.slice none 0 0) (.slice none 0 0) [] 1537 0 [] (Kd.R_nil _ _ _ _ _) (Kd.R_nil _ _ _ _ _) 0 (.inr ⟨by omega, by decide⟩) none 0 [] (Kd.C_nil _ _) (fun i hi => by cases hi) (by decide) (fun x hx => by
  rcases List.mem_cons.1 hx with rfl | hx
  ·exact ⟨Rng.nil _, by decide, by decide⟩
  ·rw [List.mem_singleton.1 hx]
   exact ⟨Rng.nil _, by decide, by decide⟩) (by decide) notIn2 (by decide))
 clear S4 hb4 hk4 P2 B3 RB RB4 q0; go_wp2_with fail; rw [rounds_succ]; go_wp2_with fail; refine P3.out.mono ?_; rintro e w5 ⟨rfl, v5, p5, S5, hb5, hk5⟩; have B5 := Lib.hid (B4.out.trans hb5); replace S5 := Lib.hid S5; clear hb5 hk5 P3 B4 q1; go_wp2_with fail; rw [rounds_succ]; go_wp2; go_ret
 exact ⟨_, _, _, _, rfl, S5.out, B5.out⟩
end Go.Proofs.YtaipkdglhfhhiaaGreatDoor.Hi

namespace Go.Proofs.YtaipkdglhfhhiaaGreatDoor.Pt
open Go Go.RowKit Go.Proofs.YtaipkdglhfhhiaaGreatDoor.Nm Go.Proofs.YtaipkdglhfhhiaaGreatDoor.Hi Go.Proofs.YtaipkdglhfhhiaaGreatDoorW.PrintWords Go.Proofs.YtaipkdglhfhhiaaGreatDoorW.PrintLast Go.Proofs.YtaipkdglhfhhiaaGreatDoorW.PrintMore
set_option linter.unusedVariables false
set_option linter.unusedSimpArgs false
theorem fine_new : ∀ x ∈ newE, Fine x := by
 intro x hx; simp only [newE, List.mem_cons, List.not_mem_nil, or_false] at hx
 rcases hx with rfl | rfl | rfl
 ·exact ⟨⟨by decide, by decide, by decide⟩, by decide, by decide⟩
 ·exact ⟨⟨by decide, by decide, by decide⟩, by decide, by decide⟩
 ·exact ⟨⟨by decide, by decide, by decide⟩, by decide, by decide⟩
theorem tree_new : Tree newE := by
 intro i x hx
 match i, hx with
 | 0, hx => simp [newE] at hx; subst hx; exact .inl ⟨rfl, rfl⟩
 | 1, hx => simp [newE] at hx; subst hx; exact .inr ⟨by decide, by decide, by decide⟩
 | 2, hx => simp [newE] at hx; subst hx; exact .inr ⟨by decide, by decide, by decide⟩
 | i + 3, hx => simp [newE] at hx
theorem _root_.Go.Proofs.YtaipkdglhfhhiaaGreatDoor.Pt.WOK.at_ {w w' : World} {m g : Nat} {es : List Ent} (hq : w.drewN m = w') (h : WOK w g es) : WOK w' g es := hq ▸ h.drewN m
theorem wok_new {w : World} {base g : Nat} {v : Value} {mb : Nat} {ps : List Nat} (h : WIn w base g v mb ps newE) : WOK w g newE := ⟨⟨_, _, _, _, h⟩, fine_new, tree_new, by decide⟩
end Go.Proofs.YtaipkdglhfhhiaaGreatDoor.Pt

namespace Go.Proofs.YtaipkdglhfhhiaaGreatDoor.Hi
open Go Go.RowKit Go.Proofs.YtaipkdglhfhhiaaGreatDoor.Nm Go.Proofs.YtaipkdglhfhhiaaGreatDoorW.PrintWords Go.Proofs.YtaipkdglhfhhiaaGreatDoorW.PrintLast Go.Proofs.YtaipkdglhfhhiaaGreatDoorW.PrintMore Go.Proofs.YtaipkdglhfhhiaaGreatDoor.Pt
set_option linter.unusedVariables false
set_option linter.unusedSimpArgs false
set_option maxRecDepth 100000
def stepF (es : List Ent) (c : S85) : List Ent := (defF (chkC c) es c).1
def builtF (l : List S85) : List Ent := l.foldl stepF newE
inductive Made : List Ent → Prop
 | new : Made newE
 | step (es : List Ent) (c : S85) : Made es → Made (stepF es c)
theorem made_fold (l : List S85) : ∀ es, Made es → Made (l.foldl stepF es) := by
 induction l with
 | nil => exact fun es h => h
 | cons c l ih => exact fun es h => ih _ (.step es c h)
theorem made_built (l : List S85) : Made (builtF l) := made_fold l _ .new
theorem sound_sizes {c : S85} (h : chkC c = 0) : c.f0.size ≤ 60 ∧ c.f1.size ≤ 60 ∧ c.f2.length ≤ 20 ∧ (∀ n ∈ c.f2, n.size ≤ 60) ∧ Short c.f5 := by
 obtain ⟨s0, s1, s2, s3, s4, s5⟩ := chk_sizes h
 exact ⟨s0, s1, s2, s3, by omega, fun x hx => by have := s5 x hx; omega⟩
structure Took (es : List Ent) (c : S85) (x : Ent) : Prop where
 sound : chkC c = 0
 len : es.length < 300
 fresh : c.f0 ∉ es.map (·.c.f0)
 sup : (aboveF es c c.f1 false).2 = 0
 ifs : ∀ n ∈ c.f2, (aboveF es c n true).2 = 0
 isx : x = putE es c (aboveF es c c.f1 false).1 (c.f2.map fun n => (aboveF es c n true).1)
theorem ifs_all (es : List Ent) (c : S85) : ∀ (l : List ByteArray), (ifsF es c l).1 = 0 → (∀ n ∈ l, (aboveF es c n true).2 = 0) ∧ (ifsF es c l).2 = l.map fun n => (aboveF es c n true).1
 | [], _ => ⟨fun n hn => (by cases hn), rfl⟩
 | m :: l, h => by
  unfold ifsF at h ⊢
  by_cases h0 : (aboveF es c m true).2 = 0
  ·rw [if_pos h0] at h ⊢
   obtain ⟨h1, h2⟩ := ifs_all es c l h; refine ⟨fun n hn => ?_, ?_⟩
   ·rcases List.mem_cons.1 hn with rfl | hn
    ·exact h0
    ·exact h1 n hn
   ·show _ :: (ifsF es c l).2 = _
    rw [h2]
    rfl
  ·rw [if_neg h0] at h
   exact absurd h h0
theorem stepF_cases (es : List Ent) (c : S85) : stepF es c = es ∨ ∃ x, stepF es c = es ++ [x] ∧ Took es c x := by
 unfold stepF defF
 by_cases h0 : chkC c = 0
 ·rw [if_neg (fun h => h h0)]
  by_cases h1 : es.length ≥ 300
  ·rw [if_pos h1]; exact .inl rfl
  ·rw [if_neg h1]
   by_cases h2 : (nameF es c.f0).2 = 0
   ·rw [if_pos h2]; exact .inl rfl
   ·rw [if_neg h2]
    by_cases h3 : (aboveF es c c.f1 false).2 = 0
    ·rw [if_neg (fun h => h h3)]
     by_cases h4 : (ifsF es c c.f2).1 = 0
     ·rw [if_neg (fun h => h h4)]
      obtain ⟨h5, h6⟩ := ifs_all es c c.f2 h4
      exact .inr ⟨_, rfl, h0, by omega, (nameF_not h2).2, h3, h5, by rw [h6]⟩
     ·rw [if_pos h4]; exact .inl rfl
    ·rw [if_pos h3]; exact .inl rfl
 ·rw [if_pos h0]; exact .inl rfl
theorem ent_old {es : List Ent} {x : Ent} {i : Int} (h0 : 0 ≤ i) (h1 : i < es.length) : ent (es ++ [x]) i = ent es i := by
 unfold ent; rw [List.getD_eq_getElem?_getD, List.getD_eq_getElem?_getD, List.getElem?_append_left (by omega)]
theorem rng_more {n m : Nat} {l : List Int} (h : Rng n l) (hm : n ≤ m) : Rng m l := ⟨h.1, fun x hx => by have := h.2 x hx; omega⟩
theorem Took.clo {es : List Ent} {c : S85} {x : Ent} (h : Took es c x) (hg : Good es) : Rng es.length x.clo := by
 have h1 := aboveF_in h.sup; have hm : ent es (aboveF es c c.f1 false).1 ∈ es := List.mem_of_getElem? (get_ent h1.1 h1.2.1); rw [h.isx]
 show Rng _ (closF es _ _)
 rw [if_pos h1.1]; refine Rng.clos (fun y hy => (hg.clo y hy).1) (hg.clo _ hm).1 (fun i hi => ?_) (Nat.le_refl _); obtain ⟨n, hn, rfl⟩ := List.mem_map.1 hi; have := aboveF_in (h.ifs n hn)
 exact ⟨this.1, this.2.1⟩
theorem good_new : Good newE := by
 refine ⟨fine_new, tree_new, fun x hx => ?_, by decide⟩; simp only [newE, List.mem_cons, List.not_mem_nil, or_false] at hx
 rcases hx with rfl | rfl | rfl
 all_goals exact ⟨Rng.nil _, by decide, by decide⟩
theorem good_took {es : List Ent} {c : S85} {x : Ent} (hg : Good es) (h : Took es c x) : Good (es ++ [x]) := by
 have h1 := aboveF_in h.sup; have hm : ent es (aboveF es c c.f1 false).1 ∈ es := List.mem_of_getElem? (get_ent h1.1 h1.2.1)
 have hl : (es ++ [x]).length = es.length + 1 := by simp
 have hc := h.clo hg; obtain ⟨s0, s1, s2, s3, s5⟩ := sound_sizes h.sound
 have hxc : x.c = c := by rw [h.isx]; rfl
 have hxa : x.above = (aboveF es c c.f1 false).1 := by rw [h.isx]; rfl
 have hxd : x.depth = (ent es (aboveF es c c.f1 false).1).depth + 1 := by
  rw [h.isx]
  exact if_pos h1.1
 have hlen := h.len; refine ⟨fun y hy => ?_, fun i y hi => ?_, fun y hy => ?_, by omega⟩
 ·rcases List.mem_append.1 hy with hy | hy
  ·exact hg.fine y hy
  ·rw [List.mem_singleton.1 hy]
   refine ⟨?_, ?_, ?_⟩
   ·rw [hxc]
    exact ⟨by omega, s5⟩
   ·rw [hxc]
    omega
   ·have := hc.len
    omega
 ·rcases Nat.lt_trichotomy i es.length with hi2 | hi2 | hi2
  ·rw [List.getElem?_append_left hi2] at hi
   rcases hg.tree i y hi with h2 | ⟨h2, h3, h4⟩
   ·exact .inl h2
   ·exact .inr ⟨h2, h3, by rw [ent_old h2 (by omega)]; exact h4⟩
  ·subst hi2
   rw [List.getElem?_append_right (Nat.le_refl _), Nat.sub_self] at hi
   cases hi
   refine .inr ⟨by rw [hxa]; exact h1.1, by rw [hxa]; exact h1.2.1, ?_⟩; rw [hxa, ent_old h1.1 h1.2.1]
   exact hxd
  ·rw [List.getElem?_eq_none (by omega)] at hi
   cases hi
 ·rcases List.mem_append.1 hy with hy | hy
  ·have := hg.clo y hy
   exact ⟨rng_more this.1 (by omega), this.2.1, by omega⟩
  ·rw [List.mem_singleton.1 hy]
   have h2 := hg.clo _ hm
   exact ⟨rng_more hc (by omega), by omega, by omega⟩
theorem good_step {es : List Ent} {c : S85} (hg : Good es) : Good (stepF es c) := by
 rcases stepF_cases es c with h | ⟨x, h, ht⟩
 ·rw [h]; exact hg
 ·rw [h]; exact good_took hg ht
theorem good_made {es : List Ent} (h : Made es) : Good es := by
 induction h with
 | new => exact good_new
 | step es c _ ih => exact good_step ih
end Go.Proofs.YtaipkdglhfhhiaaGreatDoor.Hi

namespace Go.Proofs.YtaipkdglhfhhiaaGreatDoor.Hi
open Go Go.RowKit Go.Proofs.YtaipkdglhfhhiaaGreatDoor.Nm Go.Proofs.YtaipkdglhfhhiaaGreatDoorW.PrintWords Go.Proofs.YtaipkdglhfhhiaaGreatDoorW.PrintLast Go.Proofs.YtaipkdglhfhhiaaGreatDoorW.PrintMore Go.Proofs.YtaipkdglhfhhiaaGreatDoor.Pt
set_option linter.unusedVariables false
set_option linter.unusedSimpArgs false
set_option maxRecDepth 100000
theorem mem_addI {l : List Int} {i k : Int} : k ∈ addI l i ↔ k ∈ l ∨ k = i := by
 unfold addI
 split
 ·rename_i h
  have h : i ∈ l := by simpa using h
  exact ⟨.inl, fun h2 => h2.elim id (fun e => e ▸ h)⟩
 ·simp
theorem mem_foldI {ks : List Int} {k : Int} : ∀ {l : List Int}, k ∈ foldI ks l ↔ k ∈ l ∨ k ∈ ks := by
 induction ks with
 | nil => intro l; simp [foldI]
 | cons a ks ih =>
  intro l
  show k ∈ foldI ks (addI l a) ↔ _
  rw [ih, mem_addI]; simp [or_assoc]
theorem mem_closF {es : List Ent} {ifs : List Int} {k : Int} : ∀ {acc : List Int}, k ∈ closF es acc ifs ↔ k ∈ acc ∨ ∃ i ∈ ifs, k = i ∨ k ∈ (ent es i).clo := by
 induction ifs with
 | nil => intro l; simp [closF]
 | cons a ifs ih =>
  intro l
  show k ∈ closF es (addI (foldI (ent es a).clo l) a) ifs ↔ _
  rw [ih, mem_addI, mem_foldI]
  constructor
  ·rintro (((h | h) | h) | ⟨i, hi, h⟩)
   ·exact .inl h
   ·exact .inr ⟨a, by simp, .inr h⟩
   ·exact .inr ⟨a, by simp, .inl h⟩
   ·exact .inr ⟨i, by simp [hi], h⟩
  ·rintro (h | ⟨i, hi, h⟩)
   ·exact .inl (.inl (.inl h))
   ·rcases List.mem_cons.1 hi with rfl | hi
    ·rcases h with h | h
     ·exact .inl (.inr h)
     ·exact .inl (.inl (.inr h))
    ·exact .inr ⟨i, hi, h⟩
theorem aboveF_fit {es : List Ent} {c : S85} {n : ByteArray} {want : Bool} (h : (aboveF es c n want).2 = 0) : isI (ent es (aboveF es c n want).1).c = want ∧ (want = false → isI c = true → (aboveF es c n want).1 = 0) ∧
  (Go.bits .and .i64 (ent es (aboveF es c n want).1).c.f3 1 ≠ 0 ∨ tog c (ent es (aboveF es c n want).1).c = true) := by
 have h0 := aboveF_in h; have h1 : aboveF es c n want = fitF (nameF es n).1 (ent es (nameF es n).1).c c want := if_pos h0.2.2.2; have h2 := h0.2.2.1; rw [h2]; rw [h1] at h; unfold fitF at h
 split at h
 ·cases h
 ·rename_i c1
  split at h
  ·cases h
  ·rename_i c2
   split at h
   ·cases h
   ·rename_i c3
    refine ⟨by simpa using c1, fun hw hi => ?_, ?_⟩
    ·subst hw
     rw [hi] at c2
     simpa using c2
    ·by_cases hp : Go.bits .and .i64 (ent es (nameF es n).1).c.f3 1 = 0
     ·right
      rw [hp] at c3
      simpa using c3
     ·exact .inl hp
structure Thy (es : List Ent) : Prop where
 good : Good es
 base : ∃ rest, es = newE ++ rest
 names : (es.map (·.c.f0)).Nodup
 sup : ∀ (i : Nat) (x : Ent), es[i]? = some x → 1 ≤ i → 0 ≤ x.above ∧ x.above < i ∧ isI (ent es x.above).c = false ∧ (isI x.c = true → x.above = 0)
 clo : ∀ (i : Nat) (x : Ent), es[i]? = some x → ∀ j ∈ x.clo, 0 ≤ j ∧ j < i ∧ isI (ent es j).c = true ∧ ∀ k ∈ (ent es j).clo, k ∈ x.clo
 up : ∀ (i : Nat) (x : Ent), es[i]? = some x → 1 ≤ i → ∀ k ∈ (ent es x.above).clo, k ∈ x.clo
 src : ∀ (i : Nat) (x : Ent), es[i]? = some x → 3 ≤ i → Took (es.take i) x.c x
theorem thy_new : Thy newE := by
 have h3 : ∀ (i : Nat) (x : Ent), newE[i]? = some x → (i = 0 ∧ x = ⟨objC, -1, 0, []⟩) ∨ (i = 1 ∧ x = ⟨ifaceC sCloneable, 0, 1, []⟩) ∨ (i = 2 ∧ x = ⟨ifaceC sSerializable, 0, 1, []⟩) := by
  intro i x hx
  match i, hx with
  | 0, hx => simp [newE] at hx; exact .inl ⟨rfl, hx.symm⟩
  | 1, hx => simp [newE] at hx; exact .inr (.inl ⟨rfl, hx.symm⟩)
  | 2, hx => simp [newE] at hx; exact .inr (.inr ⟨rfl, hx.symm⟩)
  | i + 3, hx => simp [newE] at hx
 refine ⟨good_new, ⟨[], by simp⟩, by decide, fun i x hx h1 => ?_, fun i x hx j hj => ?_, fun i x hx h1 k hk => ?_, fun i x hx h1 => ?_⟩
 ·rcases h3 i x hx with ⟨rfl, rfl⟩ | ⟨rfl, rfl⟩ | ⟨rfl, rfl⟩
  ·omega
  ·exact ⟨by decide, by decide, by decide, fun _ => rfl⟩
  ·exact ⟨by decide, by decide, by decide, fun _ => rfl⟩
 ·rcases h3 i x hx with ⟨rfl, rfl⟩ | ⟨rfl, rfl⟩ | ⟨rfl, rfl⟩ <;> cases hj
 ·rcases h3 i x hx with ⟨rfl, rfl⟩ | ⟨rfl, rfl⟩ | ⟨rfl, rfl⟩
  ·omega
  ·exact hk
  ·exact hk
 ·rcases h3 i x hx with ⟨rfl, rfl⟩ | ⟨rfl, rfl⟩ | ⟨rfl, rfl⟩ <;> omega
theorem get_last {es : List Ent} {x y : Ent} {i : Nat} (h : (es ++ [x])[i]? = some y) : (i < es.length ∧ es[i]? = some y) ∨ (i = es.length ∧ y = x) := by
 rcases Nat.lt_trichotomy i es.length with hi | hi | hi
 ·rw [List.getElem?_append_left hi] at h
  exact .inl ⟨hi, h⟩
 ·subst hi
  rw [List.getElem?_append_right (Nat.le_refl _), Nat.sub_self] at h
  cases h
  exact .inr ⟨rfl, rfl⟩
 ·rw [List.getElem?_eq_none (by simp; omega)] at h
  cases h
theorem len_base {es : List Ent} (h : ∃ rest, es = newE ++ rest) : 3 ≤ es.length := by
 obtain ⟨r, rfl⟩ := h; rw [List.length_append]
 show 3 ≤ 3 + _
 omega
theorem thy_took {es : List Ent} {c : S85} {x : Ent} (h : Thy es) (ht : Took es c x) : Thy (es ++ [x]) := by
  have h1 := aboveF_in ht.sup
  have f1 := aboveF_fit ht.sup
  have hxc : x.c = c := by rw [ht.isx]; rfl
  have hxa : x.above = (aboveF es c c.f1 false).1 := by rw [ht.isx]; rfl
  have hxk : x.clo = closF es (ent es x.above).clo (c.f2.map fun n => (aboveF es c n true).1) := by
    rw [hxa, ht.isx]
    show closF es _ _ = _
    rw [if_pos h1.1]
  generalize (aboveF es c c.f1 false).1 = sp at *
  have hl3 := len_base h.base
  have hsp := get_ent h1.1 h1.2.1
  -- what is in the new closure
  have hcl : ∀ j ∈ x.clo, 0 ≤ j ∧ j < es.length ∧ isI (ent es j).c = true ∧ ∀ k ∈ (ent es j).clo, k ∈ x.clo := by
    intro j hj
    rw [hxk] at hj ⊢
    rcases mem_closF.1 hj with hj | ⟨i, hi, hj⟩
    · rw [hxa] at hj
      obtain ⟨a1, a2, a3, a4⟩ := h.clo _ _ hsp j hj
      exact ⟨a1, by omega, a3, fun k hk => mem_closF.2 (.inl (by rw [hxa]; exact a4 k hk))⟩
    · obtain ⟨n, hn, rfl⟩ := List.mem_map.1 hi
      have hi2 := aboveF_in (ht.ifs n hn)
      have hf := (aboveF_fit (ht.ifs n hn)).1
      generalize (aboveF es c n true).1 = i at *
      rcases hj with rfl | hj
      · exact ⟨hi2.1, hi2.2.1, hf, fun k hk => mem_closF.2 (.inr ⟨_, hi, .inr hk⟩)⟩
      · obtain ⟨a1, a2, a3, a4⟩ := h.clo _ _ (get_ent hi2.1 hi2.2.1) j hj
        exact ⟨a1, by omega, a3, fun k hk => mem_closF.2 (.inr ⟨_, hi, .inr (a4 k hk)⟩)⟩
  refine ⟨good_took h.good ht, ?_, ?_, fun i y hy hi => ?_, fun i y hy j hj => ?_, fun i y hy hi k hk => ?_, fun i y hy hi => ?_⟩
  · obtain ⟨r, rfl⟩ := h.base
    exact ⟨r ++ [x], by rw [List.append_assoc]⟩
  · rw [List.map_append]
    refine List.nodup_append.2 ⟨h.names, by simp, fun a ha b hb => ?_⟩
    rw [List.map_cons, List.map_nil, List.mem_singleton, hxc] at hb
    rw [hb]
    rintro rfl
    exact ht.fresh ha
  · rcases get_last hy with ⟨hi2, hy⟩ | ⟨rfl, rfl⟩
    · obtain ⟨a1, a2, a3, a4⟩ := h.sup i y hy hi
      exact ⟨a1, a2, by rw [ent_old a1 (by omega)]; exact a3, a4⟩
    · rw [hxa]
      exact ⟨h1.1, h1.2.1, by rw [ent_old h1.1 h1.2.1]; exact f1.1, fun hi => f1.2.1 rfl (by rw [← hxc]; exact hi)⟩
  · rcases get_last hy with ⟨hi2, hy⟩ | ⟨rfl, rfl⟩
    · obtain ⟨a1, a2, a3, a4⟩ := h.clo i y hy j hj
      refine ⟨a1, a2, ?_⟩
      rw [ent_old a1 (by omega)]
      exact ⟨a3, a4⟩
    · obtain ⟨a1, a2, a3, a4⟩ := hcl j hj
      refine ⟨a1, a2, ?_⟩
      rw [ent_old a1 (by omega)]
      exact ⟨a3, a4⟩
  · rcases get_last hy with ⟨hi2, hy⟩ | ⟨rfl, rfl⟩
    · obtain ⟨a1, a2, _, _⟩ := h.sup i y hy hi
      rw [ent_old a1 (by omega)] at hk
      exact h.up i y hy hi k hk
    · rw [hxa, ent_old h1.1 h1.2.1] at hk
      rw [hxk]
      exact mem_closF.2 (.inl (by rw [hxa]; exact hk))
  · rcases get_last hy with ⟨hi2, hy⟩ | ⟨rfl, rfl⟩
    · rw [List.take_append_of_le_length (by omega)]
      exact h.src i y hy hi
    · rw [List.take_append_of_le_length (Nat.le_refl _), List.take_length, hxc]
      exact ht
theorem thy_made {es : List Ent} (h : Made es) : Thy es := by
 induction h with
 | new => exact thy_new
 | step es c _ ih =>
  rcases stepF_cases es c with h | ⟨x, h, ht⟩
  ·rw [h]; exact ih
  ·rw [h]; exact thy_took ih ht
inductive Anc (es : List Ent) : Int → Int → Prop
 | refl (a : Int) : Anc es a a
 | up (a b : Int) : 0 ≤ (ent es a).above → Anc es (ent es a).above b → Anc es a b
theorem Anc.trans {es : List Ent} {a b c : Int} (h : Anc es a b) (h2 : Anc es b c) : Anc es a c := by
 induction h with
 | refl => exact h2
 | up a b h0 _ ih => exact .up a c h0 (ih h2)
theorem Anc.le {es : List Ent} (ht : Tree es) {a b : Int} (h : Anc es a b) : 0 ≤ a → a < es.length → 0 ≤ b ∧ b ≤ a ∧ (ent es b).depth ≤ (ent es a).depth ∧ ((ent es b).depth = (ent es a).depth → b = a) := by
 induction h with
 | refl => exact fun h0 h1 => ⟨h0, Int.le_refl _, Int.le_refl _, fun _ => rfl⟩
 | up a b h0 _ ih =>
  intro h1 h2
  rcases ht.at_ h1 h2 with ⟨h3, _⟩ | ⟨h3, h4, h5⟩
  ·omega
  ·obtain ⟨i1, i2, i3, i4⟩ := ih h3 (by omega)
   exact ⟨i1, by omega, by omega, fun e => by omega⟩
theorem Thy.obj {es : List Ent} (h : Thy es) : ent es 0 = ⟨objC, -1, 0, []⟩ ∧ ent es 1 = ⟨ifaceC sCloneable, 0, 1, []⟩ ∧ ent es 2 = ⟨ifaceC sSerializable, 0, 1, []⟩ := by
 obtain ⟨r, rfl⟩ := h.base
 exact ⟨rfl, rfl, rfl⟩
end Go.Proofs.YtaipkdglhfhhiaaGreatDoor.Hi

namespace Go.Proofs.YtaipkdglhfhhiaaGreatDoor.Fl
open Go Go.RowKit
def band (f c : Int) : Int := bits .and .i64 f c
def bandn (f c : Int) : Int := bits .andNot .i64 f c
def inR (f : Int) : Prop := -9223372036854775808 ≤ f ∧ f ≤ 9223372036854775807
theorem wrap_toNat_zero (x : BitVec 64) (h : IntKind.i64.wrap (x.toNat : Int) = 0) : x = 0#64 := by
 rw [IntKind.wrap_i64] at h; have hx := x.isLt
 apply BitVec.eq_of_toNat_eq
 simp only [BitVec.toNat_ofNat]
 omega
theorem bandn_zero (f : Int) (hf : inR f) (c : Nat) (hc : c < 2048) (h : bandn f c = 0) : 0 ≤ f ∧ f ≤ c := by
 have h1 := wrap_toNat_zero (BitVec.ofInt 64 f &&& ~~~ BitVec.ofInt 64 (c : Int)) h
 have h2 : BitVec.ofInt 64 f = BitVec.ofInt 64 f &&& BitVec.ofInt 64 (c : Int) := by
  apply BitVec.eq_of_getLsbD_eq
  intro i hi; have := congrArg (fun b => b.getLsbD i) h1; simp only [BitVec.getLsbD_and, BitVec.getLsbD_not, BitVec.getLsbD_zero, hi, decide_true, Bool.true_and] at this ⊢
  revert this
  cases (BitVec.ofInt 64 f).getLsbD i <;> cases (BitVec.ofInt 64 (c : Int)).getLsbD i <;> simp
 have h3 : (BitVec.ofInt 64 f).toNat ≤ c := by
  rw [h2, BitVec.toNat_and]; refine Nat.le_trans Nat.and_le_right ?_; rw [BitVec.ofInt_natCast, BitVec.toNat_ofNat]
  exact Nat.mod_le _ _
 have h4 := congrArg Int.toNat (BitVec.toInt_ofInt (n := 64) (i := f)); rw [BitVec.toNat_ofInt] at h3; unfold inR at hf
 omega
def checkClass (f : Int) : Int :=
 if bandn f 1585 ≠ 0 ∨ band f 1040 = 1040 then 1
 else if band f 512 = 512 ∧ (band f 1024 ≠ 1024 ∨ band f 48 ≠ 0) then 1 else 0
def checkMethod (f : Int) (b i : Bool) : Int :=
 if bandn f 1055 ≠ 0 ∨ band (band f 7) (wrap64 (band f 7 - 1)) ≠ 0 then 1
 else if band f 1024 = 1024 ∧ band f 26 ≠ 0 then 1
 else if b = true ∧ (band (band f 7) 3 = 0 ∨ band f 16 ≠ 0 ∨ i = true) then 1
 else if i = true ∧ band f 1048 ≠ 0 then 1 else 0
def opens (f : Int) : Int := if band f 1 ≠ 0 then 1 else if band f 4 ≠ 0 then 4 else if band f 2 ≠ 0 then 2 else 0
def known (f : Int) (l : List Int) : Int := l.foldl (fun n x => if band f x = 0 then n else n + x) 0
def classFlags : List Int := [1, 16, 32, 512, 1024]
def methodFlags : List Int := [1, 2, 4, 8, 16, 1024]
def rcheckClass (f : Int) : Int :=
 if known f classFlags ≠ f then 1
 else if band f 512 ≠ 0 ∧ (band f 1024 = 0 ∨ band f 16 ≠ 0 ∨ band f 32 ≠ 0) then 1
 else if band f 16 ≠ 0 ∧ band f 1024 ≠ 0 then 1 else 0
def one (f c : Int) : Int := if band f c = 0 then 0 else 1
def rcheckMethod (f : Int) (b i : Bool) : Int :=
 if known f methodFlags ≠ f then 1
 else if one f 1 + one f 2 + one f 4 > 1 then 1
 else if band f 1024 ≠ 0 ∧ (band f 2 ≠ 0 ∨ band f 8 ≠ 0 ∨ band f 16 ≠ 0) then 1
 else if b = true ∧ (band f 4 ≠ 0 ∨ band f 16 ≠ 0 ∨ one f 1 + one f 2 + one f 4 = 0 ∨ i = true) then 1
 else if i = true ∧ (band f 8 ≠ 0 ∨ band f 16 ≠ 0 ∨ band f 1024 ≠ 0) then 1 else 0
theorem known_range (f : Int) (l : List Int) (hl : ∀ x ∈ l, 0 ≤ x) : 0 ≤ known f l ∧ known f l ≤ l.foldl (· + ·) 0 := by
 have key : ∀ (l : List Int) (a b : Int), (∀ x ∈ l, 0 ≤ x) → 0 ≤ a → a ≤ b →
   0 ≤ l.foldl (fun n x => if band f x = 0 then n else n + x) a ∧ l.foldl (fun n x => if band f x = 0 then n else n + x) a ≤ l.foldl (· + ·) b := by
  intro l
  induction l with
  | nil => intro a b _ h0 h1; exact ⟨h0, h1⟩
  | cons x l ih =>
   intro a b hx h0 h1; have hx0 := hx x (by simp); simp only [List.foldl_cons]; refine ih _ _ (fun y hy => hx y (by simp [hy])) ?_ ?_ <;> split <;> omega
 exact key l 0 0 hl (Int.le_refl _) (Int.le_refl _)
def tab (p : Int → Bool) : Bool := (List.range 2048).all fun n => p (n : Int)
theorem of_tab {p : Int → Bool} (h : tab p = true) (f : Int) (h0 : 0 ≤ f) (h1 : f < 2048) : p f = true := by
 obtain ⟨n, rfl⟩ := Int.eq_ofNat_of_zero_le h0
 exact List.all_eq_true.1 h n (by simp; omega)
theorem class_tab : tab (fun f => decide (checkClass f = rcheckClass f)) = true := by decide +kernel
theorem method_tab : tab (fun f => [true, false].all fun b => [true, false].all fun i => decide (checkMethod f b i = rcheckMethod f b i)) = true := by decide +kernel
theorem known_tab : tab (fun f => decide ((known f classFlags = f ↔ bandn f 1585 = 0) ∧ (known f methodFlags = f ↔ bandn f 1055 = 0))) = true := by decide +kernel
theorem known_class (f : Int) (hf : inR f) : known f classFlags = f ↔ bandn f 1585 = 0 := by
 have hr := known_range f classFlags (by decide)
 by_cases hin : 0 ≤ f ∧ f < 2048
 ·exact (of_decide_eq_true (of_tab known_tab f hin.1 hin.2)).1
 ·constructor
  ·intro h; rw [h] at hr; exact absurd ⟨hr.1, Int.lt_of_le_of_lt hr.2 (by decide)⟩ hin
  ·intro h; have := bandn_zero f hf 1585 (by decide) h; omega
theorem known_method (f : Int) (hf : inR f) : known f methodFlags = f ↔ bandn f 1055 = 0 := by
 have hr := known_range f methodFlags (by decide)
 by_cases hin : 0 ≤ f ∧ f < 2048
 ·exact (of_decide_eq_true (of_tab known_tab f hin.1 hin.2)).2
 ·constructor
  ·intro h; rw [h] at hr; exact absurd ⟨hr.1, Int.lt_of_le_of_lt hr.2 (by decide)⟩ hin
  ·intro h; have := bandn_zero f hf 1055 (by decide) h; omega
theorem checkClass_eq (f : Int) (hf : inR f) : checkClass f = rcheckClass f := by
 by_cases hin : 0 ≤ f ∧ f < 2048
 ·exact of_decide_eq_true (of_tab class_tab f hin.1 hin.2)
 ·have h1 : bandn f 1585 ≠ 0 := fun h => by have := bandn_zero f hf 1585 (by decide) h; omega
  have h2 : known f classFlags ≠ f := fun h => h1 ((known_class f hf).1 h); simp [checkClass, rcheckClass, h1, h2]
theorem checkMethod_eq (f : Int) (hf : inR f) (b i : Bool) : checkMethod f b i = rcheckMethod f b i := by
 by_cases hin : 0 ≤ f ∧ f < 2048
 ·have := of_tab method_tab f hin.1 hin.2
  simp only [List.all_cons, List.all_nil, Bool.and_true, Bool.and_eq_true, decide_eq_true_eq] at this; obtain ⟨⟨h1, h2⟩, h3, h4⟩ := this
  cases b <;> cases i <;> assumption
 ·have h1 : bandn f 1055 ≠ 0 := fun h => by have := bandn_zero f hf 1055 (by decide) h; omega
  have h2 : known f methodFlags ≠ f := fun h => h1 ((known_method f hf).1 h); simp [checkMethod, rcheckMethod, h1, h2]
end Go.Proofs.YtaipkdglhfhhiaaGreatDoor.Fl

namespace Go.Proofs.YtaipkdglhfhhiaaGreatDoor.Fl
open Go Go.RowKit
set_option maxHeartbeats 400000
theorem has_any (f c : Int) (w : World) :
  Calls Tryz.prog 53 #[.int .i64 f, .int .i64 c] w fun e w' => e = .returned (.bool (band f c != 0)) ∧ w' = w := by
 go_enter Tryz.func53, Tryz.ntmps53; go_wp2; go_ret
 exact ⟨rfl, rfl⟩
def intsV (l : List Int) : Array Value := (l.map (Value.int .i64)).toArray
theorem classFlags_any (w : World) : Calls Tryz.prog 138 #[] w fun e w' => e = .returned (.slice (some ⟨w.heap.size, 0, none⟩) 5 5) ∧ w' = w.alloc (.cells (intsV classFlags) 3) := by
 go_enter Tryz.func138, Tryz.ntmps138; go_wp2; go_ret
 exact ⟨rfl, rfl⟩
theorem methodFlags_any (w : World) : Calls Tryz.prog 157 #[] w fun e w' => e = .returned (.slice (some ⟨w.heap.size, 0, none⟩) 6 6) ∧ w' = w.alloc (.cells (intsV methodFlags) 3) := by
 go_enter Tryz.func157, Tryz.ntmps157; go_wp2; go_ret
 exact ⟨rfl, rfl⟩
def small (l : List Int) : Prop := l.length ≤ 10 ∧ ∀ j, 0 ≤ l.getD j 0 ∧ l.getD j 0 ≤ 2000
theorem known_snoc (f : Int) (l : List Int) (k : Nat) (h : k < l.length) : known f (l.take (k + 1)) = if band f (l.getD k 0) = 0 then known f (l.take k) else known f (l.take k) + l.getD k 0 := by
 unfold known; rw [List.take_succ_eq_append_getElem h, List.foldl_append, List.getD_eq_getElem?_getD, List.getElem?_eq_getElem h]; simp only [List.foldl_cons, List.foldl_nil, Option.getD_some]
theorem known_bd (f : Int) (l : List Int) (hl : small l) (k : Nat) : k ≤ l.length → 0 ≤ known f (l.take k) ∧ known f (l.take k) ≤ 2000 * k := by
 induction k with
 | zero => intro _; simp [known]
 | succ k ih =>
  intro hk; have h1 := ih (by omega); have h2 := hl.2 k; rw [known_snoc f l k (by omega)]
  split <;> omega
theorem known_any (f : Int) (l : List Int) (hl : small l) (b c : Nat) (w : World) (hc : ∀ j, j < l.length → w.cell? ⟨b, j, none⟩ = some (.int .i64 (l.getD j 0))) :
  Calls Tryz.prog 137 #[.int .i64 f, .slice (some ⟨b, 0, none⟩) l.length c] w fun e w' => e = .returned (.int .i64 (known f l)) ∧ w' = w := by
 have hlen := hl.1; go_enter Tryz.func137, Tryz.ntmps137; go_wp2
 go_loop [5, 6] (fun n i => ∃ k : Nat, k ≤ l.length ∧ i = .int .i64 k ∧ n = .int .i64 (known f (l.take k))) (fun _ i => l.length - (intOf i).toNat)
 case atStart => exact ⟨0, Nat.zero_le _, rfl, rfl⟩
 case round =>
  obtain ⟨k, hk, rfl, rfl⟩ := hrel; have hb := known_bd f l hl k hk; have hx := hl.2 k
  by_cases hlt : k < l.length
  ·have hck := hc k hlt
   have hsn := known_snoc f l k hlt; clear hc hl; generalize l.getD k 0 = x at *; replace hsn := Lib.hid hsn; go_wp2_with (go_at_call 53; refine (has_any _ _ _).mono ?_; rintro e w' ⟨rfl, rfl⟩)
   ·go_round
    case rel => exact ⟨k + 1, by omega, by go_num, by rw [hsn.out, if_neg (by simpa using ‹(band f x != 0) = true›)]⟩
    case measure => simp [intOf]; omega
   ·go_round
    case rel => exact ⟨k + 1, by omega, by go_num, by rw [hsn.out, if_pos (by simpa using ‹(band f x != 0) = false›)]⟩
    case measure => simp [intOf]; omega
  ·go_wp2
   go_ret
   exact ⟨ret_int (by rw [List.take_of_length_le (by omega)]), rfl⟩
theorem known_new (l : List Int) (w : World) (t : TypeId) : ∀ j, j < l.length → (w.alloc (.cells (intsV l) t)).cell? ⟨w.heap.size, j, none⟩ = some (.int .i64 (l.getD j 0)) := by
 intro j hj; rw [cell_new]; simp [intsV, List.getElem?_eq_getElem hj, List.getD_eq_getElem?_getD]
theorem small_class : small classFlags := ⟨by decide, fun j => by
 rcases j with _ | _ | _ | _ | _ | j <;> simp [classFlags]⟩
theorem small_method : small methodFlags := ⟨by decide, fun j => by
 rcases j with _ | _ | _ | _ | _ | _ | j <;> simp [methodFlags]⟩
theorem rcheckClass_any (f : Int) (w : World) :
  Calls Tryz.prog 117 #[.int .i64 f] w fun e w' => e = .returned (.int .i64 (rcheckClass f)) ∧ Below w.heap.size w w' := by
 have kn := known_any f classFlags small_class w.heap.size 5 (w.alloc (.cells (intsV classFlags) 3)) (known_new classFlags w 3); have kn := Lib.hid kn; go_enter Tryz.func117, Tryz.ntmps117
 go_wp2_with (first
  | (go_at_call 138; refine (classFlags_any _).mono ?_; rintro e w' ⟨rfl, rfl⟩)
  | (go_at_call 137; refine kn.out.mono ?_; rintro e w' ⟨rfl, rfl⟩)
  | (go_at_call 53; refine (has_any _ _ _).mono ?_; rintro e w' ⟨rfl, rfl⟩))
 all_goals
  go_ret; refine ⟨ret_int ?_, (Below.refl _ _).alloc (Nat.le_refl _) _⟩
  simp_all [rcheckClass]
theorem one_bd (f c : Int) : 0 ≤ one f c ∧ one f c ≤ 1 := by unfold one; split <;> omega
theorem rcheckMethod_any (f : Int) (b : Bool) (s : ByteArray) (w : World) :
  Calls Tryz.prog 140 #[.int .i64 f, .bool b, .string s] w fun e w' => e = .returned (.int .i64 (rcheckMethod f b (s.toList == [60, 105, 110, 105, 116, 62]))) ∧ Below w.heap.size w w' := by
 have kn := known_any f methodFlags small_method w.heap.size 6 (w.alloc (.cells (intsV methodFlags) 3)) (known_new methodFlags w 3); have kn := Lib.hid kn; have b1 := one_bd f 1; have b2 := one_bd f 2; have b4 := one_bd f 4; go_enter Tryz.func140, Tryz.ntmps140
 go_upto_if 14 with (first
  | (go_at_call 157; refine (methodFlags_any _).mono ?_; rintro e w' ⟨rfl, rfl⟩)
  | (go_at_call 137; refine kn.out.mono ?_; rintro e w' ⟨rfl, rfl⟩)
  | (go_at_call 53; refine (has_any _ _ _).mono ?_; rintro e w' ⟨rfl, rfl⟩))
 ·go_ret
  refine ⟨ret_int ?_, (Below.refl _ _).alloc (Nat.le_refl _) _⟩
  simp_all [rcheckMethod]
 go_cut [7] (fun v7 wc => v7 = .int .i64 (one f 1) ∧ Below w.heap.size w wc)
 case first =>
  go_wp2
  all_goals
   go_meet
   case rel => exact ⟨by simp_all [one], (Below.refl _ _).alloc (Nat.le_refl _) _⟩
 case rest =>
  obtain ⟨rfl, hb⟩ := hcut; replace hb := Lib.hid hb
  go_upto_if 18 with (go_at_call 53; refine (has_any _ _ _).mono ?_; rintro e w' ⟨rfl, rfl⟩)
  go_cut [7] (fun v7 wc => v7 = .int .i64 (one f 1 + one f 2) ∧ Below w.heap.size w wc)
  case first =>
   go_wp2
   all_goals
    go_meet
    case rel => exact ⟨by simp_all [one], hb.out⟩
  case rest =>
   clear hb; obtain ⟨rfl, hb⟩ := hcut; replace hb := Lib.hid hb
   go_upto_if 22 with (go_at_call 53; refine (has_any _ _ _).mono ?_; rintro e w' ⟨rfl, rfl⟩)
   go_cut [7] (fun v7 wc => v7 = .int .i64 (one f 1 + one f 2 + one f 4) ∧ Below w.heap.size w wc)
   case first =>
    go_wp2
    all_goals
     go_meet
     case rel => exact ⟨by simp_all [one], hb.out⟩
   case rest =>
    clear hb; obtain ⟨rfl, hb⟩ := hcut; replace hb := Lib.hid hb; go_wp2_with (go_at_call 53; refine (has_any _ _ _).mono ?_; rintro e w' ⟨rfl, rfl⟩)
    all_goals
     go_ret; refine ⟨ret_int ?_, hb.out⟩; clear hb; unfold rcheckMethod; generalize one f 1 + one f 2 + one f 4 = n at *
     simp_all
end Go.Proofs.YtaipkdglhfhhiaaGreatDoor.Fl

namespace Go.Proofs.YtaipkdglhfhhiaaGreatDoor.Nm
open Go Go.RowKit
set_option linter.unusedVariables false
set_option linter.unusedSimpArgs false
set_option maxHeartbeats 400000
set_option maxRecDepth 10000
theorem letB_digit (n : Int) : letB n false = (letB n true || decide (48 ≤ n ∧ n ≤ 57)) := by simp [letB]
theorem letB_true (n : Int) : letB n true = true ↔ ((97 ≤ n ∧ n ≤ 122) ∨ (65 ≤ n ∧ n ≤ 90) ∨ n = 95 ∨ n = 36) := by simp [letB, or_assoc]
theorem letB_any (n : Int) (b : Bool) (h : letB n true = true) : letB n b = true := by cases b <;> simp_all [letB]
theorem letB_digit' (n : Int) (h : ¬ letB n true = true) (h2 : n < 48 ∨ 57 < n) : letB n false = false := by
 have h := eq_false_of_ne_true h; rw [letB_digit, h]; simp
 omega
theorem isEmpty_size (s : ByteArray) : s.toList.isEmpty = decide (s.size = 0) := by
 rw [ByteArray.toList_eq, Bool.eq_iff_iff]; simp only [List.isEmpty_iff, decide_eq_true_eq]; rw [← List.length_eq_zero_iff, Array.length_toList]
 exact Iff.rfl
theorem rletter_any (n : Int) (h0 : 0 ≤ n) (h1 : n ≤ 255) (w : World) : Calls Tryz.prog 156 #[.int .u8 n] w fun e w' => e = .returned (.bool (letB n true)) ∧ w' = w := by
 go_enter Tryz.func156, Tryz.ntmps156; go_wp2
 all_goals
  go_ret; refine ⟨ret_bool ?_, rfl⟩; rw [Bool.eq_iff_iff, letB_true]
  simp_all
 all_goals omega
theorem rpart_any (s : ByteArray) (hs : s.size ≤ 4611686018427387904) (w : World) : Calls Tryz.prog 136 #[.string s] w fun e w' => e = .returned (.bool (partB s)) ∧ w' = w := by
 go_enter Tryz.func136, Tryz.ntmps136; go_wp2
 go_loop [3] (fun i => ∃ k : Nat, k ≤ s.size ∧ i = .int .i64 k ∧ lets s k = true) (fun i => s.size - (intOf i).toNat)
 case atStart => exact ⟨0, Nat.zero_le _, rfl, rfl⟩
 case round =>
  obtain ⟨k, hk, rfl, hl⟩ := hrel; replace hl := Lib.hid hl
  by_cases hlt : k < s.size
  ·have hb := bt_at s k hlt
   have hr := bt_range s k; have hsn := lets_succ s k; generalize hbk : bt s k = n at *; replace hbk := Lib.hid hbk; replace hsn := Lib.hid hsn
   have hno : ∀ b : Bool, b = ((k : Int) == 0) → letB n b = false → partB s = false := fun b e h => by rw [partB, lets_false s k s.size hlt (by rw [hbk.out, ← e]; exact h)]; rfl
   replace hno := Lib.hid hno; go_wp2_with (go_at_call 156; refine (rletter_any _ (by omega) (by omega) _).mono ?_; rintro e w1 ⟨rfl, rfl⟩)
   ·have hL : letB n true = true := by assumption
    go_round
    case rel => exact ⟨k + 1, by omega, by go_num, by rw [hsn.out, hl.out, letB_any n _ hL]; rfl⟩
    case measure => simp [intOf]; omega
   ·have hL : ¬ letB n true = true := by assumption
    have hk0 : k = 0 := by assumption
    go_ret
    exact ⟨ret_bool (hno.out true (by rw [hk0]; rfl) (eq_false_of_ne_true hL)).symm, rfl⟩
   ·have hL : ¬ letB n true = true := by assumption
    have hk0 : ¬ k = 0 := by assumption
    have hd : ((((k : Int) == 0) = true ∨ n < 48) ∨ 57 < n) := by assumption
    have hk1 : ((k : Int) == 0) = false := beq_eq_false_iff_ne.2 (by omega); rw [hk1] at hd; go_ret
    exact ⟨ret_bool (hno.out false hk1.symm (letB_digit' n hL (by simp at hd; omega))).symm, rfl⟩
   ·have hk0 : ¬ k = 0 := by assumption
    have hd : ((((k : Int) == 0) = false ∧ 48 ≤ n) ∧ n ≤ 57) := by assumption
    go_round
    case rel => exact ⟨k + 1, by omega, by go_num, by rw [hsn.out, hl.out, hd.1.1, letB_digit]; simp; omega⟩
    case measure => simp [intOf]; omega
   ·have hL : ¬ letB n true = true := by assumption
    have hk0 : ¬ k = 0 := by assumption
    have hk1 : ((k : Int) == 0) = false := beq_eq_false_iff_ne.2 (by omega)
    have hd : n < 48 := by assumption
    go_ret
    exact ⟨ret_bool (hno.out false hk1.symm (letB_digit' n hL (by omega))).symm, rfl⟩
  ·obtain rfl : k = s.size := by omega
   go_wp2; go_ret
   exact ⟨ret_bool (by rw [partB, hl.out, isEmpty_size, Bool.eq_iff_iff]; simp only [decide_eq_true_eq, Bool.true_and, Bool.not_eq_true', decide_eq_false_iff_not]; omega), rfl⟩
theorem strsT : (Tryz.prog.info? 9).map (fun i => (i.zero, i.size, i.bytes)) = some (some (.string ⟨#[]⟩), 1, 16) := by kernel_rfl
def strL (l : List ByteArray) : List Value := l.map Value.string
theorem strL_snoc (l : List ByteArray) (x : ByteArray) : strL (l ++ [x]) = strL l ++ [.string x] := by simp [strL]
theorem RdS_own {w : World} {base g cap n : Nat} {e : TypeId} {l : List ByteArray} (h : w.ownsRow base e 1 (.slice (some ⟨g, 0, none⟩) n cap) n (strL l)) : RdS w g 0 l := by
 intro j x hx; rw [Nat.zero_add]
 exact own_cell h j _ (by simp [strL, hx])
theorem rparts_any (s : ByteArray) (hs : s.size ≤ 4294967296) (w : World) : Calls Tryz.prog 135 #[.string s] w fun e w' =>
  (∃ g cap, e = .returned (.slice (some ⟨g, 0, none⟩) (partsB s).length cap) ∧ w'.ownsRow w.heap.size 9 1 (.slice (some ⟨g, 0, none⟩) (partsB s).length cap) (partsB s).length (strL (partsB s))) ∧ Below w.heap.size w w' := by
 go_enter Tryz.func135, Tryz.ntmps135; go_wp2
 go_loopw [3, 4, 5] (fun v fr i wr => ∃ k : Nat, k ≤ s.size ∧ i = .int .i64 k ∧ fr = .int .i64 (rparts s k).2 ∧ wr.ownsRow w.heap.size 9 1 v (rparts s k).1.length (strL (rparts s k).1) ∧ Below w.heap.size w wr) (fun _ _ i _ => s.size - (intOf i).toNat)
 case atStart => exact ⟨0, Nat.zero_le _, rfl, rfl, World.ownsRow_nil _ _ _ _, Below.refl _ _⟩
 case round =>
  obtain ⟨k, hk, rfl, rfl, hown, hB⟩ := hrel; have HO := Lib.hid hown; have HB := Lib.hid hB; have hsz := hB.size; have hle := rparts_le s k; clear hown hB
  by_cases hlt : k < s.size
  ·have hb := bt_at s k hlt
   have hsn := rparts_succ s k; generalize hbk : bt s k = n at *; generalize hrk : rparts s k = lk at *; obtain ⟨l, f⟩ := lk; simp only at hle HO; replace hsn := Lib.hid hsn; clear hbk hrk
   have hfk : (f : Int) ≤ (k : Int) := by omega
   have hks : (k : Int) ≤ (s.size : Int) := by omega
   go_wp2_with (at_builtin; go_loud (refine append1 w.heap.size rfl _ _ _ 9 (.string ⟨#[]⟩) 1 16 rfl Tryz.underlying82 strsT rfl (by decide) _ _ _ [.string (s.extract f k)] rfl _ (by simp) rfl rfl (by simp [Value.oneCell']) (by exact HO.out) (by omega) (by omega) (by omega) ?_); intro v1 w1 hown1 hg1)
   ·have hn : n = 47 := by simp_all
    have hown2 : w1.ownsRow w.heap.size 9 1 v1 (l ++ [s.extract f k]).length (strL (l ++ [s.extract f k])) := by rw [strL_snoc]; simpa using hown1
    go_roundw
    case rel => exact ⟨k + 1, by omega, by go_num, by rw [hsn.out, if_pos hn]; go_num, by rw [hsn.out, if_pos hn]; exact hown2, HB.out.grown hg1 (by omega) (own_base HO.out)⟩
    case measure => simp [intOf]; omega
   ·have hn : ¬ n = 47 := by simp_all
    go_roundw
    case rel => exact ⟨k + 1, by omega, by go_num, by rw [hsn.out, if_neg hn], by rw [hsn.out, if_neg hn]; exact HO.out, HB.out⟩
    case measure => simp [intOf]; omega
  ·obtain rfl : k = s.size := by omega
   have hall := rparts_all s; generalize hrk : rparts s s.size = lk at *; obtain ⟨l, f⟩ := lk; simp only at hle HO hall
   have hf : (f : Int) ≤ (s.size : Int) := by omega
   replace hall := Lib.hid hall; clear hrk; go_wp2_with (at_builtin; go_loud (refine append1 w.heap.size rfl _ _ _ 9 (.string ⟨#[]⟩) 1 16 rfl Tryz.underlying82 strsT rfl (by decide) _ _ _ [.string (s.extract f s.size)] rfl _ (by simp) rfl rfl (by simp [Value.oneCell']) (by exact HO.out) (by omega) (by omega) (by omega) ?_); intro v1 w1 hown1 hg1)
   have hown2 : w1.ownsRow w.heap.size 9 1 v1 (l ++ [s.extract f s.size]).length (strL (l ++ [s.extract f s.size])) := by rw [strL_snoc]; simpa using hown1
   rw [hall.out] at hown2; obtain ⟨g, cap, rfl, _, _⟩ := hown2.form (by rw [partsB_len]; omega); go_ret
   exact ⟨⟨g, cap, rfl, hown2⟩, HB.out.grown hg1 (by omega) (own_base HO.out)⟩
theorem rvalid_any (s : ByteArray) (w : World) : Calls Tryz.prog 116 #[.string s] w fun e w' => e = .returned (.bool (validB s)) ∧ Below w.heap.size w w' := by
 by_cases h60 : s.size ≤ 60
 ·have P := Lib.hid (rparts_any s (by omega) w)
  have hle := partsB_le s
  have hxs : Hid (∀ x ∈ partsB s, x.size ≤ 4611686018427387904) := fun x hx => by have := partsB_size s x hx; omega
  have hfin : Hid (validB s = (partsB s).all partB) := by show _ = _; simp [validB, h60]
  generalize partsB s = l at *; go_enter Tryz.func116, Tryz.ntmps116; go_wp2_with (go_at_call 135; refine P.out.mono ?_; rintro e w1 ⟨⟨g, cap, rfl, hown⟩, hbl⟩; have hr := Lib.hid (RdS_own hown); clear hown; replace hbl := Lib.hid hbl)
  go_loop [4] (fun i => ∃ k : Nat, k ≤ l.length ∧ i = .int .i64 k ∧ Hid (∀ j, j < k → ∀ x, l[j]? = some x → partB x = true)) (fun i => l.length - (intOf i).toNat)
  case atStart => exact ⟨0, Nat.zero_le _, rfl, fun j hj => absurd hj (by omega)⟩
  case round =>
   obtain ⟨k, hk, rfl, hp⟩ := hrel
   by_cases hlt : k < l.length
   ·obtain ⟨x, hx⟩ : ∃ x, l[k]? = some x := ⟨_, List.getElem?_eq_getElem hlt⟩
    have hcell := hr.out k x hx; rw [Nat.zero_add] at hcell; have V := Lib.hid (rpart_any x (hxs.out x (List.mem_of_getElem? hx)) w1); replace hx := Lib.hid hx; go_wp2_with (go_at_call 136; refine V.out.mono ?_; rintro e w2 ⟨rfl, rfl⟩)
    ·have hf : partB x = false := by simp_all
     go_ret
     exact ⟨ret_bool (by rw [hfin.out, bad_at l k x hx.out hf]), hbl.out⟩
    ·have hf : partB x = true := by simp_all
     go_round
     case rel => exact ⟨k + 1, by omega, by go_num, fun j hj y hy => by
      by_cases e : j = k
      ·subst e
       rw [hx.out] at hy
       cases hy
       exact hf
      ·exact hp.out j (by omega) y hy⟩
     case measure => simp [intOf]; omega
   ·go_wp2
    go_ret
    exact ⟨ret_bool (by rw [hfin.out, badFrom_all l k hp.out (by omega)]), hbl.out⟩
 ·have hfin : Hid (validB s = false) := by show _ = _; simp [validB, h60]
  go_enter Tryz.func116, Tryz.ntmps116; go_wp2_with fail; go_ret
  exact ⟨ret_bool hfin.out.symm, Below.refl _ _⟩
theorem rmember_any (s : ByteArray) (w : World) : Calls Tryz.prog 139 #[.string s] w fun e w' => e = .returned (.bool (memberB s)) ∧ w' = w := by
 by_cases h60 : s.size ≤ 60
 ·have P := Lib.hid (rpart_any s (by omega) w)
  go_enter Tryz.func139, Tryz.ntmps139; go_wp2_with (go_at_call 136; refine P.out.mono ?_; rintro e w1 ⟨rfl, rfl⟩)
  all_goals
   go_ret; refine ⟨ret_bool ?_, rfl⟩
   simp_all [memberB]
 ·have h60' : decide (s.size ≤ 60) = false := by simpa using h60
  go_enter Tryz.func139, Tryz.ntmps139; go_wp2_with fail
  all_goals
   go_ret; refine ⟨ret_bool ?_, rfl⟩; rw [memberB, h60']
   simp_all
def lastTo (s : ByteArray) : Nat → Int
 | 0 => -1
 | k + 1 => if bt s k = 47 then k else lastTo s k
theorem lastTo_succ (s : ByteArray) (k : Nat) : lastTo s (k + 1) = if bt s k = 47 then (k : Int) else lastTo s k := rfl
theorem lastTo_eq (s : ByteArray) (k : Nat) (hk : k ≤ s.size) : lastTo s k = Lib.lastIdx s 47 k := by
 induction k with
 | zero => rfl
 | succ k ih =>
  have e : ((s.data[k]!).toNat : Int) = bt s k := by
   rw [← bt_at s k hk, getElem!_pos s.data k hk]
   rfl
  rw [lastTo_succ, ih (by omega)]
  by_cases h : bt s k = 47
  ·rw [if_pos h, Lib.lastIdx_hit s 47 k (by rw [e]; exact h)]
  ·rw [if_neg h, Lib.lastIdx_miss s 47 k (by rw [e]; exact h)]
theorem lastTo_all (s : ByteArray) : lastTo s s.size = slash s := lastTo_eq s s.size (Nat.le_refl _)
theorem rlast_any (s : ByteArray) (hs : s.size ≤ 4611686018427387904) (w : World) : Calls Tryz.prog 95 #[.string s] w fun e w' => e = .returned (.int .i64 (slash s)) ∧ w' = w := by
 go_enter Tryz.func95, Tryz.ntmps95; go_wp2
 go_loop [3, 4] (fun a i => ∃ k : Nat, k ≤ s.size ∧ i = .int .i64 k ∧ a = .int .i64 (lastTo s k)) (fun _ i => s.size - (intOf i).toNat)
 case atStart => exact ⟨0, Nat.zero_le _, rfl, rfl⟩
 case round =>
  obtain ⟨k, hk, rfl, rfl⟩ := hrel
  by_cases hlt : k < s.size
  ·have hb := bt_at s k hlt
   have hsn := lastTo_succ s k; generalize bt s k = n at *; generalize lastTo s k = a at *; replace hsn := Lib.hid hsn; go_wp2
   ·have hn : n = 47 := by simp_all
    go_round
    case rel => exact ⟨k + 1, by omega, by go_num, by rw [hsn.out, if_pos hn]⟩
    case measure => simp [intOf]; omega
   ·have hn : ¬ n = 47 := by simp_all
    go_round
    case rel => exact ⟨k + 1, by omega, by go_num, by rw [hsn.out, if_neg hn]⟩
    case measure => simp [intOf]; omega
  ·obtain rfl : k = s.size := by omega
   go_wp2; go_ret
   exact ⟨ret_int (lastTo_all s), rfl⟩
theorem rpackage_any (s : ByteArray) (hs : s.size < 4611686018427387904) (w : World) : Calls Tryz.prog 52 #[.string s] w fun e w' => e = .returned (.string (pkgB s)) ∧ w' = w := by
 have L := Lib.hid (rlast_any s (by omega) w); have hb := slash_bd s; have hfin : pkgB s = s.extract 0 (max 0 (slash s)).toNat := rfl; generalize slash s = i at *; replace hfin := Lib.hid hfin
 by_cases h0 : i < 0
 ·go_enter Tryz.func52, Tryz.ntmps52
  go_wp2_with (go_at_call 95; refine L.out.mono ?_; rintro e w1 ⟨rfl, rfl⟩); go_ret; refine ⟨?_, rfl⟩; have e0 : s.extract 0 0 = ⟨#[]⟩ := bytes_inj (by simp [ex_data]); rw [hfin.out, show (max 0 i).toNat = 0 by omega, e0]
  rfl
 ·go_enter Tryz.func52, Tryz.ntmps52
  go_wp2_with (go_at_call 95; refine L.out.mono ?_; rintro e w1 ⟨rfl, rfl⟩); go_ret
  exact ⟨by rw [hfin.out, show (max 0 i).toNat = i.toNat by omega]; rfl, rfl⟩
end Go.Proofs.YtaipkdglhfhhiaaGreatDoor.Nm

namespace Go.Proofs.YtaipkdglhfhhiaaGreatDoor.Nm
open Go Go.RowKit
set_option linter.unusedVariables false
set_option linter.unusedSimpArgs false
set_option maxHeartbeats 400000
set_option maxRecDepth 10000
theorem toList_inj {x y : ByteArray} (h : x.toList = y.toList) : x = y := bytes_inj (by rw [← ByteArray.toList_eq, ← ByteArray.toList_eq, h])
end Go.Proofs.YtaipkdglhfhhiaaGreatDoor.Nm

namespace Go.Proofs.YtaipkdglhfhhiaaGreatDoor.Ty
open Go Go.RowKit Go.Proofs.YtaipkdglhfhhiaaGreatDoor.Nm
set_option linter.unusedVariables false
set_option linter.unusedSimpArgs false
set_option maxHeartbeats 1000000
set_option maxRecDepth 10000
theorem drop_at (L : List UInt8) (k : Nat) (h : k < L.length) : ∃ x, L.drop k = x :: L.drop (k + 1) ∧ bt (bs L) k = (x.toNat : Int) := by
 refine ⟨L[k], List.drop_eq_getElem_cons h, ?_⟩; simp [bt, mk_toList, List.getD_eq_getElem?_getD, List.getElem?_eq_getElem h]
def place (L r : List UInt8) : Int := (L.length : Int) - (r.length : Int)
def ReadAs (L l : List UInt8) (d : Int) (nm : List UInt8) (pos : Int) : Prop :=
 match (rd l).rest with | none => pos = -1 | some r => d = (rd l).dims ∧ nm = (rd l).name ∧ pos = place L r
theorem upTo_step (x : UInt8) (l : List UInt8) (h : x ≠ 59) : upTo (x :: l) = x :: upTo l ∧ behind (x :: l) = behind l := by simp [upTo, behind, h]
def rdNm (l : List UInt8) : List UInt8 :=
 match past l with
 | [] => []
 | x :: r => if x = 76 then (match behind r with | none => [] | some _ => upTo r) else []
theorem rdNm_76 (l r : List UInt8) (h : past l = 76 :: r) : rdNm l = (match behind r with | none => [] | some _ => upTo r) := by rw [rdNm, h]; rfl
theorem rdNm_not (l r : List UInt8) (x : UInt8) (h : past l = x :: r) (hx : x ≠ 76) : rdNm l = [] := by rw [rdNm, h]; simp [hx]
theorem rread_ex (L : List UInt8) (n : Nat) (hn : n ≤ L.length) (hL : L.length < 4294967281) (w : World) (hm : ML w) : Calls Tryz.prog 158 #[.string (bs L), .int .i64 n] w fun e w' =>
  ∃ d nm pos, e = .returned (.tuple #[tyV d nm, .int .i64 pos]) ∧ Below w.heap.size w w' ∧ ReadAs L (L.drop n) d nm pos ∧ d = (opens (L.drop n) : Int) ∧ nm = rdNm (L.drop n) := by
 have hz := mk_size L
 have hzl : ((bs L).size : Int) = L.length := by rw [hz]
 have hbt : ∀ k (h : k < (bs L).size), (((bs L)[k]'h).toNat : Int) = bt (bs L) k := fun k h => bt_at _ k h; replace hbt := Lib.hid hbt; replace hz := Lib.hid hz; go_enter Tryz.func158, Tryz.ntmps158; go_wp2
 go_loopw [1] (fun i wr => ∃ k : Nat, i = .int .i64 ((n + k : Nat) : Int) ∧ n + k ≤ L.length ∧ opens (L.drop (n + k)) + k = opens (L.drop n) ∧ past (L.drop (n + k)) = past (L.drop n) ∧ Two wr w.heap.size 0 ⟨#[]⟩ ∧ Two wr (w.heap.size + 1) k ⟨#[]⟩ ∧ Below w.heap.size w wr) (fun i _ => L.length - (intOf i).toNat)
 case atStart =>
  have A0 := Two.new w 0 ⟨#[]⟩ 24; have A1 := Two.new (w.alloc (.cells #[.int .i64 0, .string ⟨#[]⟩] 24)) 0 ⟨#[]⟩ 24
  have hz2 : (w.alloc (.cells #[.int .i64 0, .string ⟨#[]⟩] 24)).heap.size = w.heap.size + 1 := by simp
  rw [hz2] at A1; refine ⟨0, rfl, hn, rfl, rfl, ?_, A1, ?_⟩
  ·exact A0.kept (World.grownBy_alloc _ _ none) (by simp)
  ·exact ((Below.refl _ _).alloc (Nat.le_refl _) _).alloc (by simp) _
 case round =>
  obtain ⟨k, rfl, hle, hop, hpa, hT, hU, hB⟩ := hrel
  have hne1 : some w.heap.size ≠ some (w.heap.size + 1) := by simp
  have hlt1 := hT.lt; have hlt2 := hU.lt; have h1 := hT.c0; have h2 := hT.c1; have h3 := hT.f0; have h4 := hT.f1; have g1 := hU.c0; have g2 := hU.c1; have g3 := hU.f0; have g4 := hU.f1; replace hT := Lib.hid hT; replace hU := Lib.hid hU; replace hB := Lib.hid hB; replace hop := Lib.hid hop; replace hpa := Lib.hid hpa; replace hne1 := Lib.hid hne1
  by_cases hlt : n + k < L.length
  ·obtain ⟨x, hx, hbx⟩ := drop_at L (n + k) hlt
   have hb := (hbt.out (n + k) (by rw [hz.out]; exact hlt)).trans hbx
   have hr : 0 ≤ (x.toNat : Int) ∧ (x.toNat : Int) ≤ 255 := by have := x.toNat_lt; omega
   replace hx := Lib.hid hx; clear hbx
   by_cases h91 : (x.toNat : Int) = 91
   ·go_wp2
    go_roundw
    case rel =>
     have hx91 : x = 91 := u8_ne (n := 91) (by omega) h91; have e1 := hop.out; have e2 := hpa.out; rw [hx.out, hx91] at e1 e2; refine ⟨k + 1, by go_num, by omega, ?_, ?_, ?_, ?_, ?_⟩
     ·simp [opens] at e1; rw [← e1]; rw [show n + (k + 1) = n + k + 1 from rfl]; omega
     ·rw [← e2]; simp [past]; rfl
     ·exact hT.out.kept (gb_set _ _ _ _) hne1.out
     ·have := hU.out.set0 (k + 1); simpa using this
     ·exact hB.out.setCell (by simp) _
    case measure => simp [intOf]; omega
   ·have hx91 : x ≠ 91 := by rintro rfl; exact h91 rfl
    have hself := past_self (L.drop (n + k)) (by rw [hx.out]; rintro r e; injection e with e; exact hx91 e)
    have hpq : past (L.drop n) = x :: L.drop (n + k + 1) := by rw [← hpa.out, hself.1, hx.out]
    have hk : opens (L.drop n) = k := by have := hop.out; rw [hself.2] at this; omega
    replace hpq := Lib.hid hpq; replace hk := Lib.hid hk; clear hop hpa hself; replace hx91 := Lib.hid hx91
    by_cases h73 : (x.toNat : Int) = 73
    ·have hrd : rd (L.drop n) = ⟨k, [], some (L.drop (n + k + 1))⟩ := by
      rw [rd, hpq.out, u8_ne (n := 73) (by omega) h73]; simp [hk.out]
     have hrm : (k : Int) = (opens (L.drop n) : Int) ∧ ([] : List UInt8) = rdNm (L.drop n) := ⟨by rw [hk.out], (rdNm_not _ _ x hpq.out (by rw [u8_ne (n := 73) (by omega) h73]; decide)).symm⟩
     replace hrm := Lib.hid hrm; replace hrd := Lib.hid hrd; clear hpq hk; go_wp2; have T5 := (hT.out.set0 k).set1 ⟨#[]⟩; refine bodyPost_ret (v := .tuple #[tyV k [], .int .i64 (n + k + 1)]) (by simp [results, Tryz.results158, go_sem, tyV, bs_nil, T5.c0, T5.c1]) rfl ⟨k, [], _, rfl, ?_, ?_, hrm.out⟩
     ·repeat' (first | exact hB.out | apply Below.setCell | apply Below.alloc | apply Below.drew)
      all_goals (first | omega | (simp; done) | (simp; omega))
     ·rw [ReadAs, hrd.out]
      refine ⟨rfl, rfl, ?_⟩; simp [place]
      omega
    ·by_cases h76 : (x.toNat : Int) = 76
     ·obtain ⟨q, hq⟩ : ∃ q, q = L.drop (n + k + 1) := ⟨_, rfl⟩
      have hrd : rd (L.drop n) = ⟨k, upTo q, if validB (bs (upTo q)) then behind q else none⟩ := by
       rw [rd, hpq.out, u8_ne (n := 76) (by omega) h76, ← hq]; simp [hk.out]
      have hrm : (k : Int) = (opens (L.drop n) : Int) ∧ (match behind q with | none => [] | some _ => upTo q) = rdNm (L.drop n) := ⟨by rw [hk.out], by rw [hq]; exact (rdNm_76 _ _ (by rw [hpq.out, u8_ne (n := 76) (by omega) h76]; rfl)).symm⟩
      replace hrm := Lib.hid hrm; replace hrd := Lib.hid hrd; replace hq := Lib.hid hq; clear hpq hk; go_wp2
      go_loop [7] (fun i => ∃ j : Nat, i = .int .i64 ((n + k + 1 + j : Nat) : Int) ∧ n + k + 1 + j ≤ L.length ∧ upTo q = q.take j ++ upTo (L.drop (n + k + 1 + j)) ∧ behind q = behind (L.drop (n + k + 1 + j))) (fun i => L.length - (intOf i).toNat)
      case atStart => exact ⟨0, by go_num, by omega, by rw [hq.out] <;> simp, by rw [hq.out] <;> simp⟩
      case round =>
       obtain ⟨j, rfl, hle2, hu, hbh⟩ := hrel; replace hu := Lib.hid hu; replace hbh := Lib.hid hbh
       by_cases hlt2 : n + k + 1 + j < L.length
       ·obtain ⟨y, hy, hby⟩ := drop_at L (n + k + 1 + j) hlt2
        have hc := (hbt.out (n + k + 1 + j) (by rw [hz.out]; exact hlt2)).trans hby
        have hr2 : 0 ≤ (y.toNat : Int) ∧ (y.toNat : Int) ≤ 255 := by have := y.toNat_lt; omega
        replace hy := Lib.hid hy; clear hby
        by_cases h59 : (y.toNat : Int) = 59
        ·have e1 : upTo q = q.take j := by
          have := hu.out; rw [hy.out, u8_ne (n := 59) (by omega) h59] at this
          simpa [upTo] using this
         have e2 : behind q = some (L.drop (n + k + 1 + j + 1)) := by
          have := hbh.out; rw [hy.out, u8_ne (n := 59) (by omega) h59] at this
          simpa [behind] using this
         have e3 : (bs L).extract (n + k + 1) (n + k + 1 + j) = bs (upTo q) := by
          apply bytes_inj
          rw [ex_data, mk_toList, mk_toList, e1, hq.out]; rw [List.drop_take]
          congr 1
          omega
         replace e1 := Lib.hid e1; replace e2 := Lib.hid e2; replace e3 := Lib.hid e3
         have hcell : ∀ W : World, W = wr.setCell ⟨w.heap.size + 1, 1, none⟩ (.string (bs (upTo q))) → Two W w.heap.size 0 ⟨#[]⟩ ∧ Two W (w.heap.size + 1) k (bs (upTo q)) ∧ Below w.heap.size w W := by
          rintro W rfl
          exact ⟨hT.out.kept (gb_set _ _ _ _) hne1.out, hU.out.set1 _, hB.out.setCell (by simp) _⟩
         replace hcell := Lib.hid hcell
         have b1 : (n : Int) + k + 1 ≤ n + k + 1 + j := by omega
         have b2 : (n : Int) + k + 1 + j ≤ L.length := by omega
         have hsl : ∀ W : World, (Instr.slice 9 (.string (bs L)) (some (.int .i64 ((n : Int) + k + 1))) (some (.int .i64 ((n : Int) + k + 1 + j))) none).run Tryz.prog W = .ok (.string (bs (upTo q))) W := by
          intro W
          have i1 : (0 : Int) ≤ (n : Int) + k + 1 := by omega
          have i3 : (n : Int) + k + 1 + j ≤ (bs L).size := by omega
          have i4 : ((n : Int) + k + 1).toNat = n + k + 1 := by omega
          have i5 : ((n : Int) + k + 1 + j).toNat = n + k + 1 + j := by omega
          rw [run_slice_string _ _ _ _ _ _ _ rfl i1 b1 i3, i4, i5, e3.out]
         go_wp2_with fail; obtain ⟨T5, U5, B5⟩ := hcell.out _ rfl; refine (rvalid_any (bs (upTo q)) _).mono ?_; rintro e w5 ⟨rfl, hb5⟩; have T6 := T5.kept (gb_below hb5) (by simp); have U6 := U5.kept (gb_below hb5) (by simp); have B6 := B5.trans (hb5.mono B5.size); clear T5 U5 B5 hb5 hcell h1 h2 h3 h4 g1 g2 g3 g4 hlt1 hT hU hB; have hlt1 := T6.lt; have h1 := T6.c0; have h2 := T6.c1; have h3 := T6.f0; have h4 := T6.f1; have g1 := U6.c0; have g2 := U6.c1; replace T6 := Lib.hid T6; replace U6 := Lib.hid U6; replace B6 := Lib.hid B6
         cases hv : validB (bs (upTo q))
         ·go_wp2
          have T5 := (T6.out.set0 k).set1 (bs (upTo q)); refine bodyPost_ret (v := .tuple #[tyV k (upTo q), .int .i64 (-1)]) (by simp [results, Tryz.results158, go_sem, tyV, T5.c0, T5.c1]) rfl ⟨k, upTo q, _, rfl, ?_, ?_, hrm.out.1, by rw [← hrm.out.2, e2.out]⟩
          ·repeat' (first | exact B6.out | apply Below.setCell | apply Below.alloc | apply Below.drew)
           all_goals (first | omega | (simp; done) | (simp; omega))
          ·rw [ReadAs, hrd.out]
           simp [hv]
         ·go_wp2
          have T5 := (T6.out.set0 k).set1 (bs (upTo q)); refine bodyPost_ret (v := .tuple #[tyV k (upTo q), .int .i64 (n + k + 1 + j + 1)]) (by simp [results, Tryz.results158, go_sem, tyV, T5.c0, T5.c1]) rfl ⟨k, upTo q, _, rfl, ?_, ?_, hrm.out.1, by rw [← hrm.out.2, e2.out]⟩
          ·repeat' (first | exact B6.out | apply Below.setCell | apply Below.alloc | apply Below.drew)
           all_goals (first | omega | (simp; done) | (simp; omega))
          ·rw [ReadAs, hrd.out]
           simp only [hv, if_true]; rw [e2.out]; refine ⟨trivial, trivial, ?_⟩; simp [place]
           omega
        ·go_wp2
         go_round
         case rel =>
          have hy59 : y ≠ 59 := by rintro rfl; exact h59 rfl
          have s1 := upTo_step y (L.drop (n + k + 1 + j + 1)) hy59; refine ⟨j + 1, by go_num, by omega, ?_, ?_⟩
          ·rw [hu.out, hy.out, s1.1]
           have hqj : q.take (j + 1) = q.take j ++ [y] := by
            have hqy : q[j]? = some y := by
             rw [hq.out, List.getElem?_drop]; have := congrArg List.head? hy.out; rw [List.head?_drop] at this
             exact this
            rw [List.take_add_one, hqy]
            rfl
           rw [hqj, List.append_assoc]
           rfl
          ·rw [hbh.out, hy.out, s1.2]; rfl
         case measure => simp [intOf]; omega
       ·have hnil : L.drop (n + k + 1 + j) = [] := by rw [show n + k + 1 + j = L.length by omega]; simp
        have e2 : behind q = none := by rw [hbh.out, hnil]; rfl
        replace e2 := Lib.hid e2
        have hej : n + k + 1 + j = L.length := by omega
        clear hu hbh hnil; go_wp2; have T5 := (hT.out.set0 k).set1 ⟨#[]⟩; refine bodyPost_ret (v := .tuple #[tyV k [], .int .i64 (-1)]) (by simp [results, Tryz.results158, go_sem, tyV, bs_nil, T5.c0, T5.c1]) rfl ⟨k, [], _, rfl, ?_, ?_, hrm.out.1, by rw [← hrm.out.2, e2.out]⟩
        ·repeat' (first | exact hB.out | apply Below.setCell | apply Below.alloc | apply Below.drew)
         all_goals (first | omega | (simp; done) | (simp; omega))
        ·rw [ReadAs, hrd.out, e2.out]
         simp
     ·have hrd : rd (L.drop n) = ⟨k, [], none⟩ := by
       rw [rd, hpq.out]
       have n1 : x ≠ 73 := by rintro rfl; exact h73 rfl
       have n2 : x ≠ 76 := by rintro rfl; exact h76 rfl
       simp [hk.out, n1, n2]
      have hrm : (k : Int) = (opens (L.drop n) : Int) ∧ ([] : List UInt8) = rdNm (L.drop n) := ⟨by rw [hk.out], (rdNm_not _ _ x hpq.out (by rintro rfl; exact h76 rfl)).symm⟩
      replace hrm := Lib.hid hrm; replace hrd := Lib.hid hrd; clear hpq hk
      have h76b : ((x.toNat : Int) != 76) = true := by simp [h76]
      go_wp2; have T5 := (hT.out.set0 k).set1 ⟨#[]⟩; refine bodyPost_ret (v := .tuple #[tyV k [], .int .i64 (-1)]) (by simp [results, Tryz.results158, go_sem, tyV, bs_nil, T5.c0, T5.c1]) rfl ⟨k, [], _, rfl, ?_, ?_, hrm.out⟩
      ·repeat' (first | exact hB.out | apply Below.setCell | apply Below.alloc | apply Below.drew)
       all_goals (first | omega | (simp; done) | (simp; omega))
      ·rw [ReadAs, hrd.out]
  ·obtain hend : n + k = L.length := by omega
   have hnil : L.drop (n + k) = [] := by rw [hend]; simp
   have hrd : rd (L.drop n) = ⟨k, [], none⟩ := by
    have e1 := hop.out; have e2 := hpa.out; rw [hnil] at e1 e2; rw [rd, ← e2]; simp [opens, past] at e1 ⊢
    omega
   have hrm : (k : Int) = (opens (L.drop n) : Int) ∧ ([] : List UInt8) = rdNm (L.drop n) := by
    have e1 := hop.out; have e2 := hpa.out; rw [hnil] at e1 e2; rw [rdNm, ← e2]; simp [opens, past] at e1 ⊢
    omega
   replace hrm := Lib.hid hrm; replace hrd := Lib.hid hrd; clear hop hpa hnil; go_wp2; have T5 := (hT.out.set0 k).set1 ⟨#[]⟩; refine bodyPost_ret (v := .tuple #[tyV k [], .int .i64 (-1)]) (by simp [results, Tryz.results158, go_sem, tyV, bs_nil, T5.c0, T5.c1]) rfl ⟨k, [], _, rfl, ?_, ?_, hrm.out⟩
   ·repeat' (first | exact hB.out | apply Below.setCell | apply Below.alloc | apply Below.drew)
    all_goals (first | omega | (simp; done) | (simp; omega))
   ·rw [ReadAs, hrd.out]
theorem rread_any (L : List UInt8) (n : Nat) (hn : n ≤ L.length) (hL : L.length < 4294967281) (w : World) (hm : ML w) : Calls Tryz.prog 158 #[.string (bs L), .int .i64 n] w fun e w' =>
  ∃ d nm pos, e = .returned (.tuple #[tyV d nm, .int .i64 pos]) ∧ Below w.heap.size w w' ∧ ReadAs L (L.drop n) d nm pos := by
 refine (rread_ex L n hn hL w hm).mono ?_; rintro e w' ⟨d, nm, pos, he, hb, hr, _⟩
 exact ⟨d, nm, pos, he, hb, hr⟩
def readF (L : List UInt8) (n : Nat) : Int × List UInt8 × Int :=
 ((opens (L.drop n) : Int), rdNm (L.drop n), match (rd (L.drop n)).rest with | none => -1 | some r => place L r)
theorem rread_fun (L : List UInt8) (n : Nat) (hn : n ≤ L.length) (hL : L.length < 4294967281) (w : World) : Calls Tryz.prog 158 #[.string (bs L), .int .i64 n] w fun e w' =>
  e = .returned (.tuple #[tyV (readF L n).1 (readF L n).2.1, .int .i64 (readF L n).2.2]) ∧ Below w.heap.size w w' := by
 refine (rread_ex L n hn hL w trivial).mono ?_; rintro e w' ⟨d, nm, pos, rfl, hb, hr, rfl, rfl⟩; refine ⟨?_, hb⟩
 have hp : pos = (readF L n).2.2 := by
  unfold readF; unfold ReadAs at hr
  cases h : (rd (L.drop n)).rest with
  | none => rw [h] at hr; simpa using hr
  | some r => rw [h] at hr; exact hr.2.2
 rw [hp]
 rfl
end Go.Proofs.YtaipkdglhfhhiaaGreatDoor.Ty

namespace Go.Proofs.YtaipkdglhfhhiaaGreatDoor.Ty
open Go Go.RowKit Go.Proofs.YtaipkdglhfhhiaaGreatDoor.Nm
set_option linter.unusedVariables false
set_option linter.unusedSimpArgs false
set_option maxHeartbeats 1000000
set_option maxRecDepth 10000
theorem rparse_any (l : List UInt8) (w : World) (hm : ML w) : Calls Tryz.prog 169 #[.string (bs l)] w fun e w' =>
  e = .returned (.tuple #[tyV (parseT l).1 (parseT l).2.1, .int .i64 (parseT l).2.2]) ∧ Below w.heap.size w w' := by
 have hz := mk_size l
 have hzl : ((bs l).size : Int) = l.length := by rw [hz]
 clear hz; have T0 := Two.new w 0 ⟨#[]⟩ 24
 by_cases hbig : 2000 < l.length
 ·have hp : parseT l = (0, [], 5) := by simp [parseT, hbig]
  replace hp := Lib.hid hp; replace T0 := Lib.hid T0; go_enter Tryz.func169, Tryz.ntmps169; go_wp2; refine bodyPost_ret (v := .tuple #[tyV 0 [], .int .i64 5]) (by simp [results, Tryz.results169, go_sem, tyV, bs_nil]) rfl ⟨by rw [hp.out], ?_⟩; have B0 := Below.refl w.heap.size w
  repeat' (first | assumption | apply Below.setCell | apply Below.alloc | apply Below.drew)
  all_goals (first | omega | (simp; done) | (simp; omega))
 ·have hp : parseT l = match (rd l).rest with
   | none => (0, [], 4)
   | some r => if r ≠ [] then (0, [], 4) else if 255 < (rd l).dims then (0, [], 5) else ((rd l).dims, (rd l).name, 0) := by rw [parseT, if_neg hbig] <;> rfl
  replace hp := Lib.hid hp
  have hsm : (l.length : Int) ≤ 2000 := by omega
  have M0 := ml_alloc hm (.cells #[.int .i64 0, .string ⟨#[]⟩] 24); have O := Lib.hid (rread_any l 0 (by omega) (by omega) _ M0); have B0 : Below w.heap.size w (w.alloc (.cells #[.int .i64 0, .string ⟨#[]⟩] 24)) := (Below.refl _ _).alloc (Nat.le_refl _) _; replace T0 := Lib.hid T0; replace B0 := Lib.hid B0; clear M0 hm; go_enter Tryz.func169, Tryz.ntmps169; go_wp2_with fail; refine O.out.mono ?_; rintro e w3 ⟨d, nm, pos, rfl, hg, hsome⟩; have T3 := T0.out.kept (gb_below hg) (by simp); have B3 := B0.out.trans (hg.mono (by simp)); have hsz := B3.size; have hlt := T3.lt; clear T0 B0 O hg; have f0 := T3.f0; have h1 := T3.c0; have h2 := T3.c1; have f1 := T3.f1; replace T3 := Lib.hid T3; rw [List.drop_zero] at hsome
  cases hr : (rd l).rest with
  | none =>
   rw [hr] at hp; rw [ReadAs, hr] at hsome; simp only at hsome; subst hsome; have hp2 : parseT l = (0, [], 4) := hp.out; replace hp2 := Lib.hid hp2; clear hp; rw [tyV]; go_wp2; have T5 := ((T3.out.set0 0).set1 ⟨#[]⟩).kept (World.grownBy_alloc _ (.cells #[.int .i64 d, .string (bs nm)] 24) none) (by simp); refine bodyPost_ret (v := .tuple #[tyV 0 [], .int .i64 4]) (by simp [results, Tryz.results169, go_sem, tyV, bs_nil, T5.c0, T5.c1]) rfl ⟨by rw [hp2.out], ?_⟩
   repeat' (first | assumption | apply Below.setCell | apply Below.alloc | apply Below.drew)
   all_goals (first | omega | (simp; done) | (simp; omega))
  | some r =>
   rw [ReadAs, hr] at hsome; obtain ⟨rfl, rfl, rfl⟩ := hsome; rw [hr] at hp; have hrl := rd_len l r hr
   have hdr : ((rd l).dims : Int) ≤ 4294967281 := by omega
   generalize (rd l).dims = k at *; generalize (rd l).name = nm at *; rw [tyV]
   cases r with
   | nil =>
    have hpl : place l [] = l.length := by simp [place]
    rw [hpl]
    by_cases hk : 255 < k
    ·have hp2 : parseT l = (0, [], 5) := by rw [hp.out]; simp [hk]
     replace hp2 := Lib.hid hp2; clear hp hpl; go_wp2; have T5 := ((T3.out.set0 0).set1 ⟨#[]⟩).kept (World.grownBy_alloc _ (.cells #[.int .i64 k, .string (bs nm)] 24) none) (by simp); refine bodyPost_ret (v := .tuple #[tyV 0 [], .int .i64 5]) (by simp [results, Tryz.results169, go_sem, tyV, bs_nil, T5.c0, T5.c1]) rfl ⟨by rw [hp2.out], ?_⟩
     repeat' (first | assumption | apply Below.setCell | apply Below.alloc | apply Below.drew)
     all_goals (first | omega | (simp; done) | (simp; omega))
    ·have hp2 : parseT l = ((k : Int), nm, 0) := by rw [hp.out]; simp [hk]
     replace hp2 := Lib.hid hp2; clear hp hpl; go_wp2; have T5 := ((T3.out.set0 k).set1 (bs nm)).kept (World.grownBy_alloc _ (.cells #[.int .i64 k, .string (bs nm)] 24) none) (by simp); refine bodyPost_ret (v := .tuple #[tyV k nm, .int .i64 0]) (by simp [results, Tryz.results169, go_sem, tyV, bs_nil, T5.c0, T5.c1]) rfl ⟨by rw [hp2.out], ?_⟩
     repeat' (first | assumption | apply Below.setCell | apply Below.alloc | apply Below.drew)
     all_goals (first | omega | (simp; done) | (simp; omega))
   | cons x r =>
    have hp2 : parseT l = (0, [], 4) := by rw [hp.out]; simp
    replace hp2 := Lib.hid hp2
    have hpl : place l (x :: r) ≠ l.length := by simp [place]; omega
    have hpl2 : (place l (x :: r) != (l.length : Int)) = true := by simp [hpl]
    generalize place l (x :: r) = ps at *; clear hp; go_wp2; have T5 := ((T3.out.set0 0).set1 ⟨#[]⟩).kept (World.grownBy_alloc _ (.cells #[.int .i64 k, .string (bs nm)] 24) none) (by simp); refine bodyPost_ret (v := .tuple #[tyV 0 [], .int .i64 4]) (by simp [results, Tryz.results169, go_sem, tyV, bs_nil, T5.c0, T5.c1]) rfl ⟨by rw [hp2.out], ?_⟩
    repeat' (first | assumption | apply Below.setCell | apply Below.alloc | apply Below.drew)
    all_goals (first | omega | (simp; done) | (simp; omega))
end Go.Proofs.YtaipkdglhfhhiaaGreatDoor.Ty

namespace Go.Proofs.YtaipkdglhfhhiaaGreatDoor.Ty
open Go Go.RowKit Go.Proofs.YtaipkdglhfhhiaaGreatDoor.Nm
set_option linter.unusedVariables false
set_option linter.unusedSimpArgs false
set_option maxHeartbeats 1000000
set_option maxRecDepth 10000
theorem rparseref_any (l : List UInt8) (w : World) (hm : ML w) : Calls Tryz.prog 168 #[.string (bs l)] w fun e w' =>
  e = .returned (.tuple #[tyV (parseR l).1 (parseR l).2.1, .int .i64 (parseR l).2.2]) ∧ Below w.heap.size w w' := by
 have hz := mk_size l
 have hzl : ((bs l).size : Int) = l.length := by rw [hz]
 clear hz; have T0 := Two.new w 0 ⟨#[]⟩ 24; have M0 := ml_alloc hm (.cells #[.int .i64 0, .string ⟨#[]⟩] 24); have B0 : Below w.heap.size w (w.alloc (.cells #[.int .i64 0, .string ⟨#[]⟩] 24)) := (Below.refl _ _).alloc (Nat.le_refl _) _; have P := Lib.hid (rparse_any l _ M0); have V := Lib.hid (rvalid_any (bs l) (w.alloc (.cells #[.int .i64 0, .string ⟨#[]⟩] 24))); replace T0 := Lib.hid T0; replace B0 := Lib.hid B0; clear M0 hm
 by_cases hbig : 2000 < l.length
 ·have hp : parseR l = (0, [], 5) := by simp [parseR, hbig]
  replace hp := Lib.hid hp; clear P V; go_enter Tryz.func168, Tryz.ntmps168; go_wp2; refine bodyPost_ret (v := .tuple #[tyV 0 [], .int .i64 5]) (by simp [results, Tryz.results168, go_sem, tyV, bs_nil]) rfl ⟨by rw [hp.out], ?_⟩; have B1 := B0.out
  repeat' (first | assumption | apply Below.setCell | apply Below.alloc | apply Below.drew)
  all_goals (first | omega | (simp; done) | (simp; omega))
 ·have hsm : (l.length : Int) ≤ 2000 := by omega
  have step : ∀ (d : Int) (nm : List UInt8) (er : Int), True := fun _ _ _ => trivial; clear step; have F := first_byte l
  cases hb : brk l
  ·cases hv : validB (bs l)
   ·have hp : parseR l = (0, [], 4) := by simp [parseR, hbig, hb, hv]
    replace hp := Lib.hid hp; rw [hv] at V; rw [hb] at F; clear P; go_enter Tryz.func168, Tryz.ntmps168
    rcases F with ⟨hl0, hb0⟩ | ⟨hpos, x, hx, hb0⟩
    all_goals
     go_wp2_with fail; refine V.out.mono ?_; rintro e w3 ⟨rfl, hg⟩; have T3 := T0.out.kept (gb_below hg) (by simp); have B3 := B0.out.trans (hg.mono (by simp)); clear T0 B0 V hg; have hsz := B3.size; have f0 := T3.f0; have h1 := T3.c0; have h2 := T3.c1; have f1 := T3.f1; replace T3 := Lib.hid T3; go_wp2; have T5 := (T3.out.set0 0).set1 ⟨#[]⟩; refine bodyPost_ret (v := .tuple #[tyV 0 [], .int .i64 4]) (by simp [results, Tryz.results168, go_sem, tyV, bs_nil, T5.c0, T5.c1]) rfl ⟨by rw [hp.out], ?_⟩
     repeat' (first | assumption | apply Below.setCell | apply Below.alloc | apply Below.drew)
     all_goals (first | omega | (simp; done) | (simp; omega))
   ·have hp : parseR l = (0, l, 0) := by simp [parseR, hbig, hb, hv]
    replace hp := Lib.hid hp; rw [hv] at V; rw [hb] at F; clear P; go_enter Tryz.func168, Tryz.ntmps168
    rcases F with ⟨hl0, hb0⟩ | ⟨hpos, x, hx, hb0⟩
    all_goals
     go_wp2_with fail; refine V.out.mono ?_; rintro e w3 ⟨rfl, hg⟩; have T3 := T0.out.kept (gb_below hg) (by simp); have B3 := B0.out.trans (hg.mono (by simp)); clear T0 B0 V hg; have hsz := B3.size; have f0 := T3.f0; have h1 := T3.c0; have h2 := T3.c1; have f1 := T3.f1; replace T3 := Lib.hid T3; go_wp2; have T5 := (T3.out.set0 0).set1 (bs l); refine bodyPost_ret (v := .tuple #[tyV 0 l, .int .i64 0]) (by simp [results, Tryz.results168, go_sem, tyV, bs_nil, T5.c0, T5.c1]) rfl ⟨by rw [hp.out], ?_⟩
     repeat' (first | assumption | apply Below.setCell | apply Below.alloc | apply Below.drew)
     all_goals (first | omega | (simp; done) | (simp; omega))
  ·have hp : parseR l = parseT l := by rw [parseR, if_neg hbig, if_pos hb]
   replace hp := Lib.hid hp; clear V
   obtain ⟨d, nm, er, hpt⟩ : ∃ d nm er, parseT l = (d, nm, er) := ⟨_, _, _, rfl⟩
   rw [hpt] at P; simp only [tyV] at P; replace hpt := Lib.hid hpt; rw [hb] at F
   rcases F with ⟨hl0, hb0⟩ | ⟨hpos, x, hx, hb0⟩
   ·cases hb0
   go_enter Tryz.func168, Tryz.ntmps168; go_wp2_with fail; refine P.out.mono ?_; rintro e w3 ⟨rfl, hg⟩; have T3 := T0.out.kept (gb_below hg) (by simp); have B3 := B0.out.trans (hg.mono (by simp)); clear T0 B0 P hg; have hsz := B3.size; have f0 := T3.f0; have h1 := T3.c0; have h2 := T3.c1; have f1 := T3.f1; replace T3 := Lib.hid T3; go_wp2; have T5 := (T3.out.set0 d).set1 (bs nm); refine bodyPost_ret (v := .tuple #[tyV d nm, .int .i64 er]) (by simp [results, Tryz.results168, go_sem, tyV, bs_nil, T5.c0, T5.c1]) rfl ⟨by rw [hp.out, hpt.out], ?_⟩
   repeat' (first | assumption | apply Below.setCell | apply Below.alloc | apply Below.drew)
   all_goals (first | omega | (simp; done) | (simp; omega))
end Go.Proofs.YtaipkdglhfhhiaaGreatDoor.Ty

namespace Go.Proofs.YtaipkdglhfhhiaaGreatDoor.Pt
open Go Go.RowKit Go.Proofs.YtaipkdglhfhhiaaGreatDoor.Nm Go.Proofs.YtaipkdglhfhhiaaGreatDoor.Ty Go.Proofs.YtaipkdglhfhhiaaGreatDoorW.PrintWords Go.Proofs.YtaipkdglhfhhiaaGreatDoorW.PrintLast Go.Proofs.YtaipkdglhfhhiaaGreatDoorW.PrintMore
set_option linter.unusedVariables false
set_option linter.unusedSimpArgs false
def arbiterref02_Parse.f (a0 : ByteArray) : Option (Int × ByteArray × Int) := some (tup3 (parseT a0.data.toList))
theorem arbiterref02_Parse.calls (a0 : ByteArray) (r1 : Int) (r2 : ByteArray) (r3 : Int) (w : World) (h : arbiterref02_Parse.f a0 = some (r1, r2, r3)) :
  Calls Tryz.prog 169 #[.string a0] w fun e w' => e = .returned (.tuple #[.agg #[.int .i64 r1, .string r2], .int .i64 r3]) ∧ Below w.heap.size w w' := by
 unfold arbiterref02_Parse.f at h; obtain ⟨rfl, rfl, rfl⟩ := some_inj3 h; have C := rparse_any a0.data.toList w trivial; rw [mk_data] at C
 exact C
def arbiterref02_ParseRef.f (a0 : ByteArray) : Option (Int × ByteArray × Int) := some (tup3 (parseR a0.data.toList))
theorem arbiterref02_ParseRef.calls (a0 : ByteArray) (r1 : Int) (r2 : ByteArray) (r3 : Int) (w : World) (h : arbiterref02_ParseRef.f a0 = some (r1, r2, r3)) :
  Calls Tryz.prog 168 #[.string a0] w fun e w' => e = .returned (.tuple #[.agg #[.int .i64 r1, .string r2], .int .i64 r3]) ∧ Below w.heap.size w w' := by
 unfold arbiterref02_ParseRef.f at h; obtain ⟨rfl, rfl, rfl⟩ := some_inj3 h; have C := rparseref_any a0.data.toList w trivial; rw [mk_data] at C
 exact C
def arbiterref02_Check.f (a0_0 : Int) (a0_1 : ByteArray) : Option Int := some (chk a0_0 a0_1.data.toList)
def arbiterref02_read.f (a0 : ByteArray) (a1 : Int) : Option (Int × ByteArray × Int) := if 0 ≤ a1 ∧ a1.toNat ≤ a0.size ∧ a0.size < 4294967281 then some (tup3 (readF a0.data.toList a1.toNat)) else none
theorem arbiterref02_read.calls (a0 : ByteArray) (a1 : Int) (r1 : Int) (r2 : ByteArray) (r3 : Int) (w : World) (h : arbiterref02_read.f a0 a1 = some (r1, r2, r3)) :
  Calls Tryz.prog 158 #[.string a0, .int .i64 a1] w fun e w' => e = .returned (.tuple #[.agg #[.int .i64 r1, .string r2], .int .i64 r3]) ∧ Below w.heap.size w w' := by
 unfold arbiterref02_read.f at h; obtain ⟨⟨h0, h1, h2⟩, h⟩ := if_some h; obtain ⟨rfl, rfl, rfl⟩ := some_inj3 h
 obtain ⟨n, rfl⟩ : ∃ n : Nat, a1 = n := ⟨a1.toNat, by omega⟩
 rw [Int.toNat_natCast] at h1 ⊢; have e := len_data a0; have C := rread_fun a0.data.toList n (by omega) (by omega) w; rw [mk_data] at C
 exact C
def arbiterref01_Valid.f (a0 : ByteArray) : Option Bool := some (validB a0)
theorem arbiterref01_Valid.calls (a0 : ByteArray) (r : Bool) (w : World) (h : arbiterref01_Valid.f a0 = some r) :
  Calls Tryz.prog 116 #[.string a0] w fun e w' => e = .returned (.bool r) ∧ Below w.heap.size w w' := by
 obtain rfl := Option.some.inj h
 exact rvalid_any a0 w
def arbiterref01_Member.f (a0 : ByteArray) : Option Bool := some (memberB a0)
theorem arbiterref01_Member.calls (a0 : ByteArray) (r : Bool) (w : World) (h : arbiterref01_Member.f a0 = some r) :
  Calls Tryz.prog 139 #[.string a0] w fun e w' => e = .returned (.bool r) ∧ Below w.heap.size w w' := by
 obtain rfl := Option.some.inj h; refine (rmember_any a0 w).mono ?_; rintro e w' ⟨rfl, rfl⟩
 exact ⟨rfl, Below.refl _ _⟩
def arbiterref01_Package.f (a0 : ByteArray) : Option ByteArray := if a0.size < 4611686018427387904 then some (pkgB a0) else none
theorem arbiterref01_Package.calls (a0 : ByteArray) (r : ByteArray) (w : World) (h : arbiterref01_Package.f a0 = some r) :
  Calls Tryz.prog 52 #[.string a0] w fun e w' => e = .returned (.string r) ∧ Below w.heap.size w w' := by
 unfold arbiterref01_Package.f at h; obtain ⟨hs, h⟩ := if_some h; obtain rfl := Option.some.inj h; refine (rpackage_any a0 hs w).mono ?_; rintro e w' ⟨rfl, rfl⟩
 exact ⟨rfl, Below.refl _ _⟩
def arbiterref03_Has.f (a0 : Int) (a1 : Int) : Option Bool := some (Fl.band a0 a1 != 0)
theorem arbiterref03_Has.calls (a0 : Int) (a1 : Int) (r : Bool) (w : World) (h : arbiterref03_Has.f a0 a1 = some r) :
  Calls Tryz.prog 53 #[.int .i64 a0, .int .i64 a1] w fun e w' => e = .returned (.bool r) ∧ Below w.heap.size w w' := by
 obtain rfl := Option.some.inj h; refine (Fl.has_any a0 a1 w).mono ?_; rintro e w' ⟨rfl, rfl⟩
 exact ⟨rfl, Below.refl _ _⟩
def arbiterref03_Open.f (a0 : Int) : Option Int := some (Fl.opens a0)
def arbiterref03_CheckClass.f (a0 : Int) : Option Int := some (Fl.rcheckClass a0)
theorem arbiterref03_CheckClass.calls (a0 : Int) (r : Int) (w : World) (h : arbiterref03_CheckClass.f a0 = some r) :
  Calls Tryz.prog 117 #[.int .i64 a0] w fun e w' => e = .returned (.int .i64 r) ∧ Below w.heap.size w w' := by
 obtain rfl := Option.some.inj h
 exact Fl.rcheckClass_any a0 w
def arbiterref03_CheckMethod.f (a0 : Int) (a1 : Bool) (a2 : ByteArray) : Option Int := some (Fl.rcheckMethod a0 a1 (a2.toList == [60, 105, 110, 105, 116, 62]))
end Go.Proofs.YtaipkdglhfhhiaaGreatDoor.Pt

namespace Go.Proofs.YtaipkdglhfhhiaaGreatDoor.Pt
open Go Go.RowKit Go.Proofs.YtaipkdglhfhhiaaGreatDoor.Nm Go.Proofs.YtaipkdglhfhhiaaGreatDoor.Ty
theorem took_cons (x : UInt8) (l : List UInt8) (c : UInt8) : took (x :: l) c = decide (x = c) := by
 unfold took
 by_cases h : x = c <;> simp [h]
end Go.Proofs.YtaipkdglhfhhiaaGreatDoor.Pt

namespace Go.Proofs.YtaipkdglhfhhiaaGreatDoor.Pt
open Go Go.RowKit Go.Proofs.YtaipkdglhfhhiaaGreatDoor.Nm Go.Proofs.YtaipkdglhfhhiaaGreatDoor.Ty
set_option linter.unusedVariables false
set_option linter.unusedSimpArgs false
theorem past_suf (l : List UInt8) : ∃ p, l = p ++ past l := by
 induction l with
 | nil => exact ⟨[], rfl⟩
 | cons x l ih =>
  rw [past]
  split
  ·obtain ⟨p, hp⟩ := ih; exact ⟨x :: p, by rw [List.cons_append, ← hp]⟩
  ·exact ⟨[], rfl⟩
theorem behind_suf (l r : List UInt8) (h : behind l = some r) : ∃ p, l = p ++ r := by
 induction l with
 | nil => cases h
 | cons x l ih =>
  rw [behind] at h
  split at h
  ·cases h; exact ⟨[x], rfl⟩
  ·obtain ⟨p, hp⟩ := ih h; exact ⟨x :: p, by rw [List.cons_append, ← hp]⟩
theorem rd_suf (l r : List UInt8) (h : (rd l).rest = some r) : ∃ p, l = p ++ r := by
 obtain ⟨p, hp⟩ := past_suf l; rw [rd] at h
 split at h
 ·cases h
 ·rename_i x q hq
  rw [hq] at hp
  split at h
  ·cases h; exact ⟨p ++ [x], by rw [List.append_assoc]; exact hp⟩
  ·split at h
   ·simp only at h
    split at h
    ·obtain ⟨p2, hp2⟩ := behind_suf _ _ h
     exact ⟨p ++ x :: p2, by rw [List.append_assoc, List.cons_append, ← hp2]; exact hp⟩
    ·cases h
   ·cases h
theorem rdNm_name (l r : List UInt8) (h : (rd l).rest = some r) : rdNm l = (rd l).name := by
 rw [rd] at h ⊢; rw [rdNm]
 split at h
 ·cases h
 ·rename_i x q hq
  rw [hq]; simp only
  split at h
  ·rename_i h73; rw [if_pos h73, if_neg (by rw [h73]; decide)]
  ·rename_i h73
   rw [if_neg h73]
   split at h
   ·rename_i h76
    rw [if_pos h76, if_pos h76]; simp only at h
    split at h
    ·rw [h]
    ·cases h
   ·cases h
theorem rd_dims (l : List UInt8) : (rd l).dims = opens l := by
 rw [rd]
 split
 ·rfl
 ·split
  ·rfl
  ·split <;> rfl
theorem place_drop (L : List UInt8) (n : Nat) (hn : n ≤ L.length) (r : List UInt8) (h : (rd (L.drop n)).rest = some r) :
  ∃ m : Nat, place L r = m ∧ n < m ∧ m ≤ L.length ∧ L.drop m = r := by
 obtain ⟨p, hp⟩ := rd_suf _ _ h; have hl := rd_len _ _ h; have hd : (L.drop n).length = L.length - n := List.length_drop; refine ⟨L.length - r.length, by unfold place; omega, by omega, by omega, ?_⟩
 have e : L = L.take n ++ p ++ r := by rw [List.append_assoc, ← hp, List.take_append_drop]
 have h3 : (L.take n ++ p).length = L.length - r.length := by
  have := congrArg List.length e; rw [List.length_append] at this
  omega
 rw [← h3]; have e2 : List.drop (L.take n ++ p).length ((L.take n ++ p) ++ r) = r := List.drop_left
 rwa [← e] at e2
end Go.Proofs.YtaipkdglhfhhiaaGreatDoor.Pt

namespace Go.Proofs.YtaipkdglhfhhiaaGreatDoor.Pt
open Go Go.RowKit Go.Proofs.YtaipkdglhfhhiaaGreatDoor.Hi Go.Proofs.YtaipkdglhfhhiaaGreatDoorW.PrintWords Go.Proofs.YtaipkdglhfhhiaaGreatDoorW.PrintLast Go.Proofs.YtaipkdglhfhhiaaGreatDoorW.PrintMore
set_option linter.unusedVariables false
set_option linter.unusedSimpArgs false
structure RIn (w : World) (base g : Nat) (v : Value) (cs : List S85) : Prop where
 hg : base ≤ g
 blk : w.heap[g]? = some (.cells #[v] 94 (0, 0))
 row : Kd.R k85 85 w base (fun _ => True) v cs
theorem RIn.below {w w1 : World} {base g : Nat} {v : Value} {cs : List S85} (h : RIn w base g v cs) (hb : Below w.heap.size w w1) : RIn w1 base g v cs :=
 ⟨h.hg, blk_below h.blk hb, Kd.R_below h.row hb⟩
structure ROK (w : World) (g : Nat) (cs : List S85) : Prop where
 inn : ∃ base v, RIn w base g v cs
theorem ROK.below {w w1 : World} {g : Nat} {cs : List S85} (h : ROK w g cs) (hb : Below w.heap.size w w1) : ROK w1 g cs := by
 obtain ⟨base, v, hi⟩ := h
 exact ⟨base, v, hi.below hb⟩
theorem ROK.alloc {w : World} {g : Nat} {cs : List S85} (h : ROK w g cs) (o : Obj) : ROK (w.alloc o) g cs := h.below ((Below.refl _ _).alloc (Nat.le_refl _) o)
theorem ROK.drewN {w : World} {g : Nat} {cs : List S85} (h : ROK w g cs) (n : Nat) : ROK (w.drewN n) g cs := h.below (pw_below_drewN (Below.refl _ _) n)
theorem ROK.drew {w : World} {g : Nat} {cs : List S85} (h : ROK w g cs) : ROK w.drew g cs := h.below (below_drew (Below.refl _ _))
theorem ROK.at_ {w w' : World} {m g : Nat} {cs : List S85} (hq : w.drewN m = w') (h : ROK w g cs) : ROK w' g cs := hq ▸ h.drewN m
theorem ROK.set {w : World} {g : Nat} {cs : List S85} {b t : Nat} (h : ROK w g cs) (hb : TypeAt w b t) (ht : ∀ q, q ∈ 94 :: 85 :: k85.E → q ≠ t) (j : Nat) (u : Value) : ROK (w.setCell ⟨b, j, none⟩ u) g cs := by
 obtain ⟨base, v, hi⟩ := h; obtain ⟨cells, hb⟩ := hb
 exact ⟨base, v, hi.hg, blk_far (p := ⟨b, j, none⟩) hi.blk (blk_ne hi.blk hb (ht _ List.mem_cons_self)) u, Kd.R_set hi.row hb (fun q hq => ht q (by simp [hq])) j u⟩
theorem ROK.open {w : World} {g : Nat} {cs : List S85} (h : ROK w g cs) : ∃ (A : Option Addr) (c : Nat), w.cell? ⟨g, 0, none⟩ = some (.slice A cs.length c) ∧ Kd.C k85 w A cs.length cs ∧ cs.length ≤ c := by
 obtain ⟨base, v, hi⟩ := h; obtain ⟨A, c, rfl, hl, RC⟩ := Kd.R_reads hi.row
 exact ⟨A, c, (blk_cell hi.blk 0).trans rfl, RC, hl⟩
end Go.Proofs.YtaipkdglhfhhiaaGreatDoor.Pt

namespace Go.Proofs.YtaipkdglhfhhiaaGreatDoor.Pt
open Go.RowKit Go.Proofs.YtaipkdglhfhhiaaGreatDoorW.PrintWords Go.Proofs.YtaipkdglhfhhiaaGreatDoorW.PrintLast Go.Proofs.YtaipkdglhfhhiaaGreatDoorW.PrintMore
attribute [local go_sem] max2_int min2_int max_two min_two max_three min_three max_four min_four   -- for this text's walks alone
set_option linter.unusedVariables false
set_option linter.unusedSimpArgs false
mutual
def arbiterref02_ParseDesc.j0 : Nat → ByteArray → Bool → Bool → Bool → Int → ByteArray → Option ((List (S24)) × Bool × Int × ByteArray × Int)
 | 0, _, _, _, _, _, _ => none
 | k + 1, x0, x5, x23, x103001, x103002, x103003 => if x23 = true then (some (([] : List (S24)), x103001, x103002, x103003, 4)) else (arbiterref02_ParseDesc.l0 k x0 x5 1 ([] : List (S24)) x103001 x103002 x103003)
def arbiterref02_ParseDesc.l0 : Nat → ByteArray → Bool → Int → List (S24) → Bool → Int → ByteArray → Option ((List (S24)) × Bool × Int × ByteArray × Int)
 | 0, _, _, _, _, _, _, _ => none
 | k + 1, x0, x5, x6, x103000, x103001, x103002, x103003 => if x6 < (x0.size : Int) then (if 0 ≤ x6 then (arbiterref02_ParseDesc.j2 k x0 x5 x6 ((bt x0 x6) != 41) x103000 x103001 x103002 x103003) else (none)) else (arbiterref02_ParseDesc.j2 k x0 x5 x6 false x103000 x103001 x103002 x103003)
def arbiterref02_ParseDesc.j2 : Nat → ByteArray → Bool → Int → Bool → List (S24) → Bool → Int → ByteArray → Option ((List (S24)) × Bool × Int × ByteArray × Int)
 | 0, _, _, _, _, _, _, _, _ => none
 | k + 1, x0, x5, x6, x34, x103000, x103001, x103002, x103003 => if x34 = true then ((arbiterref02_read.f x0 x6).bind fun bt103 => (if bt103.2.2 < 0 then (some (([] : List (S24)), false, 0, (⟨#[]⟩ : ByteArray), 4)) else (if x5 = true then (if x103000.length < 5864062014805 then (arbiterref02_ParseDesc.l0 k x0 true bt103.2.2 (x103000 ++ [(⟨bt103.1, bt103.2.1⟩ : S24)]) x103001 x103002 x103003) else (none)) else (if x103000.length < 5864062014805 then (arbiterref02_ParseDesc.l0 k x0 (decide (bt103.1 > 255)) bt103.2.2 (x103000 ++ [(⟨bt103.1, bt103.2.1⟩ : S24)]) x103001 x103002 x103003) else (none))))) else (if x6 ≥ (x0.size : Int) then (some (([] : List (S24)), false, 0, (⟨#[]⟩ : ByteArray), 4)) else (if (wrap64 (x6 + 1)) < (x0.size : Int) then (if 0 ≤ (wrap64 (x6 + 1)) then (arbiterref02_ParseDesc.j3 k x0 x5 (wrap64 (x6 + 1)) ((bt x0 (wrap64 (x6 + 1))) == 86) x103000 x103001 x103002 x103003) else (none)) else (arbiterref02_ParseDesc.j3 k x0 x5 (wrap64 (x6 + 1)) false x103000 x103001 x103002 x103003)))
def arbiterref02_ParseDesc.j3 : Nat → ByteArray → Bool → Int → Bool → List (S24) → Bool → Int → ByteArray → Option ((List (S24)) × Bool × Int × ByteArray × Int)
 | 0, _, _, _, _, _, _, _, _ => none
 | k + 1, x0, x5, x6, x73, x103000, x103001, x103002, x103003 => if x73 = true then (arbiterref02_ParseDesc.j4 k x0 x5 (wrap64 (x6 + 1)) x103000 true x103002 x103003) else ((arbiterref02_read.f x0 x6).bind fun bt113 => (if x5 = true then (arbiterref02_ParseDesc.j4 k x0 true bt113.2.2 x103000 x103001 bt113.1 bt113.2.1) else (arbiterref02_ParseDesc.j4 k x0 (decide (bt113.1 > 255)) bt113.2.2 x103000 x103001 bt113.1 bt113.2.1)))
def arbiterref02_ParseDesc.j4 : Nat → ByteArray → Bool → Int → List (S24) → Bool → Int → ByteArray → Option ((List (S24)) × Bool × Int × ByteArray × Int)
 | 0, _, _, _, _, _, _, _ => none
 | k + 1, x0, x5, x6, x103000, x103001, x103002, x103003 => if x6 = (x0.size : Int) then (if x5 = true then (some (([] : List (S24)), false, 0, (⟨#[]⟩ : ByteArray), 5)) else (if (x103000.length : Int) > 20 then (some (([] : List (S24)), false, 0, (⟨#[]⟩ : ByteArray), 5)) else (some (x103000, x103001, x103002, x103003, 0)))) else (some (([] : List (S24)), false, 0, (⟨#[]⟩ : ByteArray), 4))
end
def arbiterref02_ParseDesc.f (k : Nat) (a0 : ByteArray) : Option ((List (S24)) × Bool × Int × ByteArray × Int) := if (a0.size : Int) > 2000 then (some (([] : List (S24)), false, 0, (⟨#[]⟩ : ByteArray), 5)) else (if (a0.size : Int) = 0 then (arbiterref02_ParseDesc.j0 k a0 false true false 0 (⟨#[]⟩ : ByteArray)) else (if 0 < (a0.size : Int) then (arbiterref02_ParseDesc.j0 k a0 false ((bt a0 0) != 40) false 0 (⟨#[]⟩ : ByteArray)) else (none)))
set_option maxHeartbeats 8000000 in
set_option maxRecDepth 100000 in
theorem arbiterref02_ParseDesc.calls (k : Nat) (a0 : ByteArray) (r1 : List (S24)) (r2 : Bool) (r3 : Int) (r4 : ByteArray) (r5 : Int) (w : World) (h : arbiterref02_ParseDesc.f k a0 = some (r1, r2, r3, r4, r5)) :
  Calls Tryz.prog 141 #[.string a0] w fun e w' => ∃ v0_ : Value, e = .returned (.tuple #[.agg #[v0_, .bool r2, .int .i64 r3, .string r4], .int .i64 r5]) ∧ Kd.R k24 24 w' w.heap.size (fun _ => True) v0_ r1 ∧ Below w.heap.size w w' := by
 have hu172 := Tryz.underlying172; have hu24 := Tryz.underlying24; have HB := Aside0.mk (Below.refl w.heap.size w); have H : (if (a0.size : Int) > 2000 then (some (([] : List (S24)), false, 0, (⟨#[]⟩ : ByteArray), 5)) else (if (a0.size : Int) = 0 then (arbiterref02_ParseDesc.j0 k a0 false true false 0 (⟨#[]⟩ : ByteArray)) else (if 0 < (a0.size : Int) then (arbiterref02_ParseDesc.j0 k a0 false ((bt a0 0) != 40) false 0 (⟨#[]⟩ : ByteArray)) else (none)))) = some (r1, r2, r3, r4, r5) := h; clear h
 by_cases c2 : (a0.size : Int) > 2000
 ·rw [if_pos c2] at H
  have c2b0 : decide (2000 < (a0.size : Int)) = true := decide_eq_true c2; have c2b1 : decide (2000 < a0.size) = true := decide_eq_true (by omega); clear c2; simp only [Option.some.injEq, Prod.mk.injEq] at H; obtain ⟨rfl, rfl, rfl, rfl, rfl⟩ := H; go_enter Tryz.func141, Tryz.ntmps141; go_wp2_with (first | ((with_reducible refine gate_dst (N := 2) rfl ?_); (try (refine gate_guard (by rfl) ?_; dsimp only)); refine eX 2 #[.slice none 0 0, .bool false, .int .i64 0, .string (⟨#[]⟩ : ByteArray)] 172 ?_; intro gb101 hg w3 hbox hb; have n0_ := Aside0.mk (below_step (bX HB) hb); have n1_ := Aside0.mk (hbox); have n2_ := Aside0.mk ((by rw [hg]; exact (below_size (bX HB)) : w.heap.size ≤ gb101)); have n3_ := Aside0.mk ((by rw [hg]; exact (below_size (bX HB)) : w.heap.size ≤ gb101)); clear HB; have HB := n0_; have BK101 := n1_; have GW101 := n2_; have GE101 := n3_; clear n0_ n1_ n2_ n3_; clear hb hbox hg; obtain ⟨hcz4_0, hcz4_1, hcz4_2, hcz4_3, hfz4_0, hfz4_1, hfz4_2, hfz4_3⟩ := c4X BK101)); refine bodyPost_ret (results_ct rfl _ _ gb101 172 #[.slice none 0 0, .bool false, .int .i64 0, .string (⟨#[]⟩ : ByteArray)] (0, 0) _ rfl (by (with_reducible repeat (first | refine blk_drewN ?_ _ | refine blk_drew ?_ | refine blk_alloc ?_ _)); refine blk_put (cs := #[.slice none 0 0, .bool false, .int .i64 0, .string (⟨#[]⟩ : ByteArray)]) ?_ 3 _ rfl; (with_reducible repeat (first | refine blk_drewN ?_ _ | refine blk_drew ?_ | refine blk_alloc ?_ _)); refine blk_put (cs := #[.slice none 0 0, .bool false, .int .i64 0, .string (⟨#[]⟩ : ByteArray)]) ?_ 2 _ rfl; (with_reducible repeat (first | refine blk_drewN ?_ _ | refine blk_drew ?_ | refine blk_alloc ?_ _)); refine blk_put (cs := #[.slice none 0 0, .bool false, .int .i64 0, .string (⟨#[]⟩ : ByteArray)]) ?_ 1 _ rfl; (with_reducible repeat (first | refine blk_drewN ?_ _ | refine blk_drew ?_ | refine blk_alloc ?_ _)); refine blk_put (cs := #[.slice none 0 0, .bool false, .int .i64 0, .string (⟨#[]⟩ : ByteArray)]) ?_ 0 _ rfl; (with_reducible repeat (first | refine blk_drewN ?_ _ | refine blk_drew ?_ | refine blk_alloc ?_ _)); exact BK101.out) Tryz.underlying172 rfl (by kernel_rfl)) rfl ?_
  exact ⟨_, by first | rfl | (simp [errW_none, errW_some] <;> rfl) | (simp [*, errW_none, errW_some] <;> rfl), by first | exact Kd.R_nil _ _ _ _ _ | exact Kd.N_nil _ _ _ _ _ | exact Kd.V_nil _ _ _ _ _ | exact Kd.Q_nil _ _ _ _ _ | exact Kd.S_nil _ _ _ _ _, bX1 HB GE101⟩
 ·rw [if_neg c2] at H
  have c2b0 : decide (2000 < (a0.size : Int)) = false := decide_eq_false c2; have c2b1 : decide (2000 < a0.size) = false := decide_eq_false (by omega); clear c2; have HC5 := Aside0.mk H; clear H; go_enter Tryz.func141, Tryz.ntmps141
  go_upto_region 5 with (first | ((with_reducible refine gate_dst (N := 2) rfl ?_); (try (refine gate_guard (by rfl) ?_; dsimp only)); refine eX 2 #[.slice none 0 0, .bool false, .int .i64 0, .string (⟨#[]⟩ : ByteArray)] 172 ?_; intro gb101 hg w6 hbox hb; have n0_ := Aside0.mk (below_step (bX HB) hb); have n1_ := Aside0.mk (hbox); have n2_ := Aside0.mk ((by rw [hg]; exact (below_size (bX HB)) : w.heap.size ≤ gb101)); have n3_ := Aside0.mk ((by rw [hg]; exact (below_size (bX HB)) : w.heap.size ≤ gb101)); clear HB; have HB := n0_; have BK101 := n1_; have GW101 := n2_; have GE101 := n3_; clear n0_ n1_ n2_ n3_; clear hb hbox hg) | ((with_reducible refine gate_dst (N := 4) rfl ?_); (try (refine gate_guard (by rfl) ?_; dsimp only)); refine eX 4 #[.slice none 0 0, .bool false, .int .i64 0, .string (⟨#[]⟩ : ByteArray)] 172 ?_; intro gb102 hg w7 hbox hb; have n0_ := Aside0.mk (blk_below (kX BK101) hb); have n1_ := Aside0.mk (below_step (bX1 HB GE101) hb); have n2_ := Aside0.mk (hbox); have n3_ := Aside0.mk ((by rw [hg]; exact (below_size (bX1 HB GE101)) : w.heap.size ≤ gb102)); have n4_ := Aside0.mk ((by rw [hg]; exact (below_size (bX1 HB GE101)) : w.heap.size ≤ gb102)); have n5_ := Aside0.mk ((by rw [hg]; exact Nat.ne_of_lt (blk_lt (kX BK101)) : gb101 ≠ gb102)); have n6_ := Aside0.mk ((by rw [hg]; exact Nat.ne_of_gt (blk_lt (kX BK101)) : gb102 ≠ gb101)); clear BK101; clear HB; have BK101 := n0_; have HB := n1_; have BK102 := n2_; have GW102 := n3_; have GE102 := n4_; have NB101_102 := n5_; have NB102_101 := n6_; clear n0_ n1_ n2_ n3_ n4_ n5_ n6_; clear hb hbox hg; have hnb8 := NB102_101.out; have hnc8 := NB101_102.out; obtain ⟨hcz9_0, hcz9_1, hcz9_2, hcz9_3, hfz9_0, hfz9_1, hfz9_2, hfz9_3⟩ := c4X BK102))
  (try simp only [Act.put, List.setIfInBounds_toArray, List.set_cons_zero, List.set_cons_succ])
  go_cut [23] (fun v23 wc => ∃ (kq : Nat) (x23_4 : Bool), v23 = .bool x23_4 ∧ Aside0 (arbiterref02_ParseDesc.j0 kq a0 false x23_4 false 0 (⟨#[]⟩ : ByteArray) = some (r1, r2, r3, r4, r5)) ∧ Aside0 (kq ≤ k) ∧ Aside0 (wc.heap[gb101]? = some (.cells #[(.slice none 0 0), .bool false, .int .i64 0, .string (⟨#[]⟩ : ByteArray)] 172 (0, 0))) ∧ Aside0 (wc.heap[gb102]? = some (.cells #[(.slice none 0 0), .bool false, .int .i64 0, .string (⟨#[]⟩ : ByteArray)] 172 (0, 0))) ∧ Aside0 (Below w.heap.size w wc))
  case first =>
   have H := HC5.out; clear HC5
   by_cases c10 : (a0.size : Int) = 0
   ·rw [if_pos c10] at H
    have c10b0 : ((a0.size : Int) == 0) = true := beq_iff_eq.mpr c10; have c10b1 : ((a0.size : Int) != 0) = false := bne_eq_false_iff_eq.mpr c10; clear c10
    (first | rw [c10b0] | (simp only [i64_w, i32_w]; rw [c10b0]) | skip)
    have H' := Aside0.mk H; clear H; go_wp2; go_meet
    case rel => exact ⟨_, (true), vX, H', ⟨by first | omega | exact Nat.le_refl _⟩, ⟨fX BK101 NB101_102⟩, ⟨by (with_reducible repeat (first | refine blk_drewN ?_ _ | refine blk_drew ?_ | refine blk_alloc ?_ _)); refine blk_put (cs := #[.slice none 0 0, .bool false, .int .i64 0, .string (⟨#[]⟩ : ByteArray)]) ?_ 3 _ rfl; (with_reducible repeat (first | refine blk_drewN ?_ _ | refine blk_drew ?_ | refine blk_alloc ?_ _)); refine blk_put (cs := #[.slice none 0 0, .bool false, .int .i64 0, .string (⟨#[]⟩ : ByteArray)]) ?_ 2 _ rfl; (with_reducible repeat (first | refine blk_drewN ?_ _ | refine blk_drew ?_ | refine blk_alloc ?_ _)); refine blk_put (cs := #[.slice none 0 0, .bool false, .int .i64 0, .string (⟨#[]⟩ : ByteArray)]) ?_ 1 _ rfl; (with_reducible repeat (first | refine blk_drewN ?_ _ | refine blk_drew ?_ | refine blk_alloc ?_ _)); refine blk_put (cs := #[.slice none 0 0, .bool false, .int .i64 0, .string (⟨#[]⟩ : ByteArray)]) ?_ 0 _ rfl; (with_reducible repeat (first | refine blk_drewN ?_ _ | refine blk_drew ?_ | refine blk_alloc ?_ _)); exact BK102.out⟩, ⟨bX2 HB GE101 GE102⟩⟩
   ·rw [if_neg c10] at H
    have c10b0 : ((a0.size : Int) == 0) = false := beq_eq_false_iff_ne.mpr c10; have c10b1 : ((a0.size : Int) != 0) = true := bne_iff_ne.mpr c10
    (first | rw [c10b0] | (simp only [i64_w, i32_w]; rw [c10b0]) | skip)
    by_cases c11 : 0 < (a0.size : Int)
    ·rw [if_pos c11] at H
     have c11b0 : decide (0 < (a0.size : Int)) = true := decide_eq_true c11; have c11b1 : decide (0 < a0.size) = true := decide_eq_true (by omega); clear c11; have H' := Aside0.mk H; clear H
     have p12 : 0 ≤ (0 : Int) := (by omega)
     have q12 : 0 < a0.size := (by have : (0 : Int) < (a0.size : Int) := qX; omega)
     have hx12 : ∀ h : 0 < a0.size, ((a0[0]'h).toNat : Int) = bt a0 0 := bt_at a0 0; clear p12; have qi12 : (0 < (a0.size : Int)) = True := eq_true (qX); replace q12 := eq_true q12; go_wp2; go_meet
     case rel => exact ⟨_, (((bt a0 0) != 40)), vX, H', ⟨by first | omega | exact Nat.le_refl _⟩, ⟨fX BK101 NB101_102⟩, ⟨by (with_reducible repeat (first | refine blk_drewN ?_ _ | refine blk_drew ?_ | refine blk_alloc ?_ _)); refine blk_put (cs := #[.slice none 0 0, .bool false, .int .i64 0, .string (⟨#[]⟩ : ByteArray)]) ?_ 3 _ rfl; (with_reducible repeat (first | refine blk_drewN ?_ _ | refine blk_drew ?_ | refine blk_alloc ?_ _)); refine blk_put (cs := #[.slice none 0 0, .bool false, .int .i64 0, .string (⟨#[]⟩ : ByteArray)]) ?_ 2 _ rfl; (with_reducible repeat (first | refine blk_drewN ?_ _ | refine blk_drew ?_ | refine blk_alloc ?_ _)); refine blk_put (cs := #[.slice none 0 0, .bool false, .int .i64 0, .string (⟨#[]⟩ : ByteArray)]) ?_ 1 _ rfl; (with_reducible repeat (first | refine blk_drewN ?_ _ | refine blk_drew ?_ | refine blk_alloc ?_ _)); refine blk_put (cs := #[.slice none 0 0, .bool false, .int .i64 0, .string (⟨#[]⟩ : ByteArray)]) ?_ 0 _ rfl; (with_reducible repeat (first | refine blk_drewN ?_ _ | refine blk_drew ?_ | refine blk_alloc ?_ _)); exact BK102.out⟩, ⟨bX2 HB GE101 GE102⟩⟩
    ·rw [if_neg c11] at H
     exact absurd H (by simp)
  case rest =>
   clear HC5
   try clear c1
   try clear p1
   try clear q1
   try clear hx1
   try clear qi1
   try clear c2
   try clear c2b0
   try clear c2b1
   try clear p2
   try clear c8
   try clear c10
   try clear c10b0
   try clear c10b1
   try clear c11
   try clear c11b0
   try clear c11b1
   try clear p12
   try clear q12
   try clear hx12
   try clear qi12
   try clear hcz4_0 hcz4_1 hcz4_2 hcz4_3
   try clear hcz9_0 hcz9_1 hcz9_2 hcz9_3
   try clear hfz4_0 hfz4_1 hfz4_2 hfz4_3
   try clear hfz9_0 hfz9_1 hfz9_2 hfz9_3
   try clear p12
   try clear q12
   obtain ⟨kq, x23_4, rfl, HA, HJ4, BK101, BK102, HB⟩ := hcut
   cases kq with
   | zero => exact absurd HA.out (by simp [arbiterref02_ParseDesc.j0])
   | succ kj4 =>
    have H := HA.out; clear HA; simp only [arbiterref02_ParseDesc.j0] at H
    by_cases c13 : x23_4 = true
    ·subst c13
     have H1 : (some (([] : List (S24)), false, 0, (⟨#[]⟩ : ByteArray), 4)) = some (r1, r2, r3, r4, r5) := by rw [if_pos rfl] at H; exact H
     clear H; have H := H1; clear H1; simp only [Option.some.injEq, Prod.mk.injEq] at H; obtain ⟨rfl, rfl, rfl, rfl, rfl⟩ := H; have hnb14 := NB102_101.out; have hnc14 := NB101_102.out; obtain ⟨hcz15_0, hcz15_1, hcz15_2, hcz15_3, hfz15_0, hfz15_1, hfz15_2, hfz15_3⟩ := c4X BK102; obtain ⟨hcz16_0, hcz16_1, hcz16_2, hcz16_3, hfz16_0, hfz16_1, hfz16_2, hfz16_3⟩ := c4X BK101; go_wp2; refine bodyPost_ret (results_ct rfl _ _ gb101 172 #[.slice none 0 0, .bool false, .int .i64 0, .string (⟨#[]⟩ : ByteArray)] (0, 0) _ rfl (by (with_reducible repeat (first | refine blk_drewN ?_ _ | refine blk_drew ?_ | refine blk_alloc ?_ _)); refine blk_put (cs := #[.slice none 0 0, .bool false, .int .i64 0, .string (⟨#[]⟩ : ByteArray)]) ?_ 3 _ rfl; (with_reducible repeat (first | refine blk_drewN ?_ _ | refine blk_drew ?_ | refine blk_alloc ?_ _)); refine blk_put (cs := #[.slice none 0 0, .bool false, .int .i64 0, .string (⟨#[]⟩ : ByteArray)]) ?_ 2 _ rfl; (with_reducible repeat (first | refine blk_drewN ?_ _ | refine blk_drew ?_ | refine blk_alloc ?_ _)); refine blk_put (cs := #[.slice none 0 0, .bool false, .int .i64 0, .string (⟨#[]⟩ : ByteArray)]) ?_ 1 _ rfl; (with_reducible repeat (first | refine blk_drewN ?_ _ | refine blk_drew ?_ | refine blk_alloc ?_ _)); refine blk_put (cs := #[.slice none 0 0, .bool false, .int .i64 0, .string (⟨#[]⟩ : ByteArray)]) ?_ 0 _ rfl; (with_reducible repeat (first | refine blk_drewN ?_ _ | refine blk_drew ?_ | refine blk_alloc ?_ _)); exact BK101.out) Tryz.underlying172 rfl (by kernel_rfl)) rfl ?_
     exact ⟨_, by first | rfl | (simp [errW_none, errW_some] <;> rfl) | (simp [*, errW_none, errW_some] <;> rfl), by first | exact Kd.R_nil _ _ _ _ _ | exact Kd.N_nil _ _ _ _ _ | exact Kd.V_nil _ _ _ _ _ | exact Kd.Q_nil _ _ _ _ _ | exact Kd.S_nil _ _ _ _ _, bX2 HB GE101 GE102⟩
    ·replace c13 := Bool.eq_false_iff.mpr c13
     subst c13
     have H1 : (arbiterref02_ParseDesc.l0 kj4 a0 false 1 ([] : List (S24)) false 0 (⟨#[]⟩ : ByteArray)) = some (r1, r2, r3, r4, r5) := by rw [if_neg (show ¬ (false = true) by decide)] at H; exact H
     clear H; have H := H1; clear H1; have H' := Aside0.mk H; clear H; go_wp2
     go_loopg [5, 6] kj4 (fun kq v5 v6 w' => ∃ (x5_2 : Bool) (x6_2 : Int) (x102001_2 : Bool) (x102002_2 : Int) (x102003_2 : ByteArray) (x103000_2 : List (S24)) (u103000 : Value), v5 = .bool x5_2 ∧ v6 = .int .i64 x6_2 ∧ Aside0 (arbiterref02_ParseDesc.l0 kq a0 x5_2 x6_2 x103000_2 false 0 (⟨#[]⟩ : ByteArray) = some (r1, r2, r3, r4, r5)) ∧ Aside0 (kq ≤ kj4) ∧ Aside0 (Kd.R k24 24 w' w.heap.size (fun _ => True) u103000 x103000_2) ∧ Aside0 (w'.heap[gb101]? = some (.cells #[(.slice none 0 0), .bool x102001_2, .int .i64 x102002_2, .string x102003_2] 172 (0, 0))) ∧ Aside0 (w'.heap[gb102]? = some (.cells #[u103000, .bool false, .int .i64 0, .string (⟨#[]⟩ : ByteArray)] 172 (0, 0))) ∧ Aside0 (Below w.heap.size w w'))
     case atStart => exact ⟨(false), (1), (false), (0), ((⟨#[]⟩ : ByteArray)), (([] : List (S24))), (.slice none 0 0), vX, vX, H', ⟨Nat.le_refl _⟩, ⟨by first | exact Kd.R_nil _ _ _ _ _ | exact Kd.N_nil _ _ _ _ _ | exact Kd.V_nil _ _ _ _ _ | exact Kd.Q_nil _ _ _ _ _ | exact Kd.S_nil _ _ _ _ _⟩, ⟨by (with_reducible repeat (first | refine blk_drewN ?_ _ | refine blk_drew ?_ | refine blk_alloc ?_ _)); exact BK101.out⟩, ⟨by (with_reducible repeat (first | refine blk_drewN ?_ _ | refine blk_drew ?_ | refine blk_alloc ?_ _)); exact BK102.out⟩, ⟨bX2 HB GE101 GE102⟩⟩
     case round =>
      clear H'
      try clear c1
      try clear p1
      try clear q1
      try clear hx1
      try clear qi1
      try clear c2
      try clear c2b0
      try clear c2b1
      try clear p2
      try clear c8
      try clear c10
      try clear c10b0
      try clear c10b1
      try clear c11
      try clear c11b0
      try clear c11b1
      try clear p12
      try clear q12
      try clear hx12
      try clear qi12
      try clear c13
      try clear c14
      try clear hcz15_0 hcz15_1 hcz15_2 hcz15_3
      try clear hcz16_0 hcz16_1 hcz16_2 hcz16_3
      try clear hcz4_0 hcz4_1 hcz4_2 hcz4_3
      try clear hcz9_0 hcz9_1 hcz9_2 hcz9_3
      try clear hfz15_0 hfz15_1 hfz15_2 hfz15_3
      try clear hfz16_0 hfz16_1 hfz16_2 hfz16_3
      try clear hfz4_0 hfz4_1 hfz4_2 hfz4_3
      try clear hfz9_0 hfz9_1 hfz9_2 hfz9_3
      try clear p1
      try clear p12
      try clear p2
      try clear q1
      try clear q12
      obtain ⟨x5_2, x6_2, x102001_2, x102002_2, x102003_2, x103000_2, u103000, rfl, rfl, HA, HK2, HO_103000, BK101, BK102, HB⟩ := hrel
      cases gk with
      | zero => exact absurd HA.out (by simp [arbiterref02_ParseDesc.l0])
      | succ k2 =>
       have H := HA.out; clear HA; simp only [arbiterref02_ParseDesc.l0] at H; have HC17 := Aside0.mk H; clear H
       go_upto_region 8 with (fail)
       go_cut [34] (fun v34 wc => ∃ (kq : Nat) (x34_16 : Bool), v34 = .bool x34_16 ∧ Aside0 (arbiterref02_ParseDesc.j2 kq a0 x5_2 x6_2 x34_16 x103000_2 false 0 (⟨#[]⟩ : ByteArray) = some (r1, r2, r3, r4, r5)) ∧ Aside0 (kq ≤ k2) ∧ Aside0 (Kd.R k24 24 wc w.heap.size (fun _ => True) u103000 x103000_2) ∧ Aside0 (wc.heap[gb101]? = some (.cells #[(.slice none 0 0), .bool x102001_2, .int .i64 x102002_2, .string x102003_2] 172 (0, 0))) ∧ Aside0 (wc.heap[gb102]? = some (.cells #[u103000, .bool false, .int .i64 0, .string (⟨#[]⟩ : ByteArray)] 172 (0, 0))) ∧ Aside0 (Below w.heap.size w wc))
       case first =>
        have H := HC17.out; clear HC17
        by_cases c18 : x6_2 < (a0.size : Int)
        ·rw [if_pos c18] at H
         have c18b0 : decide (x6_2 < (a0.size : Int)) = true := decide_eq_true c18; clear c18
         (first | rw [c18b0] | (simp only [i64_w, i32_w]; rw [c18b0]) | skip)
         by_cases c19 : 0 ≤ x6_2
         ·rw [if_pos c19] at H
          have c19b0 : decide (0 ≤ x6_2) = true := decide_eq_true c19; clear c19; have H' := Aside0.mk H; clear H; have p20 : 0 ≤ (x6_2 : Int) := qX; have q20 : x6_2 < (a0.size : Int) := qX; have hx20 := bt_at a0 x6_2; replace p20 := eq_true p20; replace q20 := eq_true q20; go_wp2; go_meet
          case rel => exact ⟨_, (((bt a0 x6_2) != 41)), vX, H', ⟨by have := HJ4.out; have := HK2.out; first | omega | exact Nat.le_refl _⟩, ⟨rX HO_103000⟩, ⟨by (with_reducible repeat (first | refine blk_drewN ?_ _ | refine blk_drew ?_ | refine blk_alloc ?_ _)); exact BK101.out⟩, ⟨by (with_reducible repeat (first | refine blk_drewN ?_ _ | refine blk_drew ?_ | refine blk_alloc ?_ _)); exact BK102.out⟩, ⟨bX2 HB GE101 GE102⟩⟩
         ·rw [if_neg c19] at H
          exact absurd H (by simp)
        ·rw [if_neg c18] at H
         have c18b0 : decide (x6_2 < (a0.size : Int)) = false := decide_eq_false c18; clear c18
         (first | rw [c18b0] | (simp only [i64_w, i32_w]; rw [c18b0]) | skip)
         have H' := Aside0.mk H; clear H; go_wp2; go_meet
         case rel => exact ⟨_, (false), vX, H', ⟨by have := HJ4.out; have := HK2.out; first | omega | exact Nat.le_refl _⟩, ⟨rX HO_103000⟩, ⟨by (with_reducible repeat (first | refine blk_drewN ?_ _ | refine blk_drew ?_ | refine blk_alloc ?_ _)); exact BK101.out⟩, ⟨by (with_reducible repeat (first | refine blk_drewN ?_ _ | refine blk_drew ?_ | refine blk_alloc ?_ _)); exact BK102.out⟩, ⟨bX2 HB GE101 GE102⟩⟩
       case rest =>
        clear HC17
        try clear c1
        try clear p1
        try clear q1
        try clear hx1
        try clear qi1
        try clear c2
        try clear c2b0
        try clear c2b1
        try clear p2
        try clear q2
        try clear hx2
        try clear c8
        try clear c10
        try clear c10b0
        try clear c10b1
        try clear c11
        try clear c11b0
        try clear c11b1
        try clear p12
        try clear q12
        try clear hx12
        try clear qi12
        try clear c13
        try clear c14
        try clear c18
        try clear c18b0
        try clear c19
        try clear c19b0
        try clear p20
        try clear q20
        try clear hx20
        try clear hcz15_0 hcz15_1 hcz15_2 hcz15_3
        try clear hcz16_0 hcz16_1 hcz16_2 hcz16_3
        try clear hcz4_0 hcz4_1 hcz4_2 hcz4_3
        try clear hcz9_0 hcz9_1 hcz9_2 hcz9_3
        try clear hfz15_0 hfz15_1 hfz15_2 hfz15_3
        try clear hfz16_0 hfz16_1 hfz16_2 hfz16_3
        try clear hfz4_0 hfz4_1 hfz4_2 hfz4_3
        try clear hfz9_0 hfz9_1 hfz9_2 hfz9_3
        try clear p1
        try clear p12
        try clear p2
        try clear p20
        try clear q1
        try clear q12
        try clear q20
        obtain ⟨kq, x34_16, rfl, HA, HJ16, HO_103000, BK101, BK102, HB⟩ := hcut
        cases kq with
        | zero => exact absurd HA.out (by simp [arbiterref02_ParseDesc.j2])
        | succ kj16 =>
         have H := HA.out; clear HA; simp only [arbiterref02_ParseDesc.j2] at H
         by_cases c21 : x34_16 = true
         ·subst c21
          have H1 : ((arbiterref02_read.f a0 x6_2).bind fun bt103 => (if bt103.2.2 < 0 then (some (([] : List (S24)), false, 0, (⟨#[]⟩ : ByteArray), 4)) else (if x5_2 = true then (if x103000_2.length < 5864062014805 then (arbiterref02_ParseDesc.l0 kj16 a0 true bt103.2.2 (x103000_2 ++ [(⟨bt103.1, bt103.2.1⟩ : S24)]) false 0 (⟨#[]⟩ : ByteArray)) else (none)) else (if x103000_2.length < 5864062014805 then (arbiterref02_ParseDesc.l0 kj16 a0 (decide (bt103.1 > 255)) bt103.2.2 (x103000_2 ++ [(⟨bt103.1, bt103.2.1⟩ : S24)]) false 0 (⟨#[]⟩ : ByteArray)) else (none))))) = some (r1, r2, r3, r4, r5) := by rw [if_pos rfl] at H; exact H
          clear H; have H := H1; clear H1; replace H := Option.bind_eq_some_iff.mp H; obtain ⟨⟨t103, t104, t105⟩, A220, H⟩ := H; replace H : (if t105 < 0 then (some (([] : List (S24)), false, 0, (⟨#[]⟩ : ByteArray), 4)) else (if x5_2 = true then (if x103000_2.length < 5864062014805 then (arbiterref02_ParseDesc.l0 kj16 a0 true t105 (x103000_2 ++ [(⟨t103, t104⟩ : S24)]) false 0 (⟨#[]⟩ : ByteArray)) else (none)) else (if x103000_2.length < 5864062014805 then (arbiterref02_ParseDesc.l0 kj16 a0 (decide (t103 > 255)) t105 (x103000_2 ++ [(⟨t103, t104⟩ : S24)]) false 0 (⟨#[]⟩ : ByteArray)) else (none)))) = some (r1, r2, r3, r4, r5) := H; have A22 := Aside0.mk A220; clear A220
          by_cases c23 : t105 < 0
          ·rw [if_pos c23] at H
           have c23b0 : decide (t105 < 0) = true := decide_eq_true c23; clear c23; simp only [Option.some.injEq, Prod.mk.injEq] at H; obtain ⟨rfl, rfl, rfl, rfl, rfl⟩ := H; go_wp2_with (first | ((with_reducible refine gate_callee (f := 158) rfl ?_); refine gX (some 38) Tryz.func158 #[.string a0, .int .i64 x6_2] ?_; (with_reducible refine (arbiterref02_read.calls a0 x6_2 t103 t104 t105 _ A22.out).mono ?_); rintro e w24 ⟨rfl, hb⟩; refine ⟨_, rfl, ?_⟩; have n0_ := Aside0.mk (Kd.R_below (rX HO_103000) hb); have n1_ := Aside0.mk (blk_below (kX BK101) hb); have n2_ := Aside0.mk (blk_below (kX BK102) hb); have n3_ := Aside0.mk (below_step (bX2 HB GE101 GE102) hb); clear HO_103000; clear BK101; clear BK102; clear HB; have HO_103000 := n0_; have BK101 := n1_; have BK102 := n2_; have HB := n3_; clear n0_ n1_ n2_ n3_; (try clear hb); (try clear hb2); (try clear hk); (try clear hi)) | ((with_reducible refine gate_dst (N := 7) rfl ?_); (try (refine gate_guard (by rfl) ?_; dsimp only)); refine eX 7 #[.int .i64 0, .string (⟨#[]⟩ : ByteArray)] 24 ?_; intro gb106 hg w25 hbox hb; have n0_ := Aside0.mk (Kd.R_below (Kd.R_elderB (rX HO_103000) gb106 (Nat.le_of_eq hg.symm)) hb); have n1_ := Aside0.mk (blk_below (kX BK101) hb); have n2_ := Aside0.mk (blk_below (kX BK102) hb); have n3_ := Aside0.mk (below_step (bX2 HB GE101 GE102) hb); have n4_ := Aside0.mk (hbox); have n5_ := Aside0.mk ((by rw [hg]; exact (below_size (bX2 HB GE101 GE102)) : w.heap.size ≤ gb106)); have n6_ := Aside0.mk ((by rw [hg]; exact (below_size (bX2 HB GE101 GE102)) : w.heap.size ≤ gb106)); have n7_ := Aside0.mk ((by rw [hg]; exact Nat.ne_of_lt (blk_lt (kX BK101)) : gb101 ≠ gb106)); have n8_ := Aside0.mk ((by rw [hg]; exact Nat.ne_of_gt (blk_lt (kX BK101)) : gb106 ≠ gb101)); have n9_ := Aside0.mk ((by rw [hg]; exact Nat.ne_of_lt (blk_lt (kX BK102)) : gb102 ≠ gb106)); have n10_ := Aside0.mk ((by rw [hg]; exact Nat.ne_of_gt (blk_lt (kX BK102)) : gb106 ≠ gb102)); clear HO_103000; clear BK101; clear BK102; clear HB; have HO_103000 := n0_; have BK101 := n1_; have BK102 := n2_; have HB := n3_; have BK106 := n4_; have GW106 := n5_; have GE106 := n6_; have NB101_106 := n7_; have NB106_101 := n8_; have NB102_106 := n9_; have NB106_102 := n10_; clear n0_ n1_ n2_ n3_ n4_ n5_ n6_ n7_ n8_ n9_ n10_; clear hb hbox hg; have hnb26 := NB106_101.out; have hnc26 := NB101_106.out; have hnb27 := NB106_102.out; have hnc27 := NB102_106.out; obtain ⟨hcz28_0, hcz28_1, hfz28_0, hfz28_1⟩ := c2X BK106; have hnb29 := NB101_102.out; have hnc29 := NB102_101.out; obtain ⟨hcz30_0, hcz30_1, hcz30_2, hcz30_3, hfz30_0, hfz30_1, hfz30_2, hfz30_3⟩ := c4X BK101)); refine bodyPost_ret (results_ct rfl _ _ gb101 172 #[.slice none 0 0, .bool false, .int .i64 0, .string (⟨#[]⟩ : ByteArray)] (0, 0) _ rfl (by (with_reducible repeat (first | refine blk_drewN ?_ _ | refine blk_drew ?_ | refine blk_alloc ?_ _)); refine blk_put (cs := #[.slice none 0 0, .bool false, .int .i64 0, .string x102003_2]) ?_ 3 _ rfl; (with_reducible repeat (first | refine blk_drewN ?_ _ | refine blk_drew ?_ | refine blk_alloc ?_ _)); refine blk_put (cs := #[.slice none 0 0, .bool false, .int .i64 x102002_2, .string x102003_2]) ?_ 2 _ rfl; (with_reducible repeat (first | refine blk_drewN ?_ _ | refine blk_drew ?_ | refine blk_alloc ?_ _)); refine blk_put (cs := #[.slice none 0 0, .bool x102001_2, .int .i64 x102002_2, .string x102003_2]) ?_ 1 _ rfl; (with_reducible repeat (first | refine blk_drewN ?_ _ | refine blk_drew ?_ | refine blk_alloc ?_ _)); refine blk_put (cs := #[.slice none 0 0, .bool x102001_2, .int .i64 x102002_2, .string x102003_2]) ?_ 0 _ rfl; (with_reducible repeat (first | refine blk_drewN ?_ _ | refine blk_drew ?_ | refine blk_alloc ?_ _)); refine blk_far ?_ NB101_106.out _; (with_reducible repeat (first | refine blk_drewN ?_ _ | refine blk_drew ?_ | refine blk_alloc ?_ _)); refine blk_far ?_ NB101_106.out _; (with_reducible repeat (first | refine blk_drewN ?_ _ | refine blk_drew ?_ | refine blk_alloc ?_ _)); exact BK101.out) Tryz.underlying172 rfl (by kernel_rfl)) rfl ?_
           exact ⟨_, by first | rfl | (simp [errW_none, errW_some] <;> rfl) | (simp [*, errW_none, errW_some] <;> rfl), by first | exact Kd.R_nil _ _ _ _ _ | exact Kd.N_nil _ _ _ _ _ | exact Kd.V_nil _ _ _ _ _ | exact Kd.Q_nil _ _ _ _ _ | exact Kd.S_nil _ _ _ _ _, bX3 HB GE101 GE102 GE106⟩
          ·rw [if_neg c23] at H
           have c23b0 : decide (t105 < 0) = false := decide_eq_false c23; clear c23
           by_cases c31 : x5_2 = true
           ·subst c31
            have H1 : (if x103000_2.length < 5864062014805 then (arbiterref02_ParseDesc.l0 kj16 a0 true t105 (x103000_2 ++ [(⟨t103, t104⟩ : S24)]) false 0 (⟨#[]⟩ : ByteArray)) else (none)) = some (r1, r2, r3, r4, r5) := by rw [if_pos rfl] at H; exact H
            clear H; have H := H1; clear H1
            by_cases c32 : x103000_2.length < 5864062014805
            ·rw [if_pos c32] at H
             have LMc32 := Aside0.mk c32; clear c32
             obtain ⟨y107, hy107⟩ : ∃ y_ : List (S24), y_ = (x103000_2 ++ [(⟨t103, t104⟩ : S24)]) := ⟨_, rfl⟩
             replace H : (arbiterref02_ParseDesc.l0 kj16 a0 true t105 y107 false 0 (⟨#[]⟩ : ByteArray)) = some (r1, r2, r3, r4, r5) := by first | (rw [hy107]; with_reducible exact H) | (have H2_ := (Option.bind_some _ _).symm.trans H; rw [hy107]; with_reducible exact H2_) | (have H2_ := (Option.bind_some _ _).symm.trans H; with_reducible exact H2_) | with_reducible exact H | (rw [hy107]; exact H) | exact H
             have Ny107 := Aside0.mk hy107; clear hy107; have H' := Aside0.mk H; clear H; go_wp2_with (first | ((with_reducible refine gate_callee (f := 158) rfl ?_); refine gX (some 38) Tryz.func158 #[.string a0, .int .i64 x6_2] ?_; (with_reducible refine (arbiterref02_read.calls a0 x6_2 t103 t104 t105 _ A22.out).mono ?_); rintro e w33 ⟨rfl, hb⟩; refine ⟨_, rfl, ?_⟩; have n0_ := Aside0.mk (Kd.R_below (rX HO_103000) hb); have n1_ := Aside0.mk (blk_below (kX BK101) hb); have n2_ := Aside0.mk (blk_below (kX BK102) hb); have n3_ := Aside0.mk (below_step (bX2 HB GE101 GE102) hb); clear HO_103000; clear BK101; clear BK102; clear HB; have HO_103000 := n0_; have BK101 := n1_; have BK102 := n2_; have HB := n3_; clear n0_ n1_ n2_ n3_; (try clear hb); (try clear hb2); (try clear hk); (try clear hi)) | ((with_reducible refine gate_dst (N := 7) rfl ?_); (try (refine gate_guard (by rfl) ?_; dsimp only)); refine eX 7 #[.int .i64 0, .string (⟨#[]⟩ : ByteArray)] 24 ?_; intro gb106 hg w34 hbox hb; have n0_ := Aside0.mk (Kd.R_below (Kd.R_elderB (rX HO_103000) gb106 (Nat.le_of_eq hg.symm)) hb); have n1_ := Aside0.mk (blk_below (kX BK101) hb); have n2_ := Aside0.mk (blk_below (kX BK102) hb); have n3_ := Aside0.mk (below_step (bX2 HB GE101 GE102) hb); have n4_ := Aside0.mk (hbox); have n5_ := Aside0.mk ((by rw [hg]; exact (below_size (bX2 HB GE101 GE102)) : w.heap.size ≤ gb106)); have n6_ := Aside0.mk ((by rw [hg]; exact (below_size (bX2 HB GE101 GE102)) : w.heap.size ≤ gb106)); have n7_ := Aside0.mk ((by rw [hg]; exact Nat.ne_of_lt (blk_lt (kX BK101)) : gb101 ≠ gb106)); have n8_ := Aside0.mk ((by rw [hg]; exact Nat.ne_of_gt (blk_lt (kX BK101)) : gb106 ≠ gb101)); have n9_ := Aside0.mk ((by rw [hg]; exact Nat.ne_of_lt (blk_lt (kX BK102)) : gb102 ≠ gb106)); have n10_ := Aside0.mk ((by rw [hg]; exact Nat.ne_of_gt (blk_lt (kX BK102)) : gb106 ≠ gb102)); clear HO_103000; clear BK101; clear BK102; clear HB; have HO_103000 := n0_; have BK101 := n1_; have BK102 := n2_; have HB := n3_; have BK106 := n4_; have GW106 := n5_; have GE106 := n6_; have NB101_106 := n7_; have NB106_101 := n8_; have NB102_106 := n9_; have NB106_102 := n10_; clear n0_ n1_ n2_ n3_ n4_ n5_ n6_ n7_ n8_ n9_ n10_; clear hb hbox hg; have hnb35 := NB106_101.out; have hnc35 := NB101_106.out; have hnb36 := NB106_102.out; have hnc36 := NB102_106.out; obtain ⟨hcz37_0, hcz37_1, hfz37_0, hfz37_1⟩ := c2X BK106; have hnb38 := NB102_101.out; have hnc38 := NB101_102.out; obtain ⟨hcz39_0, hcz39_1, hcz39_2, hcz39_3, hfz39_0, hfz39_1, hfz39_2, hfz39_3⟩ := c4X BK102) | ((with_reducible refine gate_builtin (b := .append) (xs := #[.tmp 51, .tmp 53]) rfl ?_); (try (refine gate_guard (by rfl) ?_; dsimp only)); at_builtin; refine Kd.R_append k24 (w0 := w) w.heap.size rfl (.tmp 51) (.tmp 53) 66 24 (.agg #[(.int .i64 0), (.string ⟨#[]⟩)]) 24 rfl Tryz.underlying66 info24 rfl (by decide) (by omega) u103000 x103000_2 (⟨t103, t104⟩ : S24) [.int .i64 t103, .string t104] (fun k_ => k_ ≠ gb106) (fun _ => False) rfl (by first | (go_simp; done) | (go_simp; rfl)) ?aP (fun _ hk => hk.elim) ?aF ?aO ?aB ?aS ?aL ?_; (case aP => exact k24_mkM _ _ _ (⟨t103, t104⟩ : S24)); (case aB => exact (bX3 HB GE101 GE102 GE106)); (case aF => exact (fun k_ hk => Kd.freshB (g := gb106) (o := .cells #[.int .i64 t103, .string t104] 24 (0, 0)) (by (with_reducible repeat (first | refine blk_drewN ?_ _ | refine blk_drew ?_ | refine blk_alloc ?_ _)); refine blk_put (cs := #[.int .i64 t103, .string (⟨#[]⟩ : ByteArray)]) ?_ 1 _ rfl; (with_reducible repeat (first | refine blk_drewN ?_ _ | refine blk_drew ?_ | refine blk_alloc ?_ _)); refine blk_put (cs := #[.int .i64 0, .string (⟨#[]⟩ : ByteArray)]) ?_ 0 _ rfl; (with_reducible repeat (first | refine blk_drewN ?_ _ | refine blk_drew ?_ | refine blk_alloc ?_ _)); exact BK106.out) k_ hk)); (case aO => exact (by (with_reducible repeat (first | apply Kd.R_alloc | apply Kd.R_drewN | apply Kd.R_drew)); exact Kd.R_mono (Kd.R_far (p := ⟨gb106, 1, none⟩) (Kd.R_far (p := ⟨gb106, 0, none⟩) (Kd.R_mono HO_103000.out (fun k_ hk => (⟨hk, hk.2⟩ : _ ∧ k_ ≠ gb106))) (fun _ hk => hk.2) (.int .i64 t103)) (fun _ hk => hk.2) (.string t104)) (fun _ hk => hk.1.2))); (case aS => exact (below_size (bX3 HB GE101 GE102 GE106))); (case aL => have := LMc32.out; omega); intro v108 w40 ho hb hg hat; rw [← Ny107.out] at ho; have n0_ := Aside0.mk (blk_grown (g := gb101) (o := .cells #[.slice none 0 0, .bool x102001_2, .int .i64 x102002_2, .string x102003_2] 172 (0, 0)) (fX BK101 NB101_106) hg (Kd.R_ne HO_103000.out BK101.out (by decide))); have n1_ := Aside0.mk (blk_grown (g := gb102) (o := .cells #[u103000, .bool false, .int .i64 0, .string (⟨#[]⟩ : ByteArray)] 172 (0, 0)) (fX BK102 NB102_106) hg (Kd.R_ne HO_103000.out BK102.out (by decide))); have n2_ := Aside0.mk (blk_grown (g := gb106) (o := .cells #[.int .i64 t103, .string t104] 24 (0, 0)) (by (with_reducible repeat (first | refine blk_drewN ?_ _ | refine blk_drew ?_ | refine blk_alloc ?_ _)); refine blk_put (cs := #[.int .i64 t103, .string (⟨#[]⟩ : ByteArray)]) ?_ 1 _ rfl; (with_reducible repeat (first | refine blk_drewN ?_ _ | refine blk_drew ?_ | refine blk_alloc ?_ _)); refine blk_put (cs := #[.int .i64 0, .string (⟨#[]⟩ : ByteArray)]) ?_ 0 _ rfl; (with_reducible repeat (first | refine blk_drewN ?_ _ | refine blk_drew ?_ | refine blk_alloc ?_ _)); exact BK106.out) hg (Kd.R_away HO_103000.out (fun _ hk => hk.2))); have n3_ := Aside0.mk (hb); have n4_ := Aside0.mk (ho); clear BK101; clear BK102; clear BK106; clear HB; clear HO_103000; have BK101 := n0_; have BK102 := n1_; have BK106 := n2_; have HB := n3_; have HO109 := n4_; clear n0_ n1_ n2_ n3_ n4_; clear ho hb hg hat; obtain ⟨Ao41, co41, eo41⟩ := Kd.R_slice HO109.out; subst eo41; obtain ⟨hcz42_0, hcz42_1, hcz42_2, hcz42_3, hfz42_0, hfz42_1, hfz42_2, hfz42_3⟩ := c4X BK102))
             go_roundg kj16
             case measure => have := HJ4.out; have := HK2.out; have := HJ16.out; omega
             case rel => exact ⟨(true), (t105), (x102001_2), (x102002_2), (x102003_2), (y107), (.slice Ao41 y107.length co41), vX, vX, H', ⟨by have := HJ4.out; have := HK2.out; have := HJ16.out; omega⟩, ⟨by (with_reducible repeat (first | apply Kd.R_alloc | apply Kd.R_drewN | apply Kd.R_drew)); exact Kd.R_mono (Kd.R_far (p := ⟨gb102, 0, none⟩) (Kd.R_types HO109.out BK102.out (by decide)) (fun _ hk => hk.2) (.slice Ao41 y107.length co41)) (fun _ hk => trivial)⟩, ⟨fX BK101 NB101_102⟩, ⟨by (with_reducible repeat (first | refine blk_drewN ?_ _ | refine blk_drew ?_ | refine blk_alloc ?_ _)); refine blk_put (cs := #[u103000, .bool false, .int .i64 0, .string (⟨#[]⟩ : ByteArray)]) ?_ 0 _ rfl; (with_reducible repeat (first | refine blk_drewN ?_ _ | refine blk_drew ?_ | refine blk_alloc ?_ _)); exact BK102.out⟩, ⟨bX3 HB GE101 GE102 GE106⟩⟩
            ·rw [if_neg c32] at H
             exact absurd H (by simp)
           ·replace c31 := Bool.eq_false_iff.mpr c31
            subst c31
            have H1 : (if x103000_2.length < 5864062014805 then (arbiterref02_ParseDesc.l0 kj16 a0 (decide (t103 > 255)) t105 (x103000_2 ++ [(⟨t103, t104⟩ : S24)]) false 0 (⟨#[]⟩ : ByteArray)) else (none)) = some (r1, r2, r3, r4, r5) := by rw [if_neg (show ¬ (false = true) by decide)] at H; exact H
            clear H; have H := H1; clear H1
            by_cases c43 : x103000_2.length < 5864062014805
            ·rw [if_pos c43] at H
             have LMc43 := Aside0.mk c43; clear c43
             obtain ⟨y110, hy110⟩ : ∃ y_ : List (S24), y_ = (x103000_2 ++ [(⟨t103, t104⟩ : S24)]) := ⟨_, rfl⟩
             replace H : (arbiterref02_ParseDesc.l0 kj16 a0 (decide (t103 > 255)) t105 y110 false 0 (⟨#[]⟩ : ByteArray)) = some (r1, r2, r3, r4, r5) := by first | (rw [hy110]; with_reducible exact H) | (have H2_ := (Option.bind_some _ _).symm.trans H; rw [hy110]; with_reducible exact H2_) | (have H2_ := (Option.bind_some _ _).symm.trans H; with_reducible exact H2_) | with_reducible exact H | (rw [hy110]; exact H) | exact H
             have Ny110 := Aside0.mk hy110; clear hy110; have H' := Aside0.mk H; clear H; go_wp2_with (first | ((with_reducible refine gate_callee (f := 158) rfl ?_); refine gX (some 38) Tryz.func158 #[.string a0, .int .i64 x6_2] ?_; (with_reducible refine (arbiterref02_read.calls a0 x6_2 t103 t104 t105 _ A22.out).mono ?_); rintro e w44 ⟨rfl, hb⟩; refine ⟨_, rfl, ?_⟩; have n0_ := Aside0.mk (Kd.R_below (rX HO_103000) hb); have n1_ := Aside0.mk (blk_below (kX BK101) hb); have n2_ := Aside0.mk (blk_below (kX BK102) hb); have n3_ := Aside0.mk (below_step (bX2 HB GE101 GE102) hb); clear HO_103000; clear BK101; clear BK102; clear HB; have HO_103000 := n0_; have BK101 := n1_; have BK102 := n2_; have HB := n3_; clear n0_ n1_ n2_ n3_; (try clear hb); (try clear hb2); (try clear hk); (try clear hi)) | ((with_reducible refine gate_dst (N := 7) rfl ?_); (try (refine gate_guard (by rfl) ?_; dsimp only)); refine eX 7 #[.int .i64 0, .string (⟨#[]⟩ : ByteArray)] 24 ?_; intro gb106 hg w45 hbox hb; have n0_ := Aside0.mk (Kd.R_below (Kd.R_elderB (rX HO_103000) gb106 (Nat.le_of_eq hg.symm)) hb); have n1_ := Aside0.mk (blk_below (kX BK101) hb); have n2_ := Aside0.mk (blk_below (kX BK102) hb); have n3_ := Aside0.mk (below_step (bX2 HB GE101 GE102) hb); have n4_ := Aside0.mk (hbox); have n5_ := Aside0.mk ((by rw [hg]; exact (below_size (bX2 HB GE101 GE102)) : w.heap.size ≤ gb106)); have n6_ := Aside0.mk ((by rw [hg]; exact (below_size (bX2 HB GE101 GE102)) : w.heap.size ≤ gb106)); have n7_ := Aside0.mk ((by rw [hg]; exact Nat.ne_of_lt (blk_lt (kX BK101)) : gb101 ≠ gb106)); have n8_ := Aside0.mk ((by rw [hg]; exact Nat.ne_of_gt (blk_lt (kX BK101)) : gb106 ≠ gb101)); have n9_ := Aside0.mk ((by rw [hg]; exact Nat.ne_of_lt (blk_lt (kX BK102)) : gb102 ≠ gb106)); have n10_ := Aside0.mk ((by rw [hg]; exact Nat.ne_of_gt (blk_lt (kX BK102)) : gb106 ≠ gb102)); clear HO_103000; clear BK101; clear BK102; clear HB; have HO_103000 := n0_; have BK101 := n1_; have BK102 := n2_; have HB := n3_; have BK106 := n4_; have GW106 := n5_; have GE106 := n6_; have NB101_106 := n7_; have NB106_101 := n8_; have NB102_106 := n9_; have NB106_102 := n10_; clear n0_ n1_ n2_ n3_ n4_ n5_ n6_ n7_ n8_ n9_ n10_; clear hb hbox hg; have hnb46 := NB106_101.out; have hnc46 := NB101_106.out; have hnb47 := NB106_102.out; have hnc47 := NB102_106.out; obtain ⟨hcz48_0, hcz48_1, hfz48_0, hfz48_1⟩ := c2X BK106; have hnb49 := NB102_101.out; have hnc49 := NB101_102.out; obtain ⟨hcz50_0, hcz50_1, hcz50_2, hcz50_3, hfz50_0, hfz50_1, hfz50_2, hfz50_3⟩ := c4X BK102) | ((with_reducible refine gate_builtin (b := .append) (xs := #[.tmp 51, .tmp 53]) rfl ?_); (try (refine gate_guard (by rfl) ?_; dsimp only)); at_builtin; refine Kd.R_append k24 (w0 := w) w.heap.size rfl (.tmp 51) (.tmp 53) 66 24 (.agg #[(.int .i64 0), (.string ⟨#[]⟩)]) 24 rfl Tryz.underlying66 info24 rfl (by decide) (by omega) u103000 x103000_2 (⟨t103, t104⟩ : S24) [.int .i64 t103, .string t104] (fun k_ => k_ ≠ gb106) (fun _ => False) rfl (by first | (go_simp; done) | (go_simp; rfl)) ?aP (fun _ hk => hk.elim) ?aF ?aO ?aB ?aS ?aL ?_; (case aP => exact k24_mkM _ _ _ (⟨t103, t104⟩ : S24)); (case aB => exact (bX3 HB GE101 GE102 GE106)); (case aF => exact (fun k_ hk => Kd.freshB (g := gb106) (o := .cells #[.int .i64 t103, .string t104] 24 (0, 0)) (by (with_reducible repeat (first | refine blk_drewN ?_ _ | refine blk_drew ?_ | refine blk_alloc ?_ _)); refine blk_put (cs := #[.int .i64 t103, .string (⟨#[]⟩ : ByteArray)]) ?_ 1 _ rfl; (with_reducible repeat (first | refine blk_drewN ?_ _ | refine blk_drew ?_ | refine blk_alloc ?_ _)); refine blk_put (cs := #[.int .i64 0, .string (⟨#[]⟩ : ByteArray)]) ?_ 0 _ rfl; (with_reducible repeat (first | refine blk_drewN ?_ _ | refine blk_drew ?_ | refine blk_alloc ?_ _)); exact BK106.out) k_ hk)); (case aO => exact (by (with_reducible repeat (first | apply Kd.R_alloc | apply Kd.R_drewN | apply Kd.R_drew)); exact Kd.R_mono (Kd.R_far (p := ⟨gb106, 1, none⟩) (Kd.R_far (p := ⟨gb106, 0, none⟩) (Kd.R_mono HO_103000.out (fun k_ hk => (⟨hk, hk.2⟩ : _ ∧ k_ ≠ gb106))) (fun _ hk => hk.2) (.int .i64 t103)) (fun _ hk => hk.2) (.string t104)) (fun _ hk => hk.1.2))); (case aS => exact (below_size (bX3 HB GE101 GE102 GE106))); (case aL => have := LMc43.out; omega); intro v111 w51 ho hb hg hat; rw [← Ny110.out] at ho; have n0_ := Aside0.mk (blk_grown (g := gb101) (o := .cells #[.slice none 0 0, .bool x102001_2, .int .i64 x102002_2, .string x102003_2] 172 (0, 0)) (fX BK101 NB101_106) hg (Kd.R_ne HO_103000.out BK101.out (by decide))); have n1_ := Aside0.mk (blk_grown (g := gb102) (o := .cells #[u103000, .bool false, .int .i64 0, .string (⟨#[]⟩ : ByteArray)] 172 (0, 0)) (fX BK102 NB102_106) hg (Kd.R_ne HO_103000.out BK102.out (by decide))); have n2_ := Aside0.mk (blk_grown (g := gb106) (o := .cells #[.int .i64 t103, .string t104] 24 (0, 0)) (by (with_reducible repeat (first | refine blk_drewN ?_ _ | refine blk_drew ?_ | refine blk_alloc ?_ _)); refine blk_put (cs := #[.int .i64 t103, .string (⟨#[]⟩ : ByteArray)]) ?_ 1 _ rfl; (with_reducible repeat (first | refine blk_drewN ?_ _ | refine blk_drew ?_ | refine blk_alloc ?_ _)); refine blk_put (cs := #[.int .i64 0, .string (⟨#[]⟩ : ByteArray)]) ?_ 0 _ rfl; (with_reducible repeat (first | refine blk_drewN ?_ _ | refine blk_drew ?_ | refine blk_alloc ?_ _)); exact BK106.out) hg (Kd.R_away HO_103000.out (fun _ hk => hk.2))); have n3_ := Aside0.mk (hb); have n4_ := Aside0.mk (ho); clear BK101; clear BK102; clear BK106; clear HB; clear HO_103000; have BK101 := n0_; have BK102 := n1_; have BK106 := n2_; have HB := n3_; have HO112 := n4_; clear n0_ n1_ n2_ n3_ n4_; clear ho hb hg hat; obtain ⟨Ao52, co52, eo52⟩ := Kd.R_slice HO112.out; subst eo52; obtain ⟨hcz53_0, hcz53_1, hcz53_2, hcz53_3, hfz53_0, hfz53_1, hfz53_2, hfz53_3⟩ := c4X BK102))
             go_roundg kj16
             case measure => have := HJ4.out; have := HK2.out; have := HJ16.out; omega
             case rel => exact ⟨(decide (t103 > 255)), (t105), (x102001_2), (x102002_2), (x102003_2), (y110), (.slice Ao52 y110.length co52), vX, vX, H', ⟨by have := HJ4.out; have := HK2.out; have := HJ16.out; omega⟩, ⟨by (with_reducible repeat (first | apply Kd.R_alloc | apply Kd.R_drewN | apply Kd.R_drew)); exact Kd.R_mono (Kd.R_far (p := ⟨gb102, 0, none⟩) (Kd.R_types HO112.out BK102.out (by decide)) (fun _ hk => hk.2) (.slice Ao52 y110.length co52)) (fun _ hk => trivial)⟩, ⟨fX BK101 NB101_102⟩, ⟨by (with_reducible repeat (first | refine blk_drewN ?_ _ | refine blk_drew ?_ | refine blk_alloc ?_ _)); refine blk_put (cs := #[u103000, .bool false, .int .i64 0, .string (⟨#[]⟩ : ByteArray)]) ?_ 0 _ rfl; (with_reducible repeat (first | refine blk_drewN ?_ _ | refine blk_drew ?_ | refine blk_alloc ?_ _)); exact BK102.out⟩, ⟨bX3 HB GE101 GE102 GE106⟩⟩
            ·rw [if_neg c43] at H
             exact absurd H (by simp)
         ·replace c21 := Bool.eq_false_iff.mpr c21
          subst c21
          have H1 : (if x6_2 ≥ (a0.size : Int) then (some (([] : List (S24)), false, 0, (⟨#[]⟩ : ByteArray), 4)) else (if (wrap64 (x6_2 + 1)) < (a0.size : Int) then (if 0 ≤ (wrap64 (x6_2 + 1)) then (arbiterref02_ParseDesc.j3 kj16 a0 x5_2 (wrap64 (x6_2 + 1)) ((bt a0 (wrap64 (x6_2 + 1))) == 86) x103000_2 false 0 (⟨#[]⟩ : ByteArray)) else (none)) else (arbiterref02_ParseDesc.j3 kj16 a0 x5_2 (wrap64 (x6_2 + 1)) false x103000_2 false 0 (⟨#[]⟩ : ByteArray)))) = some (r1, r2, r3, r4, r5) := by rw [if_neg (show ¬ (false = true) by decide)] at H; exact H
          clear H; have H := H1; clear H1
          by_cases c54 : x6_2 ≥ (a0.size : Int)
          ·rw [if_pos c54] at H
           have c54b0 : decide ((a0.size : Int) ≤ x6_2) = true := decide_eq_true c54; clear c54; simp only [Option.some.injEq, Prod.mk.injEq] at H; obtain ⟨rfl, rfl, rfl, rfl, rfl⟩ := H; have hnb55 := NB101_102.out; have hnc55 := NB102_101.out; obtain ⟨hcz56_0, hcz56_1, hcz56_2, hcz56_3, hfz56_0, hfz56_1, hfz56_2, hfz56_3⟩ := c4X BK101; go_wp2; refine bodyPost_ret (results_ct rfl _ _ gb101 172 #[.slice none 0 0, .bool false, .int .i64 0, .string (⟨#[]⟩ : ByteArray)] (0, 0) _ rfl (by (with_reducible repeat (first | refine blk_drewN ?_ _ | refine blk_drew ?_ | refine blk_alloc ?_ _)); refine blk_put (cs := #[.slice none 0 0, .bool false, .int .i64 0, .string x102003_2]) ?_ 3 _ rfl; (with_reducible repeat (first | refine blk_drewN ?_ _ | refine blk_drew ?_ | refine blk_alloc ?_ _)); refine blk_put (cs := #[.slice none 0 0, .bool false, .int .i64 x102002_2, .string x102003_2]) ?_ 2 _ rfl; (with_reducible repeat (first | refine blk_drewN ?_ _ | refine blk_drew ?_ | refine blk_alloc ?_ _)); refine blk_put (cs := #[.slice none 0 0, .bool x102001_2, .int .i64 x102002_2, .string x102003_2]) ?_ 1 _ rfl; (with_reducible repeat (first | refine blk_drewN ?_ _ | refine blk_drew ?_ | refine blk_alloc ?_ _)); refine blk_put (cs := #[.slice none 0 0, .bool x102001_2, .int .i64 x102002_2, .string x102003_2]) ?_ 0 _ rfl; (with_reducible repeat (first | refine blk_drewN ?_ _ | refine blk_drew ?_ | refine blk_alloc ?_ _)); exact BK101.out) Tryz.underlying172 rfl (by kernel_rfl)) rfl ?_
           exact ⟨_, by first | rfl | (simp [errW_none, errW_some] <;> rfl) | (simp [*, errW_none, errW_some] <;> rfl), by first | exact Kd.R_nil _ _ _ _ _ | exact Kd.N_nil _ _ _ _ _ | exact Kd.V_nil _ _ _ _ _ | exact Kd.Q_nil _ _ _ _ _ | exact Kd.S_nil _ _ _ _ _, bX2 HB GE101 GE102⟩
          ·rw [if_neg c54] at H
           have c54b0 : decide ((a0.size : Int) ≤ x6_2) = false := decide_eq_false c54; clear c54; have HC57 := Aside0.mk H; clear H
           go_upto_region 18 with (fail)
           go_cut [73] (fun v73 wc => ∃ (kq : Nat) (x73_56 : Bool), v73 = .bool x73_56 ∧ Aside0 (arbiterref02_ParseDesc.j3 kq a0 x5_2 (wrap64 (x6_2 + 1)) x73_56 x103000_2 false 0 (⟨#[]⟩ : ByteArray) = some (r1, r2, r3, r4, r5)) ∧ Aside0 (kq ≤ kj16) ∧ Aside0 (Kd.R k24 24 wc w.heap.size (fun _ => True) u103000 x103000_2) ∧ Aside0 (wc.heap[gb101]? = some (.cells #[(.slice none 0 0), .bool x102001_2, .int .i64 x102002_2, .string x102003_2] 172 (0, 0))) ∧ Aside0 (wc.heap[gb102]? = some (.cells #[u103000, .bool false, .int .i64 0, .string (⟨#[]⟩ : ByteArray)] 172 (0, 0))) ∧ Aside0 (Below w.heap.size w wc))
           case first =>
            have H := HC57.out; clear HC57
            by_cases c58 : (wrap64 (x6_2 + 1)) < (a0.size : Int)
            ·rw [if_pos c58] at H
             have c58b0 : decide ((wrap64 (x6_2 + 1)) < (a0.size : Int)) = true := decide_eq_true c58; clear c58
             (first | rw [c58b0] | (simp only [i64_w, i32_w]; rw [c58b0]) | skip)
             obtain ⟨ji59, hji59⟩ : ∃ j_ : Int, (wrap64 (x6_2 + 1)) = j_ := ⟨_, rfl⟩
             replace H : (if 0 ≤ (ji59) then (arbiterref02_ParseDesc.j3 kj16 a0 x5_2 ji59 ((bt a0 (ji59)) == 86) x103000_2 false 0 (⟨#[]⟩ : ByteArray)) else (none)) = some (r1, r2, r3, r4, r5) := by first | (rw [hji59] at H; exact H) | (simp only [hji59] at H ⊢; exact H)
             (try rw [hji59] at c58b0)
             have hji59w : (IntKind.i64.wrap (x6_2 + 1)) = ji59 := (i64_w _).trans hji59
             by_cases c60 : 0 ≤ (ji59)
             ·rw [if_pos c60] at H
              have c60b0 : decide (0 ≤ (ji59)) = true := decide_eq_true c60; clear c60; have H' := Aside0.mk H; clear H; have p61 : 0 ≤ ((ji59) : Int) := qX; have q61 : (ji59) < (a0.size : Int) := qX; have hx61 := bt_at a0 (ji59); replace p61 := eq_true p61; replace q61 := eq_true q61; go_wp2; go_meet
              case rel => exact ⟨_, (((bt a0 (ji59)) == 86)), (by first | rfl | (simp; done) | (simp only [← hji59] <;> (first | rfl | simp)) | (simp [*]; done)), (by first | (with_reducible exact H') | exact H' | (rw [hji59]; exact H') | (rw [← hji59]; exact H')), ⟨by have := HJ4.out; have := HK2.out; have := HJ16.out; first | omega | exact Nat.le_refl _⟩, ⟨rX HO_103000⟩, ⟨by (with_reducible repeat (first | refine blk_drewN ?_ _ | refine blk_drew ?_ | refine blk_alloc ?_ _)); exact BK101.out⟩, ⟨by (with_reducible repeat (first | refine blk_drewN ?_ _ | refine blk_drew ?_ | refine blk_alloc ?_ _)); exact BK102.out⟩, ⟨bX2 HB GE101 GE102⟩⟩
             ·rw [if_neg c60] at H
              exact absurd H (by simp)
            ·rw [if_neg c58] at H
             have c58b0 : decide ((wrap64 (x6_2 + 1)) < (a0.size : Int)) = false := decide_eq_false c58; clear c58
             (first | rw [c58b0] | (simp only [i64_w, i32_w]; rw [c58b0]) | skip)
             have H' := Aside0.mk H; clear H; go_wp2; go_meet
             case rel => exact ⟨_, (false), vX, (by first | (with_reducible exact H') | exact H' | (rw [hji59]; exact H') | (rw [← hji59]; exact H')), ⟨by have := HJ4.out; have := HK2.out; have := HJ16.out; first | omega | exact Nat.le_refl _⟩, ⟨rX HO_103000⟩, ⟨by (with_reducible repeat (first | refine blk_drewN ?_ _ | refine blk_drew ?_ | refine blk_alloc ?_ _)); exact BK101.out⟩, ⟨by (with_reducible repeat (first | refine blk_drewN ?_ _ | refine blk_drew ?_ | refine blk_alloc ?_ _)); exact BK102.out⟩, ⟨bX2 HB GE101 GE102⟩⟩
           case rest =>
            clear HC57
            try clear c1
            try clear p1
            try clear q1
            try clear hx1
            try clear qi1
            try clear c2
            try clear c2b0
            try clear c2b1
            try clear p2
            try clear q2
            try clear hx2
            try clear c3
            try clear c4
            try clear c5
            try clear c6
            try clear p6
            try clear q6
            try clear hx6
            try clear c8
            try clear c10
            try clear c10b0
            try clear c10b1
            try clear c11
            try clear c11b0
            try clear c11b1
            try clear p12
            try clear q12
            try clear hx12
            try clear qi12
            try clear c13
            try clear c14
            try clear c15
            try clear c18
            try clear c18b0
            try clear c19
            try clear c19b0
            try clear p20
            try clear q20
            try clear hx20
            try clear c21
            try clear c23
            try clear c23b0
            try clear c26
            try clear c27
            try clear c29
            try clear c31
            try clear c32
            try clear c35
            try clear c36
            try clear c38
            try clear c43
            try clear c46
            try clear c47
            try clear c49
            try clear c54
            try clear c54b0
            try clear c55
            try clear c58
            try clear c58b0
            try clear c60
            try clear c60b0
            try clear p61
            try clear q61
            try clear hx61
            try clear hcz15_0 hcz15_1 hcz15_2 hcz15_3
            try clear hcz16_0 hcz16_1 hcz16_2 hcz16_3
            try clear hcz28_0 hcz28_1
            try clear hcz30_0 hcz30_1 hcz30_2 hcz30_3
            try clear hcz37_0 hcz37_1
            try clear hcz39_0 hcz39_1 hcz39_2 hcz39_3
            try clear hcz42_0 hcz42_1 hcz42_2 hcz42_3
            try clear hcz48_0 hcz48_1
            try clear hcz4_0 hcz4_1 hcz4_2 hcz4_3
            try clear hcz50_0 hcz50_1 hcz50_2 hcz50_3
            try clear hcz53_0 hcz53_1 hcz53_2 hcz53_3
            try clear hcz56_0 hcz56_1 hcz56_2 hcz56_3
            try clear hcz9_0 hcz9_1 hcz9_2 hcz9_3
            try clear hfz15_0 hfz15_1 hfz15_2 hfz15_3
            try clear hfz16_0 hfz16_1 hfz16_2 hfz16_3
            try clear hfz28_0 hfz28_1
            try clear hfz30_0 hfz30_1 hfz30_2 hfz30_3
            try clear hfz37_0 hfz37_1
            try clear hfz39_0 hfz39_1 hfz39_2 hfz39_3
            try clear hfz42_0 hfz42_1 hfz42_2 hfz42_3
            try clear hfz48_0 hfz48_1
            try clear hfz4_0 hfz4_1 hfz4_2 hfz4_3
            try clear hfz50_0 hfz50_1 hfz50_2 hfz50_3
            try clear hfz53_0 hfz53_1 hfz53_2 hfz53_3
            try clear hfz56_0 hfz56_1 hfz56_2 hfz56_3
            try clear hfz9_0 hfz9_1 hfz9_2 hfz9_3
            try clear p1
            try clear p12
            try clear p2
            try clear p20
            try clear p61
            try clear q1
            try clear q12
            try clear q2
            try clear q20
            try clear q61
            obtain ⟨kq, x73_56, rfl, HA, HJ56, HO_103000, BK101, BK102, HB⟩ := hcut
            cases kq with
            | zero => exact absurd HA.out (by simp [arbiterref02_ParseDesc.j3])
            | succ kj56 =>
             have H := HA.out; clear HA; simp only [arbiterref02_ParseDesc.j3] at H; have HC62 := Aside0.mk H; clear H
             go_upto_if 73 with (fail)
             go_cut [5, 6] (fun v5 v6 wc => ∃ (kq : Nat) (x5_61 : Bool) (x6_61 : Int) (x103001_61 : Bool) (x103002_61 : Int) (x103003_61 : ByteArray), v5 = .bool x5_61 ∧ v6 = .int .i64 x6_61 ∧ Aside0 (arbiterref02_ParseDesc.j4 kq a0 x5_61 x6_61 x103000_2 x103001_61 x103002_61 x103003_61 = some (r1, r2, r3, r4, r5)) ∧ Aside0 (kq ≤ kj56) ∧ Aside0 (Kd.R k24 24 wc w.heap.size (fun _ => True) u103000 x103000_2) ∧ Aside0 (wc.heap[gb101]? = some (.cells #[(.slice none 0 0), .bool x102001_2, .int .i64 x102002_2, .string x102003_2] 172 (0, 0))) ∧ Aside0 (wc.heap[gb102]? = some (.cells #[u103000, .bool x103001_61, .int .i64 x103002_61, .string x103003_61] 172 (0, 0))) ∧ Aside0 (Below w.heap.size w wc))
             case first =>
              have H := HC62.out; clear HC62
              by_cases c63 : x73_56 = true
              ·subst c63
               have H1 : (arbiterref02_ParseDesc.j4 kj56 a0 x5_2 (wrap64 ((wrap64 (x6_2 + 1)) + 1)) x103000_2 true 0 (⟨#[]⟩ : ByteArray)) = some (r1, r2, r3, r4, r5) := by rw [if_pos rfl] at H; exact H
               clear H; have H := H1; clear H1; have H' := Aside0.mk H; clear H; have hnb64 := NB102_101.out; have hnc64 := NB101_102.out; obtain ⟨hcz65_0, hcz65_1, hcz65_2, hcz65_3, hfz65_0, hfz65_1, hfz65_2, hfz65_3⟩ := c4X BK102; go_wp2; go_meet
               case rel => exact ⟨_, (x5_2), (wrap64 ((wrap64 (x6_2 + 1)) + 1)), (true), (0), ((⟨#[]⟩ : ByteArray)), vX, vX, H', ⟨by have := HJ4.out; have := HK2.out; have := HJ16.out; have := HJ56.out; first | omega | exact Nat.le_refl _⟩, ⟨by (with_reducible repeat (first | apply Kd.R_alloc | apply Kd.R_drewN | apply Kd.R_drew)); exact Kd.R_mono (Kd.R_far (p := ⟨gb102, 1, none⟩) (Kd.R_types HO_103000.out BK102.out (by decide)) (fun _ hk => hk.2) (.bool true)) (fun _ hk => trivial)⟩, ⟨fX BK101 NB101_102⟩, ⟨by (with_reducible repeat (first | refine blk_drewN ?_ _ | refine blk_drew ?_ | refine blk_alloc ?_ _)); refine blk_put (cs := #[u103000, .bool false, .int .i64 0, .string (⟨#[]⟩ : ByteArray)]) ?_ 1 _ rfl; (with_reducible repeat (first | refine blk_drewN ?_ _ | refine blk_drew ?_ | refine blk_alloc ?_ _)); exact BK102.out⟩, ⟨bX2 HB GE101 GE102⟩⟩
              ·replace c63 := Bool.eq_false_iff.mpr c63
               subst c63
               have H1 : ((arbiterref02_read.f a0 (wrap64 (x6_2 + 1))).bind fun bt113 => (if x5_2 = true then (arbiterref02_ParseDesc.j4 kj56 a0 true bt113.2.2 x103000_2 false bt113.1 bt113.2.1) else (arbiterref02_ParseDesc.j4 kj56 a0 (decide (bt113.1 > 255)) bt113.2.2 x103000_2 false bt113.1 bt113.2.1))) = some (r1, r2, r3, r4, r5) := by rw [if_neg (show ¬ (false = true) by decide)] at H; exact H
               clear H; have H := H1; clear H1; replace H := Option.bind_eq_some_iff.mp H; obtain ⟨⟨t113, t114, t115⟩, A660, H⟩ := H; replace H : (if x5_2 = true then (arbiterref02_ParseDesc.j4 kj56 a0 true t115 x103000_2 false t113 t114) else (arbiterref02_ParseDesc.j4 kj56 a0 (decide (t113 > 255)) t115 x103000_2 false t113 t114)) = some (r1, r2, r3, r4, r5) := H; have A66 := Aside0.mk A660; clear A660
               by_cases c67 : x5_2 = true
               ·subst c67
                have H1 : (arbiterref02_ParseDesc.j4 kj56 a0 true t115 x103000_2 false t113 t114) = some (r1, r2, r3, r4, r5) := by rw [if_pos rfl] at H; exact H
                clear H; have H := H1; clear H1; have H' := Aside0.mk H; clear H; go_wp2_with (first | ((with_reducible refine gate_callee (f := 158) rfl ?_); refine gX (some 80) Tryz.func158 #[.string a0, .int .i64 (wrap64 (x6_2 + 1))] ?_; (with_reducible refine (arbiterref02_read.calls a0 (wrap64 (x6_2 + 1)) t113 t114 t115 _ A66.out).mono ?_); rintro e w68 ⟨rfl, hb⟩; refine ⟨_, rfl, ?_⟩; have n0_ := Aside0.mk (Kd.R_below (rX HO_103000) hb); have n1_ := Aside0.mk (blk_below (kX BK101) hb); have n2_ := Aside0.mk (blk_below (kX BK102) hb); have n3_ := Aside0.mk (below_step (bX2 HB GE101 GE102) hb); clear HO_103000; clear BK101; clear BK102; clear HB; have HO_103000 := n0_; have BK101 := n1_; have BK102 := n2_; have HB := n3_; clear n0_ n1_ n2_ n3_; (try clear hb); (try clear hb2); (try clear hk); (try clear hi)) | ((with_reducible refine gate_dst (N := 9) rfl ?_); (try (refine gate_guard (by rfl) ?_; dsimp only)); refine eX 9 #[.int .i64 0, .string (⟨#[]⟩ : ByteArray)] 24 ?_; intro gb116 hg w69 hbox hb; have n0_ := Aside0.mk (Kd.R_below (Kd.R_elderB (rX HO_103000) gb116 (Nat.le_of_eq hg.symm)) hb); have n1_ := Aside0.mk (blk_below (kX BK101) hb); have n2_ := Aside0.mk (blk_below (kX BK102) hb); have n3_ := Aside0.mk (below_step (bX2 HB GE101 GE102) hb); have n4_ := Aside0.mk (hbox); have n5_ := Aside0.mk ((by rw [hg]; exact (below_size (bX2 HB GE101 GE102)) : w.heap.size ≤ gb116)); have n6_ := Aside0.mk ((by rw [hg]; exact (below_size (bX2 HB GE101 GE102)) : w.heap.size ≤ gb116)); have n7_ := Aside0.mk ((by rw [hg]; exact Nat.ne_of_lt (blk_lt (kX BK101)) : gb101 ≠ gb116)); have n8_ := Aside0.mk ((by rw [hg]; exact Nat.ne_of_gt (blk_lt (kX BK101)) : gb116 ≠ gb101)); have n9_ := Aside0.mk ((by rw [hg]; exact Nat.ne_of_lt (blk_lt (kX BK102)) : gb102 ≠ gb116)); have n10_ := Aside0.mk ((by rw [hg]; exact Nat.ne_of_gt (blk_lt (kX BK102)) : gb116 ≠ gb102)); clear HO_103000; clear BK101; clear BK102; clear HB; have HO_103000 := n0_; have BK101 := n1_; have BK102 := n2_; have HB := n3_; have BK116 := n4_; have GW116 := n5_; have GE116 := n6_; have NB101_116 := n7_; have NB116_101 := n8_; have NB102_116 := n9_; have NB116_102 := n10_; clear n0_ n1_ n2_ n3_ n4_ n5_ n6_ n7_ n8_ n9_ n10_; clear hb hbox hg; have hnb70 := NB116_101.out; have hnc70 := NB101_116.out; have hnb71 := NB116_102.out; have hnc71 := NB102_116.out; obtain ⟨hcz72_0, hcz72_1, hfz72_0, hfz72_1⟩ := c2X BK116; have hnb73 := NB102_101.out; have hnc73 := NB101_102.out; obtain ⟨hcz74_0, hcz74_1, hcz74_2, hcz74_3, hfz74_0, hfz74_1, hfz74_2, hfz74_3⟩ := c4X BK102)); go_meet
                case rel => exact ⟨_, (true), (t115), (false), (t113), (t114), vX, vX, H', ⟨by have := HJ4.out; have := HK2.out; have := HJ16.out; have := HJ56.out; first | omega | exact Nat.le_refl _⟩, ⟨by (with_reducible repeat (first | apply Kd.R_alloc | apply Kd.R_drewN | apply Kd.R_drew)); exact Kd.R_mono (Kd.R_far (p := ⟨gb102, 3, none⟩) (Kd.R_far (p := ⟨gb102, 2, none⟩) (Kd.R_far (p := ⟨gb116, 1, none⟩) (Kd.R_far (p := ⟨gb116, 0, none⟩) (Kd.R_types (Kd.R_mono HO_103000.out (fun k_ hk => (⟨hk, hk.2⟩ : _ ∧ k_ ≠ gb116))) BK102.out (by decide)) (fun _ hk => hk.1.2) (.int .i64 t113)) (fun _ hk => hk.1.2) (.string t114)) (fun _ hk => hk.2) (.int .i64 t113)) (fun _ hk => hk.2) (.string t114)) (fun _ hk => trivial)⟩, ⟨by (with_reducible repeat (first | refine blk_drewN ?_ _ | refine blk_drew ?_ | refine blk_alloc ?_ _)); refine blk_far ?_ NB101_102.out _; (with_reducible repeat (first | refine blk_drewN ?_ _ | refine blk_drew ?_ | refine blk_alloc ?_ _)); refine blk_far ?_ NB101_102.out _; (with_reducible repeat (first | refine blk_drewN ?_ _ | refine blk_drew ?_ | refine blk_alloc ?_ _)); refine blk_far ?_ NB101_116.out _; (with_reducible repeat (first | refine blk_drewN ?_ _ | refine blk_drew ?_ | refine blk_alloc ?_ _)); refine blk_far ?_ NB101_116.out _; (with_reducible repeat (first | refine blk_drewN ?_ _ | refine blk_drew ?_ | refine blk_alloc ?_ _)); exact BK101.out⟩, ⟨by (with_reducible repeat (first | refine blk_drewN ?_ _ | refine blk_drew ?_ | refine blk_alloc ?_ _)); refine blk_put (cs := #[u103000, .bool false, .int .i64 t113, .string (⟨#[]⟩ : ByteArray)]) ?_ 3 _ rfl; (with_reducible repeat (first | refine blk_drewN ?_ _ | refine blk_drew ?_ | refine blk_alloc ?_ _)); refine blk_put (cs := #[u103000, .bool false, .int .i64 0, .string (⟨#[]⟩ : ByteArray)]) ?_ 2 _ rfl; (with_reducible repeat (first | refine blk_drewN ?_ _ | refine blk_drew ?_ | refine blk_alloc ?_ _)); refine blk_far ?_ NB102_116.out _; (with_reducible repeat (first | refine blk_drewN ?_ _ | refine blk_drew ?_ | refine blk_alloc ?_ _)); refine blk_far ?_ NB102_116.out _; (with_reducible repeat (first | refine blk_drewN ?_ _ | refine blk_drew ?_ | refine blk_alloc ?_ _)); exact BK102.out⟩, ⟨bX3 HB GE101 GE102 GE116⟩⟩
               ·replace c67 := Bool.eq_false_iff.mpr c67
                subst c67
                have H1 : (arbiterref02_ParseDesc.j4 kj56 a0 (decide (t113 > 255)) t115 x103000_2 false t113 t114) = some (r1, r2, r3, r4, r5) := by rw [if_neg (show ¬ (false = true) by decide)] at H; exact H
                clear H; have H := H1; clear H1; have H' := Aside0.mk H; clear H; go_wp2_with (first | ((with_reducible refine gate_callee (f := 158) rfl ?_); refine gX (some 80) Tryz.func158 #[.string a0, .int .i64 (wrap64 (x6_2 + 1))] ?_; (with_reducible refine (arbiterref02_read.calls a0 (wrap64 (x6_2 + 1)) t113 t114 t115 _ A66.out).mono ?_); rintro e w75 ⟨rfl, hb⟩; refine ⟨_, rfl, ?_⟩; have n0_ := Aside0.mk (Kd.R_below (rX HO_103000) hb); have n1_ := Aside0.mk (blk_below (kX BK101) hb); have n2_ := Aside0.mk (blk_below (kX BK102) hb); have n3_ := Aside0.mk (below_step (bX2 HB GE101 GE102) hb); clear HO_103000; clear BK101; clear BK102; clear HB; have HO_103000 := n0_; have BK101 := n1_; have BK102 := n2_; have HB := n3_; clear n0_ n1_ n2_ n3_; (try clear hb); (try clear hb2); (try clear hk); (try clear hi)) | ((with_reducible refine gate_dst (N := 9) rfl ?_); (try (refine gate_guard (by rfl) ?_; dsimp only)); refine eX 9 #[.int .i64 0, .string (⟨#[]⟩ : ByteArray)] 24 ?_; intro gb116 hg w76 hbox hb; have n0_ := Aside0.mk (Kd.R_below (Kd.R_elderB (rX HO_103000) gb116 (Nat.le_of_eq hg.symm)) hb); have n1_ := Aside0.mk (blk_below (kX BK101) hb); have n2_ := Aside0.mk (blk_below (kX BK102) hb); have n3_ := Aside0.mk (below_step (bX2 HB GE101 GE102) hb); have n4_ := Aside0.mk (hbox); have n5_ := Aside0.mk ((by rw [hg]; exact (below_size (bX2 HB GE101 GE102)) : w.heap.size ≤ gb116)); have n6_ := Aside0.mk ((by rw [hg]; exact (below_size (bX2 HB GE101 GE102)) : w.heap.size ≤ gb116)); have n7_ := Aside0.mk ((by rw [hg]; exact Nat.ne_of_lt (blk_lt (kX BK101)) : gb101 ≠ gb116)); have n8_ := Aside0.mk ((by rw [hg]; exact Nat.ne_of_gt (blk_lt (kX BK101)) : gb116 ≠ gb101)); have n9_ := Aside0.mk ((by rw [hg]; exact Nat.ne_of_lt (blk_lt (kX BK102)) : gb102 ≠ gb116)); have n10_ := Aside0.mk ((by rw [hg]; exact Nat.ne_of_gt (blk_lt (kX BK102)) : gb116 ≠ gb102)); clear HO_103000; clear BK101; clear BK102; clear HB; have HO_103000 := n0_; have BK101 := n1_; have BK102 := n2_; have HB := n3_; have BK116 := n4_; have GW116 := n5_; have GE116 := n6_; have NB101_116 := n7_; have NB116_101 := n8_; have NB102_116 := n9_; have NB116_102 := n10_; clear n0_ n1_ n2_ n3_ n4_ n5_ n6_ n7_ n8_ n9_ n10_; clear hb hbox hg; have hnb77 := NB116_101.out; have hnc77 := NB101_116.out; have hnb78 := NB116_102.out; have hnc78 := NB102_116.out; obtain ⟨hcz79_0, hcz79_1, hfz79_0, hfz79_1⟩ := c2X BK116; have hnb80 := NB102_101.out; have hnc80 := NB101_102.out; obtain ⟨hcz81_0, hcz81_1, hcz81_2, hcz81_3, hfz81_0, hfz81_1, hfz81_2, hfz81_3⟩ := c4X BK102)); go_meet
                case rel => exact ⟨_, (decide (t113 > 255)), (t115), (false), (t113), (t114), vX, vX, H', ⟨by have := HJ4.out; have := HK2.out; have := HJ16.out; have := HJ56.out; first | omega | exact Nat.le_refl _⟩, ⟨by (with_reducible repeat (first | apply Kd.R_alloc | apply Kd.R_drewN | apply Kd.R_drew)); exact Kd.R_mono (Kd.R_far (p := ⟨gb102, 3, none⟩) (Kd.R_far (p := ⟨gb102, 2, none⟩) (Kd.R_far (p := ⟨gb116, 1, none⟩) (Kd.R_far (p := ⟨gb116, 0, none⟩) (Kd.R_types (Kd.R_mono HO_103000.out (fun k_ hk => (⟨hk, hk.2⟩ : _ ∧ k_ ≠ gb116))) BK102.out (by decide)) (fun _ hk => hk.1.2) (.int .i64 t113)) (fun _ hk => hk.1.2) (.string t114)) (fun _ hk => hk.2) (.int .i64 t113)) (fun _ hk => hk.2) (.string t114)) (fun _ hk => trivial)⟩, ⟨by (with_reducible repeat (first | refine blk_drewN ?_ _ | refine blk_drew ?_ | refine blk_alloc ?_ _)); refine blk_far ?_ NB101_102.out _; (with_reducible repeat (first | refine blk_drewN ?_ _ | refine blk_drew ?_ | refine blk_alloc ?_ _)); refine blk_far ?_ NB101_102.out _; (with_reducible repeat (first | refine blk_drewN ?_ _ | refine blk_drew ?_ | refine blk_alloc ?_ _)); refine blk_far ?_ NB101_116.out _; (with_reducible repeat (first | refine blk_drewN ?_ _ | refine blk_drew ?_ | refine blk_alloc ?_ _)); refine blk_far ?_ NB101_116.out _; (with_reducible repeat (first | refine blk_drewN ?_ _ | refine blk_drew ?_ | refine blk_alloc ?_ _)); exact BK101.out⟩, ⟨by (with_reducible repeat (first | refine blk_drewN ?_ _ | refine blk_drew ?_ | refine blk_alloc ?_ _)); refine blk_put (cs := #[u103000, .bool false, .int .i64 t113, .string (⟨#[]⟩ : ByteArray)]) ?_ 3 _ rfl; (with_reducible repeat (first | refine blk_drewN ?_ _ | refine blk_drew ?_ | refine blk_alloc ?_ _)); refine blk_put (cs := #[u103000, .bool false, .int .i64 0, .string (⟨#[]⟩ : ByteArray)]) ?_ 2 _ rfl; (with_reducible repeat (first | refine blk_drewN ?_ _ | refine blk_drew ?_ | refine blk_alloc ?_ _)); refine blk_far ?_ NB102_116.out _; (with_reducible repeat (first | refine blk_drewN ?_ _ | refine blk_drew ?_ | refine blk_alloc ?_ _)); refine blk_far ?_ NB102_116.out _; (with_reducible repeat (first | refine blk_drewN ?_ _ | refine blk_drew ?_ | refine blk_alloc ?_ _)); exact BK102.out⟩, ⟨bX3 HB GE101 GE102 GE116⟩⟩
             case rest =>
              clear HC62
              try clear c1
              try clear p1
              try clear q1
              try clear hx1
              try clear qi1
              try clear c2
              try clear c2b0
              try clear c2b1
              try clear p2
              try clear q2
              try clear hx2
              try clear c3
              try clear c4
              try clear c5
              try clear c6
              try clear p6
              try clear q6
              try clear hx6
              try clear c7
              try clear c8
              try clear c10
              try clear c10b0
              try clear c10b1
              try clear c11
              try clear c11b0
              try clear c11b1
              try clear p12
              try clear q12
              try clear hx12
              try clear qi12
              try clear c13
              try clear c14
              try clear c15
              try clear c18
              try clear c18b0
              try clear c19
              try clear c19b0
              try clear p20
              try clear q20
              try clear hx20
              try clear c21
              try clear c23
              try clear c23b0
              try clear c26
              try clear c27
              try clear c29
              try clear c31
              try clear c32
              try clear c35
              try clear c36
              try clear c38
              try clear c43
              try clear c46
              try clear c47
              try clear c49
              try clear c54
              try clear c54b0
              try clear c55
              try clear c58
              try clear c58b0
              try clear c60
              try clear c60b0
              try clear p61
              try clear q61
              try clear hx61
              try clear c63
              try clear c64
              try clear p64
              try clear c67
              try clear c70
              try clear c71
              try clear c73
              try clear c77
              try clear c78
              try clear c80
              try clear hcz15_0 hcz15_1 hcz15_2 hcz15_3
              try clear hcz16_0 hcz16_1 hcz16_2 hcz16_3
              try clear hcz28_0 hcz28_1
              try clear hcz30_0 hcz30_1 hcz30_2 hcz30_3
              try clear hcz37_0 hcz37_1
              try clear hcz39_0 hcz39_1 hcz39_2 hcz39_3
              try clear hcz42_0 hcz42_1 hcz42_2 hcz42_3
              try clear hcz48_0 hcz48_1
              try clear hcz4_0 hcz4_1 hcz4_2 hcz4_3
              try clear hcz50_0 hcz50_1 hcz50_2 hcz50_3
              try clear hcz53_0 hcz53_1 hcz53_2 hcz53_3
              try clear hcz56_0 hcz56_1 hcz56_2 hcz56_3
              try clear hcz65_0 hcz65_1 hcz65_2 hcz65_3
              try clear hcz72_0 hcz72_1
              try clear hcz74_0 hcz74_1 hcz74_2 hcz74_3
              try clear hcz79_0 hcz79_1
              try clear hcz81_0 hcz81_1 hcz81_2 hcz81_3
              try clear hcz9_0 hcz9_1 hcz9_2 hcz9_3
              try clear hfz15_0 hfz15_1 hfz15_2 hfz15_3
              try clear hfz16_0 hfz16_1 hfz16_2 hfz16_3
              try clear hfz28_0 hfz28_1
              try clear hfz30_0 hfz30_1 hfz30_2 hfz30_3
              try clear hfz37_0 hfz37_1
              try clear hfz39_0 hfz39_1 hfz39_2 hfz39_3
              try clear hfz42_0 hfz42_1 hfz42_2 hfz42_3
              try clear hfz48_0 hfz48_1
              try clear hfz4_0 hfz4_1 hfz4_2 hfz4_3
              try clear hfz50_0 hfz50_1 hfz50_2 hfz50_3
              try clear hfz53_0 hfz53_1 hfz53_2 hfz53_3
              try clear hfz56_0 hfz56_1 hfz56_2 hfz56_3
              try clear hfz65_0 hfz65_1 hfz65_2 hfz65_3
              try clear hfz72_0 hfz72_1
              try clear hfz74_0 hfz74_1 hfz74_2 hfz74_3
              try clear hfz79_0 hfz79_1
              try clear hfz81_0 hfz81_1 hfz81_2 hfz81_3
              try clear hfz9_0 hfz9_1 hfz9_2 hfz9_3
              try clear p1
              try clear p12
              try clear p2
              try clear p20
              try clear p6
              try clear p61
              try clear q1
              try clear q12
              try clear q2
              try clear q20
              try clear q6
              try clear q61
              obtain ⟨kq, x5_61, x6_61, x103001_61, x103002_61, x103003_61, rfl, rfl, HA, HJ61, HO_103000, BK101, BK102, HB⟩ := hcut
              cases kq with
              | zero => exact absurd HA.out (by simp [arbiterref02_ParseDesc.j4])
              | succ kj61 =>
               have H := HA.out; clear HA; simp only [arbiterref02_ParseDesc.j4] at H
               by_cases c82 : x6_61 = (a0.size : Int)
               ·rw [if_pos c82] at H
                have c82b0 : (x6_61 == (a0.size : Int)) = true := beq_iff_eq.mpr c82; have c82b1 : (x6_61 != (a0.size : Int)) = false := bne_eq_false_iff_eq.mpr c82; clear c82
                by_cases c83 : x5_61 = true
                ·subst c83
                 have H1 : (some (([] : List (S24)), false, 0, (⟨#[]⟩ : ByteArray), 5)) = some (r1, r2, r3, r4, r5) := by rw [if_pos rfl] at H; exact H
                 clear H; have H := H1; clear H1; simp only [Option.some.injEq, Prod.mk.injEq] at H; obtain ⟨rfl, rfl, rfl, rfl, rfl⟩ := H; have hnb84 := NB101_102.out; have hnc84 := NB102_101.out; obtain ⟨hcz85_0, hcz85_1, hcz85_2, hcz85_3, hfz85_0, hfz85_1, hfz85_2, hfz85_3⟩ := c4X BK101; go_wp2; refine bodyPost_ret (results_ct rfl _ _ gb101 172 #[.slice none 0 0, .bool false, .int .i64 0, .string (⟨#[]⟩ : ByteArray)] (0, 0) _ rfl (by (with_reducible repeat (first | refine blk_drewN ?_ _ | refine blk_drew ?_ | refine blk_alloc ?_ _)); refine blk_put (cs := #[.slice none 0 0, .bool false, .int .i64 0, .string x102003_2]) ?_ 3 _ rfl; (with_reducible repeat (first | refine blk_drewN ?_ _ | refine blk_drew ?_ | refine blk_alloc ?_ _)); refine blk_put (cs := #[.slice none 0 0, .bool false, .int .i64 x102002_2, .string x102003_2]) ?_ 2 _ rfl; (with_reducible repeat (first | refine blk_drewN ?_ _ | refine blk_drew ?_ | refine blk_alloc ?_ _)); refine blk_put (cs := #[.slice none 0 0, .bool x102001_2, .int .i64 x102002_2, .string x102003_2]) ?_ 1 _ rfl; (with_reducible repeat (first | refine blk_drewN ?_ _ | refine blk_drew ?_ | refine blk_alloc ?_ _)); refine blk_put (cs := #[.slice none 0 0, .bool x102001_2, .int .i64 x102002_2, .string x102003_2]) ?_ 0 _ rfl; (with_reducible repeat (first | refine blk_drewN ?_ _ | refine blk_drew ?_ | refine blk_alloc ?_ _)); exact BK101.out) Tryz.underlying172 rfl (by kernel_rfl)) rfl ?_
                 exact ⟨_, by first | rfl | (simp [errW_none, errW_some] <;> rfl) | (simp [*, errW_none, errW_some] <;> rfl), by first | exact Kd.R_nil _ _ _ _ _ | exact Kd.N_nil _ _ _ _ _ | exact Kd.V_nil _ _ _ _ _ | exact Kd.Q_nil _ _ _ _ _ | exact Kd.S_nil _ _ _ _ _, bX2 HB GE101 GE102⟩
                ·replace c83 := Bool.eq_false_iff.mpr c83
                 subst c83
                 have H1 : (if (x103000_2.length : Int) > 20 then (some (([] : List (S24)), false, 0, (⟨#[]⟩ : ByteArray), 5)) else (some (x103000_2, x103001_61, x103002_61, x103003_61, 0))) = some (r1, r2, r3, r4, r5) := by rw [if_neg (show ¬ (false = true) by decide)] at H; exact H
                 clear H; have H := H1; clear H1
                 by_cases c86 : (x103000_2.length : Int) > 20
                 ·rw [if_pos c86] at H
                  have c86b0 : decide (20 < (x103000_2.length : Int)) = true := decide_eq_true c86; have c86b1 : decide (20 < x103000_2.length) = true := decide_eq_true (by omega); clear c86; simp only [Option.some.injEq, Prod.mk.injEq] at H; obtain ⟨rfl, rfl, rfl, rfl, rfl⟩ := H; have hnb87 := NB102_101.out; have hnc87 := NB101_102.out; obtain ⟨hcz88_0, hcz88_1, hcz88_2, hcz88_3, hfz88_0, hfz88_1, hfz88_2, hfz88_3⟩ := c4X BK102; obtain ⟨Ao89, co89, eo89⟩ := Kd.R_slice HO_103000.out; subst eo89; obtain ⟨hcz90_0, hcz90_1, hcz90_2, hcz90_3, hfz90_0, hfz90_1, hfz90_2, hfz90_3⟩ := c4X BK101; go_wp2; refine bodyPost_ret (results_ct rfl _ _ gb101 172 #[.slice none 0 0, .bool false, .int .i64 0, .string (⟨#[]⟩ : ByteArray)] (0, 0) _ rfl (by (with_reducible repeat (first | refine blk_drewN ?_ _ | refine blk_drew ?_ | refine blk_alloc ?_ _)); refine blk_put (cs := #[.slice none 0 0, .bool false, .int .i64 0, .string x102003_2]) ?_ 3 _ rfl; (with_reducible repeat (first | refine blk_drewN ?_ _ | refine blk_drew ?_ | refine blk_alloc ?_ _)); refine blk_put (cs := #[.slice none 0 0, .bool false, .int .i64 x102002_2, .string x102003_2]) ?_ 2 _ rfl; (with_reducible repeat (first | refine blk_drewN ?_ _ | refine blk_drew ?_ | refine blk_alloc ?_ _)); refine blk_put (cs := #[.slice none 0 0, .bool x102001_2, .int .i64 x102002_2, .string x102003_2]) ?_ 1 _ rfl; (with_reducible repeat (first | refine blk_drewN ?_ _ | refine blk_drew ?_ | refine blk_alloc ?_ _)); refine blk_put (cs := #[.slice none 0 0, .bool x102001_2, .int .i64 x102002_2, .string x102003_2]) ?_ 0 _ rfl; (with_reducible repeat (first | refine blk_drewN ?_ _ | refine blk_drew ?_ | refine blk_alloc ?_ _)); exact BK101.out) Tryz.underlying172 rfl (by kernel_rfl)) rfl ?_
                  exact ⟨_, by first | rfl | (simp [errW_none, errW_some] <;> rfl) | (simp [*, errW_none, errW_some] <;> rfl), by first | exact Kd.R_nil _ _ _ _ _ | exact Kd.N_nil _ _ _ _ _ | exact Kd.V_nil _ _ _ _ _ | exact Kd.Q_nil _ _ _ _ _ | exact Kd.S_nil _ _ _ _ _, bX2 HB GE101 GE102⟩
                 ·rw [if_neg c86] at H
                  have c86b0 : decide (20 < (x103000_2.length : Int)) = false := decide_eq_false c86; have c86b1 : decide (20 < x103000_2.length) = false := decide_eq_false (by omega); clear c86; simp only [Option.some.injEq, Prod.mk.injEq] at H; obtain ⟨rfl, rfl, rfl, rfl, rfl⟩ := H; have hnb91 := NB102_101.out; have hnc91 := NB101_102.out; obtain ⟨hcz92_0, hcz92_1, hcz92_2, hcz92_3, hfz92_0, hfz92_1, hfz92_2, hfz92_3⟩ := c4X BK102; obtain ⟨Ao93, co93, eo93⟩ := Kd.R_slice HO_103000.out; subst eo93; obtain ⟨hcz94_0, hcz94_1, hcz94_2, hcz94_3, hfz94_0, hfz94_1, hfz94_2, hfz94_3⟩ := c4X BK101; go_wp2; refine bodyPost_ret (results_ct rfl _ _ gb101 172 #[.slice Ao93 x103000_2.length co93, .bool x103001_61, .int .i64 x103002_61, .string x103003_61] (0, 0) _ rfl (by (with_reducible repeat (first | refine blk_drewN ?_ _ | refine blk_drew ?_ | refine blk_alloc ?_ _)); refine blk_put (cs := #[.slice Ao93 x103000_2.length co93, .bool x103001_61, .int .i64 x103002_61, .string x102003_2]) ?_ 3 _ rfl; (with_reducible repeat (first | refine blk_drewN ?_ _ | refine blk_drew ?_ | refine blk_alloc ?_ _)); refine blk_put (cs := #[.slice Ao93 x103000_2.length co93, .bool x103001_61, .int .i64 x102002_2, .string x102003_2]) ?_ 2 _ rfl; (with_reducible repeat (first | refine blk_drewN ?_ _ | refine blk_drew ?_ | refine blk_alloc ?_ _)); refine blk_put (cs := #[.slice Ao93 x103000_2.length co93, .bool x102001_2, .int .i64 x102002_2, .string x102003_2]) ?_ 1 _ rfl; (with_reducible repeat (first | refine blk_drewN ?_ _ | refine blk_drew ?_ | refine blk_alloc ?_ _)); refine blk_put (cs := #[.slice none 0 0, .bool x102001_2, .int .i64 x102002_2, .string x102003_2]) ?_ 0 _ rfl; (with_reducible repeat (first | refine blk_drewN ?_ _ | refine blk_drew ?_ | refine blk_alloc ?_ _)); exact BK101.out) Tryz.underlying172 rfl (by kernel_rfl)) rfl ?_
                  exact ⟨_, by first | rfl | (simp [errW_none, errW_some] <;> rfl) | (simp [*, errW_none, errW_some] <;> rfl), by (with_reducible repeat (first | apply Kd.R_alloc | apply Kd.R_drewN | apply Kd.R_drew)); exact Kd.R_mono (Kd.R_far (p := ⟨gb101, 3, none⟩) (Kd.R_far (p := ⟨gb101, 2, none⟩) (Kd.R_far (p := ⟨gb101, 1, none⟩) (Kd.R_far (p := ⟨gb101, 0, none⟩) (Kd.R_types HO_103000.out BK101.out (by decide)) (fun _ hk => hk.2) (.slice Ao93 x103000_2.length co93)) (fun _ hk => hk.2) (.bool x103001_61)) (fun _ hk => hk.2) (.int .i64 x103002_61)) (fun _ hk => hk.2) (.string x103003_61)) (fun _ hk => trivial), bX2 HB GE101 GE102⟩
               ·rw [if_neg c82] at H
                have c82b0 : (x6_61 == (a0.size : Int)) = false := beq_eq_false_iff_ne.mpr c82; have c82b1 : (x6_61 != (a0.size : Int)) = true := bne_iff_ne.mpr c82; simp only [Option.some.injEq, Prod.mk.injEq] at H; obtain ⟨rfl, rfl, rfl, rfl, rfl⟩ := H; have hnb95 := NB101_102.out; have hnc95 := NB102_101.out; obtain ⟨hcz96_0, hcz96_1, hcz96_2, hcz96_3, hfz96_0, hfz96_1, hfz96_2, hfz96_3⟩ := c4X BK101; go_wp2; refine bodyPost_ret (results_ct rfl _ _ gb101 172 #[.slice none 0 0, .bool false, .int .i64 0, .string (⟨#[]⟩ : ByteArray)] (0, 0) _ rfl (by (with_reducible repeat (first | refine blk_drewN ?_ _ | refine blk_drew ?_ | refine blk_alloc ?_ _)); refine blk_put (cs := #[.slice none 0 0, .bool false, .int .i64 0, .string x102003_2]) ?_ 3 _ rfl; (with_reducible repeat (first | refine blk_drewN ?_ _ | refine blk_drew ?_ | refine blk_alloc ?_ _)); refine blk_put (cs := #[.slice none 0 0, .bool false, .int .i64 x102002_2, .string x102003_2]) ?_ 2 _ rfl; (with_reducible repeat (first | refine blk_drewN ?_ _ | refine blk_drew ?_ | refine blk_alloc ?_ _)); refine blk_put (cs := #[.slice none 0 0, .bool x102001_2, .int .i64 x102002_2, .string x102003_2]) ?_ 1 _ rfl; (with_reducible repeat (first | refine blk_drewN ?_ _ | refine blk_drew ?_ | refine blk_alloc ?_ _)); refine blk_put (cs := #[.slice none 0 0, .bool x102001_2, .int .i64 x102002_2, .string x102003_2]) ?_ 0 _ rfl; (with_reducible repeat (first | refine blk_drewN ?_ _ | refine blk_drew ?_ | refine blk_alloc ?_ _)); exact BK101.out) Tryz.underlying172 rfl (by kernel_rfl)) rfl ?_
                exact ⟨_, by first | rfl | (simp [errW_none, errW_some] <;> rfl) | (simp [*, errW_none, errW_some] <;> rfl), by first | exact Kd.R_nil _ _ _ _ _ | exact Kd.N_nil _ _ _ _ _ | exact Kd.V_nil _ _ _ _ _ | exact Kd.Q_nil _ _ _ _ _ | exact Kd.S_nil _ _ _ _ _, bX2 HB GE101 GE102⟩
end Go.Proofs.YtaipkdglhfhhiaaGreatDoor.Pt
