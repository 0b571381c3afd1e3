/- Lemmas and contracts for the statement of PwAccessClasses: joined by program out of this session's texts. -/
import Derived.Test.YtaipkdglhfhhiaaGreatDoorBdPwAccessClasses5
import Derived.Deep.RegionHeld3
import Derived.Deep.Slices
import Derived.WideShapes
namespace Go.Proofs.YtaipkdglhfhhiaaGreatDoor.Pt
open Go Go.RowKit Go.Proofs.YtaipkdglhfhhiaaGreatDoor.Nm Go.Proofs.YtaipkdglhfhhiaaGreatDoor.Ty Go.Proofs.YtaipkdglhfhhiaaGreatDoor.Hi Go.Proofs.YtaipkdglhfhhiaaGreatDoorW.PrintWords Go.Proofs.YtaipkdglhfhhiaaGreatDoorW.PrintLast Go.Proofs.YtaipkdglhfhhiaaGreatDoorW.PrintMore
set_option linter.unusedVariables false
set_option linter.unusedSimpArgs false
set_option maxHeartbeats 4000000
set_option maxRecDepth 100000
theorem infoClass : (Tryz.prog.info? 85).map (fun i => (i.zero, i.size, i.bytes)) = some (some (.agg #[.string ⟨#[]⟩, .string ⟨#[]⟩, .slice none 0 0, .int .i64 0, .int .i64 0, .slice none 0 0]), k85.sz, 96) := by kernel_rfl
theorem rno {w W : World} {base g : Nat} {v : Value} {cs cs' : List S85} (h : RIn w base g v cs) (hbs : base ≤ w.heap.size) (hb : Below w.heap.size w W) (e : cs' = cs) (a b : Int) :
  ∃ n err, Ending.returned (.tuple #[.int .i64 a, .int .i64 b]) = Ending.returned (.tuple #[.int .i64 n, .int .i64 err]) ∧ ∃ v', RIn W base g v' cs' ∧ Below base w W :=
 ⟨a, b, rfl, v, e ▸ h.below hb, hb.mono hbs⟩
theorem rdefine_any (w : World) (base g : Nat) (v : Value) (es : List Ent) (h : RIn w base g v (csOf es)) (hbs : base ≤ w.heap.size) (hf : ∀ x ∈ es, Fine x) (hlen : es.length ≤ 1000)
  (f0 f1 : ByteArray) (A2 : Option Addr) (c2 : Nat) (l2 : List ByteArray) (f3 f4 : Int) (A5 : Option Addr) (c5 : Nat) (l5 : List S105) (h2 : Kd.C Kd.string w A2 l2.length l2) (hc2 : l2.length ≤ c2) (h5 : Kd.C k105 w A5 l5.length l5) (hc5 : l5.length ≤ c5)
  (hr3 : inRB f3 = true) (hms : ∀ m ∈ l5, inRB m.f2 = true) :
  Calls Tryz.prog 49 #[.pointer (some ⟨g, 0, none⟩), .agg #[.string f0, .string f1, .slice A2 l2.length c2, .int .i64 f3, .int .i64 f4, .slice A5 l5.length c5]] w fun e w' =>
   ∃ n err, e = .returned (.tuple #[.int .i64 n, .int .i64 err]) ∧ ∃ v', RIn w' base g v' (csOf (stepF es ⟨f0, f1, l2, f3, f4, l5⟩)) ∧ Below base w w' := by
 have hst := cs_step es ⟨f0, f1, l2, f3, f4, l5⟩; generalize csOf (stepF es ⟨f0, f1, l2, f3, f4, l5⟩) = T at *; replace hst := Lib.hid hst; unfold takeB at hst; simp only at hst; have SS := Lib.hid (@sound_sizes ⟨f0, f1, l2, f3, f4, l5⟩); have B0 := Lib.hid (blk_new w (.cells #[.string f0, .string f1, .slice A2 l2.length c2, .int .i64 f3, .int .i64 f4, .slice A5 l5.length c5] 85)); have AB : Hid (Below w.heap.size w (w.alloc (.cells #[.string f0, .string f1, .slice A2 l2.length c2, .int .i64 f3, .int .i64 f4, .slice A5 l5.length c5] 85))) := Lib.hid ((Below.refl _ _).alloc (Nat.le_refl _) _); have HW := Lib.hid h; have H2 := Lib.hid h2; have H5 := Lib.hid h5; have HF := Lib.hid hf; have CK := Lib.hid (fun (W : World) (hb : Below w.heap.size w W) => arbiterref05_Check.calls 1000 f0 f1 A2 c2 l2 f3 f4 A5 c5 l5 _ W (Kd.C_below h2 hb) hc2 (Kd.C_below h5 hb) hc5 (ck_f f0 f1 l2 f3 f4 l5 hr3 hms 1000 (Nat.le_refl _))); have CN := Lib.hid (fun (W : World) (hb : Below w.heap.size w W) (s : ByteArray) => arbiterref06_named.calls 1001 g (csOf es) s _ W ⟨base, v, h.below hb⟩ (named_ok es hlen s 1001 (by omega))); have CI := Lib.hid (fun (W : World) (hb : Below w.heap.size w W) (i : Int) => arbiterref06_IsIface.calls g (csOf es) i _ W ⟨base, v, h.below hb⟩ (isif_ok es i)); have CH := Lib.hid (fun W => Fl.has_any f3 512 W); unfold Fl.band at CH; have hgl := blk_lt h.blk; obtain ⟨Av, cv, rfl⟩ := Kd.R_slice h.row; have hle := Lib.hid (cs_len es); clear h h2 h5 hf hms; generalize hck : chkC ⟨f0, f1, l2, f3, f4, l5⟩ = r at *; replace hck := Lib.hid hck; have C1 := Lib.hid (CK.out _ AB.out); go_enter Tryz.func49, Tryz.ntmps49; go_wp2_with fail; refine C1.out.mono ?_; rintro e w1 ⟨rfl, hb1⟩; have HB := Lib.hid (AB.out.trans (hb1.mono AB.out.size)); have B1 := Lib.hid (blk_below B0.out hb1); clear hb1 C1 CK AB B0
 by_cases h0 : r = 0
 ·subst h0
  obtain ⟨s0, s1, s2, s3, s5⟩ := SS.out rfl; replace s3 := Lib.hid s3; replace s5 := Lib.hid s5; have q0 : w1.cell? ⟨g, 0, none⟩ = some (.slice Av (csOf es).length cv) := (blk_cell (HW.out.below HB.out).blk 0).trans rfl
  by_cases h300 : es.length ≥ 300
  ·have hd : decide (((csOf es).length : Int) ≥ 300) = true := decide_eq_true (by have := hle.out; omega)
   have hT : Hid (T = csOf es) := Lib.hid (by rw [hst.out, decide_eq_true h300]; rfl); clear hst; go_wp2; go_ret2
   exact rno HW.out hbs HB.out hT.out _ _
  ·have hd : decide (((csOf es).length : Int) ≥ 300) = false := decide_eq_false (by have := hle.out; omega)
   have hst1 : Hid (T = if (decide (rnm es f0 < 0) && ((aboveF es ⟨f0, f1, l2, f3, f4, l5⟩ f1 false).2 == 0 && l2.all fun n => (aboveF es ⟨f0, f1, l2, f3, f4, l5⟩ n true).2 == 0)) = true then csOf es ++ [⟨f0, f1, l2, f3, f4, l5⟩] else csOf es) := Lib.hid (by rw [hst.out, decide_eq_false h300]; rfl); clear hst; have y0 : w1.cell? ⟨w.heap.size, 0, none⟩ = some (.string f0) := (blk_cell B1.out 0).trans rfl; have CN0 := Lib.hid (CN.out w1 HB.out f0); go_wp2_with fail; refine CN0.out.mono ?_; rintro e w2 ⟨rfl, ⟨nd, rfl⟩⟩; have HB2 := Lib.hid (pw_below_drewN HB.out nd); have B2 := Lib.hid (blk_drewN B1.out nd); clear CN0 q0 y0; generalize w1.drewN nd = w2 at *; clear HB B1
   by_cases hn : rnm es f0 < 0
   ·have hd2 : decide (rnm es f0 ≥ 0) = false := decide_eq_false (by omega)
    have hst2 : Hid (T = if ((aboveF es ⟨f0, f1, l2, f3, f4, l5⟩ f1 false).2 == 0 && l2.all fun n => (aboveF es ⟨f0, f1, l2, f3, f4, l5⟩ n true).2 == 0) = true then csOf es ++ [⟨f0, f1, l2, f3, f4, l5⟩] else csOf es) := Lib.hid (by rw [hst1.out, decide_eq_true hn]; rfl); have y1 : w2.cell? ⟨w.heap.size, 1, none⟩ = some (.string f1) := (blk_cell B2.out 1).trans rfl; have CN1 := Lib.hid (CN.out w2 HB2.out f1); have hsup := Lib.hid (sup_ok es ⟨f0, f1, l2, f3, f4, l5⟩ f1); have hrin := Lib.hid (@rnm_in es f1); clear hst1 hn; go_wp2_with fail; refine CN1.out.mono ?_; rintro e w3 ⟨rfl, ⟨nd3, rfl⟩⟩; have HB3 := Lib.hid (pw_below_drewN HB2.out nd3); have B3 := Lib.hid (blk_drewN B2.out nd3); clear CN1 y1 hd2; generalize w2.drewN nd3 = w3 at *; clear HB2 B2; generalize rnm es f1 = s at *
    by_cases hs : s < 0
    ·have hd3 : decide (s < 0) = true := decide_eq_true hs
     have hT : Hid (T = csOf es) := Lib.hid (by rw [hst2.out, hsup.out, hd3]; rfl); clear hs; go_wp2; go_ret2
     exact rno HW.out hbs HB3.out hT.out _ _
    ·have hd3 : decide (s < 0) = false := decide_eq_false hs
     obtain ⟨hs0, hs1, -⟩ := hrin.out (by omega); clear hrin
     have hs1' : s < ((csOf es).length : Int) := by have := hle.out; omega
     rw [hd3, Bool.not_false, Bool.true_and] at hsup; have CI1 := Lib.hid (CI.out w3 HB3.out s); have hin : Hid ((inB es s && isI (ent es s).c) = isI (ent es s).c) := Lib.hid (by unfold inB; rw [decide_eq_true ⟨hs0, hs1⟩, Bool.true_and]); rw [hin.out] at CI1; have hfp : Hid ((ent es s).c.f0.size < 4611686018427387904) := Lib.hid (HF.out _ (List.mem_of_getElem? (get_ent hs0 hs1))).2.1; have hic : Hid (isI (⟨f0, f1, l2, f3, f4, l5⟩ : S85) = (Go.bits .and .i64 f3 512 != 0)) := Lib.hid rfl; rw [hic.out] at hsup; obtain ⟨Ar, cr, ev, hlr, RC⟩ := Kd.R_reads HW.out.row; injection ev with ea eb ec; subst ea ec; obtain ⟨ad, P2, pc2, P5, pc5, rfl, p0, p1, p2, p3, p4, p5, hp2, KP2, hp5, KP5⟩ := at_T85 (Kd.C_below RC HB3.out) s hs0 hs1'; rw [cs_rd hs0 hs1] at p0 p1 p2 p3 p4 p5 hp2 KP2 hp5 KP5; clear eb hs RC hin; generalize (ent es s).c = p at *; have CO := Lib.hid (fun W (hb : Below w3.heap.size w3 W) => arbiterref06_open.calls f0 f1 A2 c2 l2 f3 f4 A5 c5 l5 p.f0 p.f1 P2 pc2 p.f2 p.f3 p.f4 P5 pc5 p.f5 _ W (Kd.C_below H2.out (HB3.out.trans (hb.mono HB3.out.size))) hc2 (Kd.C_below H5.out (HB3.out.trans (hb.mono HB3.out.size))) hc5 (Kd.C_below KP2 hb) hp2 (Kd.C_below KP5 hb) hp5 (open_ok ⟨f0, f1, l2, f3, f4, l5⟩ p (by show f0.size < _; omega) hfp.out)); replace KP2 := Lib.hid KP2; replace KP5 := Lib.hid KP5; generalize isI p = ip at *; generalize (Go.bits .and .i64 f3 512 != 0) = ic at *
     go_upto_region 10 with (fail)
     go_cut [0, 3, 6, 40] (fun v0 v3 v6 v40 wr => v0 = .pointer (some ⟨g, 0, none⟩) ∧ v3 = .pointer (some ⟨w.heap.size, 0, none⟩) ∧ v6 = .int .i64 s ∧ v40 = .bool (ip || (ic && s != 0)) ∧ Hid (wr.heap[w.heap.size]? = some (.cells #[.string f0, .string f1, .slice A2 l2.length c2, .int .i64 f3, .int .i64 f4, .slice A5 l5.length c5] 85 (0, 0))) ∧ Hid (Below w3.heap.size w3 wr))
     case first =>
      go_wp2_with fail; refine CI1.out.mono ?_; rintro e w4 ⟨rfl, hb4⟩; have B4 := Lib.hid (blk_below B3.out hb4); replace hb4 := Lib.hid hb4
      cases ip with
      | true =>
       go_wp2; go_meet
       case rel => exact ⟨rfl, rfl, rfl, rfl, B4, hb4⟩
      | false =>
       have y3 : w4.cell? ⟨w.heap.size, 3, none⟩ = some (.int .i64 f3) := (blk_cell B4.out 3).trans rfl; go_wp2_with fail; refine (CH.out _).mono ?_; rintro e w5 ⟨rfl, rfl⟩
       cases ic with
       | false =>
        go_wp2; go_meet
        case rel => exact ⟨rfl, rfl, rfl, rfl, B4, hb4⟩
       | true =>
        go_wp2; go_meet
        case rel => exact ⟨rfl, rfl, rfl, by first | rfl | simp, B4, hb4⟩
     case rest =>
      clear B3; obtain ⟨rfl, rfl, rfl, rfl, B4, hb4⟩ := hcut
      cases hbad : (ip || (ic && s != 0)) with
      | true =>
       have hT : Hid (T = csOf es) := Lib.hid (by rw [hst2.out, hsup.out, hbad]; rfl); clear hbad; go_wp2; go_ret2
       exact rno HW.out hbs (HB3.out.trans (hb4.out.mono HB3.out.size)) hT.out _ _
      | false =>
       rw [hbad, Bool.not_false, Bool.true_and] at hsup; clear hbad
       go_upto_region 12 with (fail)
       generalize hob : (Go.bits .and .i64 p.f3 1 != 0 || tog ⟨f0, f1, l2, f3, f4, l5⟩ p) = ob at *; clear hob
       go_cut [0, 3, 50] (fun v0 v3 v50 wr => v0 = .pointer (some ⟨g, 0, none⟩) ∧ v3 = .pointer (some ⟨w.heap.size, 0, none⟩) ∧ v50 = .bool (!ob) ∧ Hid (wr.heap[w.heap.size]? = some (.cells #[.string f0, .string f1, .slice A2 l2.length c2, .int .i64 f3, .int .i64 f4, .slice A5 l5.length c5] 85 (0, 0))) ∧ Hid (Below w.heap.size w wr))
       case first =>
        have q0 : wc.cell? ⟨g, 0, none⟩ = some (.slice (some ad) (csOf es).length cv) := (blk_cell (HW.out.below (HB3.out.trans (hb4.out.mono HB3.out.size))).blk 0).trans rfl; have y0 : wc.cell? ⟨w.heap.size, 0, none⟩ = some (.string f0) := (blk_cell B4.out 0).trans rfl; have y1 : wc.cell? ⟨w.heap.size, 1, none⟩ = some (.string f1) := (blk_cell B4.out 1).trans rfl; have y2 : wc.cell? ⟨w.heap.size, 2, none⟩ = some (.slice A2 l2.length c2) := (blk_cell B4.out 2).trans rfl; have y3 : wc.cell? ⟨w.heap.size, 3, none⟩ = some (.int .i64 f3) := (blk_cell B4.out 3).trans rfl; have y4 : wc.cell? ⟨w.heap.size, 4, none⟩ = some (.int .i64 f4) := (blk_cell B4.out 4).trans rfl; have y5 : wc.cell? ⟨w.heap.size, 5, none⟩ = some (.slice A5 l5.length c5) := (blk_cell B4.out 5).trans rfl; replace p0 := pw_cell_below hb4.out p0; replace p1 := pw_cell_below hb4.out p1; replace p2 := pw_cell_below hb4.out p2; replace p3 := pw_cell_below hb4.out p3; replace p4 := pw_cell_below hb4.out p4; replace p5 := pw_cell_below hb4.out p5
        go_region_with (go_at_call 92; refine (CO.out _ (by repeat (first | exact hb4.out | apply below_drew1 | apply pw_below_drewN))).mono ?_; rintro e w5 ⟨rfl, hb5⟩; have hb6 : Hid (Below wc.heap.size wc w5) := Lib.hid ⟨hb5.os, hb5.tape, hb5.output, hb5.size, hb5.block⟩; clear hb5)
        all_goals
         try go_wp2
         go_meet
         case rel => exact ⟨rfl, rfl, rfl, Lib.hid (blk_below B4.out hb6.out), Lib.hid ((HB3.out.trans (hb4.out.mono HB3.out.size)).trans (hb6.out.mono (HB3.out.trans (hb4.out.mono HB3.out.size)).size))⟩
       case rest =>
        clear B4 hb4 CO KP2 KP5 p0 p1 p2 p3 p4 p5 hp2 hp5 CI1 hfp HB3; obtain ⟨rfl, rfl, rfl, B5, HB5⟩ := hcut
        cases ob with
        | false =>
         have hT : Hid (T = csOf es) := Lib.hid (by rw [hst2.out, hsup.out]; rfl); go_wp2; go_ret2
         exact rno HW.out hbs HB5.out hT.out _ _
        | true =>
         rw [Bool.not_true]; have hst3 : Hid (T = if (l2.all fun n => (aboveF es ⟨f0, f1, l2, f3, f4, l5⟩ n true).2 == 0) = true then csOf es ++ [⟨f0, f1, l2, f3, f4, l5⟩] else csOf es) := Lib.hid (by rw [hst2.out, hsup.out]; rfl); clear hst2 hsup hd3 hs0 hs1 hs1' hic CH
         go_upto_region 14 with (fail)
         go_wp2_with fail
         go_loopw [7] (fun v7 wr => ∃ j : Nat, j ≤ l2.length ∧ v7 = .int .i64 j ∧ Hid (((l2.take j).all fun n => (aboveF es ⟨f0, f1, l2, f3, f4, l5⟩ n true).2 == 0) = true) ∧ Hid (wr.heap[w.heap.size]? = some (.cells #[.string f0, .string f1, .slice A2 l2.length c2, .int .i64 f3, .int .i64 f4, .slice A5 l5.length c5] 85 (0, 0))) ∧ Hid (Below w.heap.size w wr)) (fun v7 _ => l2.length - (intOf v7).toNat)
         case atStart => exact ⟨0, Nat.zero_le _, rfl, Lib.hid (by simp), B5, HB5⟩
         case round =>
          clear B5 HB5; obtain ⟨j, hj, rfl, HT, B6, HB6⟩ := hrel; have y2 : wr.cell? ⟨w.heap.size, 2, none⟩ = some (.slice A2 l2.length c2) := (blk_cell B6.out 2).trans rfl
          by_cases hlt : j < l2.length
          ·have hjd : decide (j < l2.length) = true := decide_eq_true hlt
           obtain ⟨ad2, cc, rfl, hcl, hKK, hic⟩ := Kd.C_get (Kd.C_below H2.out HB6.out) ByteArray.empty (j : Int) (by omega) (by omega); have hx := rd_at hlt; obtain rfl : cc = [.string (rdOf ByteArray.empty l2 (j : Int))] := hKK; have hic := hic 0 _ rfl; rw [show Kd.string.sz = 1 from rfl, Nat.mul_one, Nat.add_zero, Int.toNat_natCast] at hic; generalize rdOf ByteArray.empty l2 (j : Int) = n at *; have haok := Lib.hid (if_ok es ⟨f0, f1, l2, f3, f4, l5⟩ n)
           have hbad : Hid (((aboveF es ⟨f0, f1, l2, f3, f4, l5⟩ n true).2 == 0) = false → T = csOf es) := Lib.hid (fun h => by
            rw [hst3.out, bad_all (p := fun n => (aboveF es ⟨f0, f1, l2, f3, f4, l5⟩ n true).2 == 0) hx h]; rfl)
           have hgood : Hid (((aboveF es ⟨f0, f1, l2, f3, f4, l5⟩ n true).2 == 0) = true → ((l2.take (j + 1)).all fun n => (aboveF es ⟨f0, f1, l2, f3, f4, l5⟩ n true).2 == 0) = true) := Lib.hid (fun h => all_take (p := fun n => (aboveF es ⟨f0, f1, l2, f3, f4, l5⟩ n true).2 == 0) hx h HT.out); have hrin := Lib.hid (@rnm_in es n); have CN1 := Lib.hid (CN.out wr HB6.out n); generalize ((aboveF es ⟨f0, f1, l2, f3, f4, l5⟩ n true).2 == 0) = aok at *; clear HT hx hcl; go_wp2_with fail; refine CN1.out.mono ?_; rintro e w7 ⟨rfl, ⟨nd7, rfl⟩⟩; have HB7 := Lib.hid (pw_below_drewN HB6.out nd7); have B7 := Lib.hid (blk_drewN B6.out nd7); clear CN1 y2 hic; generalize wr.drewN nd7 = w7 at *; clear HB6 B6; generalize rnm es n = k at *
           by_cases hs : k < 0
           ·have hd3 : decide (k < 0) = true := decide_eq_true hs
            have hT := Lib.hid (hbad.out (by rw [haok.out, hd3]; rfl)); clear hs; go_wp2; go_ret2
            exact rno HW.out hbs HB7.out hT.out _ _
           ·have hd3 : decide (k < 0) = false := decide_eq_false hs
            obtain ⟨hs0, hs1, -⟩ := hrin.out (by omega); clear hrin
            have hs1' : k < ((csOf es).length : Int) := by have := hle.out; omega
            rw [hd3, Bool.not_false, Bool.true_and] at haok; have CI1 := Lib.hid (CI.out w7 HB7.out k); have hin : Hid ((inB es k && isI (ent es k).c) = isI (ent es k).c) := Lib.hid (by unfold inB; rw [decide_eq_true ⟨hs0, hs1⟩, Bool.true_and]); rw [hin.out] at CI1; have hfp : Hid ((ent es k).c.f0.size < 4611686018427387904) := Lib.hid (HF.out _ (List.mem_of_getElem? (get_ent hs0 hs1))).2.1; obtain ⟨Ar, cr, ev, hlr, RC⟩ := Kd.R_reads HW.out.row; injection ev with ea eb ec; subst ec; obtain ⟨ad', P2, pc2, P5, pc5, ea', p0, p1, p2, p3, p4, p5, hp2, KP2, hp5, KP5⟩ := at_T85 (Kd.C_below RC HB7.out) k hs0 hs1'; rw [ea'] at ea; injection ea with ea; subst ea; rw [cs_rd hs0 hs1] at p0 p1 p2 p3 p4 p5 hp2 KP2 hp5 KP5; clear eb hs RC hin ea'; generalize (ent es k).c = p at *; have CO := Lib.hid (fun W (hb : Below w7.heap.size w7 W) => arbiterref06_open.calls f0 f1 (some ad2) c2 l2 f3 f4 A5 c5 l5 p.f0 p.f1 P2 pc2 p.f2 p.f3 p.f4 P5 pc5 p.f5 _ W (Kd.C_below H2.out (HB7.out.trans (hb.mono HB7.out.size))) hc2 (Kd.C_below H5.out (HB7.out.trans (hb.mono HB7.out.size))) hc5 (Kd.C_below KP2 hb) hp2 (Kd.C_below KP5 hb) hp5 (open_ok ⟨f0, f1, l2, f3, f4, l5⟩ p (by show f0.size < _; omega) hfp.out)); replace KP2 := Lib.hid KP2; replace KP5 := Lib.hid KP5; generalize isI p = ip at *; generalize (Go.bits .and .i64 p.f3 1 != 0 || tog ⟨f0, f1, l2, f3, f4, l5⟩ p) = ob at *; go_wp2_with fail; refine CI1.out.mono ?_; rintro e w8 ⟨rfl, hb8⟩; have B8 := Lib.hid (blk_below B7.out hb8); replace hb8 := Lib.hid hb8; clear CI1 B7
            cases ip with
            | false =>
             have hT := Lib.hid (hbad.out (by rw [haok.out]; rfl)); go_wp2; go_ret2
             exact rno HW.out hbs (HB7.out.trans (hb8.out.mono HB7.out.size)) hT.out _ _
            | true =>
             rw [Bool.true_and] at haok
             go_upto_region 22 with (fail)
             go_cut [0, 3, 7, 80] (fun v0 v3 v7 v80 wr => v0 = .pointer (some ⟨g, 0, none⟩) ∧ v3 = .pointer (some ⟨w.heap.size, 0, none⟩) ∧ v7 = .int .i64 j ∧ v80 = .bool (!ob) ∧ Hid (wr.heap[w.heap.size]? = some (.cells #[.string f0, .string f1, .slice (some ad2) l2.length c2, .int .i64 f3, .int .i64 f4, .slice A5 l5.length c5] 85 (0, 0))) ∧ Hid (Below w.heap.size w wr))
             case first =>
              have q0 : w8.cell? ⟨g, 0, none⟩ = some (.slice (some ad) (csOf es).length cv) := (blk_cell (HW.out.below (HB7.out.trans (hb8.out.mono HB7.out.size))).blk 0).trans rfl; have y0 : w8.cell? ⟨w.heap.size, 0, none⟩ = some (.string f0) := (blk_cell B8.out 0).trans rfl; have y1 : w8.cell? ⟨w.heap.size, 1, none⟩ = some (.string f1) := (blk_cell B8.out 1).trans rfl; have y2 : w8.cell? ⟨w.heap.size, 2, none⟩ = some (.slice (some ad2) l2.length c2) := (blk_cell B8.out 2).trans rfl; have y3 : w8.cell? ⟨w.heap.size, 3, none⟩ = some (.int .i64 f3) := (blk_cell B8.out 3).trans rfl; have y4 : w8.cell? ⟨w.heap.size, 4, none⟩ = some (.int .i64 f4) := (blk_cell B8.out 4).trans rfl; have y5 : w8.cell? ⟨w.heap.size, 5, none⟩ = some (.slice A5 l5.length c5) := (blk_cell B8.out 5).trans rfl; replace p0 := pw_cell_below hb8.out p0; replace p1 := pw_cell_below hb8.out p1; replace p2 := pw_cell_below hb8.out p2; replace p3 := pw_cell_below hb8.out p3; replace p4 := pw_cell_below hb8.out p4; replace p5 := pw_cell_below hb8.out p5
              go_region_with (go_at_call 92; refine (CO.out _ (by repeat (first | exact hb8.out | apply below_drew1 | apply pw_below_drewN))).mono ?_; rintro e w5 ⟨rfl, hb5⟩; have hb6 : Hid (Below w8.heap.size w8 w5) := Lib.hid ⟨hb5.os, hb5.tape, hb5.output, hb5.size, hb5.block⟩; clear hb5)
              all_goals
               try go_wp2
               go_meet
               case rel => exact ⟨rfl, rfl, rfl, rfl, Lib.hid (blk_below B8.out hb6.out), Lib.hid ((HB7.out.trans (hb8.out.mono HB7.out.size)).trans (hb6.out.mono (HB7.out.trans (hb8.out.mono HB7.out.size)).size))⟩
             case rest =>
              clear B8 hb8 CO KP2 KP5 p0 p1 p2 p3 p4 p5 hp2 hp5 hfp HB7; obtain ⟨rfl, rfl, rfl, rfl, B9, HB9⟩ := hcut
              cases ob with
              | false =>
               have hT := Lib.hid (hbad.out haok.out); go_wp2; go_ret2
               exact rno HW.out hbs HB9.out hT.out _ _
              | true =>
               rw [Bool.not_true]; have hg1 := Lib.hid (hgood.out haok.out); go_wp2
               exact ⟨⟨j + 1, by omega, by push_cast; rfl, hg1, B9, HB9⟩, by simp [intOf]; omega⟩
          ·have hjd : decide (j < l2.length) = false := decide_eq_false hlt
           have hjl : j = l2.length := by omega
           have h1 := HT.out; rw [hjl, List.take_length] at h1; have hT : Hid (T = csOf es ++ [⟨f0, f1, l2, f3, f4, l5⟩]) := Lib.hid (by rw [hst3.out, h1]; rfl); clear h1 hst3 HT hjl
           go_upto_region 24 with (fail)
           have HWr := Lib.hid (HW.out.below HB6.out); have q0 : wr.cell? ⟨g, 0, none⟩ = some (.slice (some ad) (csOf es).length cv) := (blk_cell HWr.out.blk 0).trans rfl; have y0 : wr.cell? ⟨w.heap.size, 0, none⟩ = some (.string f0) := (blk_cell B6.out 0).trans rfl; have y1 : wr.cell? ⟨w.heap.size, 1, none⟩ = some (.string f1) := (blk_cell B6.out 1).trans rfl; have y2 : wr.cell? ⟨w.heap.size, 2, none⟩ = some (.slice A2 l2.length c2) := (blk_cell B6.out 2).trans rfl; have y3 : wr.cell? ⟨w.heap.size, 3, none⟩ = some (.int .i64 f3) := (blk_cell B6.out 3).trans rfl; have y4 : wr.cell? ⟨w.heap.size, 4, none⟩ = some (.int .i64 f4) := (blk_cell B6.out 4).trans rfl; have y5 : wr.cell? ⟨w.heap.size, 5, none⟩ = some (.slice A5 l5.length c5) := (blk_cell B6.out 5).trans rfl; have kq := blk_frozen HWr.out.blk 0; have hwb : base ≤ wr.heap.size := Nat.le_trans hbs HB6.out.size; have hgl2 : g < wr.heap.size := blk_lt HWr.out.blk; have hgn := Lib.hid (Kd.R_ne HWr.out.row HWr.out.blk (by decide))
           have hvb : Hid (∀ k, (Value.slice (some ad) (csOf es).length cv).ownBlock = some k → k < wr.heap.size) := Lib.hid (fun k hk => by
            obtain ⟨inner, ho⟩ := Kd.R_own HWr.out.row; obtain ⟨cells, hc⟩ := own_typed ho k hk
            exact blk_lt hc)
           have CP := Lib.hid (fun W (hb : Below wr.heap.size wr W) => rcopy_any f0 f1 A2 c2 l2 f3 f4 A5 c5 l5 W (Kd.C_below H2.out (HB6.out.trans (hb.mono HB6.out.size))) (Kd.C_below H5.out (HB6.out.trans (hb.mono HB6.out.size))) (by omega) s5.out); clear y2 B6
           go_cut [0, 3] (fun v0 v3 wf => ∃ v1, v0 = .pointer (some ⟨g, 0, none⟩) ∧ Hid (RIn wf base g v1 (csOf es ++ [⟨f0, f1, l2, f3, f4, l5⟩])) ∧ Hid (Below base w wf))
           case first =>
            go_region_law (first
             | (refine Kd.R_append_step k85 (W := w5) (w0 := w5) base (by rfl) (.tmp 85) (.tmp 88) 22 85 (.agg #[.string ⟨#[]⟩, .string ⟨#[]⟩, .slice none 0 0, .int .i64 0, .int .i64 0, .slice none 0 0]) 96 (by rfl) Tryz.underlying22 infoClass rfl (by decide) (by omega) _ (csOf es) ⟨f0, f1, l2, f3, f4, l5⟩ [.string f0, .string f1, .slice Ac2 l2.length cc2, .int .i64 f3, .int .i64 f4, .slice Ac5 l5.length cc5] (fun _ => True) (fun k => wr.heap.size ≤ k) (by rfl) (by rfl) (HM.out) (HN.out) (fun _ _ => trivial) (Kd.R_below HWr.out.row hb6.out) (Below.refl _ _) (Nat.le_trans hwb hb6.out.size) (by have := hle.out; omega) ?_; intro v1 w6 h1 h2 h3 h4; obtain ⟨A9, c9, rfl⟩ := Kd.R_slice h1; rw [show (csOf es ++ [(⟨f0, f1, l2, f3, f4, l5⟩ : S85)]).length = (csOf es).length + 1 by simp] at h1; have kx := (h3.frozen_far ⟨g, 0, none⟩ (Nat.lt_of_lt_of_le hgl2 hb6.out.size) hgn.out).trans kq6.out; have qx := (h3.cell_far ⟨g, 0, none⟩ (Nat.lt_of_lt_of_le hgl2 hb6.out.size) hgn.out).trans qq6.out; have hblk := Lib.hid (blk_grown (blk_below HWr.out.blk hb6.out) h3 hgn.out); replace h1 := Lib.hid h1; replace h2 := Lib.hid h2; clear h3 h4)
             | (go_simp; go_at_call 93; refine (CP.out _ (by repeat (first | exact Below.refl _ _ | apply below_drew1 | apply pw_below_drewN))).mono ?_; rintro e w5 ⟨v2', v5', rfl, R2, R5, hb5⟩; have hb6 : Hid (Below wr.heap.size wr w5) := Lib.hid ⟨hb5.os, hb5.tape, hb5.output, hb5.size, hb5.block⟩; obtain ⟨Ac2, cc2, rfl⟩ := Kd.R_slice R2; obtain ⟨Ac5, cc5, rfl⟩ := Kd.R_slice R5; have kq6 := Lib.hid (blk_frozen (blk_below HWr.out.blk hb6.out) 0); have qq6 := Lib.hid (pw_cell_below hb6.out q0); have qq7 := qq6.out; have qq8 := cell_allocs qq7; have HM := Lib.hid (k85_mkM w5 base (fun k => wr.heap.size ≤ k) ⟨f0, f1, l2, f3, f4, l5⟩ (Kd.R_lower (Kd.R_mono (Kd.R_bound R2) (fun k hk => (show wr.heap.size ≤ k from hk.2.1))) hwb) (Kd.R_lower (Kd.R_mono (Kd.R_bound R5) (fun k hk => (show wr.heap.size ≤ k from hk.2.1))) hwb)); have HN : Hid (∀ k, wr.heap.size ≤ k → True ∧ some k ≠ (Value.slice (some ad) (csOf es).length cv).ownBlock) := Lib.hid (fun k hk => ⟨trivial, fun e => by have := hvb.out k e.symm; omega⟩); clear R2 R5 hb5))
            all_goals have NR := Lib.hid (show RIn (w6.setCell ⟨g, 0, none⟩ (.slice A9 ((csOf es).length + 1) c9)) base g (.slice A9 ((csOf es).length + 1) c9) (csOf es ++ [⟨f0, f1, l2, f3, f4, l5⟩]) from ⟨HWr.out.hg, blk_put hblk.out 0 _ rfl, Kd.R_set h1.out hblk.out (by decide) 0 _⟩)
            all_goals have NB := Lib.hid (((HB6.out.mono hbs).trans ((hb6.out.mono hwb).trans h2.out)).setCell (p := ⟨g, 0, none⟩) HWr.out.hg (.slice A9 ((csOf es).length + 1) c9))
            all_goals clear h1 h2 kx qx hblk HM HN hb6 kq6 qq6 qq7 qq8
            all_goals try go_wp2
            all_goals go_meet
            all_goals (case rel => exact ⟨_, rfl, NR, NB⟩)
           case rest =>
            clear q0 y0 y1 y3 y4 y5 HWr kq hgn hvb CP HB6; obtain ⟨v1, rfl, NR, NB⟩ := hcut; obtain ⟨A9, c9, rfl⟩ := Kd.R_slice NR.out.row; have q9 : wc.cell? ⟨g, 0, none⟩ = some (.slice A9 (csOf es ++ [(⟨f0, f1, l2, f3, f4, l5⟩ : S85)]).length c9) := (blk_cell NR.out.blk 0).trans rfl; go_wp2; go_ret2
            exact ⟨_, _, rfl, _, by rw [hT.out]; exact NR.out, NB.out⟩
   ·have hd2 : decide (rnm es f0 ≥ 0) = true := decide_eq_true (by omega)
    have hT : Hid (T = csOf es) := Lib.hid (by rw [hst1.out, decide_eq_false hn]; rfl); clear hst1 hn; go_wp2; go_ret2
    exact rno HW.out hbs HB2.out hT.out _ _
 ·have hne : (r != 0) = true := bne_iff_ne.2 h0
  have hT : Hid (T = csOf es) := Lib.hid (by rw [hst.out, beq_eq_false_iff_ne.2 h0]; rfl); clear hst h0; go_wp2; go_ret2
  exact rno HW.out hbs HB.out hT.out _ _
end Go.Proofs.YtaipkdglhfhhiaaGreatDoor.Pt

namespace Go.Proofs.YtaipkdglhfhhiaaGreatDoor.Pt
open Go Go.RowKit Go.Proofs.YtaipkdglhfhhiaaGreatDoor.Nm Go.Proofs.YtaipkdglhfhhiaaGreatDoor.Hi Go.Proofs.YtaipkdglhfhhiaaGreatDoorW.PrintWords Go.Proofs.YtaipkdglhfhhiaaGreatDoorW.PrintLast Go.Proofs.YtaipkdglhfhhiaaGreatDoorW.PrintMore
set_option linter.unusedVariables false
set_option linter.unusedSimpArgs false
set_option maxHeartbeats 2000000
set_option maxRecDepth 100000
def goodC (c : S85) : Bool := inRB c.f3 && c.f5.all fun m => inRB m.f2
def arbiterref06_Of.f (l0 : List (S85)) : Option (List (S85)) := if l0.all goodC = true then some (csOf (builtF l0)) else none
theorem arbiterref06_Of.calls (A0 : Option Addr) (c0 : Nat) (l0 : List (S85)) (r : List (S85)) (w : World) (hr0 : Kd.C k85 w A0 l0.length l0) (hc0 : l0.length ≤ c0) (h : arbiterref06_Of.f l0 = some r) :
  Calls Tryz.prog 13 #[.slice A0 l0.length c0] w fun e w' => ∃ G_, e = .returned (.pointer (some ⟨G_, 0, none⟩)) ∧ ROK w' G_ r ∧ Below w.heap.size w w' := by
 unfold arbiterref06_Of.f at h; obtain ⟨hg, h⟩ := if_some h; obtain rfl := Option.some.inj h; have HR := Lib.hid hr0; have HG := Lib.hid hg; have hmax := Kd.C_max hr0; clear h hr0 hg; go_enter Tryz.func13, Tryz.ntmps13; go_wp2_with fail; refine (rnew_any _).mono ?_; rintro e w1 ⟨g, v, rfl, hI, hb⟩; have HI := Lib.hid hI; have HB := Lib.hid hb; clear hI hb; go_wp2_with fail
 go_loopw [4] (fun v4 wr => ∃ j : Nat, j ≤ l0.length ∧ v4 = .int .i64 j ∧ Hid (∃ v, RIn wr w.heap.size g v (csOf (builtF (l0.take j)))) ∧ Hid (Below w.heap.size w wr)) (fun v4 _ => l0.length - (intOf v4).toNat)
 case atStart => exact ⟨0, Nat.zero_le _, rfl, Lib.hid ⟨_, HI.out⟩, HB⟩
 case round =>
  clear HI HB; obtain ⟨j, hj, rfl, HI, HB⟩ := hrel
  by_cases hlt : j < l0.length
  ·have hjd : decide (j < l0.length) = true := decide_eq_true hlt
   obtain ⟨ad, A2, c2, A5, c5, rfl, q0, q1, q2, q3, q4, q5, hc2, K2, hc5, K5⟩ := at_T85 (Kd.C_below HR.out HB.out) (j : Int) (by omega) (by omega); have hx := rd44 hlt; rw [Int.toNat_natCast] at q0 q1 q2 q3 q4 q5; generalize rd_T85 l0 (j : Int) = x at *; obtain ⟨v, hI⟩ := HI.out
   have hst : Hid (builtF (l0.take (j + 1)) = stepF (builtF (l0.take j)) x) := Lib.hid (by
    unfold builtF; rw [List.take_add_one, hx, List.foldl_append]
    rfl)
   have hgx : goodC x = true := List.all_eq_true.1 HG.out x (List.mem_of_getElem? hx); unfold goodC at hgx; rw [Bool.and_eq_true, List.all_eq_true] at hgx; have hgd := good_made (made_built (l0.take j)); have DF := Lib.hid (rdefine_any wr w.heap.size g v _ hI HB.out.size hgd.fine (by have := hgd.len; omega) x.f0 x.f1 A2 c2 x.f2 x.f3 x.f4 A5 c5 x.f5 K2 hc2 K5 hc5 hgx.1 hgx.2); clear K2 K5 hI HI hx hgx hgd; obtain ⟨n0, n1, n2, n3, n4, n5⟩ := x; go_wp2_with fail; refine DF.out.mono ?_; rintro e w2 ⟨nn, er, rfl, v', I2, hb2⟩; replace I2 := Lib.hid I2; have HB2 := Lib.hid (HB.out.trans hb2); clear hb2 DF HB q0 q1 q2 q3 q4 q5; go_wp2
   exact ⟨⟨j + 1, by omega, by push_cast; rfl, Lib.hid ⟨_, by rw [hst.out]; exact I2.out⟩, HB2⟩, by simp [intOf]; omega⟩
  ·have hjd : decide (j < l0.length) = false := decide_eq_false hlt
   have e1 : j = l0.length := by omega
   subst e1; rw [List.take_length] at HI; go_wp2; go_ret; obtain ⟨v, hI⟩ := HI.out
   exact ⟨g, rfl, ⟨_, _, hI⟩, HB.out⟩
end Go.Proofs.YtaipkdglhfhhiaaGreatDoor.Pt

namespace Go.Proofs.YtaipkdglhfhhiaaGreatDoor.Pt
open Go.RowKit Go.Proofs.YtaipkdglhfhhiaaGreatDoorW.PrintWords Go.Proofs.YtaipkdglhfhhiaaGreatDoorW.PrintLast Go.Proofs.YtaipkdglhfhhiaaGreatDoorW.PrintMore
attribute [local go_sem] max2_int min2_int max_two min_two max_three min_three max_four min_four   -- for this text's walks alone
set_option linter.unusedVariables false
set_option linter.unusedSimpArgs false
mutual
def arbiterlaw08_AccessClasses.j0 : Nat → Int → Int → List Hi.Ent → List S85 → Bool → Int → ByteArray → Option (Bool)
 | 0, _, _, _, _, _, _, _ => none
 | k + 1, x1, x2, x9, x10, x51, x245000, x245001 => if x51 = true then (some false) else ((access_ClassOpen.f x9 x1 x2).bind fun bt254 => ((arbiterref08_ClassOpen.f k x10 x1 x2).bind fun bt256 => (if (bt254.1 != bt256.1) = true then (arbiterlaw08_AccessClasses.j1 k x1 x9 x10 true x245000 x245001) else (arbiterlaw08_AccessClasses.j1 k x1 x9 x10 (bt254.2 != bt256.2) x245000 x245001))))
def arbiterlaw08_AccessClasses.j1 : Nat → Int → List Hi.Ent → List S85 → Bool → Int → ByteArray → Option (Bool)
 | 0, _, _, _, _, _, _ => none
 | k + 1, x1, x9, x10, x73, x245000, x245001 => if x73 = true then (some false) else ((access_TypeOpen.f x9 x1 x245000 x245001).bind fun bt258 => ((arbiterref08_TypeOpen.f k x10 x1 x245000 x245001).bind fun bt260 => (if (bt258.1 == bt260.1) = true then (some (bt258.2 == bt260.2)) else (some false))))
end
def arbiterlaw08_AccessClasses.f (k : Nat) (l0 : List (S85)) (a1 : Int) (a2 : Int) (a3_0 : Int) (a3_1 : ByteArray) : Option (Bool) := (arbiterlaw08_awake.f).bind fun t245 => (if t245 = true then ((arbiterlaw08_built.f l0).bind fun t246 => ((arbiterref06_Of.f l0).bind fun t247 => ((access_Package.f t246 a1).bind fun bt248 => ((arbiterref08_Package.f t247 a1).bind fun bt251 => (if bt248.1 = bt251.1 then (if bt248.2.1.toList = bt251.2.1.toList then (arbiterlaw08_AccessClasses.j0 k a1 a2 t246 t247 (bt248.2.2 != bt251.2.2) a3_0 a3_1) else (arbiterlaw08_AccessClasses.j0 k a1 a2 t246 t247 true a3_0 a3_1)) else (arbiterlaw08_AccessClasses.j0 k a1 a2 t246 t247 true a3_0 a3_1)))))) else (some false))
set_option maxHeartbeats 8000000 in
set_option maxRecDepth 100000 in
theorem arbiterlaw08_AccessClasses.calls (k : Nat) (A0 : Option Addr) (c0 : Nat) (l0 : List (S85)) (a1 : Int) (a2 : Int) (a3_0 : Int) (a3_1 : ByteArray) (r : Bool) (w : World) (hr0 : Kd.C k85 w A0 l0.length l0) (hc0 : l0.length ≤ c0) (h : arbiterlaw08_AccessClasses.f k l0 a1 a2 a3_0 a3_1 = some r) :
  Calls Tryz.prog 3 #[.slice A0 l0.length c0, .int .i64 a1, .int .i64 a2, .agg #[.int .i64 a3_0, .string a3_1]] w fun e w' => e = .returned (.bool r) ∧ Below w.heap.size w w' := by
 have hu24 := Tryz.underlying24; have HR0 := Aside0.mk hr0; have HC0 := Aside0.mk hc0; clear hr0 hc0; have HB := Aside0.mk (Below.refl w.heap.size w); have H : ((arbiterlaw08_awake.f).bind fun t245 => (if t245 = true then ((arbiterlaw08_built.f l0).bind fun t246 => ((arbiterref06_Of.f l0).bind fun t247 => ((access_Package.f t246 a1).bind fun bt248 => ((arbiterref08_Package.f t247 a1).bind fun bt251 => (if bt248.1 = bt251.1 then (if bt248.2.1.toList = bt251.2.1.toList then (arbiterlaw08_AccessClasses.j0 k a1 a2 t246 t247 (bt248.2.2 != bt251.2.2) a3_0 a3_1) else (arbiterlaw08_AccessClasses.j0 k a1 a2 t246 t247 true a3_0 a3_1)) else (arbiterlaw08_AccessClasses.j0 k a1 a2 t246 t247 true a3_0 a3_1)))))) else (some false))) = some r := h; clear h; replace H := Option.bind_eq_some_iff.mp H; obtain ⟨t245, A50, H⟩ := H; replace H : (if t245 = true then ((arbiterlaw08_built.f l0).bind fun t246 => ((arbiterref06_Of.f l0).bind fun t247 => ((access_Package.f t246 a1).bind fun bt248 => ((arbiterref08_Package.f t247 a1).bind fun bt251 => (if bt248.1 = bt251.1 then (if bt248.2.1.toList = bt251.2.1.toList then (arbiterlaw08_AccessClasses.j0 k a1 a2 t246 t247 (bt248.2.2 != bt251.2.2) a3_0 a3_1) else (arbiterlaw08_AccessClasses.j0 k a1 a2 t246 t247 true a3_0 a3_1)) else (arbiterlaw08_AccessClasses.j0 k a1 a2 t246 t247 true a3_0 a3_1)))))) else (some false)) = some r := H; have A5 := Aside0.mk A50; clear A50
 by_cases c6 : t245 = true
 ·subst c6
  have H1 : ((arbiterlaw08_built.f l0).bind fun t246 => ((arbiterref06_Of.f l0).bind fun t247 => ((access_Package.f t246 a1).bind fun bt248 => ((arbiterref08_Package.f t247 a1).bind fun bt251 => (if bt248.1 = bt251.1 then (if bt248.2.1.toList = bt251.2.1.toList then (arbiterlaw08_AccessClasses.j0 k a1 a2 t246 t247 (bt248.2.2 != bt251.2.2) a3_0 a3_1) else (arbiterlaw08_AccessClasses.j0 k a1 a2 t246 t247 true a3_0 a3_1)) else (arbiterlaw08_AccessClasses.j0 k a1 a2 t246 t247 true a3_0 a3_1)))))) = some r := by rw [if_pos rfl] at H; exact H
  clear H; have H := H1; clear H1; replace H := Option.bind_eq_some_iff.mp H; obtain ⟨t246, A70, H⟩ := H; replace H : ((arbiterref06_Of.f l0).bind fun t247 => ((access_Package.f t246 a1).bind fun bt248 => ((arbiterref08_Package.f t247 a1).bind fun bt251 => (if bt248.1 = bt251.1 then (if bt248.2.1.toList = bt251.2.1.toList then (arbiterlaw08_AccessClasses.j0 k a1 a2 t246 t247 (bt248.2.2 != bt251.2.2) a3_0 a3_1) else (arbiterlaw08_AccessClasses.j0 k a1 a2 t246 t247 true a3_0 a3_1)) else (arbiterlaw08_AccessClasses.j0 k a1 a2 t246 t247 true a3_0 a3_1))))) = some r := H; have A7 := Aside0.mk A70; clear A70; replace H := Option.bind_eq_some_iff.mp H; obtain ⟨t247, A80, H⟩ := H; replace H : ((access_Package.f t246 a1).bind fun bt248 => ((arbiterref08_Package.f t247 a1).bind fun bt251 => (if bt248.1 = bt251.1 then (if bt248.2.1.toList = bt251.2.1.toList then (arbiterlaw08_AccessClasses.j0 k a1 a2 t246 t247 (bt248.2.2 != bt251.2.2) a3_0 a3_1) else (arbiterlaw08_AccessClasses.j0 k a1 a2 t246 t247 true a3_0 a3_1)) else (arbiterlaw08_AccessClasses.j0 k a1 a2 t246 t247 true a3_0 a3_1)))) = some r := H; have A8 := Aside0.mk A80; clear A80; replace H := Option.bind_eq_some_iff.mp H; obtain ⟨⟨t248, t249, t250⟩, A90, H⟩ := H; replace H : ((arbiterref08_Package.f t247 a1).bind fun bt251 => (if t248 = bt251.1 then (if t249.toList = bt251.2.1.toList then (arbiterlaw08_AccessClasses.j0 k a1 a2 t246 t247 (t250 != bt251.2.2) a3_0 a3_1) else (arbiterlaw08_AccessClasses.j0 k a1 a2 t246 t247 true a3_0 a3_1)) else (arbiterlaw08_AccessClasses.j0 k a1 a2 t246 t247 true a3_0 a3_1))) = some r := H; have A9 := Aside0.mk A90; clear A90; replace H := Option.bind_eq_some_iff.mp H; obtain ⟨⟨t251, t252, t253⟩, A100, H⟩ := H; replace H : (if t248 = t251 then (if t249.toList = t252.toList then (arbiterlaw08_AccessClasses.j0 k a1 a2 t246 t247 (t250 != t253) a3_0 a3_1) else (arbiterlaw08_AccessClasses.j0 k a1 a2 t246 t247 true a3_0 a3_1)) else (arbiterlaw08_AccessClasses.j0 k a1 a2 t246 t247 true a3_0 a3_1)) = some r := H; have A10 := Aside0.mk A100; clear A100; have HC11 := Aside0.mk H; clear H; go_enter Tryz.func3, Tryz.ntmps3
  go_upto_region 7 with (first | ((with_reducible refine gate_dst (N := 7) rfl ?_); refine box_event ?hg (N := 7) ?hd (cs := #[.int .i64 a3_0, .string a3_1]) (t := 24) ?hr ?_; (case hd => rfl); (case hg => rfl); (case hr => first | (go_simp; done) | (go_simp; rfl)); intro gb244 hg w12 hbox hb; have n0_ := Aside0.mk (below_step (bX HB) hb); have n1_ := Aside0.mk (hbox); have n2_ := Aside0.mk ((by rw [hg]; exact (below_size (bX HB)) : w.heap.size ≤ gb244)); have n3_ := Aside0.mk ((by rw [hg]; exact (below_size (bX HB)) : w.heap.size ≤ gb244)); clear HB; have HB := n0_; have BK244 := n1_; have GW244 := n2_; have GE244 := n3_; clear n0_ n1_ n2_ n3_; clear hb hbox hg) | ((with_reducible refine gate_callee (f := 11) rfl ?_); refine goesL_ (some 19) rfl rfl Tryz.func11 (by kernel_rfl) rfl #[] rfl (by (try simp only [List.map_toArray, List.map_cons, List.map_nil]); first | done | rfl | (simp only [List.length_drop, List.length_take]; rfl)) ?_; (with_reducible refine (arbiterlaw08_awake.calls  true _ A5.out).mono ?_); rintro e w13 ⟨rfl, hb⟩; refine ⟨_, rfl, ?_⟩; have n0_ := Aside0.mk (blk_below (kX BK244) hb); have n1_ := Aside0.mk (below_step (bX1 HB GE244) hb); clear BK244; clear HB; have BK244 := n0_; have HB := n1_; clear n0_ n1_; (try clear hb); (try clear hb2); (try clear hk); (try clear hi)) | ((with_reducible refine gate_callee (f := 12) rfl ?_); refine goesL_ (some 22) rfl rfl Tryz.func12 (by kernel_rfl) rfl #[.slice A0 l0.length c0] rfl (by (try simp only [List.map_toArray, List.map_cons, List.map_nil]); first | done | rfl | (simp only [List.length_drop, List.length_take]; rfl)) ?_; (with_reducible refine (arbiterlaw08_built.calls _ _ l0 t246 _ ?side1 ?side2 A7.out).mono ?_); (case side1 => repeat (first | exact (Kd.C_below HR0.out HB.out) | (with_reducible refine Kd.C_alloc ?_ _) | (with_reducible refine Kd.C_drewN ?_ _) | (with_reducible refine Kd.C_drew ?_))); (case side2 => exact HC0.out); rintro e w14 ⟨G_t246, rfl, hqt246, hb⟩; refine ⟨_, rfl, ?_⟩; have n0_ := Aside0.mk (blk_below (kX BK244) hb); have n1_ := Aside0.mk (hqt246); have n2_ := Aside0.mk (below_step (bX1 HB GE244) hb); clear BK244; clear HB; have BK244 := n0_; have HQt246 := n1_; have HB := n2_; clear n0_ n1_ n2_; (try clear hb); (try clear hb2); (try clear hk); (try clear hi)) | ((with_reducible refine gate_callee (f := 13) rfl ?_); refine goesL_ (some 24) rfl rfl Tryz.func13 (by kernel_rfl) rfl #[.slice A0 l0.length c0] rfl (by (try simp only [List.map_toArray, List.map_cons, List.map_nil]); first | done | rfl | (simp only [List.length_drop, List.length_take]; rfl)) ?_; (with_reducible refine (arbiterref06_Of.calls _ _ l0 t247 _ ?side1 ?side2 A8.out).mono ?_); (case side1 => repeat (first | exact (Kd.C_below HR0.out HB.out) | (with_reducible refine Kd.C_alloc ?_ _) | (with_reducible refine Kd.C_drewN ?_ _) | (with_reducible refine Kd.C_drew ?_))); (case side2 => exact HC0.out); rintro e w15 ⟨G_t247, rfl, hqt247, hb⟩; refine ⟨_, rfl, ?_⟩; have n0_ := Aside0.mk (blk_below (kX BK244) hb); have n1_ := Aside0.mk (WOK.below (g := G_t246) (es := t246) (by repeat (first | (with_reducible exact HQt246.out) | (with_reducible refine WOK.alloc ?_ _) | (with_reducible refine WOK.drewN ?_ _) | (with_reducible refine WOK.drew ?_))) hb); have n2_ := Aside0.mk (hqt247); have n3_ := Aside0.mk (below_step (bX1 HB GE244) hb); clear BK244; clear HQt246; clear HB; have BK244 := n0_; have HQt246 := n1_; have HQt247 := n2_; have HB := n3_; clear n0_ n1_ n2_ n3_; (try clear hb); (try clear hb2); (try clear hk); (try clear hi)) | ((with_reducible refine gate_callee (f := 14) rfl ?_); refine goesL_ (some 28) rfl rfl Tryz.func14 (by kernel_rfl) rfl #[.pointer (some ⟨G_t246, 0, none⟩), .int .i64 a1] rfl (by (try simp only [List.map_toArray, List.map_cons, List.map_nil]); first | done | rfl | (simp only [List.length_drop, List.length_take]; rfl)) ?_; (with_reducible refine (access_Package.calls G_t246 t246 a1 t248 t249 t250 _ ?side1 A9.out).mono ?_); (case side1 => repeat (first | (with_reducible exact HQt246.out) | (with_reducible refine WOK.alloc ?_ _) | (with_reducible refine WOK.drewN ?_ _) | (with_reducible refine WOK.drew ?_))); rintro e w16 ⟨rfl, hb⟩; refine ⟨_, rfl, ?_⟩; have n0_ := Aside0.mk (blk_below (kX BK244) hb); have n1_ := Aside0.mk (WOK.below (g := G_t246) (es := t246) (by repeat (first | (with_reducible exact HQt246.out) | (with_reducible refine WOK.alloc ?_ _) | (with_reducible refine WOK.drewN ?_ _) | (with_reducible refine WOK.drew ?_))) hb); have n2_ := Aside0.mk (ROK.below (g := G_t247) (cs := t247) (by repeat (first | (with_reducible exact HQt247.out) | (with_reducible refine ROK.alloc ?_ _) | (with_reducible refine ROK.drewN ?_ _) | (with_reducible refine ROK.drew ?_))) hb); have n3_ := Aside0.mk (below_step (bX1 HB GE244) hb); clear BK244; clear HQt246; clear HQt247; clear HB; have BK244 := n0_; have HQt246 := n1_; have HQt247 := n2_; have HB := n3_; clear n0_ n1_ n2_ n3_; (try clear hb); (try clear hb2); (try clear hk); (try clear hi)) | ((with_reducible refine gate_callee (f := 15) rfl ?_); refine goesL_ (some 35) rfl rfl Tryz.func15 (by kernel_rfl) rfl #[.pointer (some ⟨G_t247, 0, none⟩), .int .i64 a1] rfl (by (try simp only [List.map_toArray, List.map_cons, List.map_nil]); first | done | rfl | (simp only [List.length_drop, List.length_take]; rfl)) ?_; (with_reducible refine (arbiterref08_Package.calls G_t247 t247 a1 t251 t252 t253 _ ?side1 A10.out).mono ?_); (case side1 => repeat (first | (with_reducible exact HQt247.out) | (with_reducible refine ROK.alloc ?_ _) | (with_reducible refine ROK.drewN ?_ _) | (with_reducible refine ROK.drew ?_))); rintro e w17 ⟨rfl, hb⟩; refine ⟨_, rfl, ?_⟩; have n0_ := Aside0.mk (blk_below (kX BK244) hb); have n1_ := Aside0.mk (WOK.below (g := G_t246) (es := t246) (by repeat (first | (with_reducible exact HQt246.out) | (with_reducible refine WOK.alloc ?_ _) | (with_reducible refine WOK.drewN ?_ _) | (with_reducible refine WOK.drew ?_))) hb); have n2_ := Aside0.mk (ROK.below (g := G_t247) (cs := t247) (by repeat (first | (with_reducible exact HQt247.out) | (with_reducible refine ROK.alloc ?_ _) | (with_reducible refine ROK.drewN ?_ _) | (with_reducible refine ROK.drew ?_))) hb); have n3_ := Aside0.mk (below_step (bX1 HB GE244) hb); clear BK244; clear HQt246; clear HQt247; clear HB; have BK244 := n0_; have HQt246 := n1_; have HQt247 := n2_; have HB := n3_; clear n0_ n1_ n2_ n3_; (try clear hb); (try clear hb2); (try clear hk); (try clear hi)))
  (try simp only [Act.put, List.setIfInBounds_toArray, List.set_cons_zero, List.set_cons_succ])
  go_cut [51] (fun v51 wc => ∃ (kq : Nat) (x51_10 : Bool), v51 = .bool x51_10 ∧ Aside0 (arbiterlaw08_AccessClasses.j0 kq a1 a2 t246 t247 x51_10 a3_0 a3_1 = some r) ∧ Aside0 (kq ≤ k) ∧ Aside0 (wc.heap[gb244]? = some (.cells #[.int .i64 a3_0, .string a3_1] 24 (0, 0))) ∧ Aside0 (WOK wc G_t246 t246) ∧ Aside0 (ROK wc G_t247 t247) ∧ Aside0 (Below w.heap.size w wc))
  case first =>
   have H := HC11.out; clear HC11
   by_cases c18 : t248 = t251
   ·rw [if_pos c18] at H
    have c18b0 : (t248 == t251) = true := beq_iff_eq.mpr c18; have c18b1 : (t248 != t251) = false := bne_eq_false_iff_eq.mpr c18; clear c18
    (first | rw [c18b0] | (simp only [i64_w, i32_w]; rw [c18b0]) | skip)
    by_cases c19 : t249.toList = t252.toList
    ·rw [if_pos c19] at H
     have c19b0 : (t249.toList == t252.toList) = true := beq_iff_eq.mpr c19; have c19b1 : (t249.toList != t252.toList) = false := bne_eq_false_iff_eq.mpr c19; clear c19; have H' := Aside0.mk H; clear H; go_wp2; go_meet
     case rel => exact ⟨_, ((t250 != t253)), (by first | rfl | (simp; done) | (simp [*]; done)), H', ⟨by first | omega | exact Nat.le_refl _⟩, ⟨by (with_reducible repeat (first | refine blk_drewN ?_ _ | refine blk_drew ?_ | refine blk_alloc ?_ _)); exact BK244.out⟩, ⟨by repeat (first | (with_reducible exact HQt246.out) | (with_reducible refine WOK.alloc ?_ _) | (with_reducible refine WOK.drewN ?_ _) | (with_reducible refine WOK.drew ?_))⟩, ⟨by repeat (first | (with_reducible exact HQt247.out) | (with_reducible refine ROK.alloc ?_ _) | (with_reducible refine ROK.drewN ?_ _) | (with_reducible refine ROK.drew ?_))⟩, ⟨bX1 HB GE244⟩⟩
    ·rw [if_neg c19] at H
     have c19b0 : (t249.toList == t252.toList) = false := beq_eq_false_iff_ne.mpr c19; have c19b1 : (t249.toList != t252.toList) = true := bne_iff_ne.mpr c19; have H' := Aside0.mk H; clear H; go_wp2; go_meet
     case rel => exact ⟨_, (true), (by first | rfl | (simp; done) | (simp [*]; done)), H', ⟨by first | omega | exact Nat.le_refl _⟩, ⟨by (with_reducible repeat (first | refine blk_drewN ?_ _ | refine blk_drew ?_ | refine blk_alloc ?_ _)); exact BK244.out⟩, ⟨by repeat (first | (with_reducible exact HQt246.out) | (with_reducible refine WOK.alloc ?_ _) | (with_reducible refine WOK.drewN ?_ _) | (with_reducible refine WOK.drew ?_))⟩, ⟨by repeat (first | (with_reducible exact HQt247.out) | (with_reducible refine ROK.alloc ?_ _) | (with_reducible refine ROK.drewN ?_ _) | (with_reducible refine ROK.drew ?_))⟩, ⟨bX1 HB GE244⟩⟩
   ·rw [if_neg c18] at H
    have c18b0 : (t248 == t251) = false := beq_eq_false_iff_ne.mpr c18; have c18b1 : (t248 != t251) = true := bne_iff_ne.mpr c18
    (first | rw [c18b0] | (simp only [i64_w, i32_w]; rw [c18b0]) | skip)
    have H' := Aside0.mk H; clear H; go_wp2; go_meet
    case rel => exact ⟨_, (true), (by first | rfl | (simp; done) | (simp [*]; done)), H', ⟨by first | omega | exact Nat.le_refl _⟩, ⟨by (with_reducible repeat (first | refine blk_drewN ?_ _ | refine blk_drew ?_ | refine blk_alloc ?_ _)); exact BK244.out⟩, ⟨by repeat (first | (with_reducible exact HQt246.out) | (with_reducible refine WOK.alloc ?_ _) | (with_reducible refine WOK.drewN ?_ _) | (with_reducible refine WOK.drew ?_))⟩, ⟨by repeat (first | (with_reducible exact HQt247.out) | (with_reducible refine ROK.alloc ?_ _) | (with_reducible refine ROK.drewN ?_ _) | (with_reducible refine ROK.drew ?_))⟩, ⟨bX1 HB GE244⟩⟩
  case rest =>
   clear HC11
   try clear c1
   try clear p2
   try clear c3
   try clear c6
   try clear c11
   try clear c12
   try clear c13
   try clear c14
   try clear c15
   try clear c18
   try clear c18b0
   try clear c18b1
   try clear c19
   try clear c19b0
   try clear c19b1
   obtain ⟨kq, x51_10, rfl, HA, HJ10, BK244, HQt246, HQt247, HB⟩ := hcut
   cases kq with
   | zero => exact absurd HA.out (by simp [arbiterlaw08_AccessClasses.j0])
   | succ kj10 =>
    have H := HA.out; clear HA; simp only [arbiterlaw08_AccessClasses.j0] at H
    by_cases c20 : x51_10 = true
    ·subst c20
     have H1 : (some false) = some r := by rw [if_pos rfl] at H; exact H
     clear H; have H := H1; clear H1; obtain rfl := Option.some.inj H; go_wp2; go_ret
     exact ⟨by first | rfl | (simp [errW_none, errW_some] <;> rfl) | (simp [*, errW_none, errW_some] <;> rfl), bX1 HB GE244⟩
    ·replace c20 := Bool.eq_false_iff.mpr c20
     subst c20
     have H1 : ((access_ClassOpen.f t246 a1 a2).bind fun bt254 => ((arbiterref08_ClassOpen.f kj10 t247 a1 a2).bind fun bt256 => (if (bt254.1 != bt256.1) = true then (arbiterlaw08_AccessClasses.j1 kj10 a1 t246 t247 true a3_0 a3_1) else (arbiterlaw08_AccessClasses.j1 kj10 a1 t246 t247 (bt254.2 != bt256.2) a3_0 a3_1)))) = some r := by rw [if_neg (show ¬ (false = true) by decide)] at H; exact H
     clear H; have H := H1; clear H1; replace H := Option.bind_eq_some_iff.mp H; obtain ⟨⟨t254, t255⟩, A210, H⟩ := H; replace H : ((arbiterref08_ClassOpen.f kj10 t247 a1 a2).bind fun bt256 => (if (t254 != bt256.1) = true then (arbiterlaw08_AccessClasses.j1 kj10 a1 t246 t247 true a3_0 a3_1) else (arbiterlaw08_AccessClasses.j1 kj10 a1 t246 t247 (t255 != bt256.2) a3_0 a3_1))) = some r := H; have A21 := Aside0.mk A210; clear A210; replace H := Option.bind_eq_some_iff.mp H; obtain ⟨⟨t256, t257⟩, A220, H⟩ := H; replace H : (if (t254 != t256) = true then (arbiterlaw08_AccessClasses.j1 kj10 a1 t246 t247 true a3_0 a3_1) else (arbiterlaw08_AccessClasses.j1 kj10 a1 t246 t247 (t255 != t257) a3_0 a3_1)) = some r := H; have A22 := Aside0.mk A220; clear A220; have HC23 := Aside0.mk H; clear H
     go_upto_region 11 with (first | ((with_reducible refine gate_callee (f := 16) rfl ?_); refine goesL_ (some 56) rfl rfl Tryz.func16 (by kernel_rfl) rfl #[.pointer (some ⟨G_t246, 0, none⟩), .int .i64 a1, .int .i64 a2] rfl (by (try simp only [List.map_toArray, List.map_cons, List.map_nil]); first | done | rfl | (simp only [List.length_drop, List.length_take]; rfl)) ?_; (with_reducible refine (access_ClassOpen.calls G_t246 t246 a1 a2 t254 t255 _ ?side1 A21.out).mono ?_); (case side1 => repeat (first | (with_reducible exact HQt246.out) | (with_reducible refine WOK.alloc ?_ _) | (with_reducible refine WOK.drewN ?_ _) | (with_reducible refine WOK.drew ?_))); rintro e w24 ⟨rfl, hb⟩; refine ⟨_, rfl, ?_⟩; have n0_ := Aside0.mk (blk_below (kX BK244) hb); have n1_ := Aside0.mk (WOK.below (g := G_t246) (es := t246) (by repeat (first | (with_reducible exact HQt246.out) | (with_reducible refine WOK.alloc ?_ _) | (with_reducible refine WOK.drewN ?_ _) | (with_reducible refine WOK.drew ?_))) hb); have n2_ := Aside0.mk (ROK.below (g := G_t247) (cs := t247) (by repeat (first | (with_reducible exact HQt247.out) | (with_reducible refine ROK.alloc ?_ _) | (with_reducible refine ROK.drewN ?_ _) | (with_reducible refine ROK.drew ?_))) hb); have n3_ := Aside0.mk (below_step (bX1 HB GE244) hb); clear BK244; clear HQt246; clear HQt247; clear HB; have BK244 := n0_; have HQt246 := n1_; have HQt247 := n2_; have HB := n3_; clear n0_ n1_ n2_ n3_; (try clear hb); (try clear hb2); (try clear hk); (try clear hi)) | ((with_reducible refine gate_callee (f := 17) rfl ?_); refine goesL_ (some 63) rfl rfl Tryz.func17 (by kernel_rfl) rfl #[.pointer (some ⟨G_t247, 0, none⟩), .int .i64 a1, .int .i64 a2] rfl (by (try simp only [List.map_toArray, List.map_cons, List.map_nil]); first | done | rfl | (simp only [List.length_drop, List.length_take]; rfl)) ?_; (with_reducible refine (arbiterref08_ClassOpen.calls kj10 G_t247 t247 a1 a2 t256 t257 _ ?side1 A22.out).mono ?_); (case side1 => repeat (first | (with_reducible exact HQt247.out) | (with_reducible refine ROK.alloc ?_ _) | (with_reducible refine ROK.drewN ?_ _) | (with_reducible refine ROK.drew ?_))); rintro e w25 ⟨rfl, hb⟩; refine ⟨_, rfl, ?_⟩; have n0_ := Aside0.mk (blk_below (kX BK244) hb); have n1_ := Aside0.mk (WOK.below (g := G_t246) (es := t246) (by repeat (first | (with_reducible exact HQt246.out) | (with_reducible refine WOK.alloc ?_ _) | (with_reducible refine WOK.drewN ?_ _) | (with_reducible refine WOK.drew ?_))) hb); have n2_ := Aside0.mk (ROK.below (g := G_t247) (cs := t247) (by repeat (first | (with_reducible exact HQt247.out) | (with_reducible refine ROK.alloc ?_ _) | (with_reducible refine ROK.drewN ?_ _) | (with_reducible refine ROK.drew ?_))) hb); have n3_ := Aside0.mk (below_step (bX1 HB GE244) hb); clear BK244; clear HQt246; clear HQt247; clear HB; have BK244 := n0_; have HQt246 := n1_; have HQt247 := n2_; have HB := n3_; clear n0_ n1_ n2_ n3_; (try clear hb); (try clear hb2); (try clear hk); (try clear hi)))
     (try simp only [Act.put, List.setIfInBounds_toArray, List.set_cons_zero, List.set_cons_succ])
     go_cut [73] (fun v73 wc => ∃ (kq : Nat) (x73_22 : Bool), v73 = .bool x73_22 ∧ Aside0 (arbiterlaw08_AccessClasses.j1 kq a1 t246 t247 x73_22 a3_0 a3_1 = some r) ∧ Aside0 (kq ≤ kj10) ∧ Aside0 (wc.heap[gb244]? = some (.cells #[.int .i64 a3_0, .string a3_1] 24 (0, 0))) ∧ Aside0 (WOK wc G_t246 t246) ∧ Aside0 (ROK wc G_t247 t247) ∧ Aside0 (Below w.heap.size w wc))
     case first =>
      have H := HC23.out; clear HC23
      by_cases c26 : (t254 != t256) = true
      ·rw [if_pos c26] at H
       have c26b0 : (t254 != t256) = true := c26
       (try (have c26b1 : decide (t254 = t256) = false := by simpa using c26))
       (try (have c26b2 : (t254 == t256) = false := by simpa using c26))
       (try (have c26b3 : ¬ (t254 = t256) := by simpa using c26))
       clear c26
       (first | rw [c26b0] | (simp only [i64_w, i32_w]; rw [c26b0]) | skip)
       have H' := Aside0.mk H; clear H; go_wp2; go_meet
       case rel => exact ⟨_, (true), (by first | rfl | (simp; done) | (simp [*]; done)), H', ⟨by have := HJ10.out; first | omega | exact Nat.le_refl _⟩, ⟨by (with_reducible repeat (first | refine blk_drewN ?_ _ | refine blk_drew ?_ | refine blk_alloc ?_ _)); exact BK244.out⟩, ⟨by repeat (first | (with_reducible exact HQt246.out) | (with_reducible refine WOK.alloc ?_ _) | (with_reducible refine WOK.drewN ?_ _) | (with_reducible refine WOK.drew ?_))⟩, ⟨by repeat (first | (with_reducible exact HQt247.out) | (with_reducible refine ROK.alloc ?_ _) | (with_reducible refine ROK.drewN ?_ _) | (with_reducible refine ROK.drew ?_))⟩, ⟨bX1 HB GE244⟩⟩
      ·rw [if_neg c26] at H
       have c26b0 : (t254 != t256) = false := by simpa using c26
       (try (have c26b1 : decide (t254 = t256) = true := by simpa using c26))
       (try (have c26b2 : (t254 == t256) = true := by simpa using c26))
       clear c26
       (first | rw [c26b0] | (simp only [i64_w, i32_w]; rw [c26b0]) | skip)
       have H' := Aside0.mk H; clear H; go_wp2; go_meet
       case rel => exact ⟨_, ((t255 != t257)), (by first | rfl | (simp; done) | (simp [*]; done)), H', ⟨by have := HJ10.out; first | omega | exact Nat.le_refl _⟩, ⟨by (with_reducible repeat (first | refine blk_drewN ?_ _ | refine blk_drew ?_ | refine blk_alloc ?_ _)); exact BK244.out⟩, ⟨by repeat (first | (with_reducible exact HQt246.out) | (with_reducible refine WOK.alloc ?_ _) | (with_reducible refine WOK.drewN ?_ _) | (with_reducible refine WOK.drew ?_))⟩, ⟨by repeat (first | (with_reducible exact HQt247.out) | (with_reducible refine ROK.alloc ?_ _) | (with_reducible refine ROK.drewN ?_ _) | (with_reducible refine ROK.drew ?_))⟩, ⟨bX1 HB GE244⟩⟩
     case rest =>
      clear HC23
      try clear c1
      try clear c2
      try clear p2
      try clear c3
      try clear c6
      try clear c11
      try clear c12
      try clear c13
      try clear c14
      try clear c15
      try clear c16
      try clear c17
      try clear c18
      try clear c18b0
      try clear c18b1
      try clear c19
      try clear c19b0
      try clear c19b1
      try clear c20
      try clear c26
      try clear c26b0
      try clear c26b1
      try clear c26b2
      try clear p2
      obtain ⟨kq, x73_22, rfl, HA, HJ22, BK244, HQt246, HQt247, HB⟩ := hcut
      cases kq with
      | zero => exact absurd HA.out (by simp [arbiterlaw08_AccessClasses.j1])
      | succ kj22 =>
       have H := HA.out; clear HA; simp only [arbiterlaw08_AccessClasses.j1] at H
       by_cases c27 : x73_22 = true
       ·subst c27
        have H1 : (some false) = some r := by rw [if_pos rfl] at H; exact H
        clear H; have H := H1; clear H1; obtain rfl := Option.some.inj H; go_wp2; go_ret
        exact ⟨by first | rfl | (simp [errW_none, errW_some] <;> rfl) | (simp [*, errW_none, errW_some] <;> rfl), bX1 HB GE244⟩
       ·replace c27 := Bool.eq_false_iff.mpr c27
        subst c27
        have H1 : ((access_TypeOpen.f t246 a1 a3_0 a3_1).bind fun bt258 => ((arbiterref08_TypeOpen.f kj22 t247 a1 a3_0 a3_1).bind fun bt260 => (if (bt258.1 == bt260.1) = true then (some (bt258.2 == bt260.2)) else (some false)))) = some r := by rw [if_neg (show ¬ (false = true) by decide)] at H; exact H
        clear H; have H := H1; clear H1; replace H := Option.bind_eq_some_iff.mp H; obtain ⟨⟨t258, t259⟩, A280, H⟩ := H; replace H : ((arbiterref08_TypeOpen.f kj22 t247 a1 a3_0 a3_1).bind fun bt260 => (if (t258 == bt260.1) = true then (some (t259 == bt260.2)) else (some false))) = some r := H; have A28 := Aside0.mk A280; clear A280; replace H := Option.bind_eq_some_iff.mp H; obtain ⟨⟨t260, t261⟩, A290, H⟩ := H; replace H : (if (t258 == t260) = true then (some (t259 == t261)) else (some false)) = some r := H; have A29 := Aside0.mk A290; clear A290
        by_cases c30 : (t258 == t260) = true
        ·rw [if_pos c30] at H
         have c30b0 : (t258 == t260) = true := c30
         (try (have c30b1 : decide (t258 = t260) = true := by simpa using c30))
         (try (have c30b2 : (t258 == t260) = true := by simpa using c30))
         clear c30; obtain rfl := Option.some.inj H; obtain ⟨hcz31_0, hcz31_1, hfz31_0, hfz31_1⟩ := c2X BK244; go_wp2_with (first | ((with_reducible refine gate_callee (f := 18) rfl ?_); refine goesL_ (some 78) rfl rfl Tryz.func18 (by kernel_rfl) rfl #[.pointer (some ⟨G_t246, 0, none⟩), .int .i64 a1, .agg #[.int .i64 a3_0, .string a3_1]] rfl (by (try simp only [List.map_toArray, List.map_cons, List.map_nil]); first | done | rfl | (simp only [List.length_drop, List.length_take]; rfl)) ?_; (with_reducible refine (access_TypeOpen.calls G_t246 t246 a1 a3_0 a3_1 t258 t259 _ ?side1 A28.out).mono ?_); (case side1 => repeat (first | (with_reducible exact HQt246.out) | (with_reducible refine WOK.alloc ?_ _) | (with_reducible refine WOK.drewN ?_ _) | (with_reducible refine WOK.drew ?_))); rintro e w32 ⟨rfl, hb⟩; refine ⟨_, rfl, ?_⟩; have n0_ := Aside0.mk (blk_below (kX BK244) hb); have n1_ := Aside0.mk (WOK.below (g := G_t246) (es := t246) (by repeat (first | (with_reducible exact HQt246.out) | (with_reducible refine WOK.alloc ?_ _) | (with_reducible refine WOK.drewN ?_ _) | (with_reducible refine WOK.drew ?_))) hb); have n2_ := Aside0.mk (ROK.below (g := G_t247) (cs := t247) (by repeat (first | (with_reducible exact HQt247.out) | (with_reducible refine ROK.alloc ?_ _) | (with_reducible refine ROK.drewN ?_ _) | (with_reducible refine ROK.drew ?_))) hb); have n3_ := Aside0.mk (below_step (bX1 HB GE244) hb); clear BK244; clear HQt246; clear HQt247; clear HB; have BK244 := n0_; have HQt246 := n1_; have HQt247 := n2_; have HB := n3_; clear n0_ n1_ n2_ n3_; (try clear hb); (try clear hb2); (try clear hk); (try clear hi); have hcz33_0 : w32.cell? ⟨gb244, 0, none⟩ = some (.int .i64 a3_0) := (blk_cell BK244.out 0).trans rfl; have hcz33_1 : w32.cell? ⟨gb244, 1, none⟩ = some (.string a3_1) := (blk_cell BK244.out 1).trans rfl; have hfz33_0 := blk_frozen BK244.out 0; have hfz33_1 := blk_frozen BK244.out 1) | ((with_reducible refine gate_callee (f := 19) rfl ?_); refine goesL_ (some 85) rfl rfl Tryz.func19 (by kernel_rfl) rfl #[.pointer (some ⟨G_t247, 0, none⟩), .int .i64 a1, .agg #[.int .i64 a3_0, .string a3_1]] rfl (by (try simp only [List.map_toArray, List.map_cons, List.map_nil]); first | done | rfl | (simp only [List.length_drop, List.length_take]; rfl)) ?_; (with_reducible refine (arbiterref08_TypeOpen.calls kj22 G_t247 t247 a1 a3_0 a3_1 t260 t261 _ ?side1 A29.out).mono ?_); (case side1 => repeat (first | (with_reducible exact HQt247.out) | (with_reducible refine ROK.alloc ?_ _) | (with_reducible refine ROK.drewN ?_ _) | (with_reducible refine ROK.drew ?_))); rintro e w34 ⟨rfl, hb⟩; refine ⟨_, rfl, ?_⟩; have n0_ := Aside0.mk (blk_below (kX BK244) hb); have n1_ := Aside0.mk (WOK.below (g := G_t246) (es := t246) (by repeat (first | (with_reducible exact HQt246.out) | (with_reducible refine WOK.alloc ?_ _) | (with_reducible refine WOK.drewN ?_ _) | (with_reducible refine WOK.drew ?_))) hb); have n2_ := Aside0.mk (ROK.below (g := G_t247) (cs := t247) (by repeat (first | (with_reducible exact HQt247.out) | (with_reducible refine ROK.alloc ?_ _) | (with_reducible refine ROK.drewN ?_ _) | (with_reducible refine ROK.drew ?_))) hb); have n3_ := Aside0.mk (below_step (bX1 HB GE244) hb); clear BK244; clear HQt246; clear HQt247; clear HB; have BK244 := n0_; have HQt246 := n1_; have HQt247 := n2_; have HB := n3_; clear n0_ n1_ n2_ n3_; (try clear hb); (try clear hb2); (try clear hk); (try clear hi))); go_ret
         exact ⟨by first | rfl | (simp [errW_none, errW_some] <;> rfl) | (simp [*, errW_none, errW_some] <;> rfl), bX1 HB GE244⟩
        ·rw [if_neg c30] at H
         have c30b0 : (t258 == t260) = false := by simpa using c30
         (try (have c30b1 : decide (t258 = t260) = false := by simpa using c30))
         (try (have c30b2 : (t258 == t260) = false := by simpa using c30))
         (try (have c30b3 : ¬ (t258 = t260) := by simpa using c30))
         clear c30; obtain rfl := Option.some.inj H; obtain ⟨hcz35_0, hcz35_1, hfz35_0, hfz35_1⟩ := c2X BK244; go_wp2_with (first | ((with_reducible refine gate_callee (f := 18) rfl ?_); refine goesL_ (some 78) rfl rfl Tryz.func18 (by kernel_rfl) rfl #[.pointer (some ⟨G_t246, 0, none⟩), .int .i64 a1, .agg #[.int .i64 a3_0, .string a3_1]] rfl (by (try simp only [List.map_toArray, List.map_cons, List.map_nil]); first | done | rfl | (simp only [List.length_drop, List.length_take]; rfl)) ?_; (with_reducible refine (access_TypeOpen.calls G_t246 t246 a1 a3_0 a3_1 t258 t259 _ ?side1 A28.out).mono ?_); (case side1 => repeat (first | (with_reducible exact HQt246.out) | (with_reducible refine WOK.alloc ?_ _) | (with_reducible refine WOK.drewN ?_ _) | (with_reducible refine WOK.drew ?_))); rintro e w36 ⟨rfl, hb⟩; refine ⟨_, rfl, ?_⟩; have n0_ := Aside0.mk (blk_below (kX BK244) hb); have n1_ := Aside0.mk (WOK.below (g := G_t246) (es := t246) (by repeat (first | (with_reducible exact HQt246.out) | (with_reducible refine WOK.alloc ?_ _) | (with_reducible refine WOK.drewN ?_ _) | (with_reducible refine WOK.drew ?_))) hb); have n2_ := Aside0.mk (ROK.below (g := G_t247) (cs := t247) (by repeat (first | (with_reducible exact HQt247.out) | (with_reducible refine ROK.alloc ?_ _) | (with_reducible refine ROK.drewN ?_ _) | (with_reducible refine ROK.drew ?_))) hb); have n3_ := Aside0.mk (below_step (bX1 HB GE244) hb); clear BK244; clear HQt246; clear HQt247; clear HB; have BK244 := n0_; have HQt246 := n1_; have HQt247 := n2_; have HB := n3_; clear n0_ n1_ n2_ n3_; (try clear hb); (try clear hb2); (try clear hk); (try clear hi); have hcz37_0 : w36.cell? ⟨gb244, 0, none⟩ = some (.int .i64 a3_0) := (blk_cell BK244.out 0).trans rfl; have hcz37_1 : w36.cell? ⟨gb244, 1, none⟩ = some (.string a3_1) := (blk_cell BK244.out 1).trans rfl; have hfz37_0 := blk_frozen BK244.out 0; have hfz37_1 := blk_frozen BK244.out 1) | ((with_reducible refine gate_callee (f := 19) rfl ?_); refine goesL_ (some 85) rfl rfl Tryz.func19 (by kernel_rfl) rfl #[.pointer (some ⟨G_t247, 0, none⟩), .int .i64 a1, .agg #[.int .i64 a3_0, .string a3_1]] rfl (by (try simp only [List.map_toArray, List.map_cons, List.map_nil]); first | done | rfl | (simp only [List.length_drop, List.length_take]; rfl)) ?_; (with_reducible refine (arbiterref08_TypeOpen.calls kj22 G_t247 t247 a1 a3_0 a3_1 t260 t261 _ ?side1 A29.out).mono ?_); (case side1 => repeat (first | (with_reducible exact HQt247.out) | (with_reducible refine ROK.alloc ?_ _) | (with_reducible refine ROK.drewN ?_ _) | (with_reducible refine ROK.drew ?_))); rintro e w38 ⟨rfl, hb⟩; refine ⟨_, rfl, ?_⟩; have n0_ := Aside0.mk (blk_below (kX BK244) hb); have n1_ := Aside0.mk (WOK.below (g := G_t246) (es := t246) (by repeat (first | (with_reducible exact HQt246.out) | (with_reducible refine WOK.alloc ?_ _) | (with_reducible refine WOK.drewN ?_ _) | (with_reducible refine WOK.drew ?_))) hb); have n2_ := Aside0.mk (ROK.below (g := G_t247) (cs := t247) (by repeat (first | (with_reducible exact HQt247.out) | (with_reducible refine ROK.alloc ?_ _) | (with_reducible refine ROK.drewN ?_ _) | (with_reducible refine ROK.drew ?_))) hb); have n3_ := Aside0.mk (below_step (bX1 HB GE244) hb); clear BK244; clear HQt246; clear HQt247; clear HB; have BK244 := n0_; have HQt246 := n1_; have HQt247 := n2_; have HB := n3_; clear n0_ n1_ n2_ n3_; (try clear hb); (try clear hb2); (try clear hk); (try clear hi))); go_ret
         exact ⟨by first | rfl | (simp [errW_none, errW_some] <;> rfl) | (simp [*, errW_none, errW_some] <;> rfl), bX1 HB GE244⟩
 ·replace c6 := Bool.eq_false_iff.mpr c6
  subst c6
  have H1 : (some false) = some r := by rw [if_neg (show ¬ (false = true) by decide)] at H; exact H
  clear H; have H := H1; clear H1; obtain rfl := Option.some.inj H; go_enter Tryz.func3, Tryz.ntmps3; go_wp2_with (first | ((with_reducible refine gate_dst (N := 7) rfl ?_); refine box_event ?hg (N := 7) ?hd (cs := #[.int .i64 a3_0, .string a3_1]) (t := 24) ?hr ?_; (case hd => rfl); (case hg => rfl); (case hr => first | (go_simp; done) | (go_simp; rfl)); intro gb244 hg w39 hbox hb; have n0_ := Aside0.mk (below_step (bX HB) hb); have n1_ := Aside0.mk (hbox); have n2_ := Aside0.mk ((by rw [hg]; exact (below_size (bX HB)) : w.heap.size ≤ gb244)); have n3_ := Aside0.mk ((by rw [hg]; exact (below_size (bX HB)) : w.heap.size ≤ gb244)); clear HB; have HB := n0_; have BK244 := n1_; have GW244 := n2_; have GE244 := n3_; clear n0_ n1_ n2_ n3_; clear hb hbox hg) | ((with_reducible refine gate_callee (f := 11) rfl ?_); refine goesL_ (some 19) rfl rfl Tryz.func11 (by kernel_rfl) rfl #[] rfl (by (try simp only [List.map_toArray, List.map_cons, List.map_nil]); first | done | rfl | (simp only [List.length_drop, List.length_take]; rfl)) ?_; (with_reducible refine (arbiterlaw08_awake.calls  false _ A5.out).mono ?_); rintro e w40 ⟨rfl, hb⟩; refine ⟨_, rfl, ?_⟩; have n0_ := Aside0.mk (blk_below (kX BK244) hb); have n1_ := Aside0.mk (below_step (bX1 HB GE244) hb); clear BK244; clear HB; have BK244 := n0_; have HB := n1_; clear n0_ n1_; (try clear hb); (try clear hb2); (try clear hk); (try clear hi))); go_ret
  exact ⟨by first | rfl | (simp [errW_none, errW_some] <;> rfl) | (simp [*, errW_none, errW_some] <;> rfl), bX1 HB GE244⟩
end Go.Proofs.YtaipkdglhfhhiaaGreatDoor.Pt

namespace Go.Proofs.YtaipkdglhfhhiaaGreatDoor.Pt
open Go Go.RowKit Go.Proofs.YtaipkdglhfhhiaaGreatDoor.Nm Go.Proofs.YtaipkdglhfhhiaaGreatDoor.Ty Go.Proofs.YtaipkdglhfhhiaaGreatDoor.Hi Go.Proofs.YtaipkdglhfhhiaaGreatDoorW.PrintWords Go.Proofs.YtaipkdglhfhhiaaGreatDoorW.PrintLast Go.Proofs.YtaipkdglhfhhiaaGreatDoorW.PrintMore
set_option linter.unusedVariables false
set_option linter.unusedSimpArgs false
set_option maxRecDepth 100000
theorem acls_pure (l : List S85) (hl : l.all goodC = true) (d c : Int) (a : Int) (s : ByteArray) : arbiterlaw08_AccessClasses.f 20000 l d c a s = some true := by
 have hT := thy_made (made_built l); have hn := len_made (made_built l); unfold arbiterlaw08_AccessClasses.f; rw [show arbiterlaw08_awake.f = some true from rfl, Option.bind_some, if_pos rfl, show arbiterlaw08_built.f l = some (builtF l) from rfl, Option.bind_some]; unfold arbiterref06_Of.f; rw [if_pos hl, Option.bind_some]; generalize builtF l = es at *; rw [show access_Package.f es d = some ((homeF es d).1, (homeF es d).2.1, (homeF es d).2.2.2) from rfl, Option.bind_some, rpkg_ok hT, Option.bind_some, if_pos rfl, if_pos rfl, bne_self_eq_false]; rw [arbiterlaw08_AccessClasses.j0, if_neg (by decide), show access_ClassOpen.f es d c = some (copenF es d c) from rfl, Option.bind_some, rcopen_ok hT d c _ (by omega), Option.bind_some, bne_self_eq_false, if_neg (by decide), bne_self_eq_false]; rw [arbiterlaw08_AccessClasses.j1, if_neg (by decide), show access_TypeOpen.f es d a s = some (topenF es d a s) from rfl, Option.bind_some, rtopen_ok hT (by omega) d a s _ (by omega), Option.bind_some, beq_self_eq_true, if_pos rfl, beq_self_eq_true]
theorem acls_any {W : World} {A : Option Addr} {n : Nat} {l : List S85} (hk : Kd.C k85 W A l.length l) (hc : l.length ≤ n) (hg : l.all goodC = true) (d c : Int) (a : Int) (s : ByteArray) :
  Calls Tryz.prog 3 #[.slice A l.length n, .int .i64 d, .int .i64 c, .agg #[.int .i64 a, .string s]] W fun e W' => e = .returned (.bool true) ∧ Below W.heap.size W W' :=
 arbiterlaw08_AccessClasses.calls 20000 _ _ l d c a s true W hk hc (acls_pure l hg d c a s)
end Go.Proofs.YtaipkdglhfhhiaaGreatDoor.Pt

namespace Go.Proofs.YtaipkdglhfhhiaaGreatDoor.RowC
open Go Go.RowKit Go.WideShapes Go.Deep Go.Proofs.YtaipkdglhfhhiaaGreatDoorW.PrintWords Go.Proofs.YtaipkdglhfhhiaaGreatDoorW.PrintLast Go.Proofs.YtaipkdglhfhhiaaGreatDoorW.PrintMore Go.Proofs.YtaipkdglhfhhiaaGreatDoor.Pt
set_option linter.unusedVariables false
set_option linter.unusedSimpArgs false
set_option maxRecDepth 100000
variable {H : Type} {enc : TypeId × Value → H} {w : World}
def Opens {H : Type} (enc : TypeId × Value → H) (w : World) (t : TypeId) {α : Type} (d : Kd α) : Prop :=
 ∀ (fuel : Nat) (cs : List Value) (x : DataW H × List MemPlace), DataW.trod enc Tryz.prog w 0 (fun _ => true) true fuel t cs = some x → ∃ a : α, d.K w a cs
theorem opens_int : Opens enc w 3 (Kd.int .i64) := fun fuel cs x h => by
 obtain ⟨n, rfl, _⟩ := DataW.trod_int Tryz.underlying3 h
 exact ⟨n, rfl⟩
theorem opens_bool : Opens enc w 4 Kd.bool := fun fuel cs x h => by
 obtain ⟨n, rfl, _⟩ := DataW.trod_bool Tryz.underlying4 h
 exact ⟨n, rfl⟩
theorem opens_string : Opens enc w 9 Kd.string := fun fuel cs x h => by
 obtain ⟨n, rfl, _⟩ := DataW.trod_string Tryz.underlying9 h
 exact ⟨n, rfl⟩
theorem opens_slice {α : Type} {d : Kd α} {t e : TypeId} (tag : Nat) (ht : Tryz.prog.underlying t = some (.slice e)) (he : Tryz.prog.cellsOf e = d.sz) (ho : Opens enc w e d) : Opens enc w t (Kd.slice tag d) := fun fuel cs x h => by
 rcases open_slice ht h with ⟨rfl, _⟩ | ⟨a, len, cap, m, n, D, Pl, rfl, _, hl, hm, hmm, _, hx⟩
 ·exact ⟨[], none, 0, rfl, Nat.le_refl _, Kd.C_nil _ _⟩
 ·have hmm : m = cap := by simpa using hmm
  have hel : ∀ i : Fin len, ∃ p : α, ∃ c : List Value, c.length = d.sz ∧ d.K w p c ∧ ∀ j u, c[j]? = some u → w.cell? (a.add (i.val * d.sz + j)) = some u := by
   intro i; obtain ⟨cs', h1, h2⟩ := hx i.val (by omega); obtain ⟨p, hp⟩ := ho _ _ _ h2; obtain ⟨_, h3, h4⟩ := World.cells?_some h1; rw [he] at h3 h4; refine ⟨p, cs', h3, hp, fun j u hj => ?_⟩
   have hjl : j < d.sz := by
    rcases Nat.lt_or_ge j d.sz with h | h
    ·exact h
    ·rw [List.getElem?_eq_none (by omega)] at hj; cases hj
   have h5 := h4 j hjl; rw [hj] at h5; rw [← h5]; rw [Addr.add_add]
  let f : Fin len → α := fun i => Classical.choose (hel i)
  have hf : ∀ i : Fin len, ∃ c : List Value, c.length = d.sz ∧ d.K w (f i) c ∧ ∀ j u, c[j]? = some u → w.cell? (a.add (i.val * d.sz + j)) = some u := fun i => Classical.choose_spec (hel i); have hlen : (List.ofFn f).length = len := List.length_ofFn; refine ⟨List.ofFn f, some a, cap, by rw [hlen], by omega, ?_⟩; rw [hlen]; refine ⟨hlen, by unfold maxLen at hm; omega, fun h0 => ⟨a, rfl, fun j p hj => ?_⟩⟩
  have hjl : j < len := by
   rcases Nat.lt_or_ge j len with h | h
   ·exact h
   ·rw [List.getElem?_eq_none (by omega)] at hj; cases hj
  rw [List.getElem?_eq_getElem (by omega), List.getElem_ofFn] at hj; obtain rfl := Option.some.inj hj
  exact hf ⟨j, hjl⟩
theorem cut (cs : List Value) (o n : Nat) : cs.drop o = (cs.drop o).take n ++ cs.drop (o + n) := by
 rw [← List.drop_drop, List.take_append_drop]
theorem field {n : Nat} {fs : Array Field} {cs : List Value} {xs : List (DataW H × List MemPlace)} (hlen : xs.length = fs.size)
  (hf : ∀ (i : Nat) (f : Field), fs[i]? = some f → DataW.trod enc Tryz.prog w 0 (fun _ => true) true n f.type ((cs.drop f.offset).take (Tryz.prog.cellsOf f.type)) = xs[i]?) {α : Type} {d : Kd α} (i : Nat) (f : Field) (hi : fs[i]? = some f) (ho : Opens enc w f.type d) (k : Nat) (hk : Tryz.prog.cellsOf f.type = k) :
  ∃ a : α, d.K w a ((cs.drop f.offset).take k) := by
 have hl : i < fs.size := by
  rcases Nat.lt_or_ge i fs.size with h | h
  ·exact h
  ·rw [Array.getElem?_eq_none h] at hi; cases hi
 have h := hf i f hi; rw [hk, List.getElem?_eq_getElem (by omega)] at h
 exact ho _ _ _ h
theorem opens_Ref : Opens enc w 141 k141 := fun fuel cs x h => by
 obtain ⟨xs, n, _, _, hl, hlen, hf⟩ := DataW.trod_struct Tryz.underlying141 h; rw [show Tryz.prog.cellsOf 141 = 4 by kernel_rfl] at hl; obtain ⟨a0, e0⟩ := field hlen hf 0 _ rfl opens_bool 1 (by kernel_rfl); obtain ⟨a1, e1⟩ := field hlen hf 1 _ rfl opens_string 1 (by kernel_rfl); obtain ⟨a2, e2⟩ := field hlen hf 2 _ rfl opens_string 1 (by kernel_rfl); obtain ⟨a3, e3⟩ := field hlen hf 3 _ rfl opens_string 1 (by kernel_rfl); refine ⟨⟨a0, a1, a2, a3⟩, _, _, cut cs 0 1, e0, _, _, cut cs 1 1, e1, _, _, cut cs 2 1, e2, ?_⟩; rw [List.take_of_length_le (by simp; omega)] at e3
 exact e3
theorem opens_Inst : Opens enc w 143 k143 := fun fuel cs x h => by
 obtain ⟨xs, n, _, _, hl, hlen, hf⟩ := DataW.trod_struct Tryz.underlying143 h; rw [show Tryz.prog.cellsOf 143 = 7 by kernel_rfl] at hl; obtain ⟨a0, e0⟩ := field hlen hf 0 _ rfl opens_int 1 (by kernel_rfl); obtain ⟨a1, e1⟩ := field hlen hf 1 _ rfl opens_int 1 (by kernel_rfl); obtain ⟨a2, e2⟩ := field hlen hf 2 _ rfl opens_string 1 (by kernel_rfl); obtain ⟨a3, e3⟩ := field hlen hf 3 _ rfl opens_Ref 4 (by kernel_rfl); refine ⟨⟨a0, a1, a2, a3⟩, _, _, cut cs 0 1, e0, _, _, cut cs 1 1, e1, _, _, cut cs 2 1, e2, ?_⟩; rw [List.take_of_length_le (by simp; omega)] at e3
 exact e3
theorem opens_Method : Opens enc w 105 k105 := fun fuel cs x h => by
 obtain ⟨xs, n, _, _, hl, hlen, hf⟩ := DataW.trod_struct Tryz.underlying105 h; rw [show Tryz.prog.cellsOf 105 = 6 by kernel_rfl] at hl; obtain ⟨a0, e0⟩ := field hlen hf 0 _ rfl opens_string 1 (by kernel_rfl); obtain ⟨a1, e1⟩ := field hlen hf 1 _ rfl opens_string 1 (by kernel_rfl); obtain ⟨a2, e2⟩ := field hlen hf 2 _ rfl opens_int 1 (by kernel_rfl); obtain ⟨a3, e3⟩ := field hlen hf 3 _ rfl opens_int 1 (by kernel_rfl); obtain ⟨a4, e4⟩ := field hlen hf 4 _ rfl opens_int 1 (by kernel_rfl); obtain ⟨a5, e5⟩ := field hlen hf 5 _ rfl (opens_slice 143 Tryz.underlying103 (by kernel_rfl) opens_Inst) 1 (by kernel_rfl); refine ⟨⟨a0, a1, a2, a3, a4, a5⟩, _, _, cut cs 0 1, e0, _, _, cut cs 1 1, e1, _, _, cut cs 2 1, e2, _, _, cut cs 3 1, e3, _, _, cut cs 4 1, e4, ?_⟩; rw [List.take_of_length_le (by simp; omega)] at e5
 exact e5
theorem opens_Class : Opens enc w 85 k85 := fun fuel cs x h => by
 obtain ⟨xs, n, _, _, hl, hlen, hf⟩ := DataW.trod_struct Tryz.underlying85 h; rw [show Tryz.prog.cellsOf 85 = 6 by kernel_rfl] at hl; obtain ⟨a0, e0⟩ := field hlen hf 0 _ rfl opens_string 1 (by kernel_rfl); obtain ⟨a1, e1⟩ := field hlen hf 1 _ rfl opens_string 1 (by kernel_rfl); obtain ⟨a2, e2⟩ := field hlen hf 2 _ rfl (opens_slice 9 Tryz.underlying82 (by kernel_rfl) opens_string) 1 (by kernel_rfl); obtain ⟨a3, e3⟩ := field hlen hf 3 _ rfl opens_int 1 (by kernel_rfl); obtain ⟨a4, e4⟩ := field hlen hf 4 _ rfl opens_int 1 (by kernel_rfl); obtain ⟨a5, e5⟩ := field hlen hf 5 _ rfl (opens_slice 105 Tryz.underlying83 (by kernel_rfl) opens_Method) 1 (by kernel_rfl); refine ⟨⟨a0, a1, a2, a3, a4, a5⟩, _, _, cut cs 0 1, e0, _, _, cut cs 1 1, e1, _, _, cut cs 2 1, e2, _, _, cut cs 3 1, e3, _, _, cut cs 4 1, e4, ?_⟩; rw [List.take_of_length_le (by simp; omega)] at e5
 exact e5
theorem open_list {base : Nat} {R : Reach} {v : Value} {d : DataW H} {p : List MemPlace} (hv : Value.okWide Tryz.prog w R base 22 v) (h : DataW.Trod enc Tryz.prog w 0 (fun _ => true) true 22 v d p) :
  ∃ (A : Option Addr) (c : Nat) (l : List S85), v = .slice A l.length c ∧ l.length ≤ c ∧ Kd.C k85 w A l.length l := by
 obtain ⟨a, len, cap, rfl⟩ := okWide_slice Tryz.underlying22 hv; obtain ⟨fuel, hf⟩ := h; obtain ⟨l, A, c, e, hc, hk⟩ := opens_slice 85 Tryz.underlying22 (by kernel_rfl) opens_Class _ _ _ hf; have e : [Value.slice a len cap] = [.slice A l.length c] := e
 obtain ⟨rfl, rfl, rfl⟩ : a = A ∧ len = l.length ∧ cap = c := by simpa using e
 exact ⟨_, _, l, rfl, hc, hk⟩
end Go.Proofs.YtaipkdglhfhhiaaGreatDoor.RowC

namespace Go.Proofs.YtaipkdglhfhhiaaGreatDoor.RowR
open Go Go.RowKit Go.WideShapes Go.Deep Go.Proofs.YtaipkdglhfhhiaaGreatDoorW.PrintWords Go.Proofs.YtaipkdglhfhhiaaGreatDoorW.PrintLast Go.Proofs.YtaipkdglhfhhiaaGreatDoorW.PrintMore Go.Proofs.YtaipkdglhfhhiaaGreatDoor.Pt Go.Proofs.YtaipkdglhfhhiaaGreatDoor.RowC
set_option linter.unusedVariables false
set_option linter.unusedSimpArgs false
set_option maxRecDepth 100000
variable {H : Type} {enc : TypeId × Value → H} {w : World}
theorem inRB_wf {f : Int} (h : (Lit.int .i64 f).wf = true) : inRB f = true := by
 have this : IntKind.i64.min ≤ f ∧ f ≤ 9223372036854775807 := by simpa [Lit.wf] using h
 replace this : -9223372036854775808 ≤ f ∧ f ≤ 9223372036854775807 := this; unfold inRB; rw [decide_eq_true this.1, decide_eq_true this.2]; rfl
def OpensP {H : Type} (enc : TypeId × Value → H) (w : World) (t : TypeId) {α : Type} (d : Kd α) (P : α → Prop) : Prop :=
 ∀ (fuel : Nat) (cs : List Value) (x : DataW H × List MemPlace), DataW.trod enc Tryz.prog w 0 (fun _ => true) true fuel t cs = some x → ∃ a : α, d.K w a cs ∧ P a
theorem opensP_int : OpensP enc w 3 (Kd.int .i64) (fun n => inRB n = true) := fun fuel cs x h => by
 obtain ⟨n, rfl, _, hw⟩ := DataW.trod_int Tryz.underlying3 h
 exact ⟨n, rfl, inRB_wf hw⟩
theorem opensP_slice {α : Type} {d : Kd α} {P : α → Prop} {t e : TypeId} (tag : Nat) (ht : Tryz.prog.underlying t = some (.slice e)) (he : Tryz.prog.cellsOf e = d.sz) (ho : OpensP enc w e d P) : OpensP enc w t (Kd.slice tag d) (fun l => ∀ a ∈ l, P a) := fun fuel cs x h => by
 rcases open_slice ht h with ⟨rfl, _⟩ | ⟨a, len, cap, m, n, D, Pl, rfl, _, hl, hm, hmm, _, hx⟩
 ·exact ⟨[], ⟨none, 0, rfl, Nat.le_refl _, Kd.C_nil _ _⟩, fun a ha => by cases ha⟩
 ·have hmm : m = cap := by simpa using hmm
  have hel : ∀ i : Fin len, ∃ p : α, (∃ c : List Value, c.length = d.sz ∧ d.K w p c ∧ ∀ j u, c[j]? = some u → w.cell? (a.add (i.val * d.sz + j)) = some u) ∧ P p := by
   intro i; obtain ⟨cs', h1, h2⟩ := hx i.val (by omega); obtain ⟨p, hp, hq⟩ := ho _ _ _ h2; obtain ⟨_, h3, h4⟩ := World.cells?_some h1; rw [he] at h3 h4; refine ⟨p, ⟨cs', h3, hp, fun j u hj => ?_⟩, hq⟩
   have hjl : j < d.sz := by
    rcases Nat.lt_or_ge j d.sz with h | h
    ·exact h
    ·rw [List.getElem?_eq_none (by omega)] at hj; cases hj
   have h5 := h4 j hjl; rw [hj] at h5; rw [← h5]; rw [Addr.add_add]
  let f : Fin len → α := fun i => Classical.choose (hel i)
  have hf : ∀ i : Fin len, (∃ c : List Value, c.length = d.sz ∧ d.K w (f i) c ∧ ∀ j u, c[j]? = some u → w.cell? (a.add (i.val * d.sz + j)) = some u) ∧ P (f i) := fun i => Classical.choose_spec (hel i); have hlen : (List.ofFn f).length = len := List.length_ofFn; refine ⟨List.ofFn f, ⟨some a, cap, by rw [hlen], by omega, ?_⟩, fun p hp => ?_⟩
  ·rw [hlen]
   refine ⟨hlen, by unfold maxLen at hm; omega, fun h0 => ⟨a, rfl, fun j p hj => ?_⟩⟩
   have hjl : j < len := by
    rcases Nat.lt_or_ge j len with h | h
    ·exact h
    ·rw [List.getElem?_eq_none (by omega)] at hj; cases hj
   rw [List.getElem?_eq_getElem (by omega), List.getElem_ofFn] at hj; obtain rfl := Option.some.inj hj
   exact (hf ⟨j, hjl⟩).1
  ·obtain ⟨i, rfl⟩ := (List.mem_ofFn).1 hp
   exact (hf i).2
theorem fieldP {n : Nat} {fs : Array Field} {cs : List Value} {xs : List (DataW H × List MemPlace)} (hlen : xs.length = fs.size)
  (hf : ∀ (i : Nat) (f : Field), fs[i]? = some f → DataW.trod enc Tryz.prog w 0 (fun _ => true) true n f.type ((cs.drop f.offset).take (Tryz.prog.cellsOf f.type)) = xs[i]?) {α : Type} {d : Kd α} {P : α → Prop} (i : Nat) (f : Field) (hi : fs[i]? = some f) (ho : OpensP enc w f.type d P) (k : Nat) (hk : Tryz.prog.cellsOf f.type = k) :
  ∃ a : α, d.K w a ((cs.drop f.offset).take k) ∧ P a := by
 have hl : i < fs.size := by
  rcases Nat.lt_or_ge i fs.size with h | h
  ·exact h
  ·rw [Array.getElem?_eq_none h] at hi; cases hi
 have h := hf i f hi; rw [hk, List.getElem?_eq_getElem (by omega)] at h
 exact ho _ _ _ h
theorem opensP_Method : OpensP enc w 105 k105 (fun m => inRB m.f2 = true) := fun fuel cs x h => by
 obtain ⟨xs, n, _, _, hl, hlen, hf⟩ := DataW.trod_struct Tryz.underlying105 h; rw [show Tryz.prog.cellsOf 105 = 6 by kernel_rfl] at hl; obtain ⟨a0, e0⟩ := field hlen hf 0 _ rfl opens_string 1 (by kernel_rfl); obtain ⟨a1, e1⟩ := field hlen hf 1 _ rfl opens_string 1 (by kernel_rfl); obtain ⟨a2, e2, p2⟩ := fieldP hlen hf 2 _ rfl opensP_int 1 (by kernel_rfl); obtain ⟨a3, e3⟩ := field hlen hf 3 _ rfl opens_int 1 (by kernel_rfl); obtain ⟨a4, e4⟩ := field hlen hf 4 _ rfl opens_int 1 (by kernel_rfl); obtain ⟨a5, e5⟩ := field hlen hf 5 _ rfl (opens_slice 143 Tryz.underlying103 (by kernel_rfl) opens_Inst) 1 (by kernel_rfl); refine ⟨⟨a0, a1, a2, a3, a4, a5⟩, ⟨_, _, cut cs 0 1, e0, _, _, cut cs 1 1, e1, _, _, cut cs 2 1, e2, _, _, cut cs 3 1, e3, _, _, cut cs 4 1, e4, ?_⟩, p2⟩; rw [List.take_of_length_le (by simp; omega)] at e5
 exact e5
theorem opensP_Class : OpensP enc w 85 k85 (fun c => goodC c = true) := fun fuel cs x h => by
 obtain ⟨xs, n, _, _, hl, hlen, hf⟩ := DataW.trod_struct Tryz.underlying85 h; rw [show Tryz.prog.cellsOf 85 = 6 by kernel_rfl] at hl; obtain ⟨a0, e0⟩ := field hlen hf 0 _ rfl opens_string 1 (by kernel_rfl); obtain ⟨a1, e1⟩ := field hlen hf 1 _ rfl opens_string 1 (by kernel_rfl); obtain ⟨a2, e2⟩ := field hlen hf 2 _ rfl (opens_slice 9 Tryz.underlying82 (by kernel_rfl) opens_string) 1 (by kernel_rfl); obtain ⟨a3, e3, p3⟩ := fieldP hlen hf 3 _ rfl opensP_int 1 (by kernel_rfl); obtain ⟨a4, e4⟩ := field hlen hf 4 _ rfl opens_int 1 (by kernel_rfl); obtain ⟨a5, e5, p5⟩ := fieldP hlen hf 5 _ rfl (opensP_slice 105 Tryz.underlying83 (by kernel_rfl) opensP_Method) 1 (by kernel_rfl); refine ⟨⟨a0, a1, a2, a3, a4, a5⟩, ⟨_, _, cut cs 0 1, e0, _, _, cut cs 1 1, e1, _, _, cut cs 2 1, e2, _, _, cut cs 3 1, e3, _, _, cut cs 4 1, e4, ?_⟩, ?_⟩
 ·rw [List.take_of_length_le (by simp; omega)] at e5
  exact e5
 ·show goodC _ = true
  unfold goodC; rw [Bool.and_eq_true, List.all_eq_true]
  exact ⟨p3, p5⟩
theorem open_list {base : Nat} {R : Reach} {v : Value} {d : DataW H} {p : List MemPlace} (hv : Value.okWide Tryz.prog w R base 22 v) (h : DataW.Trod enc Tryz.prog w 0 (fun _ => true) true 22 v d p) :
  ∃ (A : Option Addr) (c : Nat) (l : List S85), v = .slice A l.length c ∧ l.length ≤ c ∧ Kd.C k85 w A l.length l ∧ l.all goodC = true := by
 obtain ⟨a, len, cap, rfl⟩ := okWide_slice Tryz.underlying22 hv; obtain ⟨fuel, hf⟩ := h; obtain ⟨l, ⟨A, c, e, hc, hk⟩, hp⟩ := opensP_slice 85 Tryz.underlying22 (by kernel_rfl) opensP_Class _ _ _ hf; have e : [Value.slice a len cap] = [.slice A l.length c] := e
 obtain ⟨rfl, rfl, rfl⟩ : a = A ∧ len = l.length ∧ cap = c := by simpa using e
 exact ⟨_, _, l, rfl, hc, hk, List.all_eq_true.2 hp⟩
end Go.Proofs.YtaipkdglhfhhiaaGreatDoor.RowR
