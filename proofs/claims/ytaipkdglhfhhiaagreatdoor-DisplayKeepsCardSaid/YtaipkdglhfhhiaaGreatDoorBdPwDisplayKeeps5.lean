/- Lemmas and contracts for the statement of PwDisplayKeeps: joined by program out of this session's texts. -/
import Derived.Test.YtaipkdglhfhhiaaGreatDoorBdPwDisplayKeeps4
import Derived.Deep.RegionHeld3
import Derived.Outline
namespace Go.Proofs.YtaipkdglhfhhiaaGreatDoor.Pt
open Go.RowKit Go.Proofs.YtaipkdglhfhhiaaGreatDoorW.PrintWords Go.Proofs.YtaipkdglhfhhiaaGreatDoorW.PrintLast Go.Proofs.YtaipkdglhfhhiaaGreatDoorW.PrintMore
attribute [local go_sem] max2_int min2_int max_two min_two max_three min_three max_four min_four   -- for this text's walks alone
set_option linter.unusedVariables false
set_option linter.unusedSimpArgs false
def arbiterref15_Build.l0 : Nat → List S85 → Int → List Int → Int → List Int → List Int → Option (List Int × List Int × List Int × Int)
 | 0, _, _, _, _, _, _ => none
 | k + 1, x0, x1, x6, x9, x480000, x480001 => if x9 ≥ 0 then (if (x480000.length : Int) < 8 then (if 0 ≤ x9 then (if x9 < (x6.length : Int) then (if x480000.length < 17592186044416 then (arbiterref15_Build.l0 k x0 x1 x6 (wrap64 (x9 - 1)) (x480000 ++ [rd x6 x9]) x480001) else (none)) else (none)) else (none)) else (if 0 ≤ x9 then (if x9 < (x6.length : Int) then (if x480001.length < 17592186044416 then (arbiterref15_Build.l0 k x0 x1 x6 (wrap64 (x9 - 1)) x480000 (x480001 ++ [rd x6 x9])) else (none)) else (none)) else (none))) else ((arbiterref06_Closure.f k x0 x1).bind fun bt488 => (some (x480000, x480001, bt488.1, 0)))
def arbiterref15_Build.f (k : Nat) (a0 : List S85) (a1 : Int) : Option (List Int × List Int × List Int × Int) := (arbiterref06_Chain.f k a0 a1).bind fun bt475 => (if bt475.2 = 0 then (arbiterref15_Build.l0 k a0 a1 bt475.1 (wrap64 ((bt475.1.length : Int) - 1)) ([] : List Int) ([] : List Int)) else (some (([] : List Int), ([] : List Int), ([] : List Int), 3)))
def arbiterref15_Build.T9 : Bool × List (List Nat × List Nat) := (true, [([], []), ([0], [0]), ([], []), ([], []), ([2, 3], [2, 3]), ([4], [4]), ([5], [5]), ([1, 6], [1, 6]), ([0, 1, 2, 3, 4, 5, 6, 7], []), ([8, 7, 7, 0, 1, 2, 3, 4, 5, 6, 7], [7, 8])])
def arbiterref15_Build.B9 : List Nat := [0, 1, 0, 0, 12, 28, 60, 127, 255, 511]
theorem arbiterref15_Build.tab9 : rtab .any (opsOf Tryz.f27 9) = arbiterref15_Build.T9 := by kernel_rfl
theorem arbiterref15_Build.bits9 : waitsOk arbiterref15_Build.T9.2 arbiterref15_Build.B9 = true := by kernel_rfl
def arbiterref15_Build.T10 : Bool × List (List Nat × List Nat) := (true, [([], []), ([0], [0]), ([], []), ([], []), ([2, 3], [2, 3]), ([4], [4]), ([5], [5]), ([1, 6], [1, 6]), ([0, 1, 2, 3, 4, 5, 6, 7], []), ([8, 7, 7, 0, 1, 2, 3, 4, 5, 6, 7], [7, 8])])
def arbiterref15_Build.B10 : List Nat := [0, 1, 0, 0, 12, 28, 60, 127, 255, 511]
theorem arbiterref15_Build.tab10 : rtab .any (opsOf Tryz.f27 10) = arbiterref15_Build.T10 := by kernel_rfl
theorem arbiterref15_Build.bits10 : waitsOk arbiterref15_Build.T10.2 arbiterref15_Build.B10 = true := by kernel_rfl
set_option maxHeartbeats 8000000 in
set_option maxRecDepth 100000 in
theorem arbiterref15_Build.calls (k : Nat) (G_ : Nat) (a0 : List S85) (a1 : Int) (r1 : List Int) (r2 : List Int) (r3 : List Int) (r4 : Int) (w : World) (hq0 : ROK w G_ a0) (h : arbiterref15_Build.f k a0 a1 = some (r1, r2, r3, r4)) :
  Calls Tryz.prog 27 #[.pointer (some ⟨G_, 0, none⟩), .int .i64 a1] w fun e w' => ∃ v0_ v1_ v2_ : Value, e = .returned (.tuple #[.agg #[v0_, v1_, v2_], .int .i64 r4]) ∧ Kd.R (Kd.int .i64) 3 w' w.heap.size (fun k_ => some k_ ≠ (v1_ : Value).ownBlock ∧ some k_ ≠ (v2_ : Value).ownBlock) v0_ r1 ∧ Kd.R (Kd.int .i64) 3 w' w.heap.size (fun k_ => some k_ ≠ (v0_ : Value).ownBlock ∧ some k_ ≠ (v2_ : Value).ownBlock) v1_ r2 ∧ Kd.R (Kd.int .i64) 3 w' w.heap.size (fun k_ => some k_ ≠ (v0_ : Value).ownBlock ∧ some k_ ≠ (v1_ : Value).ownBlock) v2_ r3 ∧ Below w.heap.size w w' := by
 have hu51 := Tryz.underlying51; obtain ⟨AQa0, cQa0, hp0, hrq0, hcq0⟩ := ROK.open hq0; have HPa0 := Aside0.mk hp0; have HRqa0 := Aside0.mk hrq0; have HCqa0 := Aside0.mk hcq0; clear hp0 hrq0 hcq0; have HQa0 := Aside0.mk hq0; clear hq0; have HB := Aside0.mk (Below.refl w.heap.size w); have H : ((arbiterref06_Chain.f k a0 a1).bind fun bt475 => (if bt475.2 = 0 then (arbiterref15_Build.l0 k a0 a1 bt475.1 (wrap64 ((bt475.1.length : Int) - 1)) ([] : List Int) ([] : List Int)) else (some (([] : List Int), ([] : List Int), ([] : List Int), 3)))) = some (r1, r2, r3, r4) := h; clear h; replace H := Option.bind_eq_some_iff.mp H; obtain ⟨⟨t475, t476⟩, A30, H⟩ := H; replace H : (if t476 = 0 then (arbiterref15_Build.l0 k a0 a1 t475 (wrap64 ((t475.length : Int) - 1)) ([] : List Int) ([] : List Int)) else (some (([] : List Int), ([] : List Int), ([] : List Int), 3))) = some (r1, r2, r3, r4) := H; have A3 := Aside0.mk A30; clear A30
 by_cases c4 : t476 = 0
 ·rw [if_pos c4] at H
  have c4b0 : (t476 == 0) = true := beq_iff_eq.mpr c4; have c4b1 : (t476 != 0) = false := bne_eq_false_iff_eq.mpr c4; clear c4; have H' := Aside0.mk H; clear H; go_enter Tryz.func27, Tryz.ntmps27; go_wp2_with (first | ((with_reducible refine gate_dst (N := 4) rfl ?_); refine eX 4 #[.slice none 0 0, .slice none 0 0, .slice none 0 0] 51 ?_; intro gb474 hg w5 hbox hb; have n0_ := Aside0.mk (below_step (bX HB) hb); have n1_ := Aside0.mk (hbox); have n2_ := Aside0.mk ((by rw [hg]; exact (below_size (bX HB)) : w.heap.size ≤ gb474)); have n3_ := Aside0.mk ((by rw [hg]; exact (below_size (bX HB)) : w.heap.size ≤ gb474)); clear HB; have HB := n0_; have BK474 := n1_; have GW474 := n2_; have GE474 := n3_; clear n0_ n1_ n2_ n3_; clear hb hbox hg) | ((with_reducible refine gate_callee (f := 73) rfl ?_); refine gX (some 13) Tryz.func73 #[.pointer (some ⟨G_, 0, none⟩), .int .i64 a1] ?_; (with_reducible refine (arbiterref06_Chain.calls k G_ a0 a1 t475 t476 _ ?side1 A3.out).mono ?_); (case side1 => repeat (first | (with_reducible exact HQa0.out) | (with_reducible refine ROK.alloc ?_ _) | (with_reducible refine ROK.drewN ?_ _) | (with_reducible refine ROK.drew ?_) | exact ROK.below HQa0.out HB.out | exact ROK.below HQa0.out (bX1 HB GE474))); rintro e w6 ⟨v477, rfl, ho0, hb⟩; refine ⟨_, rfl, ?_⟩; have n0_ := Aside0.mk (Kd.R_lower ho0 (below_size (bX1 HB GE474))); have n1_ := Aside0.mk (blk_below (kX BK474) hb); have n2_ := Aside0.mk (below_step (bX1 HB GE474) hb); clear BK474; clear HB; have HO478 := n0_; have BK474 := n1_; have HB := n2_; clear n0_ n1_ n2_; (try clear hb); (try clear hb2); (try clear hk); (try clear hi); (try clear ho0)) | ((with_reducible refine gate_dst (N := 8) rfl ?_); refine eX 8 #[.slice none 0 0, .slice none 0 0, .slice none 0 0] 51 ?_; intro gb479 hg w7 hbox hb; have n0_ := Aside0.mk (Kd.R_below (rX HO478) hb); have n1_ := Aside0.mk (blk_below (kX BK474) hb); have n2_ := Aside0.mk (below_step (bX1 HB GE474) hb); have n3_ := Aside0.mk (hbox); have n4_ := Aside0.mk ((by rw [hg]; exact (below_size (bX1 HB GE474)) : w.heap.size ≤ gb479)); have n5_ := Aside0.mk ((by rw [hg]; exact (below_size (bX1 HB GE474)) : w.heap.size ≤ gb479)); have n6_ := Aside0.mk ((by rw [hg]; exact Nat.ne_of_lt (blk_lt (kX BK474)) : gb474 ≠ gb479)); have n7_ := Aside0.mk ((by rw [hg]; exact Nat.ne_of_gt (blk_lt (kX BK474)) : gb479 ≠ gb474)); clear HO478; clear BK474; clear HB; have HO478 := n0_; have BK474 := n1_; have HB := n2_; have BK479 := n3_; have GW479 := n4_; have GE479 := n5_; have NB474_479 := n6_; have NB479_474 := n7_; clear n0_ n1_ n2_ n3_ n4_ n5_ n6_ n7_; clear hb hbox hg; have hnb8 := NB479_474.out; have hnc8 := NB474_479.out; obtain ⟨hcz9_0, hcz9_1, hcz9_2, hfz9_0, hfz9_1, hfz9_2⟩ := c3X BK479; obtain ⟨Ao10, co10, eo10⟩ := Kd.R_slice HO478.out; subst eo10))
  go_loopg [9] k (fun kq v9 w' => ∃ (x9_1 : Int) (x480000_1 : List Int) (x480001_1 : List Int) (u480000 : Value) (u480001 : Value), v9 = .int .i64 x9_1 ∧ Aside0 (arbiterref15_Build.l0 kq a0 a1 t475 x9_1 x480000_1 x480001_1 = some (r1, r2, r3, r4)) ∧ Aside0 (kq ≤ k) ∧ Aside0 (Kd.R (Kd.int .i64) 3 w' w.heap.size (fun k_ => some k_ ≠ (u480000 : Value).ownBlock ∧ some k_ ≠ (u480001 : Value).ownBlock) (.slice Ao10 t475.length co10) t475) ∧ Aside0 (Kd.R (Kd.int .i64) 3 w' w.heap.size (fun k_ => some k_ ≠ ((.slice Ao10 t475.length co10) : Value).ownBlock ∧ some k_ ≠ (u480001 : Value).ownBlock) u480000 x480000_1) ∧ Aside0 (Kd.R (Kd.int .i64) 3 w' w.heap.size (fun k_ => some k_ ≠ ((.slice Ao10 t475.length co10) : Value).ownBlock ∧ some k_ ≠ (u480000 : Value).ownBlock) u480001 x480001_1) ∧ Aside0 (w'.heap[gb474]? = some (.cells #[(.slice none 0 0), (.slice none 0 0), (.slice none 0 0)] 51 (0, 0))) ∧ Aside0 (w'.heap[gb479]? = some (.cells #[u480000, u480001, (.slice none 0 0)] 51 (0, 0))) ∧ Aside0 (Below w.heap.size w w'))
  case atStart => exact ⟨(wrap64 ((t475.length : Int) - 1)), (([] : List Int)), (([] : List Int)), (.slice none 0 0), (.slice none 0 0), vX, H', ⟨Nat.le_refl _⟩, ⟨by (with_reducible repeat (first | apply Kd.R_alloc | apply Kd.R_drewN | apply Kd.R_drew)); exact Kd.R_mono (Kd.R_far (p := ⟨gb479, 2, none⟩) (Kd.R_far (p := ⟨gb479, 1, none⟩) (Kd.R_far (p := ⟨gb479, 0, none⟩) (Kd.R_types HO478.out BK479.out (by decide)) (fun _ hk => hk.2) (.slice none 0 0)) (fun _ hk => hk.2) (.slice none 0 0)) (fun _ hk => hk.2) (.slice none 0 0)) (fun _ hk => ⟨(by simp [Value.ownBlock]), (by simp [Value.ownBlock])⟩)⟩, ⟨by first | exact Kd.R_nil _ _ _ _ _ | exact Kd.N_nil _ _ _ _ _ | exact Kd.V_nil _ _ _ _ _ | exact Kd.Q_nil _ _ _ _ _ | exact Kd.S_nil _ _ _ _ _⟩, ⟨by first | exact Kd.R_nil _ _ _ _ _ | exact Kd.N_nil _ _ _ _ _ | exact Kd.V_nil _ _ _ _ _ | exact Kd.Q_nil _ _ _ _ _ | exact Kd.S_nil _ _ _ _ _⟩, ⟨fX BK474 NB474_479⟩, ⟨by (with_reducible repeat (first | refine blk_drewN ?_ _ | refine blk_drew ?_ | refine blk_alloc ?_ _)); refine blk_put (cs := #[.slice none 0 0, .slice none 0 0, .slice none 0 0]) ?_ 2 _ rfl; (with_reducible repeat (first | refine blk_drewN ?_ _ | refine blk_drew ?_ | refine blk_alloc ?_ _)); refine blk_put (cs := #[.slice none 0 0, .slice none 0 0, .slice none 0 0]) ?_ 1 _ rfl; (with_reducible repeat (first | refine blk_drewN ?_ _ | refine blk_drew ?_ | refine blk_alloc ?_ _)); refine blk_put (cs := #[.slice none 0 0, .slice none 0 0, .slice none 0 0]) ?_ 0 _ rfl; (with_reducible repeat (first | refine blk_drewN ?_ _ | refine blk_drew ?_ | refine blk_alloc ?_ _)); exact BK479.out⟩, ⟨bX2 HB GE474 GE479⟩⟩
  case round =>
   clear H'
   try clear c2
   try clear p2
   try clear c4
   try clear c4b0
   try clear c4b1
   try clear p6
   try clear c7
   try clear c8
   try clear hcz9_0 hcz9_1 hcz9_2
   try clear hfz9_0 hfz9_1 hfz9_2
   obtain ⟨x9_1, x480000_1, x480001_1, u480000, u480001, rfl, HA, HK1, HO_6, HO_480000, HO_480001, BK474, BK479, HB⟩ := hrel
   cases gk with
   | zero => exact absurd HA.out (by simp [arbiterref15_Build.l0])
   | succ k1 =>
    have H := HA.out; clear HA; simp only [arbiterref15_Build.l0] at H
    by_cases c11 : x9_1 ≥ 0
    ·rw [if_pos c11] at H
     have c11b0 : decide (0 ≤ x9_1) = true := decide_eq_true c11; clear c11
     by_cases c12 : (x480000_1.length : Int) < 8
     ·rw [if_pos c12] at H
      have c12b0 : decide ((x480000_1.length : Int) < 8) = true := decide_eq_true c12; have c12b1 : decide (x480000_1.length < 8) = true := decide_eq_true (by omega); clear c12
      by_cases c13 : 0 ≤ x9_1
      ·rw [if_pos c13] at H
       have c13b0 : decide (0 ≤ x9_1) = true := decide_eq_true c13; clear c13
       by_cases c14 : x9_1 < (t475.length : Int)
       ·rw [if_pos c14] at H
        have c14b0 : decide (x9_1 < (t475.length : Int)) = true := decide_eq_true c14; clear c14
        by_cases c15 : x480000_1.length < 17592186044416
        ·rw [if_pos c15] at H
         have LMc15 := Aside0.mk c15; clear c15
         obtain ⟨y481, hy481⟩ : ∃ y_ : List Int, y_ = (x480000_1 ++ [rd t475 x9_1]) := ⟨_, rfl⟩
         replace H : (arbiterref15_Build.l0 k1 a0 a1 t475 (wrap64 (x9_1 - 1)) y481 x480001_1) = some (r1, r2, r3, r4) := by first | (rw [hy481]; with_reducible exact H) | (have H2_ := (Option.bind_some _ _).symm.trans H; rw [hy481]; with_reducible exact H2_) | (have H2_ := (Option.bind_some _ _).symm.trans H; with_reducible exact H2_) | with_reducible exact H | (rw [hy481]; exact H) | exact H
         have Ny481 := Aside0.mk hy481; clear hy481; have H' := Aside0.mk H; clear H; have hnb16 := NB479_474.out; have hnc16 := NB474_479.out; obtain ⟨hcz17_0, hcz17_1, hcz17_2, hfz17_0, hfz17_1, hfz17_2⟩ := c3X BK479; obtain ⟨Ao18, co18, eo18⟩ := Kd.R_slice HO_480000.out; subst eo18
         try go_wp2
         have n0_ := Aside0.mk (Kd.R_drew HO_6.out); have n1_ := Aside0.mk (Kd.R_drew HO_480000.out); have n2_ := Aside0.mk (Kd.R_drew HO_480001.out); have n3_ := Aside0.mk (blk_drew BK474.out); have n4_ := Aside0.mk (blk_drew BK479.out); have n5_ := Aside0.mk (below_drew1 HB.out); clear HO_6; clear HO_480000; clear HO_480001; clear BK474; clear BK479; clear HB; have HO_6 := n0_; have HO_480000 := n1_; have HO_480001 := n2_; have BK474 := n3_; have BK479 := n4_; have HB := n5_; clear n0_ n1_ n2_ n3_ n4_ n5_; have p480 : 0 ≤ (x9_1 : Int) := qX; have q480 : x9_1 < (t475.length : Int) := qX; obtain ⟨ad480, e480, hx480_0⟩ := Kd.at_int (Kd.R_reads' HO_6.out).2.2 x9_1 p480 q480
         cases e480
         replace p480 := eq_true p480; replace q480 := eq_true q480; refine start_ (n := 10) (S := fun w' => w'.cell? ⟨gb479, 0, none⟩ = some (.slice Ao18 x480000_1.length co18) ∧ w'.cell? ⟨gb479, 1, none⟩ = some (u480001) ∧ w'.cell? ⟨gb479, 2, none⟩ = some (.slice none 0 0) ∧ w'.cell? (ad480.add (x9_1).toNat) = some (.int .i64 (rd t475 x9_1))) (ds := [7, 9]) #[false, false, false, false, false, false, false, false, false, false] (by kernel_rfl) rfl rfl ⟨(blk_cell BK479.out 0).trans rfl, (blk_cell BK479.out 1).trans rfl, (blk_cell BK479.out 2).trans rfl, hx480_0⟩ (fun hHeld => ?_); refine with_tabW arbiterref15_Build.tab9 arbiterref15_Build.bits9 (fun HT_ HW_ => ?_); generalize wr.drew = w19 at HO_6 HO_480000 HO_480001 BK474 BK479 HB hx480_0 hHeld ⊢; refine pX HT_ 0 (some 31) ?_; refine pX HT_ 2 (some 33) ?_; refine pX HT_ 3 (some 34) ?_; refine pX HT_ 4 (some 35) ?_; refine tX HT_ HW_ hHeld 1 (some 32) ?_; refine tX HT_ HW_ hHeld 5 (some 36) ?_; refine oX HT_ 6 (some 37) (fun K hK => ?_); refine value_ (w1 := ?_) (v := ?_) (by rfl) rfl ?_ ?_; rotate_left 2
         ·go_simp
          constructor
          ·rfl
          ·rfl
         refine hK.out _ _ ⟨(blk_cell (blk_alloc BK479.out _) 0).trans rfl, (blk_cell (blk_alloc BK479.out _) 1).trans rfl, (blk_cell (blk_alloc BK479.out _) 2).trans rfl, (World.cell?_alloc_lt _ _ _ (World.block_lt_of_cell? _ _ (hHeld.2.2.2))).trans (hHeld.2.2.2)⟩ (fun hHeld => ?_); clear hK K; refine nX (some 37) ?_; refine last_ (i := 7) (N := some 38) #[true, true, true, true, true, true, true, true, false, false] rfl rfl (one_of HT_.out (by kernel_rfl)) (by decide) (fun K hK => ?_); refine Kd.R_append_step (Kd.int .i64) (w0 := w) w.heap.size (by rfl) (.tmp 32) (.tmp 37) 49 3 (.int .i64 0) 8 rfl Tryz.underlying49 info3 rfl (by decide) (by omega) (.slice Ao18 x480000_1.length co18) x480000_1 (rd t475 x9_1) [.int .i64 (rd t475 x9_1)] (fun k_ => some k_ ≠ (.slice (some ad480) t475.length co10 : Value).ownBlock ∧ some k_ ≠ (u480001 : Value).ownBlock) (fun _ => False) rfl rfl ?aP (fun _ hk => hk.elim) ?aF ?aO ?aB ?aS ?aL ?_
         (case aP => exact rfl)
         (case aB => exact (bX2 HB GE474 GE479))
         (case aF => exact (fun k_ hk => ⟨Kd.fresh' (Kd.R_lt (rX HO_6)) k_ hk, Kd.fresh' (Kd.R_lt (rX HO_480001)) k_ hk⟩))
         (case aO => exact (rX HO_480000))
         (case aS => exact (below_size (bX2 HB GE474 GE479)))
         (case aL => have := LMc15.out; omega)
         intro v482 w20 ho hb hg hat; rw [← Ny481.out] at ho; have n0_ := Aside0.mk (Kd.R_after (ok := (fun k_ => some k_ ≠ (u480001 : Value).ownBlock)) (by (with_reducible repeat (first | apply Kd.R_alloc | apply Kd.R_drewN | apply Kd.R_drew)); exact Kd.R_mono HO_6.out (fun _ hk => ⟨hk.2, hk.1⟩)) hg hat); have n1_ := Aside0.mk (Kd.R_after (ok := (fun k_ => some k_ ≠ (.slice (some ad480) t475.length co10 : Value).ownBlock)) (rX HO_480001) hg hat); have n2_ := Aside0.mk (blk_grown (g := gb474) (o := .cells #[.slice none 0 0, .slice none 0 0, .slice none 0 0] 51 (0, 0)) (kX BK474) hg (Kd.R_ne HO_480000.out BK474.out (by decide))); have n3_ := Aside0.mk (blk_grown (g := gb479) (o := .cells #[.slice Ao18 x480000_1.length co18, u480001, .slice none 0 0] 51 (0, 0)) (kX BK479) hg (Kd.R_ne HO_480000.out BK479.out (by decide))); have n4_ := Aside0.mk (hb); have n5_ := Aside0.mk (ho); clear HO_6; clear HO_480001; clear BK474; clear BK479; clear HB; clear HO_480000; have HO_6 := n0_; have HO_480001 := n1_; have BK474 := n2_; have BK479 := n3_; have HB := n4_; have HO483 := n5_; clear n0_ n1_ n2_ n3_ n4_ n5_; clear ho hb hg hat; obtain ⟨Ao21, co21, eo21⟩ := Kd.R_slice HO483.out
         (first | subst eo21 | (injection eo21 with f1_ f2_ f3_; have f4_ := f1_.symm; have f5_ := f3_.symm; clear f1_ f2_ f3_; subst f4_; subst f5_))
         refine hK.out _ _ ?_; clear hK K; refine nX (some 38) ?_; refine pX HT_ 8 (some 39) ?_; refine last_ (i := 9) (N := none) #[true, true, true, true, true, true, true, true, true, true] rfl rfl (one_of HT_.out (by kernel_rfl)) (by decide) (fun K hK => ?_); have hs22 : w20.cell? ⟨gb479, 0, none⟩ = some (.slice Ao18 x480000_1.length co18) := (blk_cell BK479.out 0).trans rfl; have hfs22 := blk_frozen BK479.out 0; have hns22_0 := NB474_479.out; have hms22_0 := NB479_474.out; refine skip_ (w1 := ?_) (by rfl) rfl ?_ ?_; rotate_left
         ·go_simp
          rfl
         refine hK.out _ _ ?_; clear hK K; refine done_ (done_of HT_.out (by kernel_rfl)) ?_
         try go_wp2
         go_roundg k1
         case measure => have := HK1.out; omega
         case rel => exact ⟨(wrap64 (x9_1 - 1)), (y481), (x480001_1), (.slice Ao21 y481.length co21), (u480001), vX, H', ⟨by have := HK1.out; omega⟩, ⟨by (with_reducible repeat (first | apply Kd.R_alloc | apply Kd.R_drewN | apply Kd.R_drew)); exact Kd.R_mono (Kd.R_far (p := ⟨gb479, 0, none⟩) (Kd.R_types HO_6.out BK479.out (by decide)) (fun _ hk => hk.2) (.slice Ao21 y481.length co21)) (fun _ hk => ⟨hk.1.2, hk.1.1⟩)⟩, ⟨by (with_reducible repeat (first | apply Kd.R_alloc | apply Kd.R_drewN | apply Kd.R_drew)); exact Kd.R_mono (Kd.R_far (p := ⟨gb479, 0, none⟩) (Kd.R_types HO483.out BK479.out (by decide)) (fun _ hk => hk.2) (.slice Ao21 y481.length co21)) (fun _ hk => ⟨hk.1.1, hk.1.2⟩)⟩, ⟨by (with_reducible repeat (first | apply Kd.R_alloc | apply Kd.R_drewN | apply Kd.R_drew)); exact Kd.R_mono (Kd.R_far (p := ⟨gb479, 0, none⟩) (Kd.R_types HO_480001.out BK479.out (by decide)) (fun _ hk => hk.2) (.slice Ao21 y481.length co21)) (fun _ hk => ⟨hk.1.1, hk.1.2⟩)⟩, ⟨fX BK474 NB474_479⟩, ⟨by (with_reducible repeat (first | refine blk_drewN ?_ _ | refine blk_drew ?_ | refine blk_alloc ?_ _)); refine blk_put (cs := #[.slice Ao18 x480000_1.length co18, u480001, .slice none 0 0]) ?_ 0 _ rfl; (with_reducible repeat (first | refine blk_drewN ?_ _ | refine blk_drew ?_ | refine blk_alloc ?_ _)); exact BK479.out⟩, ⟨bX2 HB GE474 GE479⟩⟩
        ·rw [if_neg c15] at H
         exact absurd H (by simp)
       ·rw [if_neg c14] at H
        exact absurd H (by simp)
      ·rw [if_neg c13] at H
       exact absurd H (by simp)
     ·rw [if_neg c12] at H
      have c12b0 : decide ((x480000_1.length : Int) < 8) = false := decide_eq_false c12; have c12b1 : decide (x480000_1.length < 8) = false := decide_eq_false (by omega); clear c12
      by_cases c23 : 0 ≤ x9_1
      ·rw [if_pos c23] at H
       have c23b0 : decide (0 ≤ x9_1) = true := decide_eq_true c23; clear c23
       by_cases c24 : x9_1 < (t475.length : Int)
       ·rw [if_pos c24] at H
        have c24b0 : decide (x9_1 < (t475.length : Int)) = true := decide_eq_true c24; clear c24
        by_cases c25 : x480001_1.length < 17592186044416
        ·rw [if_pos c25] at H
         have LMc25 := Aside0.mk c25; clear c25
         obtain ⟨y485, hy485⟩ : ∃ y_ : List Int, y_ = (x480001_1 ++ [rd t475 x9_1]) := ⟨_, rfl⟩
         replace H : (arbiterref15_Build.l0 k1 a0 a1 t475 (wrap64 (x9_1 - 1)) x480000_1 y485) = some (r1, r2, r3, r4) := by first | (rw [hy485]; with_reducible exact H) | (have H2_ := (Option.bind_some _ _).symm.trans H; rw [hy485]; with_reducible exact H2_) | (have H2_ := (Option.bind_some _ _).symm.trans H; with_reducible exact H2_) | with_reducible exact H | (rw [hy485]; exact H) | exact H
         have Ny485 := Aside0.mk hy485; clear hy485; have H' := Aside0.mk H; clear H; have hnb26 := NB479_474.out; have hnc26 := NB474_479.out; obtain ⟨hcz27_0, hcz27_1, hcz27_2, hfz27_0, hfz27_1, hfz27_2⟩ := c3X BK479; obtain ⟨Ao28, co28, eo28⟩ := Kd.R_slice HO_480000.out; subst eo28
         try go_wp2
         have n0_ := Aside0.mk (Kd.R_drew HO_6.out); have n1_ := Aside0.mk (Kd.R_drew HO_480000.out); have n2_ := Aside0.mk (Kd.R_drew HO_480001.out); have n3_ := Aside0.mk (blk_drew BK474.out); have n4_ := Aside0.mk (blk_drew BK479.out); have n5_ := Aside0.mk (below_drew1 HB.out); clear HO_6; clear HO_480000; clear HO_480001; clear BK474; clear BK479; clear HB; have HO_6 := n0_; have HO_480000 := n1_; have HO_480001 := n2_; have BK474 := n3_; have BK479 := n4_; have HB := n5_; clear n0_ n1_ n2_ n3_ n4_ n5_; have p484 : 0 ≤ (x9_1 : Int) := qX; have q484 : x9_1 < (t475.length : Int) := qX; obtain ⟨ad484, e484, hx484_0⟩ := Kd.at_int (Kd.R_reads' HO_6.out).2.2 x9_1 p484 q484
         cases e484
         replace p484 := eq_true p484; replace q484 := eq_true q484; refine start_ (n := 10) (S := fun w' => w'.cell? ⟨gb479, 0, none⟩ = some (.slice Ao28 x480000_1.length co28) ∧ w'.cell? ⟨gb479, 1, none⟩ = some (u480001) ∧ w'.cell? ⟨gb479, 2, none⟩ = some (.slice none 0 0) ∧ w'.cell? (ad484.add (x9_1).toNat) = some (.int .i64 (rd t475 x9_1))) (ds := [7, 9]) #[false, false, false, false, false, false, false, false, false, false] (by kernel_rfl) rfl rfl ⟨(blk_cell BK479.out 0).trans rfl, (blk_cell BK479.out 1).trans rfl, (blk_cell BK479.out 2).trans rfl, hx484_0⟩ (fun hHeld => ?_); refine with_tabW arbiterref15_Build.tab10 arbiterref15_Build.bits10 (fun HT_ HW_ => ?_); generalize wr.drew = w29 at HO_6 HO_480000 HO_480001 BK474 BK479 HB hx484_0 hHeld ⊢; refine pX HT_ 0 (some 40) ?_; refine pX HT_ 2 (some 42) ?_; refine pX HT_ 3 (some 43) ?_; refine pX HT_ 4 (some 44) ?_; refine tX HT_ HW_ hHeld 1 (some 41) ?_; refine tX HT_ HW_ hHeld 5 (some 45) ?_; refine oX HT_ 6 (some 46) (fun K hK => ?_); refine value_ (w1 := ?_) (v := ?_) (by rfl) rfl ?_ ?_; rotate_left 2
         ·go_simp
          constructor
          ·rfl
          ·rfl
         refine hK.out _ _ ⟨(blk_cell (blk_alloc BK479.out _) 0).trans rfl, (blk_cell (blk_alloc BK479.out _) 1).trans rfl, (blk_cell (blk_alloc BK479.out _) 2).trans rfl, (World.cell?_alloc_lt _ _ _ (World.block_lt_of_cell? _ _ (hHeld.2.2.2))).trans (hHeld.2.2.2)⟩ (fun hHeld => ?_); clear hK K; refine nX (some 46) ?_; refine last_ (i := 7) (N := some 47) #[true, true, true, true, true, true, true, true, false, false] rfl rfl (one_of HT_.out (by kernel_rfl)) (by decide) (fun K hK => ?_); refine Kd.R_append_step (Kd.int .i64) (w0 := w) w.heap.size (by rfl) (.tmp 41) (.tmp 46) 49 3 (.int .i64 0) 8 rfl Tryz.underlying49 info3 rfl (by decide) (by omega) u480001 x480001_1 (rd t475 x9_1) [.int .i64 (rd t475 x9_1)] (fun k_ => some k_ ≠ (.slice (some ad484) t475.length co10 : Value).ownBlock ∧ some k_ ≠ (.slice Ao28 x480000_1.length co28 : Value).ownBlock) (fun _ => False) rfl rfl ?aP (fun _ hk => hk.elim) ?aF ?aO ?aB ?aS ?aL ?_
         (case aP => exact rfl)
         (case aB => exact (bX2 HB GE474 GE479))
         (case aF => exact (fun k_ hk => ⟨Kd.fresh' (Kd.R_lt (rX HO_6)) k_ hk, Kd.fresh' (Kd.R_lt (rX HO_480000)) k_ hk⟩))
         (case aO => exact (rX HO_480001))
         (case aS => exact (below_size (bX2 HB GE474 GE479)))
         (case aL => have := LMc25.out; omega)
         intro v486 w30 ho hb hg hat; rw [← Ny485.out] at ho; have n0_ := Aside0.mk (Kd.R_after (ok := (fun k_ => some k_ ≠ (.slice Ao28 x480000_1.length co28 : Value).ownBlock)) (rX HO_6) hg hat); have n1_ := Aside0.mk (Kd.R_after (ok := (fun k_ => some k_ ≠ (.slice (some ad484) t475.length co10 : Value).ownBlock)) (rX HO_480000) hg hat); have n2_ := Aside0.mk (blk_grown (g := gb474) (o := .cells #[.slice none 0 0, .slice none 0 0, .slice none 0 0] 51 (0, 0)) (kX BK474) hg (Kd.R_ne HO_480001.out BK474.out (by decide))); have n3_ := Aside0.mk (blk_grown (g := gb479) (o := .cells #[.slice Ao28 x480000_1.length co28, u480001, .slice none 0 0] 51 (0, 0)) (kX BK479) hg (Kd.R_ne HO_480001.out BK479.out (by decide))); have n4_ := Aside0.mk (hb); have n5_ := Aside0.mk (ho); clear HO_6; clear HO_480000; clear BK474; clear BK479; clear HB; clear HO_480001; have HO_6 := n0_; have HO_480000 := n1_; have BK474 := n2_; have BK479 := n3_; have HB := n4_; have HO487 := n5_; clear n0_ n1_ n2_ n3_ n4_ n5_; clear ho hb hg hat; obtain ⟨Ao31, co31, eo31⟩ := Kd.R_slice HO487.out
         (first | subst eo31 | (injection eo31 with f1_ f2_ f3_; have f4_ := f1_.symm; have f5_ := f3_.symm; clear f1_ f2_ f3_; subst f4_; subst f5_))
         refine hK.out _ _ ?_; clear hK K; refine nX (some 47) ?_; refine pX HT_ 8 (some 48) ?_; refine last_ (i := 9) (N := none) #[true, true, true, true, true, true, true, true, true, true] rfl rfl (one_of HT_.out (by kernel_rfl)) (by decide) (fun K hK => ?_); have hs32 : w30.cell? ⟨gb479, 1, none⟩ = some (u480001) := (blk_cell BK479.out 1).trans rfl; have hfs32 := blk_frozen BK479.out 1; have hns32_0 := NB474_479.out; have hms32_0 := NB479_474.out; refine skip_ (w1 := ?_) (by rfl) rfl ?_ ?_; rotate_left
         ·go_simp
          rfl
         refine hK.out _ _ ?_; clear hK K; refine done_ (done_of HT_.out (by kernel_rfl)) ?_
         try go_wp2
         go_roundg k1
         case measure => have := HK1.out; omega
         case rel => exact ⟨(wrap64 (x9_1 - 1)), (x480000_1), (y485), (.slice Ao28 x480000_1.length co28), (.slice Ao31 y485.length co31), vX, H', ⟨by have := HK1.out; omega⟩, ⟨by (with_reducible repeat (first | apply Kd.R_alloc | apply Kd.R_drewN | apply Kd.R_drew)); exact Kd.R_mono (Kd.R_far (p := ⟨gb479, 1, none⟩) (Kd.R_types HO_6.out BK479.out (by decide)) (fun _ hk => hk.2) (.slice Ao31 y485.length co31)) (fun _ hk => ⟨hk.1.1, hk.1.2⟩)⟩, ⟨by (with_reducible repeat (first | apply Kd.R_alloc | apply Kd.R_drewN | apply Kd.R_drew)); exact Kd.R_mono (Kd.R_far (p := ⟨gb479, 1, none⟩) (Kd.R_types HO_480000.out BK479.out (by decide)) (fun _ hk => hk.2) (.slice Ao31 y485.length co31)) (fun _ hk => ⟨hk.1.1, hk.1.2⟩)⟩, ⟨by (with_reducible repeat (first | apply Kd.R_alloc | apply Kd.R_drewN | apply Kd.R_drew)); exact Kd.R_mono (Kd.R_far (p := ⟨gb479, 1, none⟩) (Kd.R_types HO487.out BK479.out (by decide)) (fun _ hk => hk.2) (.slice Ao31 y485.length co31)) (fun _ hk => ⟨hk.1.1, hk.1.2⟩)⟩, ⟨fX BK474 NB474_479⟩, ⟨by (with_reducible repeat (first | refine blk_drewN ?_ _ | refine blk_drew ?_ | refine blk_alloc ?_ _)); refine blk_put (cs := #[.slice Ao28 x480000_1.length co28, u480001, .slice none 0 0]) ?_ 1 _ rfl; (with_reducible repeat (first | refine blk_drewN ?_ _ | refine blk_drew ?_ | refine blk_alloc ?_ _)); exact BK479.out⟩, ⟨bX2 HB GE474 GE479⟩⟩
        ·rw [if_neg c25] at H
         exact absurd H (by simp)
       ·rw [if_neg c24] at H
        exact absurd H (by simp)
      ·rw [if_neg c23] at H
       exact absurd H (by simp)
    ·rw [if_neg c11] at H
     have c11b0 : decide (0 ≤ x9_1) = false := decide_eq_false c11; clear c11; replace H := Option.bind_eq_some_iff.mp H; obtain ⟨⟨t488, t489⟩, A330, H⟩ := H; replace H : (some (x480000_1, x480001_1, t488, 0)) = some (r1, r2, r3, r4) := H; have A33 := Aside0.mk A330; clear A330; simp only [Option.some.injEq, Prod.mk.injEq] at H; obtain ⟨rfl, rfl, rfl, rfl⟩ := H; go_wp2_with (first | ((with_reducible refine gate_callee (f := 68) rfl ?_); refine gX (some 52) Tryz.func68 #[.pointer (some ⟨G_, 0, none⟩), .int .i64 a1] ?_; (with_reducible refine (arbiterref06_Closure.calls k1 G_ a0 a1 t488 t489 _ ?side1 A33.out).mono ?_); (case side1 => repeat (first | (with_reducible exact HQa0.out) | (with_reducible refine ROK.alloc ?_ _) | (with_reducible refine ROK.drewN ?_ _) | (with_reducible refine ROK.drew ?_) | exact ROK.below HQa0.out HB.out | exact ROK.below HQa0.out (bX2 HB GE474 GE479))); rintro e w34 ⟨v490, rfl, ho0, hb⟩; refine ⟨_, rfl, ?_⟩; have n0_ := Aside0.mk (Kd.R_elder' (rX HO_6) (Kd.R_base ho0) hb); have n1_ := Aside0.mk (Kd.R_elder' (rX HO_480000) (Kd.R_base ho0) hb); have n2_ := Aside0.mk (Kd.R_elder' (rX HO_480001) (Kd.R_base ho0) hb); have n3_ := Aside0.mk (Kd.R_lower (Kd.R_new' (Kd.R_new' (Kd.R_new' ho0 (Kd.R_lt (rX HO_6))) (Kd.R_lt (rX HO_480000))) (Kd.R_lt (rX HO_480001))) (below_size (bX2 HB GE474 GE479))); have n4_ := Aside0.mk (blk_below (kX BK474) hb); have n5_ := Aside0.mk (blk_below (kX BK479) hb); have n6_ := Aside0.mk (below_step (bX2 HB GE474 GE479) hb); clear HO_6; clear HO_480000; clear HO_480001; clear BK474; clear BK479; clear HB; have HO_6 := n0_; have HO_480000 := n1_; have HO_480001 := n2_; have HO491 := n3_; have BK474 := n4_; have BK479 := n5_; have HB := n6_; clear n0_ n1_ n2_ n3_ n4_ n5_ n6_; (try clear hb); (try clear hb2); (try clear hk); (try clear hi); (try clear ho0); obtain ⟨Ao35, co35, eo35⟩ := Kd.R_slice HO491.out; subst eo35; have hnb36 := NB479_474.out; have hnc36 := NB474_479.out; obtain ⟨hcz37_0, hcz37_1, hcz37_2, hfz37_0, hfz37_1, hfz37_2⟩ := c3X BK479; obtain ⟨Ao38, co38, eo38⟩ := Kd.R_slice HO_480000.out; subst eo38; obtain ⟨hcz39_0, hcz39_1, hcz39_2, hfz39_0, hfz39_1, hfz39_2⟩ := c3X BK474; obtain ⟨Ao40, co40, eo40⟩ := Kd.R_slice HO_480001.out; subst eo40)); refine bodyPost_ret (results_ct rfl _ _ gb474 51 #[.slice Ao38 x480000_1.length co38, .slice Ao40 x480001_1.length co40, .slice Ao35 t488.length co35] (0, 0) _ rfl (by (with_reducible repeat (first | refine blk_drewN ?_ _ | refine blk_drew ?_ | refine blk_alloc ?_ _)); refine blk_put (cs := #[.slice Ao38 x480000_1.length co38, .slice Ao40 x480001_1.length co40, .slice none 0 0]) ?_ 2 _ rfl; (with_reducible repeat (first | refine blk_drewN ?_ _ | refine blk_drew ?_ | refine blk_alloc ?_ _)); refine blk_put (cs := #[.slice Ao38 x480000_1.length co38, .slice none 0 0, .slice none 0 0]) ?_ 1 _ rfl; (with_reducible repeat (first | refine blk_drewN ?_ _ | refine blk_drew ?_ | refine blk_alloc ?_ _)); refine blk_put (cs := #[.slice none 0 0, .slice none 0 0, .slice none 0 0]) ?_ 0 _ rfl; (with_reducible repeat (first | refine blk_drewN ?_ _ | refine blk_drew ?_ | refine blk_alloc ?_ _)); refine blk_far ?_ NB474_479.out _; (with_reducible repeat (first | refine blk_drewN ?_ _ | refine blk_drew ?_ | refine blk_alloc ?_ _)); exact BK474.out) Tryz.underlying51 rfl (by kernel_rfl)) rfl ?_
     exact ⟨_, _, _, by first | rfl | (simp [errW_none, errW_some] <;> rfl) | (simp [*, errW_none, errW_some] <;> rfl), by (with_reducible repeat (first | apply Kd.R_alloc | apply Kd.R_drewN | apply Kd.R_drew)); exact Kd.R_mono (Kd.R_far (p := ⟨gb474, 2, none⟩) (Kd.R_far (p := ⟨gb474, 1, none⟩) (Kd.R_far (p := ⟨gb474, 0, none⟩) (Kd.R_far (p := ⟨gb479, 2, none⟩) (Kd.R_types (Kd.R_types HO_480000.out BK479.out (by decide)) BK474.out (by decide)) (fun _ hk => hk.1.2) (.slice Ao35 t488.length co35)) (fun _ hk => hk.2) (.slice Ao38 x480000_1.length co38)) (fun _ hk => hk.2) (.slice Ao40 x480001_1.length co40)) (fun _ hk => hk.2) (.slice Ao35 t488.length co35)) (fun _ hk => ⟨hk.1.1.1.2, hk.1.1.2⟩), by (with_reducible repeat (first | apply Kd.R_alloc | apply Kd.R_drewN | apply Kd.R_drew)); exact Kd.R_mono (Kd.R_far (p := ⟨gb474, 2, none⟩) (Kd.R_far (p := ⟨gb474, 1, none⟩) (Kd.R_far (p := ⟨gb474, 0, none⟩) (Kd.R_far (p := ⟨gb479, 2, none⟩) (Kd.R_types (Kd.R_types HO_480001.out BK479.out (by decide)) BK474.out (by decide)) (fun _ hk => hk.1.2) (.slice Ao35 t488.length co35)) (fun _ hk => hk.2) (.slice Ao38 x480000_1.length co38)) (fun _ hk => hk.2) (.slice Ao40 x480001_1.length co40)) (fun _ hk => hk.2) (.slice Ao35 t488.length co35)) (fun _ hk => ⟨hk.1.1.1.2, hk.1.1.2⟩), by (with_reducible repeat (first | apply Kd.R_alloc | apply Kd.R_drewN | apply Kd.R_drew)); exact Kd.R_mono (Kd.R_far (p := ⟨gb474, 2, none⟩) (Kd.R_far (p := ⟨gb474, 1, none⟩) (Kd.R_far (p := ⟨gb474, 0, none⟩) (Kd.R_far (p := ⟨gb479, 2, none⟩) (Kd.R_types (Kd.R_types HO491.out BK479.out (by decide)) BK474.out (by decide)) (fun _ hk => hk.1.2) (.slice Ao35 t488.length co35)) (fun _ hk => hk.2) (.slice Ao38 x480000_1.length co38)) (fun _ hk => hk.2) (.slice Ao40 x480001_1.length co40)) (fun _ hk => hk.2) (.slice Ao35 t488.length co35)) (fun _ hk => ⟨hk.1.1.1.2, hk.1.1.2⟩), bX2 HB GE474 GE479⟩
 ·rw [if_neg c4] at H
  have c4b0 : (t476 == 0) = false := beq_eq_false_iff_ne.mpr c4; have c4b1 : (t476 != 0) = true := bne_iff_ne.mpr c4; simp only [Option.some.injEq, Prod.mk.injEq] at H; obtain ⟨rfl, rfl, rfl, rfl⟩ := H; go_enter Tryz.func27, Tryz.ntmps27; go_wp2_with (first | ((with_reducible refine gate_dst (N := 4) rfl ?_); refine eX 4 #[.slice none 0 0, .slice none 0 0, .slice none 0 0] 51 ?_; intro gb474 hg w41 hbox hb; have n0_ := Aside0.mk (below_step (bX HB) hb); have n1_ := Aside0.mk (hbox); have n2_ := Aside0.mk ((by rw [hg]; exact (below_size (bX HB)) : w.heap.size ≤ gb474)); have n3_ := Aside0.mk ((by rw [hg]; exact (below_size (bX HB)) : w.heap.size ≤ gb474)); clear HB; have HB := n0_; have BK474 := n1_; have GW474 := n2_; have GE474 := n3_; clear n0_ n1_ n2_ n3_; clear hb hbox hg) | ((with_reducible refine gate_callee (f := 73) rfl ?_); refine gX (some 13) Tryz.func73 #[.pointer (some ⟨G_, 0, none⟩), .int .i64 a1] ?_; (with_reducible refine (arbiterref06_Chain.calls k G_ a0 a1 t475 t476 _ ?side1 A3.out).mono ?_); (case side1 => repeat (first | (with_reducible exact HQa0.out) | (with_reducible refine ROK.alloc ?_ _) | (with_reducible refine ROK.drewN ?_ _) | (with_reducible refine ROK.drew ?_) | exact ROK.below HQa0.out HB.out | exact ROK.below HQa0.out (bX1 HB GE474))); rintro e w42 ⟨v477, rfl, ho0, hb⟩; refine ⟨_, rfl, ?_⟩; have n0_ := Aside0.mk (Kd.R_lower ho0 (below_size (bX1 HB GE474))); have n1_ := Aside0.mk (blk_below (kX BK474) hb); have n2_ := Aside0.mk (below_step (bX1 HB GE474) hb); clear BK474; clear HB; have HO478 := n0_; have BK474 := n1_; have HB := n2_; clear n0_ n1_ n2_; (try clear hb); (try clear hb2); (try clear hk); (try clear hi); (try clear ho0); obtain ⟨hcz43_0, hcz43_1, hcz43_2, hfz43_0, hfz43_1, hfz43_2⟩ := c3X BK474)); refine bodyPost_ret (results_ct rfl _ _ gb474 51 #[.slice none 0 0, .slice none 0 0, .slice none 0 0] (0, 0) _ rfl (by (with_reducible repeat (first | refine blk_drewN ?_ _ | refine blk_drew ?_ | refine blk_alloc ?_ _)); refine blk_put (cs := #[.slice none 0 0, .slice none 0 0, .slice none 0 0]) ?_ 2 _ rfl; (with_reducible repeat (first | refine blk_drewN ?_ _ | refine blk_drew ?_ | refine blk_alloc ?_ _)); refine blk_put (cs := #[.slice none 0 0, .slice none 0 0, .slice none 0 0]) ?_ 1 _ rfl; (with_reducible repeat (first | refine blk_drewN ?_ _ | refine blk_drew ?_ | refine blk_alloc ?_ _)); refine blk_put (cs := #[.slice none 0 0, .slice none 0 0, .slice none 0 0]) ?_ 0 _ rfl; (with_reducible repeat (first | refine blk_drewN ?_ _ | refine blk_drew ?_ | refine blk_alloc ?_ _)); exact BK474.out) Tryz.underlying51 rfl (by kernel_rfl)) rfl ?_
  exact ⟨_, _, _, by first | rfl | (simp [errW_none, errW_some] <;> rfl) | (simp [*, errW_none, errW_some] <;> rfl), by first | exact Kd.R_nil _ _ _ _ _ | exact Kd.N_nil _ _ _ _ _ | exact Kd.V_nil _ _ _ _ _ | exact Kd.Q_nil _ _ _ _ _ | exact Kd.S_nil _ _ _ _ _, by first | exact Kd.R_nil _ _ _ _ _ | exact Kd.N_nil _ _ _ _ _ | exact Kd.V_nil _ _ _ _ _ | exact Kd.Q_nil _ _ _ _ _ | exact Kd.S_nil _ _ _ _ _, by first | exact Kd.R_nil _ _ _ _ _ | exact Kd.N_nil _ _ _ _ _ | exact Kd.V_nil _ _ _ _ _ | exact Kd.Q_nil _ _ _ _ _ | exact Kd.S_nil _ _ _ _ _, bX1 HB GE474⟩
end Go.Proofs.YtaipkdglhfhhiaaGreatDoor.Pt

namespace Go.Proofs.YtaipkdglhfhhiaaGreatDoor.Pt
open Go Go.RowKit Go.Proofs.YtaipkdglhfhhiaaGreatDoor.Nm Go.Proofs.YtaipkdglhfhhiaaGreatDoor.Ty Go.Proofs.YtaipkdglhfhhiaaGreatDoor.Hi Go.Proofs.YtaipkdglhfhhiaaGreatDoorW.PrintWords
set_option linter.unusedVariables false
set_option linter.unusedSimpArgs false
theorem rclosure_ok {es : List Ent} (h : Thy es) (hl : es.length ≤ 1000) (i : Int) (k : Nat) (hk : 30 * es.length + 2010 < k) : arbiterref06_Closure.f k (csOf es) i = some (closureF es i) := by
 unfold arbiterref06_Closure.f closureF; rw [in_ok, Option.bind_some]
 by_cases hi : 0 ≤ i ∧ i < es.length
 ·rw [show inB es i = true from decide_eq_true hi, if_pos rfl, if_pos hi, gather_eq h hl i.toNat i [] k hi.1 hi.2 (Nat.le_refl _) (by omega) ⟨Rng.nil _, fun j hj => by cases hj⟩, Option.bind_some, foldI_nil (h.good.clo _ (List.mem_of_getElem? (get_ent hi.1 hi.2))).1.1]
 ·rw [show inB es i = false from decide_eq_false hi, if_neg (by decide), if_neg hi]
theorem rbuild_l0 {es : List Ent} (h : Thy es) (hl : es.length ≤ 1000) {i : Int} (hi : 0 ≤ i ∧ i < es.length) : ∀ (d j k : Nat), j + d = (chL es i).length → d + 30 * es.length + 2011 < k →
  arbiterref15_Build.l0 k (csOf es) i (chL es i) (((chL es i).length : Int) - 1 - j) (((rcL es i).take j).take 8) (((rcL es i).take j).drop 8) = some ((rcL es i).take 8, (rcL es i).drop 8, (ent es i).clo, 0) := by
 have hlen : (rcL es i).length = (chL es i).length := by rw [rcL, List.length_reverse]
 have hc := chL_len h.good.tree hi.1 hi.2; have hd := h.good.tree.depth_ hi.1 hi.2; intro d
 induction d with
 | zero =>
  intro j k hj hk
  obtain ⟨k, rfl⟩ : ∃ m, k = m + 1 := ⟨k - 1, by omega⟩
  rw [arbiterref15_Build.l0, if_neg (by omega), rclosure_ok h hl i k (by omega), Option.bind_some, List.take_of_length_le (by omega : (rcL es i).length ≤ j)]; unfold closureF; rw [if_pos hi]
 | succ d ih =>
  intro j k hj hk
  obtain ⟨k, rfl⟩ : ∃ m, k = m + 1 := ⟨k - 1, by omega⟩
  have hrd : Go.Proofs.YtaipkdglhfhhiaaGreatDoorW.PrintWords.rd (chL es i) (((chL es i).length : Int) - 1 - j) = (rcL es i)[j]'(by omega) := by
   unfold Go.Proofs.YtaipkdglhfhhiaaGreatDoorW.PrintWords.rd; rw [List.getD_eq_getElem?_getD, show (((chL es i).length : Int) - 1 - j).toNat = (chL es i).length - 1 - j by omega]
   have : (rcL es i)[j]? = (chL es i)[(chL es i).length - 1 - j]? := by rw [rcL, List.getElem?_reverse (by omega)]
   rw [← this, List.getElem?_eq_getElem (by omega)]
   rfl
  have ht : (rcL es i).take (j + 1) = (rcL es i).take j ++ [(rcL es i)[j]'(by omega)] := List.take_succ_eq_append_getElem (by omega)
  have hA : ((rcL es i).take j).length = j := by rw [List.length_take]; omega
  have hi2 := ih (j + 1) k (by omega) (by omega); rw [ht] at hi2; rw [arbiterref15_Build.l0, if_pos (by omega), hrd]; generalize (rcL es i)[j]'(by omega) = x at *; generalize (rcL es i).take j = A at *; rw [show ((chL es i).length : Int) - 1 - ((j + 1 : Nat) : Int) = wrap64 (((chL es i).length : Int) - 1 - j - 1) by unfold wrap64; omega] at hi2
  by_cases h8 : A.length < 8
  ·rw [List.take_of_length_le (show A.length ≤ 8 by omega), List.drop_eq_nil_of_le (show A.length ≤ 8 by omega)]
   rw [List.take_of_length_le (show (A ++ [x]).length ≤ 8 by simp; omega), List.drop_eq_nil_of_le (show (A ++ [x]).length ≤ 8 by simp; omega)] at hi2; rw [if_pos (by omega), if_pos (by omega), if_pos (by omega), if_pos (by omega)]
   exact hi2
  ·rw [List.take_append_of_le_length (by omega), List.drop_append_of_le_length (by omega)] at hi2
   rw [if_neg (by rw [List.length_take]; omega), if_pos (by omega), if_pos (by omega), if_pos (by rw [List.length_drop]; omega)]
   exact hi2
theorem rbuild_ok {es : List Ent} (h : Thy es) (hl : es.length ≤ 1000) (i : Int) (k : Nat) (hk : 40 * es.length + 3000 < k) : arbiterref15_Build.f k (csOf es) i = some (buildF es i) := by
 unfold arbiterref15_Build.f buildF
 by_cases hi : 0 ≤ i ∧ i < es.length
 ·have hc := chL_len h.good.tree hi.1 hi.2
  have hd := h.good.tree.depth_ hi.1 hi.2; rw [if_pos hi, chain_eq h hl hi.1 hi.2 k (by omega), Option.bind_some]; have := rbuild_l0 h hl hi (chL es i).length 0 k (by omega) (by omega); rw [show wrap64 (((chL es i).length : Int) - 1) = ((chL es i).length : Int) - 1 - ((0 : Nat) : Int) by unfold wrap64; omega]
  exact this
 ·rw [if_neg hi]
  unfold arbiterref06_Chain.f; rw [in_ok, Option.bind_some, show inB es i = false from decide_eq_false hi]
  rfl
end Go.Proofs.YtaipkdglhfhhiaaGreatDoor.Pt

namespace Go.Proofs.YtaipkdglhfhhiaaGreatDoor.Hi
open Go Go.RowKit Go.Proofs.YtaipkdglhfhhiaaGreatDoor.Nm Go.Proofs.YtaipkdglhfhhiaaGreatDoorW.PrintWords Go.Proofs.YtaipkdglhfhhiaaGreatDoorW.PrintLast Go.Proofs.YtaipkdglhfhhiaaGreatDoorW.PrintMore Go.Proofs.YtaipkdglhfhhiaaGreatDoor.Pt
theorem len_made {es : List Ent} (h : Made es) : es.length ≤ 300 := by
 induction h with
 | new => decide
 | step es c _ ih =>
  rcases stepF_cases es c with h | ⟨x, h, ht⟩
  ·rw [h]; exact ih
  ·rw [h, List.length_append]
   have := ht.len; simp
   omega
end Go.Proofs.YtaipkdglhfhhiaaGreatDoor.Hi

namespace Go.Proofs.YtaipkdglhfhhiaaGreatDoor.Pt
open Go Go.RowKit Go.Proofs.YtaipkdglhfhhiaaGreatDoor.Nm Go.Proofs.YtaipkdglhfhhiaaGreatDoor.Ty Go.Proofs.YtaipkdglhfhhiaaGreatDoor.Cd Go.Proofs.YtaipkdglhfhhiaaGreatDoorW.PrintWords Go.Proofs.YtaipkdglhfhhiaaGreatDoorW.PrintLast Go.Proofs.YtaipkdglhfhhiaaGreatDoorW.PrintMore
set_option linter.unusedVariables false
set_option linter.unusedSimpArgs false
set_option maxHeartbeats 2000000
set_option maxRecDepth 100000
theorem rpdesc_any (a0 : ByteArray) (w : World) : Calls Tryz.prog 141 #[.string a0] w fun e w' => ∃ v0_ : Value, e = .returned (.tuple #[.agg #[v0_, .bool (parseD a0.data.toList).1.void, .int .i64 (parseD a0.data.toList).1.rdims, .string (bs (parseD a0.data.toList).1.rname)], .int .i64 (parseD a0.data.toList).2]) ∧
  Kd.R k24 24 w' w.heap.size (fun _ => True) v0_ ((parseD a0.data.toList).1.args.map toS) ∧ Below w.heap.size w w' :=
 arbiterref02_ParseDesc.calls 5000 a0 _ _ _ _ _ w (pdesc_f a0 5000 (Nat.le_refl _))
theorem roper_any (op : Int) (w : World) : Calls Tryz.prog 160 #[.int .i64 op] w fun e w' => e = .returned (.int .i64 (Cd.opnd op)) ∧ w' = w := by
 have ht : ∀ k : Nat, k < 41 → k = 0 ∨ k = 1 ∨ k = 2 ∨ k = 3 ∨ k = 4 ∨ k = 5 ∨ k = 11 ∨ k = 12 ∨ k = 13 ∨ k = 14 ∨ k = 15 ∨ k = 16 ∨ k = 17 ∨ k = 18 ∨ k = 22 ∨ k = 23 ∨ k = 24 ∨ k = 30 ∨ k = 31 ∨ k = 32 ∨ k = 33 ∨ k = 34 ∨ k = 35 ∨ Cd.opTab.getD k 0 = 0 := by decide
 replace ht := Lib.hid ht; go_enter Tryz.func160, Tryz.ntmps160; go_wp2
 all_goals
  go_ret; refine ⟨ret_eq ?_, rfl⟩; simp only [beq_iff_eq, beq_eq_false_iff_ne, ne_eq, decide_eq_true_eq, decide_eq_false_iff_not, Bool.or_eq_true, Bool.or_eq_false_iff] at *
 all_goals first
  | (subst_vars; rfl)
  | (unfold Cd.opnd; rw [if_pos (by omega)])
  | (unfold Cd.opnd; rw [if_neg (by omega)]; have := ht.out op.toNat (by omega); omega)
def noRefB (ri : Bool) (rc rn rd : ByteArray) : Bool := !ri && (rc.toList == [] && (rn.toList == [] && rd.toList == []))
theorem noref_any (ri : Bool) (rc rn rd : ByteArray) (w : World) : Calls Tryz.prog 167 #[.agg #[.bool ri, .string rc, .string rn, .string rd]] w fun e w' => e = .returned (.bool (noRefB ri rc rn rd)) ∧ Below w.heap.size w w' := by
 have AB := Lib.hid ((Below.refl w.heap.size w).alloc (Nat.le_refl _) (.cells #[.bool ri, .string rc, .string rn, .string rd] 141)); generalize hr : noRefB ri rc rn rd = r; replace hr := Lib.hid hr; unfold noRefB at hr
 cases ri
 all_goals
  go_enter Tryz.func167, Tryz.ntmps167; go_wp2
  all_goals
   go_ret; refine ⟨?_, AB.out⟩; rw [← hr.out]
   simp_all
theorem rrefck_any (ri : Bool) (rc rn rd : ByteArray) (w : World) : Calls Tryz.prog 170 #[.agg #[.bool ri, .string rc, .string rn, .string rd]] w fun e w' => e = .returned (.int .i64 (refV rc rn rd)) ∧ Below w.heap.size w w' := by
 have B0 := Lib.hid (blk_new w (.cells #[.bool ri, .string rc, .string rn, .string rd] 141)); have AB := Lib.hid ((Below.refl w.heap.size w).alloc (Nat.le_refl _) (.cells #[.bool ri, .string rc, .string rn, .string rd] 141)); have C1 := Lib.hid (arbiterref02_ParseRef.calls rc _ _ _ (w.alloc (.cells #[.bool ri, .string rc, .string rn, .string rd] 141)) rfl); have C2 := Lib.hid (fun W => rpdesc_any rd W); have C3 := Lib.hid (fun W => arbiterref01_Member.calls rn _ W rfl); generalize hr : refV rc rn rd = r at *; replace hr := Lib.hid hr; unfold refV at hr; generalize parseR rc.data.toList = p1 at *; generalize parseD rd.data.toList = p2 at *; generalize memberB rn = mb at *; obtain ⟨d1, s1, e1⟩ := p1; obtain ⟨d2, e2⟩ := p2; go_enter Tryz.func170, Tryz.ntmps170; go_wp2_with fail; refine C1.out.mono ?_; rintro e w1 ⟨rfl, hb1⟩; have B1 := blk_below B0.out hb1; have q2 : w1.cell? ⟨w.heap.size, 2, none⟩ = some (.string rn) := (blk_cell B1 2).trans rfl; have q2 := cell_allocs q2; have H1 := Lib.hid (AB.out.trans (hb1.mono AB.out.size)); replace B1 := Lib.hid B1; clear B0 AB C1 hb1
 by_cases h1 : e1 = 0
 ·subst h1
  go_wp2_with fail; refine (C3.out _).mono ?_; rintro e w2 ⟨rfl, hb2⟩; have q3 : w2.cell? ⟨w.heap.size, 3, none⟩ = some (.string rd) := pw_cell_below hb2 (cell_allocs ((blk_cell B1.out 3).trans rfl) _); have H2 := Lib.hid ((H1.out.alloc H1.out.size _).trans (hb2.mono (H1.out.alloc H1.out.size _).size)); clear hb2 C3 H1 B1 q2
  cases mb with
  | false =>
   go_wp2; go_ret; have := hr.out; simp at this; subst this
   exact ⟨rfl, H2.out⟩
  | true =>
   go_wp2_with fail; refine (C2.out _).mono ?_; rintro e w3 ⟨v0, rfl, R0, hb3⟩; obtain ⟨A0, c0, rfl⟩ := Kd.R_slice R0; have H3 := Lib.hid (H2.out.trans (hb3.mono H2.out.size)); clear hb3 H2 C2 q3 R0
   by_cases h2 : e2 = 0
   ·subst h2
    go_wp2; go_ret; have := hr.out; simp at this; subst this
    exact ⟨rfl, H3.out.alloc H3.out.size _⟩
   ·have hne : (e2 != 0) = true := bne_iff_ne.2 h2
    go_wp2; go_ret; have := hr.out; simp [h2] at this; subst this
    exact ⟨rfl, H3.out.alloc H3.out.size _⟩
 ·have hne : (e1 != 0) = true := bne_iff_ne.2 h1
  go_wp2; go_ret; have := hr.out; simp [h1] at this; subst this
  exact ⟨rfl, H1.out.alloc H1.out.size _⟩
def rbare (k n : Int) (ty : ByteArray) (nr : Bool) : Bool := decide (0 ≤ k) && ((k == 8 || nr) && ((!(k == 0 || k == 4 || k == 5 || k == 6 || k == 8) || n == 0) && (!(decide (k < 4) || k == 8) || ty.toList == [])))
theorem toList_nil (s : ByteArray) : ((⟨#[]⟩ : ByteArray).toList == s.toList) = (s.toList == []) := by
 rw [show (⟨#[]⟩ : ByteArray).toList = [] from by rw [ByteArray.toList_eq]]
 cases s.toList <;> rfl
theorem rins_eq (op n : Int) (ty : ByteArray) (ri : Bool) (rc rn rd : ByteArray) : insV ⟨op, n, ty, ⟨ri, rc, rn, rd⟩⟩ = if (rbare (Cd.opnd op) n ty (noRefB ri rc rn rd) && opB op n ty rc rn rd) = true then 0 else 1 := by
 have hs : ∀ s : ByteArray, (s.toList == s.toList) = true := fun s => beq_self_eq_true _
 have hb : (bareOk op n ty ri rc rn rd && opB op n ty rc rn rd) = (rbare (Cd.opnd op) n ty (noRefB ri rc rn rd) && opB op n ty rc rn rd) := by
  unfold bareOk rbare sameI noRefB opB; have hn : (0 == n) = (n == 0) := Bool.beq_comm
  rcases opnd_cases op with h | h | h | h | h | h | h | h | h | h
  all_goals
   rw [h]; simp only [bareN, bareT, bareS, bareB]; simp [hs, toList_nil, hn, Bool.and_assoc, Bool.and_left_comm, Bool.and_comm]
 unfold insV; simp only; rw [← hb]
 cases bareOk op n ty ri rc rn rd <;> cases opB op n ty rc rn rd <;> rfl
theorem rcdck_any (op n : Int) (ty : ByteArray) (ri : Bool) (rc rn rd : ByteArray) (w : World) :
  Calls Tryz.prog 161 #[.agg #[.int .i64 op, .int .i64 n, .string ty, .bool ri, .string rc, .string rn, .string rd]] w fun e w' => e = .returned (.int .i64 (insV ⟨op, n, ty, ⟨ri, rc, rn, rd⟩⟩)) ∧ Below w.heap.size w w' := by
 have B0 := Lib.hid (blk_new w (.cells #[.int .i64 op, .int .i64 n, .string ty, .bool ri, .string rc, .string rn, .string rd] 143)); have AB := Lib.hid ((Below.refl w.heap.size w).alloc (Nat.le_refl _) (.cells #[.int .i64 op, .int .i64 n, .string ty, .bool ri, .string rc, .string rn, .string rd] 143)); have OP := Lib.hid (fun W => roper_any op W); have CN := Lib.hid (fun W => noref_any ri rc rn rd W); have CV := Lib.hid (fun W => arbiterref01_Valid.calls ty _ W rfl); have CR := Lib.hid (fun W => arbiterref02_ParseRef.calls ty _ _ _ W rfl); have CP := Lib.hid (fun W => arbiterref02_Parse.calls ty _ _ _ W rfl); have CF := Lib.hid (fun W => rrefck_any ri rc rn rd W); have K := opnd_cases op; generalize hr : insV ⟨op, n, ty, ⟨ri, rc, rn, rd⟩⟩ = r; rw [rins_eq] at hr; unfold opB rbare wthB at hr; generalize noRefB ri rc rn rd = nr at *; generalize Cd.opnd op = k at *; generalize parseR ty.data.toList = p1 at *; generalize parseT ty.data.toList = p2 at *; generalize refV rc rn rd = fv at *; generalize validB ty = vb at *; obtain ⟨d1, s1, e1⟩ := p1; obtain ⟨d2, s2, e2⟩ := p2; replace hr := Lib.hid hr; go_enter Tryz.func161, Tryz.ntmps161; go_wp2_with fail; refine (OP.out _).mono ?_; rintro e w1 ⟨rfl, rfl⟩
 by_cases h8 : k = 8
 ·subst h8
  clear CN CV CR CP K; go_wp2_with (go_at_call 170; refine (CF.out _).mono ?_; rintro e w2 ⟨rfl, hb2⟩; replace hb2 := Lib.hid (AB.out.trans (hb2.mono AB.out.size)))
  all_goals
   go_ret
  all_goals first
   | exact ⟨by rw [← hr.out]; first | (simp_all; done) | (simp_all; omega), hb2.out⟩
   | exact ⟨by rw [← hr.out]; first | (simp_all; done) | (simp_all; omega), AB.out⟩
 ·have h8b : (k != 8) = true := bne_iff_ne.2 h8
  go_wp2_with fail; refine (CN.out _).mono ?_; rintro e w2 ⟨rfl, hb2⟩; have B2 := Lib.hid (blk_below B0.out hb2); have H2 := Lib.hid (AB.out.trans (hb2.mono AB.out.size)); have q1 : w2.cell? ⟨w.heap.size, 1, none⟩ = some (.int .i64 n) := (blk_cell B2.out 1).trans rfl; have q2 : w2.cell? ⟨w.heap.size, 2, none⟩ = some (.string ty) := (blk_cell B2.out 2).trans rfl; clear CN AB hb2 OP CF
  rcases K with rfl | rfl | rfl | rfl | rfl | rfl | rfl | rfl | rfl | rfl
  case inr.inr.inr.inr.inr.inr.inr.inr.inr => exact absurd rfl h8
  case inr.inr.inr.inr.inr.inl =>
   go_wp2_with (go_at_call 116; refine (CV.out _).mono ?_; rintro e w3 ⟨rfl, hb3⟩; replace hb3 := Lib.hid (H2.out.trans (hb3.mono H2.out.size)))
   all_goals
    go_ret
   all_goals first
    | exact ⟨by rw [← hr.out]; first | (simp_all; done) | (simp_all; omega), hb3.out⟩
    | exact ⟨by rw [← hr.out]; first | (simp_all; done) | (simp_all; omega), H2.out⟩
  case inr.inr.inr.inr.inr.inr.inl =>
   go_wp2_with (go_at_call 168; refine (CR.out _).mono ?_; rintro e w3 ⟨rfl, hb3⟩; replace hb3 := Lib.hid (H2.out.trans (hb3.mono H2.out.size)))
   all_goals
    go_ret
   all_goals first
    | exact ⟨by rw [← hr.out]; first | (simp_all; done) | (simp_all; omega), hb3.out.alloc hb3.out.size _⟩
    | exact ⟨by rw [← hr.out]; first | (simp_all; done) | (simp_all; omega), H2.out⟩
  case inr.inr.inr.inr.inr.inr.inr.inl =>
   go_wp2_with (go_at_call 169; refine (CP.out _).mono ?_; rintro e w3 ⟨rfl, hb3⟩; replace hb3 := Lib.hid (H2.out.trans (hb3.mono H2.out.size)))
   all_goals
    go_ret
   all_goals first
    | exact ⟨by rw [← hr.out]; first | (simp_all; done) | (simp_all; omega), hb3.out.alloc hb3.out.size _⟩
    | exact ⟨by rw [← hr.out]; first | (simp_all; done) | (simp_all; omega), H2.out⟩
  case inr.inr.inr.inr.inr.inr.inr.inr.inl =>
   go_wp2_with (go_at_call 168; refine (CR.out _).mono ?_; rintro e w3 ⟨rfl, hb3⟩; have r1 := cell_allocs (pw_cell_below hb3 q1); replace hb3 := Lib.hid (H2.out.trans (hb3.mono H2.out.size)))
   all_goals
    go_ret
   all_goals first
    | exact ⟨by rw [← hr.out]; first | (simp_all; done) | (simp_all; omega), hb3.out.alloc hb3.out.size _⟩
    | exact ⟨by rw [← hr.out]; first | (simp_all; done) | (simp_all; omega), H2.out⟩
  all_goals
   go_wp2
   all_goals
    go_ret
    exact ⟨by rw [← hr.out]; first | (simp_all; done) | (simp_all; omega), H2.out⟩
end Go.Proofs.YtaipkdglhfhhiaaGreatDoor.Pt

namespace Go.Proofs.YtaipkdglhfhhiaaGreatDoor.Pt
open Go.RowKit Go.Proofs.YtaipkdglhfhhiaaGreatDoorW.PrintWords Go.Proofs.YtaipkdglhfhhiaaGreatDoorW.PrintLast Go.Proofs.YtaipkdglhfhhiaaGreatDoorW.PrintMore
attribute [local go_sem] max2_int min2_int max_two min_two max_three min_three max_four min_four   -- for this text's walks alone
set_option linter.unusedVariables false
set_option linter.unusedSimpArgs false
def arbiterref02_Args.f (k : Nat) (a0 : ByteArray) : Option (Int × Int) := (arbiterref02_ParseDesc.f k a0).bind fun bt117 => (some ((bt117.1.length : Int), bt117.2.2.2.2))
set_option maxHeartbeats 8000000 in
set_option maxRecDepth 100000 in
theorem arbiterref02_Args.calls (k : Nat) (a0 : ByteArray) (r1 : Int) (r2 : Int) (w : World) (h : arbiterref02_Args.f k a0 = some (r1, r2)) :
  Calls Tryz.prog 159 #[.string a0] w fun e w' => e = .returned (.tuple #[.int .i64 r1, .int .i64 r2]) ∧ Below w.heap.size w w' := by
 have hu172 := Tryz.underlying172; have HB := Aside0.mk (Below.refl w.heap.size w); have H : ((arbiterref02_ParseDesc.f k a0).bind fun bt117 => (some ((bt117.1.length : Int), bt117.2.2.2.2))) = some (r1, r2) := h; clear h; replace H := Option.bind_eq_some_iff.mp H; obtain ⟨⟨t117, t120, t121, t122, t123⟩, A20, H⟩ := H; replace H : (some ((t117.length : Int), t123)) = some (r1, r2) := H; have A2 := Aside0.mk A20; clear A20; simp only [Option.some.injEq, Prod.mk.injEq] at H; obtain ⟨rfl, rfl⟩ := H; go_enter Tryz.func159, Tryz.ntmps159; go_wp2_with (first | ((with_reducible refine gate_callee (f := 141) rfl ?_); refine gX (some 8) Tryz.func141 #[.string a0] ?_; (with_reducible refine (arbiterref02_ParseDesc.calls k a0 t117 t120 t121 t122 t123 _ A2.out).mono ?_); rintro e w3 ⟨v118, rfl, ho0, hb⟩; refine ⟨_, rfl, ?_⟩; have n0_ := Aside0.mk (Kd.R_lower ho0 (below_size (bX HB))); have n1_ := Aside0.mk (below_step (bX HB) hb); clear HB; have HO119 := n0_; have HB := n1_; clear n0_ n1_; (try clear hb); (try clear hb2); (try clear hk); (try clear hi); (try clear ho0)) | ((with_reducible refine gate_dst (N := 4) rfl ?_); refine eX 4 #[.slice none 0 0, .bool false, .int .i64 0, .string (⟨#[]⟩ : ByteArray)] 172 ?_; intro gb124 hg w4 hbox hb; have n0_ := Aside0.mk (Kd.R_below (rX HO119) hb); have n1_ := Aside0.mk (below_step (bX HB) hb); have n2_ := Aside0.mk (hbox); have n3_ := Aside0.mk ((by rw [hg]; exact (below_size (bX HB)) : w.heap.size ≤ gb124)); have n4_ := Aside0.mk ((by rw [hg]; exact (below_size (bX HB)) : w.heap.size ≤ gb124)); clear HO119; clear HB; have HO119 := n0_; have HB := n1_; have BK124 := n2_; have GW124 := n3_; have GE124 := n4_; clear n0_ n1_ n2_ n3_ n4_; clear hb hbox hg; obtain ⟨Ao5, co5, eo5⟩ := Kd.R_slice HO119.out; subst eo5; obtain ⟨hcz6_0, hcz6_1, hcz6_2, hcz6_3, hfz6_0, hfz6_1, hfz6_2, hfz6_3⟩ := c4X BK124)); go_ret2
 exact ⟨by first | rfl | (simp [errW_none, errW_some] <;> rfl) | (simp [*, errW_none, errW_some] <;> rfl), bX1 HB GE124⟩
end Go.Proofs.YtaipkdglhfhhiaaGreatDoor.Pt

namespace Go.Proofs.YtaipkdglhfhhiaaGreatDoor.Pt
open Go Go.RowKit Go.Proofs.YtaipkdglhfhhiaaGreatDoor.Nm Go.Proofs.YtaipkdglhfhhiaaGreatDoor.Ty Go.Proofs.YtaipkdglhfhhiaaGreatDoor.Cd Go.Proofs.YtaipkdglhfhhiaaGreatDoorW.PrintWords Go.Proofs.YtaipkdglhfhhiaaGreatDoorW.PrintLast Go.Proofs.YtaipkdglhfhhiaaGreatDoorW.PrintMore
set_option linter.unusedVariables false
set_option linter.unusedSimpArgs false
set_option maxHeartbeats 2000000
set_option maxRecDepth 100000
theorem rargs_any (a0 : ByteArray) (w : World) : Calls Tryz.prog 159 #[.string a0] w fun e w' => e = .returned (.tuple #[.int .i64 ((parseD a0.data.toList).1.args.length : Int), .int .i64 (parseD a0.data.toList).2]) ∧ Below w.heap.size w w' :=
 arbiterref02_Args.calls 5000 a0 _ _ w (by unfold arbiterref02_Args.f; rw [pdesc_f a0 5000 (Nat.le_refl _)]; simp only [Option.bind_some, tup5, List.length_map])
theorem rwords_any (f0 d : ByteArray) (f f3 f4 : Int) (v5 : Value) (h5 : ∃ A n c, v5 = .slice A n c) (w : World) (hp : (parseD d.data.toList).2 = 0) :
  Calls Tryz.prog 142 #[.agg #[.string f0, .string d, .int .i64 f, .int .i64 f3, .int .i64 f4, v5]] w fun e w' => e = .returned (.tuple #[.int .i64 (wordsV d f), .int .i64 0]) ∧ Below w.heap.size w w' := by
 obtain ⟨A, n, c, rfl⟩ := h5; have B0 := Lib.hid (blk_new w (.cells #[.string f0, .string d, .int .i64 f, .int .i64 f3, .int .i64 f4, .slice A n c] 105)); have AB := Lib.hid ((Below.refl w.heap.size w).alloc (Nat.le_refl _) (.cells #[.string f0, .string d, .int .i64 f, .int .i64 f3, .int .i64 f4, .slice A n c] 105)); have C1 := Lib.hid (rargs_any d (w.alloc (.cells #[.string f0, .string d, .int .i64 f, .int .i64 f3, .int .i64 f4, .slice A n c] 105))); have CH := Lib.hid (fun W => Fl.has_any f 8 W); generalize hr : wordsV d f = r; replace hr := Lib.hid hr; unfold wordsV at hr; rw [hp] at C1; clear hp; generalize ((parseD d.data.toList).1.args.length : Int) = m at *; unfold Fl.band at CH; go_enter Tryz.func142, Tryz.ntmps142; go_wp2_with fail; refine C1.out.mono ?_; rintro e w2 ⟨rfl, hb2⟩; have q2 : w2.cell? ⟨w.heap.size, 2, none⟩ = some (.int .i64 f) := (blk_cell (blk_below B0.out hb2) 2).trans rfl; have H2 := Lib.hid (AB.out.trans (hb2.mono AB.out.size)); clear C1 hb2 B0 AB; go_wp2_with fail; refine (CH.out _).mono ?_; rintro e w3 ⟨rfl, rfl⟩
 by_cases h8 : Go.bits .and .i64 f 8 = 0
 ·have hd : (Go.bits .and .i64 f 8 != 0) = false := bne_eq_false_iff_eq.2 h8
  rw [if_pos h8] at hr; clear h8; rw [hd]; go_wp2; go_ret2
  exact ⟨by rw [← hr.out]; rfl, H2.out⟩
 ·have hd : (Go.bits .and .i64 f 8 != 0) = true := bne_iff_ne.2 h8
  rw [if_neg h8] at hr; clear h8; rw [hd]; go_wp2; go_ret2
  exact ⟨by rw [← hr.out]; rfl, H2.out⟩
theorem rfind_any (f0 f1 : ByteArray) (v2 : Value) (f3 f4 : Int) (A5 : Option Addr) (c5 : Nat) (l5 : List S105) (nm ds : ByteArray) (w : World) (h2 : ∃ A n c, v2 = .slice A n c) (hk5 : Kd.C k105 w A5 l5.length l5) (hl : l5.length ≤ 4611686018427387904) :
  Calls Tryz.prog 119 #[.agg #[.string f0, .string f1, v2, .int .i64 f3, .int .i64 f4, .slice A5 l5.length c5], .string nm, .string ds] w fun e w' => e = .returned (.int .i64 (findM 0 l5 nm ds)) ∧ Below w.heap.size w w' := by
 obtain ⟨A2, n2, c2, rfl⟩ := h2; have B0 := Lib.hid (blk_new w (.cells #[.string f0, .string f1, .slice A2 n2 c2, .int .i64 f3, .int .i64 f4, .slice A5 l5.length c5] 85)); have AB := Lib.hid ((Below.refl w.heap.size w).alloc (Nat.le_refl _) (.cells #[.string f0, .string f1, .slice A2 n2 c2, .int .i64 f3, .int .i64 f4, .slice A5 l5.length c5] 85)); have HK := Lib.hid (Kd.C_below hk5 AB.out); clear hk5; go_enter Tryz.func119, Tryz.ntmps119; go_wp2_with fail; have q5 : (w.alloc (.cells #[.string f0, .string f1, .slice A2 n2 c2, .int .i64 f3, .int .i64 f4, .slice A5 l5.length c5] 85)).cell? ⟨w.heap.size, 5, none⟩ = some (.slice A5 l5.length c5) := (blk_cell B0.out 5).trans rfl; change Code.wp _ _ _ _ (w.alloc (.cells #[.string f0, .string f1, .slice A2 n2 c2, .int .i64 f3, .int .i64 f4, .slice A5 l5.length c5] 85)); generalize w.alloc (.cells #[.string f0, .string f1, .slice A2 n2 c2, .int .i64 f3, .int .i64 f4, .slice A5 l5.length c5] 85) = W at *
 go_loop [7] (fun v7 => ∃ j : Nat, j ≤ l5.length ∧ v7 = .int .i64 j ∧ Hid (findM 0 l5 nm ds = findM j (l5.drop j) nm ds)) (fun v7 => l5.length - (intOf v7).toNat)
 case atStart => exact ⟨0, Nat.zero_le _, rfl, Lib.hid rfl⟩
 case round =>
  obtain ⟨j, hj, rfl, HT⟩ := hrel
  by_cases hlt : j < l5.length
  ·have hjd : decide (j < l5.length) = true := decide_eq_true hlt
   have hst := Lib.hid (HT.out.trans (findM_step l5 j hlt nm ds)); obtain ⟨ad, A6, c6, rfl, p0, p1, p2, p3, p4, p5, hc6, K6⟩ := at_T105 HK.out (j : Int) (by omega) (by omega); rw [Int.toNat_natCast] at p0 p1 p2 p3 p4 p5; clear K6 p2 p3 p4 p5 HT; have hs : Hid (sameM (rd_T105 l5 (j : Int)) nm ds = (((rd_T105 l5 (j : Int)).f0.toList == nm.toList) && ((rd_T105 l5 (j : Int)).f1.toList == ds.toList))) := Lib.hid rfl; generalize sameM (rd_T105 l5 (j : Int)) nm ds = sm at *; generalize rd_T105 l5 (j : Int) = x at *
   cases e1 : (x.f0.toList == nm.toList)
   ·have h := hs.out
    rw [e1, Bool.false_and] at h; subst h; go_wp2
    exact ⟨⟨j + 1, by omega, by push_cast; rfl, hst⟩, by simp [intOf]; omega⟩
   ·have h := hs.out
    rw [e1, Bool.true_and] at h
    cases e2 : (x.f1.toList == ds.toList)
    ·rw [e2] at h
     subst h; go_wp2
     exact ⟨⟨j + 1, by omega, by push_cast; rfl, hst⟩, by simp [intOf]; omega⟩
    ·rw [e2] at h
     subst h; go_wp2; go_ret
     exact ⟨by rw [hst.out]; rfl, AB.out⟩
  ·have hjd : decide (j < l5.length) = false := decide_eq_false hlt
   have h1 := HT.out; rw [findM_end _ _ (by omega)] at h1; go_wp2; go_ret
   exact ⟨rfl, AB.out⟩
theorem rcode_any (A : Option Addr) (c : Nat) (l : List S143) (a : Int) (w : World) (hk : Kd.C k143 w A l.length l) (hc : l.length ≤ c) :
  Calls Tryz.prog 143 #[.slice A l.length c, .int .i64 a] w fun e w' => e = .returned (.int .i64 (if codeB l a = true then 0 else 1)) ∧ Below w.heap.size w w' := by
 have HK := Lib.hid hk; have hmx := Kd.C_max hk; clear hk; generalize hr : (if codeB l a = true then (0 : Int) else 1) = r; replace hr := Lib.hid hr; unfold codeB wthB at hr
 by_cases h1 : (l.length : Int) < 1
 ·have d1 : decide ((l.length : Int) < 1) = true := decide_eq_true h1
  have h := hr.out; rw [decide_eq_false (show ¬ (1 : Int) ≤ l.length by omega)] at h; simp at h; subst h; clear h1; go_enter Tryz.func143, Tryz.ntmps143; go_wp2; go_ret
  exact ⟨rfl, Below.refl _ _⟩
 ·have d1 : decide ((l.length : Int) < 1) = false := decide_eq_false h1
  rw [decide_eq_true (show (1 : Int) ≤ l.length by omega), Bool.true_and] at hr
  by_cases h2 : (l.length : Int) > 200
  ·have d2 : decide ((l.length : Int) > 200) = true := decide_eq_true h2
   have h := hr.out; rw [decide_eq_false (show ¬ (l.length : Int) ≤ 200 by omega)] at h; simp at h; subst h; clear h1 h2; go_enter Tryz.func143, Tryz.ntmps143; go_wp2; go_ret
   exact ⟨rfl, Below.refl _ _⟩
  ·have d2 : decide ((l.length : Int) > 200) = false := decide_eq_false h2
   rw [decide_eq_true (show (l.length : Int) ≤ 200 by omega), Bool.true_and] at hr; go_enter Tryz.func143, Tryz.ntmps143; go_wp2_with fail
   go_loopw [5] (fun v5 wr => ∃ j : Nat, j ≤ l.length ∧ v5 = .int .i64 j ∧ Hid ((l.take j).all (fun x => insOk x a l.length) = true) ∧ Hid (Below w.heap.size w wr)) (fun v5 _ => l.length - (intOf v5).toNat)
   case atStart => exact ⟨0, Nat.zero_le _, rfl, Lib.hid (by simp), Lib.hid (Below.refl _ _)⟩
   case round =>
    obtain ⟨j, hj, rfl, HT, HB⟩ := hrel
    by_cases hlt : j < l.length
    ·have hjd : decide (j < l.length) = true := decide_eq_true hlt
     obtain ⟨ad, rfl, p0, p1, p2, p3, p4, p5, p6⟩ := at_T143 (Kd.C_below HK.out HB.out) (j : Int) (by omega) (by omega); have hx := rd83 hlt; rw [Int.toNat_natCast] at p0 p1 p2 p3 p4 p5 p6; have OPc := Lib.hid (fun W => roper_any (rd_T143 l (j : Int)).f0 W); have CK := Lib.hid (fun W => rcdck_any (rd_T143 l (j : Int)).f0 (rd_T143 l (j : Int)).f1 (rd_T143 l (j : Int)).f2 (rd_T143 l (j : Int)).f3.f0 (rd_T143 l (j : Int)).f3.f1 (rd_T143 l (j : Int)).f3.f2 (rd_T143 l (j : Int)).f3.f3 W); generalize rd_T143 l (j : Int) = x at *; have hV : Hid (insOk x a l.length = (insV x == 0 && (!(opnd x.f0 == 2 && decide (a ≤ x.f1)) && !(opnd x.f0 == 3 && decide ((l.length : Int) ≤ x.f1))))) := Lib.hid rfl; have hbad : Hid (insOk x a l.length = false → (1 : Int) = r) := Lib.hid (fun h => by rw [← hr.out, bad_all hx h]; rfl); have hgood : Hid (insOk x a l.length = true → (l.take (j + 1)).all (fun x => insOk x a l.length) = true) := Lib.hid (fun h => all_take hx h HT.out); clear hx; generalize insOk x a l.length = ok at *; obtain ⟨x0, x1, x2, ⟨x3, x4, x5, x6⟩⟩ := x; simp only at hV OPc CK p0 p1 p2 p3 p4 p5 p6; generalize insV ⟨x0, x1, x2, ⟨x3, x4, x5, x6⟩⟩ = iv at *; generalize opnd x0 = kk at *; clear HT; go_wp2_with fail; refine (OPc.out _).mono ?_; rintro e w3 ⟨rfl, rfl⟩; go_wp2_with fail; refine (CK.out _).mono ?_; rintro e w4 ⟨rfl, hb4⟩; have q1 := pw_cell_below hb4 p1; have H4 := Lib.hid (HB.out.trans (hb4.mono HB.out.size)); clear hb4 HB CK OPc p0 p1 p2 p3 p4 p5 p6; have hend : Hid (ok = true → ∃ j' : Nat, j' ≤ l.length ∧ (Value.int .i64 ((j : Int) + 1)) = .int .i64 j' ∧ Hid ((l.take j').all (fun x => insOk x a l.length) = true) ∧ Hid (Below w.heap.size w w4)) := Lib.hid (fun h => ⟨j + 1, by omega, by push_cast; rfl, Lib.hid (hgood.out h), H4⟩)
     by_cases hi : iv = 0
     ·subst hi
      by_cases h2 : kk = 2
      ·subst h2
       by_cases h3 : a ≤ x1
       ·have hd : decide (a ≤ x1) = true := decide_eq_true h3
        have hok := hV.out; simp [hd] at hok; obtain rfl := hbad.out hok; clear h3; go_wp2; go_ret
        exact ⟨rfl, H4.out⟩
       ·have hd : decide (a ≤ x1) = false := decide_eq_false h3
        have hok := hV.out; simp [hd] at hok; clear h3; go_wp2
        exact ⟨hend.out hok, by simp [intOf]; omega⟩
      ·have hk2 : (kk == 2) = false := beq_eq_false_iff_ne.2 h2
       by_cases h3 : kk = 3
       ·subst h3
        by_cases h4 : (l.length : Int) ≤ x1
        ·have hd : decide ((l.length : Int) ≤ x1) = true := decide_eq_true h4
         have hok := hV.out; simp [hd] at hok; obtain rfl := hbad.out hok; clear h4 h2; go_wp2; go_ret
         exact ⟨rfl, H4.out⟩
        ·have hd : decide ((l.length : Int) ≤ x1) = false := decide_eq_false h4
         have hok := hV.out; simp [hd] at hok; clear h4 h2; go_wp2
         exact ⟨hend.out hok, by simp [intOf]; omega⟩
       ·have hk3 : (kk == 3) = false := beq_eq_false_iff_ne.2 h3
        have hok := hV.out; rw [hk2, hk3] at hok; simp at hok; clear h2 h3; go_wp2
        exact ⟨hend.out hok, by simp [intOf]; omega⟩
     ·have hne : (iv != 0) = true := bne_iff_ne.2 hi
      have hok := hV.out; rw [show (iv == 0) = false from beq_eq_false_iff_ne.2 hi, Bool.false_and] at hok; obtain rfl := hbad.out hok; clear hi; go_wp2; go_ret
      exact ⟨rfl, H4.out⟩
    ·have hjd : decide (j < l.length) = false := decide_eq_false hlt
     have e1 : j = l.length := by omega
     subst e1; have h1 := HT.out; rw [List.take_length] at h1; have h2 := hr.out; rw [h1] at h2; simp at h2; subst h2; clear h1; go_wp2; go_ret
     exact ⟨rfl, HB.out⟩
theorem mfl_eq (f : Int) (hf : Fl.inR f) (b : Bool) (s : ByteArray) : mflV f b s = Fl.rcheckMethod f b (s.toList == [60, 105, 110, 105, 116, 62]) := Fl.checkMethod_eq f hf b _
theorem cls_eq (f : Int) (hf : Fl.inR f) : clsV f = Fl.rcheckClass f := Fl.checkClass_eq f hf
theorem rmeth_any (f0 f1 : ByteArray) (f2 f3 f4 : Int) (A : Option Addr) (c : Nat) (l : List S143) (b : Bool) (w : World) (hk : Kd.C k143 w A l.length l) (hc : l.length ≤ c) (hf2 : Fl.inR f2) :
  Calls Tryz.prog 118 #[.agg #[.string f0, .string f1, .int .i64 f2, .int .i64 f3, .int .i64 f4, .slice A l.length c], .bool b] w fun e w' => e = .returned (.bool (methB ⟨f0, f1, f2, f3, f4, l⟩ b)) ∧ Below w.heap.size w w' := by
 have B0 := Lib.hid (blk_new w (.cells #[.string f0, .string f1, .int .i64 f2, .int .i64 f3, .int .i64 f4, .slice A l.length c] 105)); have AB := Lib.hid ((Below.refl w.heap.size w).alloc (Nat.le_refl _) (.cells #[.string f0, .string f1, .int .i64 f2, .int .i64 f3, .int .i64 f4, .slice A l.length c] 105)); have CM := Lib.hid (arbiterref01_Member.calls f0 _ (w.alloc (.cells #[.string f0, .string f1, .int .i64 f2, .int .i64 f3, .int .i64 f4, .slice A l.length c] 105)) rfl); have CF := Lib.hid (fun W => Fl.rcheckMethod_any f2 b f0 W); have C1 := Lib.hid (fun W => rpdesc_any f1 W); have CH := Lib.hid (fun W => Fl.has_any f2 1024 W); have CW := Lib.hid (fun (W : World) (hp : (parseD f1.data.toList).2 = 0) => rwords_any f0 f1 f2 f3 f4 (.slice A l.length c) ⟨_, _, _, rfl⟩ W hp); have CC := Lib.hid (fun (W : World) (hb : Below w.heap.size w W) => rcode_any A c l f3 W (Kd.C_below hk hb) hc); clear hk; generalize hr : methB ⟨f0, f1, f2, f3, f4, l⟩ b = r; replace hr := Lib.hid hr; unfold methB badV at hr; simp only at hr; rw [mfl_eq f2 hf2] at hr; generalize Fl.rcheckMethod f2 b (f0.toList == [60, 105, 110, 105, 116, 62]) = mf at *; generalize wordsV f1 f2 = wd at *; generalize codeB l f3 = cb at *; generalize memberB f0 = mb at *; generalize parseD f1.data.toList = pd at *; unfold Fl.band at CH; obtain ⟨dr, e1⟩ := pd; obtain ⟨ar, vd, rd, rn⟩ := dr; simp only at hr CW C1; go_enter Tryz.func118, Tryz.ntmps118; go_wp2_with fail; refine CM.out.mono ?_; rintro e w1 ⟨rfl, hb1⟩; have B1 := Lib.hid (blk_below B0.out hb1); have H1 := Lib.hid (AB.out.trans (hb1.mono AB.out.size)); clear CM hb1 B0 AB
 cases mb with
 | false =>
  have h := hr.out; simp at h; subst h; go_wp2; go_ret
  exact ⟨rfl, H1.out⟩
 | true =>
  have q0 : w1.cell? ⟨w.heap.size, 0, none⟩ = some (.string f0) := (blk_cell B1.out 0).trans rfl; have q2 : w1.cell? ⟨w.heap.size, 2, none⟩ = some (.int .i64 f2) := (blk_cell B1.out 2).trans rfl; go_wp2_with fail; refine (CF.out _).mono ?_; rintro e w2 ⟨rfl, hb2⟩; have B2 := Lib.hid (blk_below B1.out hb2); have H2 := Lib.hid (H1.out.trans (hb2.mono H1.out.size)); clear CF hb2 B1 H1 q0 q2
  by_cases hm : mf = 0
  ·subst hm
   have q1 : w2.cell? ⟨w.heap.size, 1, none⟩ = some (.string f1) := (blk_cell B2.out 1).trans rfl; go_wp2_with fail; refine (C1.out _).mono ?_; rintro e w3 ⟨v0, rfl, R0, hb3⟩
   obtain ⟨A0, n0, c0, rfl⟩ : ∃ A n c, v0 = .slice A n c := by
    obtain ⟨A0, c0, e⟩ := Kd.R_slice R0
    exact ⟨_, _, _, e⟩
   have B3 := Lib.hid (blk_below B2.out hb3); have H3 := Lib.hid (H2.out.trans (hb3.mono H2.out.size)); clear C1 R0 hb3 B2 H2 q1; have D4 := Lib.hid (blk_new w3 (.cells #[.slice A0 n0 c0, .bool vd, .int .i64 rd, .string (bs rn)] 172)); have B4 := Lib.hid (blk_below B3.out ((Below.refl _ _).alloc (Nat.le_refl _) (.cells #[.slice A0 n0 c0, .bool vd, .int .i64 rd, .string (bs rn)] 172))); have H4 := Lib.hid (H3.out.alloc H3.out.size (.cells #[.slice A0 n0 c0, .bool vd, .int .i64 rd, .string (bs rn)] 172))
   go_upto_region 4 with (fail)
   change Code.wp _ _ _ _ (w3.alloc (.cells #[.slice A0 n0 c0, .bool vd, .int .i64 rd, .string (bs rn)] 172)); generalize w3.alloc (.cells #[.slice A0 n0 c0, .bool vd, .int .i64 rd, .string (bs rn)] 172) = W at *; clear B3 H3
   go_cut [1, 2, 39] (fun v1 v2 v39 wr => v1 = .bool b ∧ v2 = .pointer (some ⟨w.heap.size, 0, none⟩) ∧ v39 = .bool (!(e1 == 0) || ((f0.toList == ([60, 105, 110, 105, 116, 62] : List UInt8)) && !vd)) ∧ Hid (wr.heap[w.heap.size]? = some (.cells #[.string f0, .string f1, .int .i64 f2, .int .i64 f3, .int .i64 f4, .slice A l.length c] 105 (0, 0))) ∧ Hid (Below w.heap.size w wr))
   case first =>
    have q0 : W.cell? ⟨w.heap.size, 0, none⟩ = some (.string f0) := (blk_cell B4.out 0).trans rfl; have r1 : W.cell? ⟨w3.heap.size, 1, none⟩ = some (.bool vd) := (blk_cell D4.out 1).trans rfl
    by_cases h1 : e1 = 0
    ·subst h1
     cases hi : (f0.toList == ([60, 105, 110, 105, 116, 62] : List UInt8)) with
     | false =>
      go_wp2; go_meet
      case rel => exact ⟨rfl, rfl, by rw [hi]; cases vd <;> rfl, B4, H4⟩
     | true =>
      go_wp2; go_meet
      case rel => exact ⟨rfl, rfl, by rw [hi]; cases vd <;> rfl, B4, H4⟩
    ·have hne : (e1 != 0) = true := bne_iff_ne.2 h1
     have he : (e1 == 0) = false := beq_eq_false_iff_ne.2 h1; go_wp2; go_meet
     case rel => exact ⟨rfl, rfl, by rw [he]; rfl, B4, H4⟩
   case rest =>
    clear B4 D4 H4; obtain ⟨rfl, rfl, rfl, B4, H4⟩ := hcut; have hor : Hid ((!(e1 == 0) || (false || ((f0.toList == ([60, 105, 110, 105, 116, 62] : List UInt8)) && !vd))) = (!(e1 == 0) || ((f0.toList == ([60, 105, 110, 105, 116, 62] : List UInt8)) && !vd))) := Lib.hid (by rw [Bool.false_or]); rw [Bool.not_true, hor.out] at hr
    cases hbad : (!(e1 == 0) || ((f0.toList == ([60, 105, 110, 105, 116, 62] : List UInt8)) && !vd)) with
    | true =>
     rw [hbad] at hr; have h := hr.out; simp at h; subst h; go_wp2; go_ret
     exact ⟨rfl, H4.out⟩
    | false =>
     have he1 : e1 = 0 := by
      cases h : (e1 == 0) with
      | true => exact beq_iff_eq.1 h
      | false => rw [h] at hbad; simp at hbad
     rw [hbad, Bool.not_false, Bool.true_and, beq_self_eq_true, Bool.true_and] at hr; clear hbad hor; have q2 : wc.cell? ⟨w.heap.size, 2, none⟩ = some (.int .i64 f2) := (blk_cell B4.out 2).trans rfl; have q3 : wc.cell? ⟨w.heap.size, 3, none⟩ = some (.int .i64 f3) := (blk_cell B4.out 3).trans rfl; have q4 : wc.cell? ⟨w.heap.size, 4, none⟩ = some (.int .i64 f4) := (blk_cell B4.out 4).trans rfl; have q5 : wc.cell? ⟨w.heap.size, 5, none⟩ = some (.slice A l.length c) := (blk_cell B4.out 5).trans rfl; go_wp2_with fail; refine (CH.out _).mono ?_; rintro e w5 ⟨rfl, rfl⟩
     by_cases ha : Go.bits .and .i64 f2 1024 = 0
     ·have ha2 : (Go.bits .and .i64 f2 1024 != 0) = false := bne_eq_false_iff_eq.2 ha
      rw [if_pos ha] at hr; rw [ha2]; have q0 : w5.cell? ⟨w.heap.size, 0, none⟩ = some (.string f0) := (blk_cell B4.out 0).trans rfl; have q1 : w5.cell? ⟨w.heap.size, 1, none⟩ = some (.string f1) := (blk_cell B4.out 1).trans rfl; have C3 := Lib.hid (CW.out w5 he1); clear ha ha2 CW he1 CH; go_wp2_with fail; refine C3.out.mono ?_; rintro e w6 ⟨rfl, hb6⟩; have B5 := Lib.hid (blk_below B4.out hb6); have H5 := Lib.hid (H4.out.trans (hb6.mono H4.out.size)); have C4 := Lib.hid (CC.out w6 H5.out); clear hb6 B4 H4 q0 q1 q2 q3 q4 q5 C3 CC; have q3 : w6.cell? ⟨w.heap.size, 3, none⟩ = some (.int .i64 f3) := (blk_cell B5.out 3).trans rfl; have q4 : w6.cell? ⟨w.heap.size, 4, none⟩ = some (.int .i64 f4) := (blk_cell B5.out 4).trans rfl; have q5 : w6.cell? ⟨w.heap.size, 5, none⟩ = some (.slice A l.length c) := (blk_cell B5.out 5).trans rfl
      by_cases d3 : f4 < 0
      ·have d3b : decide (f4 < 0) = true := decide_eq_true d3
       have h := hr.out; rw [show decide (0 ≤ f4) = false from decide_eq_false (by omega)] at h; simp at h; subst h; clear d3; go_wp2; go_ret
       exact ⟨rfl, H5.out⟩
      ·have d3b : decide (f4 < 0) = false := decide_eq_false d3
       rw [show decide (0 ≤ f4) = true from decide_eq_true (by omega), Bool.true_and] at hr; clear d3
       by_cases d4 : f4 > 40
       ·have d4b : decide (f4 > 40) = true := decide_eq_true d4
        have h := hr.out; rw [show decide (f4 ≤ 40) = false from decide_eq_false (by omega)] at h; simp at h; subst h; clear d4; go_wp2; go_ret
        exact ⟨rfl, H5.out⟩
       ·have d4b : decide (f4 > 40) = false := decide_eq_false d4
        rw [show decide (f4 ≤ 40) = true from decide_eq_true (by omega), Bool.true_and] at hr; clear d4
        by_cases d1 : f3 < wd
        ·have d1b : decide (f3 < wd) = true := decide_eq_true d1
         have h := hr.out; rw [show decide (wd ≤ f3) = false from decide_eq_false (by omega)] at h; simp at h; subst h; clear d1; go_wp2; go_ret
         exact ⟨rfl, H5.out⟩
        ·have d1b : decide (f3 < wd) = false := decide_eq_false d1
         rw [show decide (wd ≤ f3) = true from decide_eq_true (by omega), Bool.true_and] at hr; clear d1
         by_cases d2 : f3 > 40
         ·have d2b : decide (f3 > 40) = true := decide_eq_true d2
          have h := hr.out; rw [show decide (f3 ≤ 40) = false from decide_eq_false (by omega)] at h; simp at h; subst h; clear d2; go_wp2; go_ret
          exact ⟨rfl, H5.out⟩
         ·have d2b : decide (f3 > 40) = false := decide_eq_false d2
          rw [show decide (f3 ≤ 40) = true from decide_eq_true (by omega), Bool.true_and] at hr; clear d2; go_wp2_with fail; refine C4.out.mono ?_; rintro e w7 ⟨rfl, hb7⟩; have H6 := Lib.hid (H5.out.trans (hb7.mono H5.out.size)); clear C4 hb7 H5 B5 q3 q4 q5
          cases cb
          all_goals
           have h := hr.out; subst h; go_wp2; go_ret
           exact ⟨rfl, H6.out⟩
     ·have ha2 : (Go.bits .and .i64 f2 1024 != 0) = true := bne_iff_ne.2 ha
      rw [if_neg ha] at hr; rw [ha2]; clear ha CW CC he1
      cases d1 : (f3 == 0) with
      | false =>
       rw [d1] at hr; have h := hr.out; simp at h; subst h; go_wp2; go_ret
       exact ⟨rfl, H4.out⟩
      | true =>
       cases d2 : (f4 == 0) with
       | false =>
        rw [d1, d2] at hr; have h := hr.out; simp at h; subst h; go_wp2; go_ret
        exact ⟨rfl, H4.out⟩
       | true =>
        rw [d1, d2, Bool.true_and, Bool.true_and] at hr; have h := hr.out; subst h; go_wp2; go_ret
        exact ⟨rfl, H4.out⟩
  ·have hne : (mf != 0) = true := bne_iff_ne.2 hm
   have h := hr.out; rw [show (mf == 0) = false from beq_eq_false_iff_ne.2 hm] at h; simp at h; subst h; go_wp2; go_ret
   exact ⟨rfl, H2.out⟩
end Go.Proofs.YtaipkdglhfhhiaaGreatDoor.Pt

namespace Go.Proofs.YtaipkdglhfhhiaaGreatDoor.Pt
open Go Go.RowKit Go.Proofs.YtaipkdglhfhhiaaGreatDoor.Nm Go.Proofs.YtaipkdglhfhhiaaGreatDoor.Ty Go.Proofs.YtaipkdglhfhhiaaGreatDoorW.PrintWords Go.Proofs.YtaipkdglhfhhiaaGreatDoorW.PrintLast Go.Proofs.YtaipkdglhfhhiaaGreatDoorW.PrintMore
set_option linter.unusedVariables false
set_option linter.unusedSimpArgs false
def inRB (f : Int) : Bool := decide (-9223372036854775808 ≤ f) && decide (f ≤ 9223372036854775807)
theorem inRB_iff {f : Int} : inRB f = true ↔ Fl.inR f := by simp [inRB, Fl.inR]
def arbiterref05_method.f (a0_0 : ByteArray) (a0_1 : ByteArray) (a0_2 : Int) (a0_3 : Int) (a0_4 : Int) (l0_5 : List (S143)) (a1 : Bool) : Option Bool := if inRB a0_2 = true then some (methB ⟨a0_0, a0_1, a0_2, a0_3, a0_4, l0_5⟩ a1) else none
theorem arbiterref05_method.calls (a0_0 : ByteArray) (a0_1 : ByteArray) (a0_2 : Int) (a0_3 : Int) (a0_4 : Int) (A0_5 : Option Addr) (c0_5 : Nat) (l0_5 : List (S143)) (a1 : Bool) (r : Bool) (w : World) (hr0_5 : Kd.C k143 w A0_5 l0_5.length l0_5) (hc0_5 : l0_5.length ≤ c0_5) (h : arbiterref05_method.f a0_0 a0_1 a0_2 a0_3 a0_4 l0_5 a1 = some r) :
  Calls Tryz.prog 118 #[.agg #[.string a0_0, .string a0_1, .int .i64 a0_2, .int .i64 a0_3, .int .i64 a0_4, .slice A0_5 l0_5.length c0_5], .bool a1] w fun e w' => e = .returned (.bool r) ∧ Below w.heap.size w w' := by
 unfold arbiterref05_method.f at h; obtain ⟨hl, h⟩ := if_some h; obtain rfl := Option.some.inj h
 exact rmeth_any _ _ _ _ _ _ _ _ _ w hr0_5 hc0_5 (inRB_iff.1 hl)
def arbiterref05_Find.f (a0_0 : ByteArray) (a0_1 : ByteArray) (l0_2 : List ByteArray) (a0_3 : Int) (a0_4 : Int) (l0_5 : List (S105)) (a1 : ByteArray) (a2 : ByteArray) : Option Int := if l0_5.length ≤ 4611686018427387904 then some (findM 0 l0_5 a1 a2) else none
theorem arbiterref05_Find.calls (a0_0 : ByteArray) (a0_1 : ByteArray) (A0_2 : Option Addr) (c0_2 : Nat) (l0_2 : List ByteArray) (a0_3 : Int) (a0_4 : Int) (A0_5 : Option Addr) (c0_5 : Nat) (l0_5 : List (S105)) (a1 : ByteArray) (a2 : ByteArray) (r : Int) (w : World) (hr0_2 : Kd.C Kd.string w A0_2 l0_2.length l0_2) (hc0_2 : l0_2.length ≤ c0_2) (hr0_5 : Kd.C k105 w A0_5 l0_5.length l0_5) (hc0_5 : l0_5.length ≤ c0_5) (h : arbiterref05_Find.f a0_0 a0_1 l0_2 a0_3 a0_4 l0_5 a1 a2 = some r) :
  Calls Tryz.prog 119 #[.agg #[.string a0_0, .string a0_1, .slice A0_2 l0_2.length c0_2, .int .i64 a0_3, .int .i64 a0_4, .slice A0_5 l0_5.length c0_5], .string a1, .string a2] w fun e w' => e = .returned (.int .i64 r) ∧ Below w.heap.size w w' := by
 unfold arbiterref05_Find.f at h; obtain ⟨hl, h⟩ := if_some h; obtain rfl := Option.some.inj h
 exact rfind_any _ _ _ _ _ _ _ _ _ _ w ⟨_, _, _, rfl⟩ hr0_5 hl
end Go.Proofs.YtaipkdglhfhhiaaGreatDoor.Pt

namespace Go.Proofs.YtaipkdglhfhhiaaGreatDoor.Pt
open Go.RowKit Go.Proofs.YtaipkdglhfhhiaaGreatDoorW.PrintWords Go.Proofs.YtaipkdglhfhhiaaGreatDoorW.PrintLast Go.Proofs.YtaipkdglhfhhiaaGreatDoorW.PrintMore
attribute [local go_sem] max2_int min2_int max_two min_two max_three min_three max_four min_four   -- for this text's walks alone
set_option linter.unusedVariables false
set_option linter.unusedSimpArgs false
mutual
def arbiterref05_Check.j0 : Nat → Bool → ByteArray → ByteArray → List ByteArray → Int → Int → List (S105) → Option (Int)
 | 0, _, _, _, _, _, _, _ => none
 | k + 1, x23, x126000, x126001, x126002, x126003, x126004, x126005 => if x23 = true then (some 1) else (if (x126002.length : Int) > 20 then (arbiterref05_Check.j1 k true x126000 x126001 x126002 x126003 x126004 x126005) else (if (x126005.length : Int) > 40 then (arbiterref05_Check.j1 k true x126000 x126001 x126002 x126003 x126004 x126005) else (if x126004 < 0 then (arbiterref05_Check.j1 k true x126000 x126001 x126002 x126003 x126004 x126005) else (if x126004 > 9 then (arbiterref05_Check.j1 k true x126000 x126001 x126002 x126003 x126004 x126005) else ((arbiterref03_CheckClass.f x126003).bind fun t128 => (arbiterref05_Check.j1 k (t128 != 0) x126000 x126001 x126002 x126003 x126004 x126005))))))
def arbiterref05_Check.j1 : Nat → Bool → ByteArray → ByteArray → List ByteArray → Int → Int → List (S105) → Option (Int)
 | 0, _, _, _, _, _, _, _ => none
 | k + 1, x49, x126000, x126001, x126002, x126003, x126004, x126005 => if x49 = true then (some 1) else (arbiterref05_Check.l0 k 0 x126000 x126001 x126002 x126003 x126004 x126005)
def arbiterref05_Check.l0 : Nat → Int → ByteArray → ByteArray → List ByteArray → Int → Int → List (S105) → Option (Int)
 | 0, _, _, _, _, _, _, _ => none
 | k + 1, x3, x126000, x126001, x126002, x126003, x126004, x126005 => if x3 < (x126002.length : Int) then (if 0 ≤ x3 then ((arbiterref01_Valid.f (rdOf ByteArray.empty x126002 x3)).bind fun t130 => (if t130 = true then (arbiterref05_Check.j3 k x3 ((rdOf ByteArray.empty x126002 x3).toList == x126000.toList) x126000 x126001 x126002 x126003 x126004 x126005) else (arbiterref05_Check.j3 k x3 true x126000 x126001 x126002 x126003 x126004 x126005))) else (none)) else (arbiterref05_Check.l2 k 0 x126000 x126001 x126002 x126003 x126004 x126005)
def arbiterref05_Check.j3 : Nat → Int → Bool → ByteArray → ByteArray → List ByteArray → Int → Int → List (S105) → Option (Int)
 | 0, _, _, _, _, _, _, _, _ => none
 | k + 1, x3, x73, x126000, x126001, x126002, x126003, x126004, x126005 => if x73 = true then (some 1) else (arbiterref05_Check.l1 k x3 0 x126000 x126001 x126002 x126003 x126004 x126005)
def arbiterref05_Check.l1 : Nat → Int → Int → ByteArray → ByteArray → List ByteArray → Int → Int → List (S105) → Option (Int)
 | 0, _, _, _, _, _, _, _, _ => none
 | k + 1, x3, x4, x126000, x126001, x126002, x126003, x126004, x126005 => if x4 < x3 then (if 0 ≤ x3 then (if x3 < (x126002.length : Int) then (if 0 ≤ x4 then (if x4 < (x126002.length : Int) then (if (rdOf ByteArray.empty x126002 x3).toList = (rdOf ByteArray.empty x126002 x4).toList then (some 1) else (arbiterref05_Check.l1 k x3 (wrap64 (x4 + 1)) x126000 x126001 x126002 x126003 x126004 x126005)) else (none)) else (none)) else (none)) else (none)) else (arbiterref05_Check.l0 k (wrap64 (x3 + 1)) x126000 x126001 x126002 x126003 x126004 x126005)
def arbiterref05_Check.l2 : Nat → Int → ByteArray → ByteArray → List ByteArray → Int → Int → List (S105) → Option (Int)
 | 0, _, _, _, _, _, _, _ => none
 | k + 1, x5, x126000, x126001, x126002, x126003, x126004, x126005 => if x5 < (x126005.length : Int) then (if 0 ≤ x5 then ((arbiterref03_Has.f x126003 512).bind fun t136 => ((arbiterref05_method.f ((rd_T105 x126005 x5).f0) ((rd_T105 x126005 x5).f1) ((rd_T105 x126005 x5).f2) ((rd_T105 x126005 x5).f3) ((rd_T105 x126005 x5).f4) ((rd_T105 x126005 x5).f5) t136).bind fun t137 => (if t137 = true then ((arbiterref05_Find.f x126000 x126001 x126002 x126003 x126004 x126005 ((rd_T105 x126005 x5).f0) ((rd_T105 x126005 x5).f1)).bind fun t138 => (if t138 = x5 then (arbiterref05_Check.l2 k (wrap64 (x5 + 1)) x126000 x126001 x126002 x126003 x126004 x126005) else (some 1))) else (some 1)))) else (none)) else (some 0)
end
def arbiterref05_Check.f (k : Nat) (a0_0 : ByteArray) (a0_1 : ByteArray) (l0_2 : List ByteArray) (a0_3 : Int) (a0_4 : Int) (l0_5 : List (S105)) : Option (Int) := (arbiterref01_Valid.f a0_0).bind fun t126 => (if t126 = true then ((arbiterref01_Valid.f a0_1).bind fun t127 => (if t127 = true then (arbiterref05_Check.j0 k (a0_0.toList == a0_1.toList) a0_0 a0_1 l0_2 a0_3 a0_4 l0_5) else (arbiterref05_Check.j0 k true a0_0 a0_1 l0_2 a0_3 a0_4 l0_5))) else (arbiterref05_Check.j0 k true a0_0 a0_1 l0_2 a0_3 a0_4 l0_5))
def arbiterref05_Check.T8 : Bool × List (List Nat × List Nat) := (true, [([], []), ([0], [0]), ([], []), ([1, 2], [1, 2]), ([3], [3]), ([4], [4]), ([5], [5]), ([6, 5], [6]), ([7], [7]), ([8, 7], [7, 8]), ([7], [7]), ([9, 10, 7], [7, 9, 10]), ([11, 7], [7, 11]), ([7], [7]), ([13, 7], [7, 13]), ([12, 14, 7], [7, 12, 14]), ([7, 15], [7, 15])])
def arbiterref05_Check.B8 : List Nat := [0, 1, 0, 7, 15, 31, 63, 127, 255, 511, 255, 2047, 4095, 255, 8447, 32767, 65535]
theorem arbiterref05_Check.tab8 : rtab .any (opsOf Tryz.f90 8) = arbiterref05_Check.T8 := by kernel_rfl
theorem arbiterref05_Check.bits8 : waitsOk arbiterref05_Check.T8.2 arbiterref05_Check.B8 = true := by kernel_rfl
def arbiterref05_Check.T13 : Bool × List (List Nat × List Nat) := (true, [([], []), ([0], [0]), ([], []), ([1, 2], [1, 2]), ([3], [3]), ([], []), ([5], [5]), ([], []), ([6, 7], [6, 7]), ([8], [8]), ([4, 9], [4, 9])])
def arbiterref05_Check.B13 : List Nat := [0, 1, 0, 7, 15, 0, 32, 0, 224, 480, 1023]
theorem arbiterref05_Check.tab13 : rtab .any (opsOf Tryz.f90 13) = arbiterref05_Check.T13 := by kernel_rfl
theorem arbiterref05_Check.bits13 : waitsOk arbiterref05_Check.T13.2 arbiterref05_Check.B13 = true := by kernel_rfl
def arbiterref05_Check.T19 : Bool × List (List Nat × List Nat) := (true, [([], []), ([], []), ([1], [1]), ([2], [2]), ([0, 3, 3], [0, 3]), ([4], [4]), ([5, 4], [5]), ([6], [6]), ([6], [6]), ([8, 6], [6, 8]), ([6], [6]), ([10, 6], [6, 10]), ([7, 9, 11, 6, 6], [6, 7, 9, 11]), ([6], [6]), ([12, 13, 6], [6, 12, 13]), ([6, 14], [6, 14])])
def arbiterref05_Check.B19 : List Nat := [0, 0, 2, 6, 15, 31, 63, 127, 127, 383, 127, 1151, 4095, 127, 16383, 32767]
theorem arbiterref05_Check.tab19 : rtab .any (opsOf Tryz.f90 19) = arbiterref05_Check.T19 := by kernel_rfl
theorem arbiterref05_Check.bits19 : waitsOk arbiterref05_Check.T19.2 arbiterref05_Check.B19 = true := by kernel_rfl
set_option maxHeartbeats 8000000 in
set_option maxRecDepth 100000 in
theorem arbiterref05_Check.calls (k : Nat) (a0_0 : ByteArray) (a0_1 : ByteArray) (A0_2 : Option Addr) (c0_2 : Nat) (l0_2 : List ByteArray) (a0_3 : Int) (a0_4 : Int) (A0_5 : Option Addr) (c0_5 : Nat) (l0_5 : List (S105)) (r : Int) (w : World) (hr0_2 : Kd.C Kd.string w A0_2 l0_2.length l0_2) (hc0_2 : l0_2.length ≤ c0_2) (hr0_5 : Kd.C k105 w A0_5 l0_5.length l0_5) (hc0_5 : l0_5.length ≤ c0_5) (h : arbiterref05_Check.f k a0_0 a0_1 l0_2 a0_3 a0_4 l0_5 = some r) :
  Calls Tryz.prog 90 #[.agg #[.string a0_0, .string a0_1, .slice A0_2 l0_2.length c0_2, .int .i64 a0_3, .int .i64 a0_4, .slice A0_5 l0_5.length c0_5]] w fun e w' => e = .returned (.int .i64 r) ∧ Below w.heap.size w w' := by
 have hu85 := Tryz.underlying85; have hu105 := Tryz.underlying105; have HR0_2 := Aside0.mk hr0_2; have HC0_2 := Aside0.mk hc0_2; clear hr0_2 hc0_2; have HR0_5 := Aside0.mk hr0_5; have HC0_5 := Aside0.mk hc0_5; clear hr0_5 hc0_5; have HB := Aside0.mk (Below.refl w.heap.size w); have H : ((arbiterref01_Valid.f a0_0).bind fun t126 => (if t126 = true then ((arbiterref01_Valid.f a0_1).bind fun t127 => (if t127 = true then (arbiterref05_Check.j0 k (a0_0.toList == a0_1.toList) a0_0 a0_1 l0_2 a0_3 a0_4 l0_5) else (arbiterref05_Check.j0 k true a0_0 a0_1 l0_2 a0_3 a0_4 l0_5))) else (arbiterref05_Check.j0 k true a0_0 a0_1 l0_2 a0_3 a0_4 l0_5))) = some r := h; clear h; have HC2 := Aside0.mk H; clear H; go_enter Tryz.func90, Tryz.ntmps90
 go_upto_region 1 with (first | ((with_reducible refine gate_dst (N := 1) rfl ?_); (try (refine gate_guard (by rfl) ?_; dsimp only)); refine eX 1 #[.string a0_0, .string a0_1, .slice A0_2 l0_2.length c0_2, .int .i64 a0_3, .int .i64 a0_4, .slice A0_5 l0_5.length c0_5] 85 ?_; intro gb125 hg w3 hbox hb; have n0_ := Aside0.mk (below_step (bX HB) hb); have n1_ := Aside0.mk (hbox); have n2_ := Aside0.mk ((by rw [hg]; exact (below_size (bX HB)) : w.heap.size ≤ gb125)); have n3_ := Aside0.mk ((by rw [hg]; exact (below_size (bX HB)) : w.heap.size ≤ gb125)); clear HB; have HB := n0_; have BK125 := n1_; have GW125 := n2_; have GE125 := n3_; clear n0_ n1_ n2_ n3_; clear hb hbox hg))
 (try simp only [Act.put, List.setIfInBounds_toArray, List.set_cons_zero, List.set_cons_succ])
 go_cut [23] (fun v23 wc => ∃ (kq : Nat) (x23_1 : Bool), v23 = .bool x23_1 ∧ Aside0 (arbiterref05_Check.j0 kq x23_1 a0_0 a0_1 l0_2 a0_3 a0_4 l0_5 = some r) ∧ Aside0 (kq ≤ k) ∧ Aside0 (wc.heap[gb125]? = some (.cells #[.string a0_0, .string a0_1, (.slice A0_2 l0_2.length c0_2), .int .i64 a0_3, .int .i64 a0_4, (.slice A0_5 l0_5.length c0_5)] 85 (0, 0))) ∧ Aside0 (Below w.heap.size w wc))
 case first =>
  have H := HC2.out; clear HC2; replace H := Option.bind_eq_some_iff.mp H; obtain ⟨t126, A40, H⟩ := H; replace H : (if t126 = true then ((arbiterref01_Valid.f a0_1).bind fun t127 => (if t127 = true then (arbiterref05_Check.j0 k (a0_0.toList == a0_1.toList) a0_0 a0_1 l0_2 a0_3 a0_4 l0_5) else (arbiterref05_Check.j0 k true a0_0 a0_1 l0_2 a0_3 a0_4 l0_5))) else (arbiterref05_Check.j0 k true a0_0 a0_1 l0_2 a0_3 a0_4 l0_5)) = some r := H; have A4 := Aside0.mk A40; clear A40
  by_cases c5 : t126 = true
  ·subst c5
   have H1 : ((arbiterref01_Valid.f a0_1).bind fun t127 => (if t127 = true then (arbiterref05_Check.j0 k (a0_0.toList == a0_1.toList) a0_0 a0_1 l0_2 a0_3 a0_4 l0_5) else (arbiterref05_Check.j0 k true a0_0 a0_1 l0_2 a0_3 a0_4 l0_5))) = some r := by rw [if_pos rfl] at H; exact H
   clear H; have H := H1; clear H1; replace H := Option.bind_eq_some_iff.mp H; obtain ⟨t127, A60, H⟩ := H; replace H : (if t127 = true then (arbiterref05_Check.j0 k (a0_0.toList == a0_1.toList) a0_0 a0_1 l0_2 a0_3 a0_4 l0_5) else (arbiterref05_Check.j0 k true a0_0 a0_1 l0_2 a0_3 a0_4 l0_5)) = some r := H; have A6 := Aside0.mk A60; clear A60
   by_cases c7 : t127 = true
   ·subst c7
    have H1 : (arbiterref05_Check.j0 k (a0_0.toList == a0_1.toList) a0_0 a0_1 l0_2 a0_3 a0_4 l0_5) = some r := by rw [if_pos rfl] at H; exact H
    clear H; have H := H1; clear H1; have H' := Aside0.mk H; clear H; obtain ⟨hcz8_0, hcz8_1, hcz8_2, hcz8_3, hcz8_4, hcz8_5, hfz8_0, hfz8_1, hfz8_2, hfz8_3, hfz8_4, hfz8_5⟩ := c6X BK125; go_wp2_with (first | ((with_reducible refine gate_callee (f := 116) rfl ?_); refine gX (some 9) Tryz.func116 #[.string a0_0] ?_; (with_reducible refine (arbiterref01_Valid.calls a0_0 true _ A4.out).mono ?_); rintro e w9 ⟨rfl, hb⟩; refine ⟨_, rfl, ?_⟩; have n0_ := Aside0.mk (blk_below (kX BK125) hb); have n1_ := Aside0.mk (below_step (bX1 HB GE125) hb); clear BK125; clear HB; have BK125 := n0_; have HB := n1_; clear n0_ n1_; (try clear hb); (try clear hb2); (try clear hk); (try clear hi); obtain ⟨hcz10_0, hcz10_1, hcz10_2, hcz10_3, hcz10_4, hcz10_5, hfz10_0, hfz10_1, hfz10_2, hfz10_3, hfz10_4, hfz10_5⟩ := c6X BK125) | (go_at_call 116; (with_reducible refine (arbiterref01_Valid.calls a0_1 true _ A6.out).mono ?_); rintro e w11 ⟨rfl, hb⟩; have n0_ := Aside0.mk (blk_below (kX BK125) hb); have n1_ := Aside0.mk (below_step (bX1 HB GE125) hb); clear BK125; clear HB; have BK125 := n0_; have HB := n1_; clear n0_ n1_; (try clear hb); (try clear hb2); (try clear hk); (try clear hi); obtain ⟨hcz12_0, hcz12_1, hcz12_2, hcz12_3, hcz12_4, hcz12_5, hfz12_0, hfz12_1, hfz12_2, hfz12_3, hfz12_4, hfz12_5⟩ := c6X BK125)); go_meet
    case rel => exact ⟨_, ((a0_0.toList == a0_1.toList)), vX, H', ⟨by first | omega | exact Nat.le_refl _⟩, ⟨by (with_reducible repeat (first | refine blk_drewN ?_ _ | refine blk_drew ?_ | refine blk_alloc ?_ _)); exact BK125.out⟩, ⟨bX1 HB GE125⟩⟩
   ·replace c7 := Bool.eq_false_iff.mpr c7
    subst c7
    have H1 : (arbiterref05_Check.j0 k true a0_0 a0_1 l0_2 a0_3 a0_4 l0_5) = some r := by rw [if_neg (show ¬ (false = true) by decide)] at H; exact H
    clear H; have H := H1; clear H1; have H' := Aside0.mk H; clear H; obtain ⟨hcz13_0, hcz13_1, hcz13_2, hcz13_3, hcz13_4, hcz13_5, hfz13_0, hfz13_1, hfz13_2, hfz13_3, hfz13_4, hfz13_5⟩ := c6X BK125; go_wp2_with (first | ((with_reducible refine gate_callee (f := 116) rfl ?_); refine gX (some 9) Tryz.func116 #[.string a0_0] ?_; (with_reducible refine (arbiterref01_Valid.calls a0_0 true _ A4.out).mono ?_); rintro e w14 ⟨rfl, hb⟩; refine ⟨_, rfl, ?_⟩; have n0_ := Aside0.mk (blk_below (kX BK125) hb); have n1_ := Aside0.mk (below_step (bX1 HB GE125) hb); clear BK125; clear HB; have BK125 := n0_; have HB := n1_; clear n0_ n1_; (try clear hb); (try clear hb2); (try clear hk); (try clear hi); obtain ⟨hcz15_0, hcz15_1, hcz15_2, hcz15_3, hcz15_4, hcz15_5, hfz15_0, hfz15_1, hfz15_2, hfz15_3, hfz15_4, hfz15_5⟩ := c6X BK125) | (go_at_call 116; (with_reducible refine (arbiterref01_Valid.calls a0_1 false _ A6.out).mono ?_); rintro e w16 ⟨rfl, hb⟩; have n0_ := Aside0.mk (blk_below (kX BK125) hb); have n1_ := Aside0.mk (below_step (bX1 HB GE125) hb); clear BK125; clear HB; have BK125 := n0_; have HB := n1_; clear n0_ n1_; (try clear hb); (try clear hb2); (try clear hk); (try clear hi))); go_meet
    case rel => exact ⟨_, (true), vX, H', ⟨by first | omega | exact Nat.le_refl _⟩, ⟨by (with_reducible repeat (first | refine blk_drewN ?_ _ | refine blk_drew ?_ | refine blk_alloc ?_ _)); exact BK125.out⟩, ⟨bX1 HB GE125⟩⟩
  ·replace c5 := Bool.eq_false_iff.mpr c5
   subst c5
   have H1 : (arbiterref05_Check.j0 k true a0_0 a0_1 l0_2 a0_3 a0_4 l0_5) = some r := by rw [if_neg (show ¬ (false = true) by decide)] at H; exact H
   clear H; have H := H1; clear H1; have H' := Aside0.mk H; clear H; obtain ⟨hcz17_0, hcz17_1, hcz17_2, hcz17_3, hcz17_4, hcz17_5, hfz17_0, hfz17_1, hfz17_2, hfz17_3, hfz17_4, hfz17_5⟩ := c6X BK125; go_wp2_with (first | ((with_reducible refine gate_callee (f := 116) rfl ?_); refine gX (some 9) Tryz.func116 #[.string a0_0] ?_; (with_reducible refine (arbiterref01_Valid.calls a0_0 false _ A4.out).mono ?_); rintro e w18 ⟨rfl, hb⟩; refine ⟨_, rfl, ?_⟩; have n0_ := Aside0.mk (blk_below (kX BK125) hb); have n1_ := Aside0.mk (below_step (bX1 HB GE125) hb); clear BK125; clear HB; have BK125 := n0_; have HB := n1_; clear n0_ n1_; (try clear hb); (try clear hb2); (try clear hk); (try clear hi))); go_meet
   case rel => exact ⟨_, (true), vX, H', ⟨by first | omega | exact Nat.le_refl _⟩, ⟨by (with_reducible repeat (first | refine blk_drewN ?_ _ | refine blk_drew ?_ | refine blk_alloc ?_ _)); exact BK125.out⟩, ⟨bX1 HB GE125⟩⟩
 case rest =>
  clear HC2
  try clear c1
  try clear p2
  try clear c5
  try clear c7
  try clear c9
  try clear c11
  try clear hcz10_0 hcz10_1 hcz10_2 hcz10_3 hcz10_4 hcz10_5
  try clear hcz12_0 hcz12_1 hcz12_2 hcz12_3 hcz12_4 hcz12_5
  try clear hcz13_0 hcz13_1 hcz13_2 hcz13_3 hcz13_4 hcz13_5
  try clear hcz15_0 hcz15_1 hcz15_2 hcz15_3 hcz15_4 hcz15_5
  try clear hcz17_0 hcz17_1 hcz17_2 hcz17_3 hcz17_4 hcz17_5
  try clear hcz8_0 hcz8_1 hcz8_2 hcz8_3 hcz8_4 hcz8_5
  try clear hfz10_0 hfz10_1 hfz10_2 hfz10_3 hfz10_4 hfz10_5
  try clear hfz12_0 hfz12_1 hfz12_2 hfz12_3 hfz12_4 hfz12_5
  try clear hfz13_0 hfz13_1 hfz13_2 hfz13_3 hfz13_4 hfz13_5
  try clear hfz15_0 hfz15_1 hfz15_2 hfz15_3 hfz15_4 hfz15_5
  try clear hfz17_0 hfz17_1 hfz17_2 hfz17_3 hfz17_4 hfz17_5
  try clear hfz8_0 hfz8_1 hfz8_2 hfz8_3 hfz8_4 hfz8_5
  obtain ⟨kq, x23_1, rfl, HA, HJ1, BK125, HB⟩ := hcut
  cases kq with
  | zero => exact absurd HA.out (by simp [arbiterref05_Check.j0])
  | succ kj1 =>
   have H := HA.out; clear HA; simp only [arbiterref05_Check.j0] at H
   by_cases c19 : x23_1 = true
   ·subst c19
    have H1 : (some 1) = some r := by rw [if_pos rfl] at H; exact H
    clear H; have H := H1; clear H1; obtain rfl := Option.some.inj H; go_wp2; go_ret
    exact ⟨by first | rfl | (simp [errW_none, errW_some] <;> rfl) | (simp [*, errW_none, errW_some] <;> rfl), bX1 HB GE125⟩
   ·replace c19 := Bool.eq_false_iff.mpr c19
    subst c19
    have H1 : (if (l0_2.length : Int) > 20 then (arbiterref05_Check.j1 kj1 true a0_0 a0_1 l0_2 a0_3 a0_4 l0_5) else (if (l0_5.length : Int) > 40 then (arbiterref05_Check.j1 kj1 true a0_0 a0_1 l0_2 a0_3 a0_4 l0_5) else (if a0_4 < 0 then (arbiterref05_Check.j1 kj1 true a0_0 a0_1 l0_2 a0_3 a0_4 l0_5) else (if a0_4 > 9 then (arbiterref05_Check.j1 kj1 true a0_0 a0_1 l0_2 a0_3 a0_4 l0_5) else ((arbiterref03_CheckClass.f a0_3).bind fun t128 => (arbiterref05_Check.j1 kj1 (t128 != 0) a0_0 a0_1 l0_2 a0_3 a0_4 l0_5)))))) = some r := by rw [if_neg (show ¬ (false = true) by decide)] at H; exact H
    clear H; have H := H1; clear H1; have HC20 := Aside0.mk H; clear H
    go_upto_region 3 with (fail)
    go_cut [49] (fun v49 wc => ∃ (kq : Nat) (x49_19 : Bool), v49 = .bool x49_19 ∧ Aside0 (arbiterref05_Check.j1 kq x49_19 a0_0 a0_1 l0_2 a0_3 a0_4 l0_5 = some r) ∧ Aside0 (kq ≤ kj1) ∧ Aside0 (wc.heap[gb125]? = some (.cells #[.string a0_0, .string a0_1, (.slice A0_2 l0_2.length c0_2), .int .i64 a0_3, .int .i64 a0_4, (.slice A0_5 l0_5.length c0_5)] 85 (0, 0))) ∧ Aside0 (Below w.heap.size w wc))
    case first =>
     have H := HC20.out; clear HC20
     by_cases c21 : (l0_2.length : Int) > 20
     ·rw [if_pos c21] at H
      have c21b0 : decide (20 < (l0_2.length : Int)) = true := decide_eq_true c21; have c21b1 : decide (20 < l0_2.length) = true := decide_eq_true (by omega); clear c21
      (first | rw [c21b0] | (simp only [i64_w, i32_w]; rw [c21b0]) | skip)
      have H' := Aside0.mk H; clear H; obtain ⟨hcz22_0, hcz22_1, hcz22_2, hcz22_3, hcz22_4, hcz22_5, hfz22_0, hfz22_1, hfz22_2, hfz22_3, hfz22_4, hfz22_5⟩ := c6X BK125; go_wp2; go_meet
      case rel => exact ⟨_, (true), vX, H', ⟨by have := HJ1.out; first | omega | exact Nat.le_refl _⟩, ⟨by (with_reducible repeat (first | refine blk_drewN ?_ _ | refine blk_drew ?_ | refine blk_alloc ?_ _)); exact BK125.out⟩, ⟨bX1 HB GE125⟩⟩
     ·rw [if_neg c21] at H
      have c21b0 : decide (20 < (l0_2.length : Int)) = false := decide_eq_false c21; have c21b1 : decide (20 < l0_2.length) = false := decide_eq_false (by omega); clear c21
      (first | rw [c21b0] | (simp only [i64_w, i32_w]; rw [c21b0]) | skip)
      by_cases c23 : (l0_5.length : Int) > 40
      ·rw [if_pos c23] at H
       have c23b0 : decide (40 < (l0_5.length : Int)) = true := decide_eq_true c23; have c23b1 : decide (40 < l0_5.length) = true := decide_eq_true (by omega); clear c23; have H' := Aside0.mk H; clear H; obtain ⟨hcz24_0, hcz24_1, hcz24_2, hcz24_3, hcz24_4, hcz24_5, hfz24_0, hfz24_1, hfz24_2, hfz24_3, hfz24_4, hfz24_5⟩ := c6X BK125; go_wp2; go_meet
       case rel => exact ⟨_, (true), vX, H', ⟨by have := HJ1.out; first | omega | exact Nat.le_refl _⟩, ⟨by (with_reducible repeat (first | refine blk_drewN ?_ _ | refine blk_drew ?_ | refine blk_alloc ?_ _)); exact BK125.out⟩, ⟨bX1 HB GE125⟩⟩
      ·rw [if_neg c23] at H
       have c23b0 : decide (40 < (l0_5.length : Int)) = false := decide_eq_false c23; have c23b1 : decide (40 < l0_5.length) = false := decide_eq_false (by omega); clear c23
       by_cases c25 : a0_4 < 0
       ·rw [if_pos c25] at H
        have c25b0 : decide (a0_4 < 0) = true := decide_eq_true c25; clear c25; have H' := Aside0.mk H; clear H; obtain ⟨hcz26_0, hcz26_1, hcz26_2, hcz26_3, hcz26_4, hcz26_5, hfz26_0, hfz26_1, hfz26_2, hfz26_3, hfz26_4, hfz26_5⟩ := c6X BK125; go_wp2; go_meet
        case rel => exact ⟨_, (true), vX, H', ⟨by have := HJ1.out; first | omega | exact Nat.le_refl _⟩, ⟨by (with_reducible repeat (first | refine blk_drewN ?_ _ | refine blk_drew ?_ | refine blk_alloc ?_ _)); exact BK125.out⟩, ⟨bX1 HB GE125⟩⟩
       ·rw [if_neg c25] at H
        have c25b0 : decide (a0_4 < 0) = false := decide_eq_false c25; clear c25
        by_cases c27 : a0_4 > 9
        ·rw [if_pos c27] at H
         have c27b0 : decide (9 < a0_4) = true := decide_eq_true c27; clear c27; have H' := Aside0.mk H; clear H; obtain ⟨hcz28_0, hcz28_1, hcz28_2, hcz28_3, hcz28_4, hcz28_5, hfz28_0, hfz28_1, hfz28_2, hfz28_3, hfz28_4, hfz28_5⟩ := c6X BK125; go_wp2; go_meet
         case rel => exact ⟨_, (true), vX, H', ⟨by have := HJ1.out; first | omega | exact Nat.le_refl _⟩, ⟨by (with_reducible repeat (first | refine blk_drewN ?_ _ | refine blk_drew ?_ | refine blk_alloc ?_ _)); exact BK125.out⟩, ⟨bX1 HB GE125⟩⟩
        ·rw [if_neg c27] at H
         have c27b0 : decide (9 < a0_4) = false := decide_eq_false c27; clear c27; replace H := Option.bind_eq_some_iff.mp H; obtain ⟨t128, A290, H⟩ := H; replace H : (arbiterref05_Check.j1 kj1 (t128 != 0) a0_0 a0_1 l0_2 a0_3 a0_4 l0_5) = some r := H; have A29 := Aside0.mk A290; clear A290; have H' := Aside0.mk H; clear H; obtain ⟨hcz30_0, hcz30_1, hcz30_2, hcz30_3, hcz30_4, hcz30_5, hfz30_0, hfz30_1, hfz30_2, hfz30_3, hfz30_4, hfz30_5⟩ := c6X BK125; go_wp2_with (first | (go_at_call 117; (with_reducible refine (arbiterref03_CheckClass.calls a0_3 t128 _ A29.out).mono ?_); rintro e w31 ⟨rfl, hb⟩; have n0_ := Aside0.mk (blk_below (kX BK125) hb); have n1_ := Aside0.mk (below_step (bX1 HB GE125) hb); clear BK125; clear HB; have BK125 := n0_; have HB := n1_; clear n0_ n1_; (try clear hb); (try clear hb2); (try clear hk); (try clear hi))); go_meet
         case rel => exact ⟨_, ((t128 != 0)), vX, H', ⟨by have := HJ1.out; first | omega | exact Nat.le_refl _⟩, ⟨by (with_reducible repeat (first | refine blk_drewN ?_ _ | refine blk_drew ?_ | refine blk_alloc ?_ _)); exact BK125.out⟩, ⟨bX1 HB GE125⟩⟩
    case rest =>
     clear HC20
     try clear c1
     try clear c2
     try clear p2
     try clear c5
     try clear c7
     try clear c9
     try clear c11
     try clear c19
     try clear c21
     try clear c21b0
     try clear c21b1
     try clear c23
     try clear c23b0
     try clear c23b1
     try clear c25
     try clear c25b0
     try clear c27
     try clear c27b0
     try clear hcz10_0 hcz10_1 hcz10_2 hcz10_3 hcz10_4 hcz10_5
     try clear hcz12_0 hcz12_1 hcz12_2 hcz12_3 hcz12_4 hcz12_5
     try clear hcz13_0 hcz13_1 hcz13_2 hcz13_3 hcz13_4 hcz13_5
     try clear hcz15_0 hcz15_1 hcz15_2 hcz15_3 hcz15_4 hcz15_5
     try clear hcz17_0 hcz17_1 hcz17_2 hcz17_3 hcz17_4 hcz17_5
     try clear hcz22_0 hcz22_1 hcz22_2 hcz22_3 hcz22_4 hcz22_5
     try clear hcz24_0 hcz24_1 hcz24_2 hcz24_3 hcz24_4 hcz24_5
     try clear hcz26_0 hcz26_1 hcz26_2 hcz26_3 hcz26_4 hcz26_5
     try clear hcz28_0 hcz28_1 hcz28_2 hcz28_3 hcz28_4 hcz28_5
     try clear hcz30_0 hcz30_1 hcz30_2 hcz30_3 hcz30_4 hcz30_5
     try clear hcz8_0 hcz8_1 hcz8_2 hcz8_3 hcz8_4 hcz8_5
     try clear hfz10_0 hfz10_1 hfz10_2 hfz10_3 hfz10_4 hfz10_5
     try clear hfz12_0 hfz12_1 hfz12_2 hfz12_3 hfz12_4 hfz12_5
     try clear hfz13_0 hfz13_1 hfz13_2 hfz13_3 hfz13_4 hfz13_5
     try clear hfz15_0 hfz15_1 hfz15_2 hfz15_3 hfz15_4 hfz15_5
     try clear hfz17_0 hfz17_1 hfz17_2 hfz17_3 hfz17_4 hfz17_5
     try clear hfz22_0 hfz22_1 hfz22_2 hfz22_3 hfz22_4 hfz22_5
     try clear hfz24_0 hfz24_1 hfz24_2 hfz24_3 hfz24_4 hfz24_5
     try clear hfz26_0 hfz26_1 hfz26_2 hfz26_3 hfz26_4 hfz26_5
     try clear hfz28_0 hfz28_1 hfz28_2 hfz28_3 hfz28_4 hfz28_5
     try clear hfz30_0 hfz30_1 hfz30_2 hfz30_3 hfz30_4 hfz30_5
     try clear hfz8_0 hfz8_1 hfz8_2 hfz8_3 hfz8_4 hfz8_5
     try clear p2
     obtain ⟨kq, x49_19, rfl, HA, HJ19, BK125, HB⟩ := hcut
     cases kq with
     | zero => exact absurd HA.out (by simp [arbiterref05_Check.j1])
     | succ kj19 =>
      have H := HA.out; clear HA; simp only [arbiterref05_Check.j1] at H
      by_cases c32 : x49_19 = true
      ·subst c32
       have H1 : (some 1) = some r := by rw [if_pos rfl] at H; exact H
       clear H; have H := H1; clear H1; obtain rfl := Option.some.inj H; go_wp2; go_ret
       exact ⟨by first | rfl | (simp [errW_none, errW_some] <;> rfl) | (simp [*, errW_none, errW_some] <;> rfl), bX1 HB GE125⟩
      ·replace c32 := Bool.eq_false_iff.mpr c32
       subst c32
       have H1 : (arbiterref05_Check.l0 kj19 0 a0_0 a0_1 l0_2 a0_3 a0_4 l0_5) = some r := by rw [if_neg (show ¬ (false = true) by decide)] at H; exact H
       clear H; have H := H1; clear H1; have H' := Aside0.mk H; clear H; go_wp2
       go_loopg [3] kj19 (fun kq v3 w' => ∃ (x3_3 : Int), v3 = .int .i64 x3_3 ∧ Aside0 (arbiterref05_Check.l0 kq x3_3 a0_0 a0_1 l0_2 a0_3 a0_4 l0_5 = some r) ∧ Aside0 (kq ≤ kj19) ∧ Aside0 (w'.heap[gb125]? = some (.cells #[.string a0_0, .string a0_1, (.slice A0_2 l0_2.length c0_2), .int .i64 a0_3, .int .i64 a0_4, (.slice A0_5 l0_5.length c0_5)] 85 (0, 0))) ∧ Aside0 (Below w.heap.size w w'))
       case atStart => exact ⟨(0), vX, H', ⟨Nat.le_refl _⟩, ⟨by (with_reducible repeat (first | refine blk_drewN ?_ _ | refine blk_drew ?_ | refine blk_alloc ?_ _)); exact BK125.out⟩, ⟨bX1 HB GE125⟩⟩
       case round =>
        clear H'
        try clear c1
        try clear c2
        try clear p2
        try clear c3
        try clear c5
        try clear c7
        try clear c9
        try clear c11
        try clear c19
        try clear c21
        try clear c21b0
        try clear c21b1
        try clear c23
        try clear c23b0
        try clear c23b1
        try clear c25
        try clear c25b0
        try clear c27
        try clear c27b0
        try clear c32
        try clear hcz10_0 hcz10_1 hcz10_2 hcz10_3 hcz10_4 hcz10_5
        try clear hcz12_0 hcz12_1 hcz12_2 hcz12_3 hcz12_4 hcz12_5
        try clear hcz13_0 hcz13_1 hcz13_2 hcz13_3 hcz13_4 hcz13_5
        try clear hcz15_0 hcz15_1 hcz15_2 hcz15_3 hcz15_4 hcz15_5
        try clear hcz17_0 hcz17_1 hcz17_2 hcz17_3 hcz17_4 hcz17_5
        try clear hcz22_0 hcz22_1 hcz22_2 hcz22_3 hcz22_4 hcz22_5
        try clear hcz24_0 hcz24_1 hcz24_2 hcz24_3 hcz24_4 hcz24_5
        try clear hcz26_0 hcz26_1 hcz26_2 hcz26_3 hcz26_4 hcz26_5
        try clear hcz28_0 hcz28_1 hcz28_2 hcz28_3 hcz28_4 hcz28_5
        try clear hcz30_0 hcz30_1 hcz30_2 hcz30_3 hcz30_4 hcz30_5
        try clear hcz8_0 hcz8_1 hcz8_2 hcz8_3 hcz8_4 hcz8_5
        try clear hfz10_0 hfz10_1 hfz10_2 hfz10_3 hfz10_4 hfz10_5
        try clear hfz12_0 hfz12_1 hfz12_2 hfz12_3 hfz12_4 hfz12_5
        try clear hfz13_0 hfz13_1 hfz13_2 hfz13_3 hfz13_4 hfz13_5
        try clear hfz15_0 hfz15_1 hfz15_2 hfz15_3 hfz15_4 hfz15_5
        try clear hfz17_0 hfz17_1 hfz17_2 hfz17_3 hfz17_4 hfz17_5
        try clear hfz22_0 hfz22_1 hfz22_2 hfz22_3 hfz22_4 hfz22_5
        try clear hfz24_0 hfz24_1 hfz24_2 hfz24_3 hfz24_4 hfz24_5
        try clear hfz26_0 hfz26_1 hfz26_2 hfz26_3 hfz26_4 hfz26_5
        try clear hfz28_0 hfz28_1 hfz28_2 hfz28_3 hfz28_4 hfz28_5
        try clear hfz30_0 hfz30_1 hfz30_2 hfz30_3 hfz30_4 hfz30_5
        try clear hfz8_0 hfz8_1 hfz8_2 hfz8_3 hfz8_4 hfz8_5
        try clear p2
        obtain ⟨x3_3, rfl, HA, HK3, BK125, HB⟩ := hrel
        cases gk with
        | zero => exact absurd HA.out (by simp [arbiterref05_Check.l0])
        | succ k3 =>
         have H := HA.out; clear HA; simp only [arbiterref05_Check.l0] at H
         by_cases c33 : x3_3 < (l0_2.length : Int)
         ·rw [if_pos c33] at H
          have c33b0 : decide (x3_3 < (l0_2.length : Int)) = true := decide_eq_true c33; clear c33; have HC34 := Aside0.mk H; clear H; obtain ⟨hcz35_0, hcz35_1, hcz35_2, hcz35_3, hcz35_4, hcz35_5, hfz35_0, hfz35_1, hfz35_2, hfz35_3, hfz35_4, hfz35_5⟩ := c6X BK125
          go_upto_region 8 with (fail)
          go_cut [73] (fun v73 wc => ∃ (kq : Nat) (x73_33 : Bool), v73 = .bool x73_33 ∧ Aside0 (arbiterref05_Check.j3 kq x3_3 x73_33 a0_0 a0_1 l0_2 a0_3 a0_4 l0_5 = some r) ∧ Aside0 (kq ≤ k3) ∧ Aside0 (wc.heap[gb125]? = some (.cells #[.string a0_0, .string a0_1, (.slice A0_2 l0_2.length c0_2), .int .i64 a0_3, .int .i64 a0_4, (.slice A0_5 l0_5.length c0_5)] 85 (0, 0))) ∧ Aside0 (Below w.heap.size w wc))
          case first =>
           have H := HC34.out; clear HC34
           by_cases c36 : 0 ≤ x3_3
           ·rw [if_pos c36] at H
            have c36b0 : decide (0 ≤ x3_3) = true := decide_eq_true c36; clear c36
            (first | rw [c36b0] | (simp only [i64_w, i32_w]; rw [c36b0]) | skip)
            replace H := Option.bind_eq_some_iff.mp H; obtain ⟨t130, A370, H⟩ := H; replace H : (if t130 = true then (arbiterref05_Check.j3 k3 x3_3 ((rdOf ByteArray.empty l0_2 x3_3).toList == a0_0.toList) a0_0 a0_1 l0_2 a0_3 a0_4 l0_5) else (arbiterref05_Check.j3 k3 x3_3 true a0_0 a0_1 l0_2 a0_3 a0_4 l0_5)) = some r := H; have A37 := Aside0.mk A370; clear A370
            by_cases c38 : t130 = true
            ·subst c38
             have H1 : (arbiterref05_Check.j3 k3 x3_3 ((rdOf ByteArray.empty l0_2 x3_3).toList == a0_0.toList) a0_0 a0_1 l0_2 a0_3 a0_4 l0_5) = some r := by rw [if_pos rfl] at H; exact H
             clear H; have H := H1; clear H1; have H' := Aside0.mk H; clear H
             try go_wp2
             have n0_ := Aside0.mk (blk_drew BK125.out); have n1_ := Aside0.mk (below_drew1 HB.out); clear BK125; clear HB; have BK125 := n0_; have HB := n1_; clear n0_ n1_; have p129 : 0 ≤ (x3_3 : Int) := qX; have q129 : x3_3 < (l0_2.length : Int) := qX; obtain ⟨ad129, e129, hx129_0⟩ := Kd.at_string HR0_2.out x3_3 p129 q129; have hw129_0 := hx129_0
             cases e129
             replace hx129_0 := (HB.out.cell (World.block_lt_of_cell? w _ hx129_0)).trans hx129_0; replace p129 := eq_true p129; replace q129 := eq_true q129; have p131 : 0 ≤ (x3_3 : Int) := qX; have q131 : x3_3 < (l0_2.length : Int) := qX; obtain ⟨ad131, e131, hx131_0⟩ := Kd.at_string HR0_2.out x3_3 p131 q131; have hw131_0 := hx131_0
             obtain rfl : ad129 = ad131 := (by injection e131)
             replace hx131_0 := (HB.out.cell (World.block_lt_of_cell? w _ hx131_0)).trans hx131_0; replace p131 := eq_true p131; replace q131 := eq_true q131; refine start_ (n := 17) (S := fun w' => w'.cell? ⟨gb125, 0, none⟩ = some (.string a0_0) ∧ w'.cell? ⟨gb125, 1, none⟩ = some (.string a0_1) ∧ w'.cell? ⟨gb125, 2, none⟩ = some (.slice (some ad129) l0_2.length c0_2) ∧ w'.cell? ⟨gb125, 3, none⟩ = some (.int .i64 a0_3) ∧ w'.cell? ⟨gb125, 4, none⟩ = some (.int .i64 a0_4) ∧ w'.cell? ⟨gb125, 5, none⟩ = some (.slice A0_5 l0_5.length c0_5) ∧ w'.cell? (ad129.add (x3_3).toNat) = some (.string (rdOf ByteArray.empty l0_2 x3_3)) ∧ w'.cell? (ad129.add (x3_3).toNat) = some (.string (rdOf ByteArray.empty l0_2 x3_3))) (ds := []) #[false, false, false, false, false, false, false, false, false, false, false, false, false, false, false, false, false] (by kernel_rfl) rfl rfl ⟨(blk_cell BK125.out 0).trans rfl, (blk_cell BK125.out 1).trans rfl, (blk_cell BK125.out 2).trans rfl, (blk_cell BK125.out 3).trans rfl, (blk_cell BK125.out 4).trans rfl, (blk_cell BK125.out 5).trans rfl, ((HB.out.cell (World.block_lt_of_cell? w _ hw129_0)).trans hw129_0), ((HB.out.cell (World.block_lt_of_cell? w _ hw131_0)).trans hw131_0)⟩ (fun hHeld => ?_); refine with_tabW arbiterref05_Check.tab8 arbiterref05_Check.bits8 (fun HT_ HW_ => ?_); generalize wr.drew = w39 at BK125 HB hx129_0 hx131_0 hHeld ⊢; refine pX HT_ 0 (some 57) ?_; refine pX HT_ 2 (some 59) ?_; refine tX HT_ HW_ hHeld 1 (some 58) ?_; refine pX HT_ 3 (some 60) ?_; refine tX HT_ HW_ hHeld 4 (some 61) ?_; refine oX HT_ 5 (some 62) (fun K hK => ?_); refine hX Tryz.func116 #[.string (rdOf ByteArray.empty l0_2 x3_3)] ?_
             with_reducible refine (arbiterref01_Valid.calls (rdOf ByteArray.empty l0_2 x3_3) true _ A37.out).mono ?_
             rintro e w40 ⟨rfl, hb⟩; refine ⟨_, rfl, ?_⟩; have n0_ := Aside0.mk (blk_below (kX BK125) hb); have n1_ := Aside0.mk (below_step (bX1 HB GE125) hb); clear BK125; clear HB; have BK125 := n0_; have HB := n1_; clear n0_ n1_
             (try clear hb)
             (try clear hb2)
             (try clear hk)
             (try clear hi)
             refine hK.out _ _ ⟨(blk_cell BK125.out 0).trans rfl, (blk_cell BK125.out 1).trans rfl, (blk_cell BK125.out 2).trans rfl, (blk_cell BK125.out 3).trans rfl, (blk_cell BK125.out 4).trans rfl, (blk_cell BK125.out 5).trans rfl, ((HB.out.cell (World.block_lt_of_cell? w _ hw129_0)).trans hw129_0), ((HB.out.cell (World.block_lt_of_cell? w _ hw131_0)).trans hw131_0)⟩ (fun hHeld => ?_); clear hK K; refine nX (some 62) ?_; refine pX HT_ 6 (some 63) ?_; refine pX HT_ 7 (some 64) ?_; refine pX HT_ 8 (some 65) ?_; refine pX HT_ 10 (some 67) ?_; refine pX HT_ 13 (some 70) ?_; refine tX HT_ HW_ hHeld 9 (some 66) ?_; refine pX HT_ 11 (some 68) ?_; refine tX HT_ HW_ hHeld 12 (some 69) ?_; refine tX HT_ HW_ hHeld 14 (some 71) ?_; refine pX HT_ 15 (some 72) ?_; refine pX HT_ 16 (some 73) ?_; refine done_ (done_of HT_.out (by kernel_rfl)) ?_
             try go_wp2
             go_meet
             case rel => exact ⟨_, (((rdOf ByteArray.empty l0_2 x3_3).toList == a0_0.toList)), vX, H', ⟨by have := HJ1.out; have := HJ19.out; have := HK3.out; first | omega | exact Nat.le_refl _⟩, ⟨by (with_reducible repeat (first | refine blk_drewN ?_ _ | refine blk_drew ?_ | refine blk_alloc ?_ _)); exact BK125.out⟩, ⟨bX1 HB GE125⟩⟩
            ·replace c38 := Bool.eq_false_iff.mpr c38
             subst c38
             have H1 : (arbiterref05_Check.j3 k3 x3_3 true a0_0 a0_1 l0_2 a0_3 a0_4 l0_5) = some r := by rw [if_neg (show ¬ (false = true) by decide)] at H; exact H
             clear H; have H := H1; clear H1; have H' := Aside0.mk H; clear H
             try go_wp2
             have n0_ := Aside0.mk (blk_drew BK125.out); have n1_ := Aside0.mk (below_drew1 HB.out); clear BK125; clear HB; have BK125 := n0_; have HB := n1_; clear n0_ n1_; have p129 : 0 ≤ (x3_3 : Int) := qX; have q129 : x3_3 < (l0_2.length : Int) := qX; obtain ⟨ad129, e129, hx129_0⟩ := Kd.at_string HR0_2.out x3_3 p129 q129; have hw129_0 := hx129_0
             cases e129
             replace hx129_0 := (HB.out.cell (World.block_lt_of_cell? w _ hx129_0)).trans hx129_0; replace p129 := eq_true p129; replace q129 := eq_true q129; refine start_ (n := 17) (S := fun w' => w'.cell? ⟨gb125, 0, none⟩ = some (.string a0_0) ∧ w'.cell? ⟨gb125, 1, none⟩ = some (.string a0_1) ∧ w'.cell? ⟨gb125, 2, none⟩ = some (.slice (some ad129) l0_2.length c0_2) ∧ w'.cell? ⟨gb125, 3, none⟩ = some (.int .i64 a0_3) ∧ w'.cell? ⟨gb125, 4, none⟩ = some (.int .i64 a0_4) ∧ w'.cell? ⟨gb125, 5, none⟩ = some (.slice A0_5 l0_5.length c0_5) ∧ w'.cell? (ad129.add (x3_3).toNat) = some (.string (rdOf ByteArray.empty l0_2 x3_3))) (ds := []) #[false, false, false, false, false, false, false, false, false, false, false, false, false, false, false, false, false] (by kernel_rfl) rfl rfl ⟨(blk_cell BK125.out 0).trans rfl, (blk_cell BK125.out 1).trans rfl, (blk_cell BK125.out 2).trans rfl, (blk_cell BK125.out 3).trans rfl, (blk_cell BK125.out 4).trans rfl, (blk_cell BK125.out 5).trans rfl, ((HB.out.cell (World.block_lt_of_cell? w _ hw129_0)).trans hw129_0)⟩ (fun hHeld => ?_); refine with_tabW arbiterref05_Check.tab8 arbiterref05_Check.bits8 (fun HT_ HW_ => ?_); generalize wr.drew = w41 at BK125 HB hx129_0 hHeld ⊢; refine pX HT_ 0 (some 57) ?_; refine pX HT_ 2 (some 59) ?_; refine tX HT_ HW_ hHeld 1 (some 58) ?_; refine pX HT_ 3 (some 60) ?_; refine tX HT_ HW_ hHeld 4 (some 61) ?_; refine oX HT_ 5 (some 62) (fun K hK => ?_); refine hX Tryz.func116 #[.string (rdOf ByteArray.empty l0_2 x3_3)] ?_
             with_reducible refine (arbiterref01_Valid.calls (rdOf ByteArray.empty l0_2 x3_3) false _ A37.out).mono ?_
             rintro e w42 ⟨rfl, hb⟩; refine ⟨_, rfl, ?_⟩; have n0_ := Aside0.mk (blk_below (kX BK125) hb); have n1_ := Aside0.mk (below_step (bX1 HB GE125) hb); clear BK125; clear HB; have BK125 := n0_; have HB := n1_; clear n0_ n1_
             (try clear hb)
             (try clear hb2)
             (try clear hk)
             (try clear hi)
             refine hK.out _ _ ⟨(blk_cell BK125.out 0).trans rfl, (blk_cell BK125.out 1).trans rfl, (blk_cell BK125.out 2).trans rfl, (blk_cell BK125.out 3).trans rfl, (blk_cell BK125.out 4).trans rfl, (blk_cell BK125.out 5).trans rfl, ((HB.out.cell (World.block_lt_of_cell? w _ hw129_0)).trans hw129_0)⟩ (fun hHeld => ?_); clear hK K; refine nX (some 62) ?_; refine pX HT_ 6 (some 63) ?_; refine pX HT_ 7 (some 64) ?_; refine uX HT_ 8 (some 65) ?_; refine uX HT_ 9 (some 66) ?_; refine uX HT_ 10 (some 67) ?_; refine uX HT_ 11 (some 68) ?_; refine uX HT_ 12 (some 69) ?_; refine uX HT_ 13 (some 70) ?_; refine uX HT_ 14 (some 71) ?_; refine uX HT_ 15 (some 72) ?_; refine pX HT_ 16 (some 73) ?_; refine done_ (done_of HT_.out (by kernel_rfl)) ?_
             try go_wp2
             go_meet
             case rel => exact ⟨_, (true), vX, H', ⟨by have := HJ1.out; have := HJ19.out; have := HK3.out; first | omega | exact Nat.le_refl _⟩, ⟨by (with_reducible repeat (first | refine blk_drewN ?_ _ | refine blk_drew ?_ | refine blk_alloc ?_ _)); exact BK125.out⟩, ⟨bX1 HB GE125⟩⟩
           ·rw [if_neg c36] at H
            exact absurd H (by simp)
          case rest =>
           clear HC34
           try clear c1
           try clear p1
           try clear q1
           try clear hx1
           try clear c2
           try clear p2
           try clear c3
           try clear c5
           try clear c7
           try clear c9
           try clear c11
           try clear p12
           try clear q12
           try clear hx12
           try clear p13
           try clear q13
           try clear hx13
           try clear c19
           try clear c21
           try clear c21b0
           try clear c21b1
           try clear c23
           try clear c23b0
           try clear c23b1
           try clear c25
           try clear c25b0
           try clear c27
           try clear c27b0
           try clear c32
           try clear c33
           try clear c33b0
           try clear c36
           try clear c36b0
           try clear c38
           try clear hcz10_0 hcz10_1 hcz10_2 hcz10_3 hcz10_4 hcz10_5
           try clear hcz12_0 hcz12_1 hcz12_2 hcz12_3 hcz12_4 hcz12_5
           try clear hcz13_0 hcz13_1 hcz13_2 hcz13_3 hcz13_4 hcz13_5
           try clear hcz15_0 hcz15_1 hcz15_2 hcz15_3 hcz15_4 hcz15_5
           try clear hcz17_0 hcz17_1 hcz17_2 hcz17_3 hcz17_4 hcz17_5
           try clear hcz22_0 hcz22_1 hcz22_2 hcz22_3 hcz22_4 hcz22_5
           try clear hcz24_0 hcz24_1 hcz24_2 hcz24_3 hcz24_4 hcz24_5
           try clear hcz26_0 hcz26_1 hcz26_2 hcz26_3 hcz26_4 hcz26_5
           try clear hcz28_0 hcz28_1 hcz28_2 hcz28_3 hcz28_4 hcz28_5
           try clear hcz30_0 hcz30_1 hcz30_2 hcz30_3 hcz30_4 hcz30_5
           try clear hcz35_0 hcz35_1 hcz35_2 hcz35_3 hcz35_4 hcz35_5
           try clear hcz8_0 hcz8_1 hcz8_2 hcz8_3 hcz8_4 hcz8_5
           try clear hfz10_0 hfz10_1 hfz10_2 hfz10_3 hfz10_4 hfz10_5
           try clear hfz12_0 hfz12_1 hfz12_2 hfz12_3 hfz12_4 hfz12_5
           try clear hfz13_0 hfz13_1 hfz13_2 hfz13_3 hfz13_4 hfz13_5
           try clear hfz15_0 hfz15_1 hfz15_2 hfz15_3 hfz15_4 hfz15_5
           try clear hfz17_0 hfz17_1 hfz17_2 hfz17_3 hfz17_4 hfz17_5
           try clear hfz22_0 hfz22_1 hfz22_2 hfz22_3 hfz22_4 hfz22_5
           try clear hfz24_0 hfz24_1 hfz24_2 hfz24_3 hfz24_4 hfz24_5
           try clear hfz26_0 hfz26_1 hfz26_2 hfz26_3 hfz26_4 hfz26_5
           try clear hfz28_0 hfz28_1 hfz28_2 hfz28_3 hfz28_4 hfz28_5
           try clear hfz30_0 hfz30_1 hfz30_2 hfz30_3 hfz30_4 hfz30_5
           try clear hfz35_0 hfz35_1 hfz35_2 hfz35_3 hfz35_4 hfz35_5
           try clear hfz8_0 hfz8_1 hfz8_2 hfz8_3 hfz8_4 hfz8_5
           try clear hx129_0
           try clear hx131_0
           try clear p129
           try clear p131
           try clear p2
           try clear q129
           try clear q131
           obtain ⟨kq, x73_33, rfl, HA, HJ33, BK125, HB⟩ := hcut
           cases kq with
           | zero => exact absurd HA.out (by simp [arbiterref05_Check.j3])
           | succ kj33 =>
            have H := HA.out; clear HA; simp only [arbiterref05_Check.j3] at H
            by_cases c43 : x73_33 = true
            ·subst c43
             have H1 : (some 1) = some r := by rw [if_pos rfl] at H; exact H
             clear H; have H := H1; clear H1; obtain rfl := Option.some.inj H; go_wp2; go_ret
             exact ⟨by first | rfl | (simp [errW_none, errW_some] <;> rfl) | (simp [*, errW_none, errW_some] <;> rfl), bX1 HB GE125⟩
            ·replace c43 := Bool.eq_false_iff.mpr c43
             subst c43
             have H1 : (arbiterref05_Check.l1 kj33 x3_3 0 a0_0 a0_1 l0_2 a0_3 a0_4 l0_5) = some r := by rw [if_neg (show ¬ (false = true) by decide)] at H; exact H
             clear H; have H := H1; clear H1; have H' := Aside0.mk H; clear H; go_wp2
             go_loopg [4] kj33 (fun kq v4 w' => ∃ (x4_5 : Int), v4 = .int .i64 x4_5 ∧ Aside0 (arbiterref05_Check.l1 kq x3_3 x4_5 a0_0 a0_1 l0_2 a0_3 a0_4 l0_5 = some r) ∧ Aside0 (kq ≤ kj33) ∧ Aside0 (w'.heap[gb125]? = some (.cells #[.string a0_0, .string a0_1, (.slice A0_2 l0_2.length c0_2), .int .i64 a0_3, .int .i64 a0_4, (.slice A0_5 l0_5.length c0_5)] 85 (0, 0))) ∧ Aside0 (Below w.heap.size w w'))
             case atStart => exact ⟨(0), vX, H', ⟨Nat.le_refl _⟩, ⟨by (with_reducible repeat (first | refine blk_drewN ?_ _ | refine blk_drew ?_ | refine blk_alloc ?_ _)); exact BK125.out⟩, ⟨bX1 HB GE125⟩⟩
             case round =>
              clear H'
              try clear c1
              try clear p1
              try clear q1
              try clear hx1
              try clear c2
              try clear p2
              try clear c3
              try clear c4
              try clear c5
              try clear c7
              try clear c9
              try clear c11
              try clear p12
              try clear q12
              try clear hx12
              try clear p13
              try clear q13
              try clear hx13
              try clear c19
              try clear c21
              try clear c21b0
              try clear c21b1
              try clear c23
              try clear c23b0
              try clear c23b1
              try clear c25
              try clear c25b0
              try clear c27
              try clear c27b0
              try clear c32
              try clear c33
              try clear c33b0
              try clear c36
              try clear c36b0
              try clear c38
              try clear c43
              try clear hcz10_0 hcz10_1 hcz10_2 hcz10_3 hcz10_4 hcz10_5
              try clear hcz12_0 hcz12_1 hcz12_2 hcz12_3 hcz12_4 hcz12_5
              try clear hcz13_0 hcz13_1 hcz13_2 hcz13_3 hcz13_4 hcz13_5
              try clear hcz15_0 hcz15_1 hcz15_2 hcz15_3 hcz15_4 hcz15_5
              try clear hcz17_0 hcz17_1 hcz17_2 hcz17_3 hcz17_4 hcz17_5
              try clear hcz22_0 hcz22_1 hcz22_2 hcz22_3 hcz22_4 hcz22_5
              try clear hcz24_0 hcz24_1 hcz24_2 hcz24_3 hcz24_4 hcz24_5
              try clear hcz26_0 hcz26_1 hcz26_2 hcz26_3 hcz26_4 hcz26_5
              try clear hcz28_0 hcz28_1 hcz28_2 hcz28_3 hcz28_4 hcz28_5
              try clear hcz30_0 hcz30_1 hcz30_2 hcz30_3 hcz30_4 hcz30_5
              try clear hcz35_0 hcz35_1 hcz35_2 hcz35_3 hcz35_4 hcz35_5
              try clear hcz8_0 hcz8_1 hcz8_2 hcz8_3 hcz8_4 hcz8_5
              try clear hfz10_0 hfz10_1 hfz10_2 hfz10_3 hfz10_4 hfz10_5
              try clear hfz12_0 hfz12_1 hfz12_2 hfz12_3 hfz12_4 hfz12_5
              try clear hfz13_0 hfz13_1 hfz13_2 hfz13_3 hfz13_4 hfz13_5
              try clear hfz15_0 hfz15_1 hfz15_2 hfz15_3 hfz15_4 hfz15_5
              try clear hfz17_0 hfz17_1 hfz17_2 hfz17_3 hfz17_4 hfz17_5
              try clear hfz22_0 hfz22_1 hfz22_2 hfz22_3 hfz22_4 hfz22_5
              try clear hfz24_0 hfz24_1 hfz24_2 hfz24_3 hfz24_4 hfz24_5
              try clear hfz26_0 hfz26_1 hfz26_2 hfz26_3 hfz26_4 hfz26_5
              try clear hfz28_0 hfz28_1 hfz28_2 hfz28_3 hfz28_4 hfz28_5
              try clear hfz30_0 hfz30_1 hfz30_2 hfz30_3 hfz30_4 hfz30_5
              try clear hfz35_0 hfz35_1 hfz35_2 hfz35_3 hfz35_4 hfz35_5
              try clear hfz8_0 hfz8_1 hfz8_2 hfz8_3 hfz8_4 hfz8_5
              try clear hx129_0
              try clear hx131_0
              try clear p1
              try clear p12
              try clear p129
              try clear p13
              try clear p131
              try clear p2
              try clear q1
              try clear q12
              try clear q129
              try clear q13
              try clear q131
              obtain ⟨x4_5, rfl, HA, HK5, BK125, HB⟩ := hrel
              cases gk with
              | zero => exact absurd HA.out (by simp [arbiterref05_Check.l1])
              | succ k5 =>
               have H := HA.out; clear HA; simp only [arbiterref05_Check.l1] at H
               by_cases c44 : x4_5 < x3_3
               ·rw [if_pos c44] at H
                have c44b0 : decide (x4_5 < x3_3) = true := decide_eq_true c44; clear c44
                by_cases c45 : 0 ≤ x3_3
                ·rw [if_pos c45] at H
                 have c45b0 : decide (0 ≤ x3_3) = true := decide_eq_true c45; clear c45
                 by_cases c46 : x3_3 < (l0_2.length : Int)
                 ·rw [if_pos c46] at H
                  have c46b0 : decide (x3_3 < (l0_2.length : Int)) = true := decide_eq_true c46; clear c46
                  by_cases c47 : 0 ≤ x4_5
                  ·rw [if_pos c47] at H
                   have c47b0 : decide (0 ≤ x4_5) = true := decide_eq_true c47; clear c47
                   by_cases c48 : x4_5 < (l0_2.length : Int)
                   ·rw [if_pos c48] at H
                    have c48b0 : decide (x4_5 < (l0_2.length : Int)) = true := decide_eq_true c48; clear c48
                    by_cases c49 : (rdOf ByteArray.empty l0_2 x3_3).toList = (rdOf ByteArray.empty l0_2 x4_5).toList
                    ·rw [if_pos c49] at H
                     have c49b0 : ((rdOf ByteArray.empty l0_2 x3_3).toList == (rdOf ByteArray.empty l0_2 x4_5).toList) = true := beq_iff_eq.mpr c49; have c49b1 : ((rdOf ByteArray.empty l0_2 x3_3).toList != (rdOf ByteArray.empty l0_2 x4_5).toList) = false := bne_eq_false_iff_eq.mpr c49; clear c49; obtain rfl := Option.some.inj H
                     try go_wp2
                     have n0_ := Aside0.mk (blk_drew BK125.out); have n1_ := Aside0.mk (below_drew1 HB.out); clear BK125; clear HB; have BK125 := n0_; have HB := n1_; clear n0_ n1_; have p132 : 0 ≤ (x3_3 : Int) := qX; have q132 : x3_3 < (l0_2.length : Int) := qX; obtain ⟨ad132, e132, hx132_0⟩ := Kd.at_string HR0_2.out x3_3 p132 q132; have hw132_0 := hx132_0
                     cases e132
                     replace hx132_0 := (HB.out.cell (World.block_lt_of_cell? w _ hx132_0)).trans hx132_0; replace p132 := eq_true p132; replace q132 := eq_true q132; have p133 : 0 ≤ (x4_5 : Int) := qX; have q133 : x4_5 < (l0_2.length : Int) := qX; obtain ⟨ad133, e133, hx133_0⟩ := Kd.at_string HR0_2.out x4_5 p133 q133; have hw133_0 := hx133_0
                     obtain rfl : ad132 = ad133 := (by injection e133)
                     replace hx133_0 := (HB.out.cell (World.block_lt_of_cell? w _ hx133_0)).trans hx133_0; replace p133 := eq_true p133; replace q133 := eq_true q133; refine start_ (n := 11) (S := fun w' => w'.cell? ⟨gb125, 0, none⟩ = some (.string a0_0) ∧ w'.cell? ⟨gb125, 1, none⟩ = some (.string a0_1) ∧ w'.cell? ⟨gb125, 2, none⟩ = some (.slice (some ad132) l0_2.length c0_2) ∧ w'.cell? ⟨gb125, 3, none⟩ = some (.int .i64 a0_3) ∧ w'.cell? ⟨gb125, 4, none⟩ = some (.int .i64 a0_4) ∧ w'.cell? ⟨gb125, 5, none⟩ = some (.slice A0_5 l0_5.length c0_5) ∧ w'.cell? (ad132.add (x3_3).toNat) = some (.string (rdOf ByteArray.empty l0_2 x3_3)) ∧ w'.cell? (ad132.add (x4_5).toNat) = some (.string (rdOf ByteArray.empty l0_2 x4_5))) (ds := []) #[false, false, false, false, false, false, false, false, false, false, false] (by kernel_rfl) rfl rfl ⟨(blk_cell BK125.out 0).trans rfl, (blk_cell BK125.out 1).trans rfl, (blk_cell BK125.out 2).trans rfl, (blk_cell BK125.out 3).trans rfl, (blk_cell BK125.out 4).trans rfl, (blk_cell BK125.out 5).trans rfl, ((HB.out.cell (World.block_lt_of_cell? w _ hw132_0)).trans hw132_0), ((HB.out.cell (World.block_lt_of_cell? w _ hw133_0)).trans hw133_0)⟩ (fun hHeld => ?_); refine with_tabW arbiterref05_Check.tab13 arbiterref05_Check.bits13 (fun HT_ HW_ => ?_); generalize wr.drew = w50 at BK125 HB hx132_0 hx133_0 hHeld ⊢; refine pX HT_ 0 (some 79) ?_; refine pX HT_ 2 (some 81) ?_; refine pX HT_ 5 (some 84) ?_; refine pX HT_ 7 (some 86) ?_; refine tX HT_ HW_ hHeld 1 (some 80) ?_; refine pX HT_ 3 (some 82) ?_; refine tX HT_ HW_ hHeld 4 (some 83) ?_; refine tX HT_ HW_ hHeld 6 (some 85) ?_; refine pX HT_ 8 (some 87) ?_; refine tX HT_ HW_ hHeld 9 (some 88) ?_; refine pX HT_ 10 (some 89) ?_; refine done_ (done_of HT_.out (by kernel_rfl)) ?_
                     try go_wp2
                     go_ret
                     exact ⟨by first | rfl | (simp [errW_none, errW_some] <;> rfl) | (simp [*, errW_none, errW_some] <;> rfl), bX1 HB GE125⟩
                    ·rw [if_neg c49] at H
                     have c49b0 : ((rdOf ByteArray.empty l0_2 x3_3).toList == (rdOf ByteArray.empty l0_2 x4_5).toList) = false := beq_eq_false_iff_ne.mpr c49; have c49b1 : ((rdOf ByteArray.empty l0_2 x3_3).toList != (rdOf ByteArray.empty l0_2 x4_5).toList) = true := bne_iff_ne.mpr c49; have H' := Aside0.mk H; clear H
                     try go_wp2
                     have n0_ := Aside0.mk (blk_drew BK125.out); have n1_ := Aside0.mk (below_drew1 HB.out); clear BK125; clear HB; have BK125 := n0_; have HB := n1_; clear n0_ n1_; have p132 : 0 ≤ (x3_3 : Int) := qX; have q132 : x3_3 < (l0_2.length : Int) := qX; obtain ⟨ad132, e132, hx132_0⟩ := Kd.at_string HR0_2.out x3_3 p132 q132; have hw132_0 := hx132_0
                     cases e132
                     replace hx132_0 := (HB.out.cell (World.block_lt_of_cell? w _ hx132_0)).trans hx132_0; replace p132 := eq_true p132; replace q132 := eq_true q132; have p133 : 0 ≤ (x4_5 : Int) := qX; have q133 : x4_5 < (l0_2.length : Int) := qX; obtain ⟨ad133, e133, hx133_0⟩ := Kd.at_string HR0_2.out x4_5 p133 q133; have hw133_0 := hx133_0
                     obtain rfl : ad132 = ad133 := (by injection e133)
                     replace hx133_0 := (HB.out.cell (World.block_lt_of_cell? w _ hx133_0)).trans hx133_0; replace p133 := eq_true p133; replace q133 := eq_true q133; refine start_ (n := 11) (S := fun w' => w'.cell? ⟨gb125, 0, none⟩ = some (.string a0_0) ∧ w'.cell? ⟨gb125, 1, none⟩ = some (.string a0_1) ∧ w'.cell? ⟨gb125, 2, none⟩ = some (.slice (some ad132) l0_2.length c0_2) ∧ w'.cell? ⟨gb125, 3, none⟩ = some (.int .i64 a0_3) ∧ w'.cell? ⟨gb125, 4, none⟩ = some (.int .i64 a0_4) ∧ w'.cell? ⟨gb125, 5, none⟩ = some (.slice A0_5 l0_5.length c0_5) ∧ w'.cell? (ad132.add (x3_3).toNat) = some (.string (rdOf ByteArray.empty l0_2 x3_3)) ∧ w'.cell? (ad132.add (x4_5).toNat) = some (.string (rdOf ByteArray.empty l0_2 x4_5))) (ds := []) #[false, false, false, false, false, false, false, false, false, false, false] (by kernel_rfl) rfl rfl ⟨(blk_cell BK125.out 0).trans rfl, (blk_cell BK125.out 1).trans rfl, (blk_cell BK125.out 2).trans rfl, (blk_cell BK125.out 3).trans rfl, (blk_cell BK125.out 4).trans rfl, (blk_cell BK125.out 5).trans rfl, ((HB.out.cell (World.block_lt_of_cell? w _ hw132_0)).trans hw132_0), ((HB.out.cell (World.block_lt_of_cell? w _ hw133_0)).trans hw133_0)⟩ (fun hHeld => ?_); refine with_tabW arbiterref05_Check.tab13 arbiterref05_Check.bits13 (fun HT_ HW_ => ?_); generalize wr.drew = w51 at BK125 HB hx132_0 hx133_0 hHeld ⊢; refine pX HT_ 0 (some 79) ?_; refine pX HT_ 2 (some 81) ?_; refine pX HT_ 5 (some 84) ?_; refine pX HT_ 7 (some 86) ?_; refine tX HT_ HW_ hHeld 1 (some 80) ?_; refine pX HT_ 3 (some 82) ?_; refine tX HT_ HW_ hHeld 4 (some 83) ?_; refine tX HT_ HW_ hHeld 6 (some 85) ?_; refine pX HT_ 8 (some 87) ?_; refine tX HT_ HW_ hHeld 9 (some 88) ?_; refine pX HT_ 10 (some 89) ?_; refine done_ (done_of HT_.out (by kernel_rfl)) ?_
                     try go_wp2
                     go_roundg k5
                     case measure => have := HJ1.out; have := HJ19.out; have := HK3.out; have := HJ33.out; have := HK5.out; omega
                     case rel => exact ⟨(wrap64 (x4_5 + 1)), vX, H', ⟨by have := HJ1.out; have := HJ19.out; have := HK3.out; have := HJ33.out; have := HK5.out; omega⟩, ⟨by (with_reducible repeat (first | refine blk_drewN ?_ _ | refine blk_drew ?_ | refine blk_alloc ?_ _)); exact BK125.out⟩, ⟨bX1 HB GE125⟩⟩
                   ·rw [if_neg c48] at H
                    exact absurd H (by simp)
                  ·rw [if_neg c47] at H
                   exact absurd H (by simp)
                 ·rw [if_neg c46] at H
                  exact absurd H (by simp)
                ·rw [if_neg c45] at H
                 exact absurd H (by simp)
               ·rw [if_neg c44] at H
                have c44b0 : decide (x4_5 < x3_3) = false := decide_eq_false c44; clear c44; have H' := Aside0.mk H; clear H; go_wp2
                go_roundg k5
                case measure => have := HJ1.out; have := HJ19.out; have := HK3.out; have := HJ33.out; have := HK5.out; omega
                case rel => exact ⟨(wrap64 (x3_3 + 1)), vX, H', ⟨by have := HJ1.out; have := HJ19.out; have := HK3.out; have := HJ33.out; have := HK5.out; omega⟩, ⟨by (with_reducible repeat (first | refine blk_drewN ?_ _ | refine blk_drew ?_ | refine blk_alloc ?_ _)); exact BK125.out⟩, ⟨bX1 HB GE125⟩⟩
         ·rw [if_neg c33] at H
          have c33b0 : decide (x3_3 < (l0_2.length : Int)) = false := decide_eq_false c33; clear c33; have H' := Aside0.mk H; clear H; obtain ⟨hcz52_0, hcz52_1, hcz52_2, hcz52_3, hcz52_4, hcz52_5, hfz52_0, hfz52_1, hfz52_2, hfz52_3, hfz52_4, hfz52_5⟩ := c6X BK125; go_wp2
          go_loopg [5] k3 (fun kq v5 w' => ∃ (x5_4 : Int), v5 = .int .i64 x5_4 ∧ Aside0 (arbiterref05_Check.l2 kq x5_4 a0_0 a0_1 l0_2 a0_3 a0_4 l0_5 = some r) ∧ Aside0 (kq ≤ k3) ∧ Aside0 (w'.heap[gb125]? = some (.cells #[.string a0_0, .string a0_1, (.slice A0_2 l0_2.length c0_2), .int .i64 a0_3, .int .i64 a0_4, (.slice A0_5 l0_5.length c0_5)] 85 (0, 0))) ∧ Aside0 (Below w.heap.size w w'))
          case atStart => exact ⟨(0), vX, H', ⟨Nat.le_refl _⟩, ⟨by (with_reducible repeat (first | refine blk_drewN ?_ _ | refine blk_drew ?_ | refine blk_alloc ?_ _)); exact BK125.out⟩, ⟨bX1 HB GE125⟩⟩
          case round =>
           clear H'
           try clear c1
           try clear p1
           try clear q1
           try clear hx1
           try clear c2
           try clear p2
           try clear c3
           try clear c4
           try clear c5
           try clear p6
           try clear c7
           try clear c9
           try clear c11
           try clear p12
           try clear q12
           try clear hx12
           try clear p13
           try clear q13
           try clear hx13
           try clear c19
           try clear c21
           try clear c21b0
           try clear c21b1
           try clear c23
           try clear c23b0
           try clear c23b1
           try clear c25
           try clear c25b0
           try clear c27
           try clear c27b0
           try clear c32
           try clear c33
           try clear c33b0
           try clear c36
           try clear c36b0
           try clear c38
           try clear c43
           try clear c44
           try clear c44b0
           try clear c45
           try clear c45b0
           try clear c46
           try clear c46b0
           try clear c47
           try clear c47b0
           try clear c48
           try clear c48b0
           try clear c49
           try clear c49b0
           try clear c49b1
           try clear hcz10_0 hcz10_1 hcz10_2 hcz10_3 hcz10_4 hcz10_5
           try clear hcz12_0 hcz12_1 hcz12_2 hcz12_3 hcz12_4 hcz12_5
           try clear hcz13_0 hcz13_1 hcz13_2 hcz13_3 hcz13_4 hcz13_5
           try clear hcz15_0 hcz15_1 hcz15_2 hcz15_3 hcz15_4 hcz15_5
           try clear hcz17_0 hcz17_1 hcz17_2 hcz17_3 hcz17_4 hcz17_5
           try clear hcz22_0 hcz22_1 hcz22_2 hcz22_3 hcz22_4 hcz22_5
           try clear hcz24_0 hcz24_1 hcz24_2 hcz24_3 hcz24_4 hcz24_5
           try clear hcz26_0 hcz26_1 hcz26_2 hcz26_3 hcz26_4 hcz26_5
           try clear hcz28_0 hcz28_1 hcz28_2 hcz28_3 hcz28_4 hcz28_5
           try clear hcz30_0 hcz30_1 hcz30_2 hcz30_3 hcz30_4 hcz30_5
           try clear hcz35_0 hcz35_1 hcz35_2 hcz35_3 hcz35_4 hcz35_5
           try clear hcz52_0 hcz52_1 hcz52_2 hcz52_3 hcz52_4 hcz52_5
           try clear hcz8_0 hcz8_1 hcz8_2 hcz8_3 hcz8_4 hcz8_5
           try clear hfz10_0 hfz10_1 hfz10_2 hfz10_3 hfz10_4 hfz10_5
           try clear hfz12_0 hfz12_1 hfz12_2 hfz12_3 hfz12_4 hfz12_5
           try clear hfz13_0 hfz13_1 hfz13_2 hfz13_3 hfz13_4 hfz13_5
           try clear hfz15_0 hfz15_1 hfz15_2 hfz15_3 hfz15_4 hfz15_5
           try clear hfz17_0 hfz17_1 hfz17_2 hfz17_3 hfz17_4 hfz17_5
           try clear hfz22_0 hfz22_1 hfz22_2 hfz22_3 hfz22_4 hfz22_5
           try clear hfz24_0 hfz24_1 hfz24_2 hfz24_3 hfz24_4 hfz24_5
           try clear hfz26_0 hfz26_1 hfz26_2 hfz26_3 hfz26_4 hfz26_5
           try clear hfz28_0 hfz28_1 hfz28_2 hfz28_3 hfz28_4 hfz28_5
           try clear hfz30_0 hfz30_1 hfz30_2 hfz30_3 hfz30_4 hfz30_5
           try clear hfz35_0 hfz35_1 hfz35_2 hfz35_3 hfz35_4 hfz35_5
           try clear hfz52_0 hfz52_1 hfz52_2 hfz52_3 hfz52_4 hfz52_5
           try clear hfz8_0 hfz8_1 hfz8_2 hfz8_3 hfz8_4 hfz8_5
           try clear hx129_0
           try clear hx131_0
           try clear hx132_0
           try clear hx133_0
           try clear p1
           try clear p12
           try clear p129
           try clear p13
           try clear p131
           try clear p132
           try clear p133
           try clear p2
           try clear q1
           try clear q12
           try clear q129
           try clear q13
           try clear q131
           try clear q132
           try clear q133
           obtain ⟨x5_4, rfl, HA, HK4, BK125, HB⟩ := hrel
           cases gk with
           | zero => exact absurd HA.out (by simp [arbiterref05_Check.l2])
           | succ k4 =>
            have H := HA.out; clear HA; simp only [arbiterref05_Check.l2] at H
            by_cases c53 : x5_4 < (l0_5.length : Int)
            ·rw [if_pos c53] at H
             have c53b0 : decide (x5_4 < (l0_5.length : Int)) = true := decide_eq_true c53; clear c53
             by_cases c54 : 0 ≤ x5_4
             ·rw [if_pos c54] at H
              have c54b0 : decide (0 ≤ x5_4) = true := decide_eq_true c54; clear c54; replace H := Option.bind_eq_some_iff.mp H; obtain ⟨t136, A550, H⟩ := H; replace H : ((arbiterref05_method.f ((rd_T105 l0_5 x5_4).f0) ((rd_T105 l0_5 x5_4).f1) ((rd_T105 l0_5 x5_4).f2) ((rd_T105 l0_5 x5_4).f3) ((rd_T105 l0_5 x5_4).f4) ((rd_T105 l0_5 x5_4).f5) t136).bind fun t137 => (if t137 = true then ((arbiterref05_Find.f a0_0 a0_1 l0_2 a0_3 a0_4 l0_5 ((rd_T105 l0_5 x5_4).f0) ((rd_T105 l0_5 x5_4).f1)).bind fun t138 => (if t138 = x5_4 then (arbiterref05_Check.l2 k4 (wrap64 (x5_4 + 1)) a0_0 a0_1 l0_2 a0_3 a0_4 l0_5) else (some 1))) else (some 1))) = some r := H; have A55 := Aside0.mk A550; clear A550; replace H := Option.bind_eq_some_iff.mp H; obtain ⟨t137, A560, H⟩ := H; replace H : (if t137 = true then ((arbiterref05_Find.f a0_0 a0_1 l0_2 a0_3 a0_4 l0_5 ((rd_T105 l0_5 x5_4).f0) ((rd_T105 l0_5 x5_4).f1)).bind fun t138 => (if t138 = x5_4 then (arbiterref05_Check.l2 k4 (wrap64 (x5_4 + 1)) a0_0 a0_1 l0_2 a0_3 a0_4 l0_5) else (some 1))) else (some 1)) = some r := H; have A56 := Aside0.mk A560; clear A560
              by_cases c57 : t137 = true
              ·subst c57
               have H1 : ((arbiterref05_Find.f a0_0 a0_1 l0_2 a0_3 a0_4 l0_5 ((rd_T105 l0_5 x5_4).f0) ((rd_T105 l0_5 x5_4).f1)).bind fun t138 => (if t138 = x5_4 then (arbiterref05_Check.l2 k4 (wrap64 (x5_4 + 1)) a0_0 a0_1 l0_2 a0_3 a0_4 l0_5) else (some 1))) = some r := by rw [if_pos rfl] at H; exact H
               clear H; have H := H1; clear H1; replace H := Option.bind_eq_some_iff.mp H; obtain ⟨t138, A580, H⟩ := H; replace H : (if t138 = x5_4 then (arbiterref05_Check.l2 k4 (wrap64 (x5_4 + 1)) a0_0 a0_1 l0_2 a0_3 a0_4 l0_5) else (some 1)) = some r := H; have A58 := Aside0.mk A580; clear A580
               by_cases c59 : t138 = x5_4
               ·rw [if_pos c59] at H
                have c59b0 : (t138 == x5_4) = true := beq_iff_eq.mpr c59; have c59b1 : (t138 != x5_4) = false := bne_eq_false_iff_eq.mpr c59; clear c59; have H' := Aside0.mk H; clear H; obtain ⟨hcz60_0, hcz60_1, hcz60_2, hcz60_3, hcz60_4, hcz60_5, hfz60_0, hfz60_1, hfz60_2, hfz60_3, hfz60_4, hfz60_5⟩ := c6X BK125; have p134 : 0 ≤ (x5_4 : Int) := qX; have q134 : x5_4 < (l0_5.length : Int) := qX; obtain ⟨ad134, A134_5, c134_5, e134, hx134_0, hx134_1, hx134_2, hx134_3, hx134_4, hx134_5, hl134_5, hi134_5⟩ := at_T105 HR0_5.out x5_4 p134 q134
                cases e134
                replace hx134_0 := (HB.out.cell (World.block_lt_of_cell? w _ hx134_0)).trans hx134_0; replace hx134_1 := (HB.out.cell (World.block_lt_of_cell? w _ hx134_1)).trans hx134_1; replace hx134_2 := (HB.out.cell (World.block_lt_of_cell? w _ hx134_2)).trans hx134_2; replace hx134_3 := (HB.out.cell (World.block_lt_of_cell? w _ hx134_3)).trans hx134_3; replace hx134_4 := (HB.out.cell (World.block_lt_of_cell? w _ hx134_4)).trans hx134_4; replace hx134_5 := (HB.out.cell (World.block_lt_of_cell? w _ hx134_5)).trans hx134_5; have HR134_5 := Aside0.mk hi134_5; have HC134_5 := Aside0.mk hl134_5; clear hi134_5 hl134_5; replace p134 := eq_true p134; replace q134 := eq_true q134
                try go_wp2_with (first | ((with_reducible refine gate_dst (N := 6) rfl ?_); (try (refine gate_guard (by rfl) ?_; dsimp only)); refine eX 6 #[.string (⟨#[]⟩ : ByteArray), .string (⟨#[]⟩ : ByteArray), .int .i64 0, .int .i64 0, .int .i64 0, .slice none 0 0] 105 ?_; intro gb135 hg w61 hbox hb; have n0_ := Aside0.mk (blk_below (kX BK125) hb); have n1_ := Aside0.mk (below_step (bX1 HB GE125) hb); have n2_ := Aside0.mk (hbox); have n3_ := Aside0.mk ((by rw [hg]; exact (below_size (bX1 HB GE125)) : w.heap.size ≤ gb135)); have n4_ := Aside0.mk ((by rw [hg]; exact (below_size (bX1 HB GE125)) : w.heap.size ≤ gb135)); have n5_ := Aside0.mk ((by rw [hg]; exact Nat.ne_of_lt (blk_lt (kX BK125)) : gb125 ≠ gb135)); have n6_ := Aside0.mk ((by rw [hg]; exact Nat.ne_of_gt (blk_lt (kX BK125)) : gb135 ≠ gb125)); clear BK125; clear HB; have BK125 := n0_; have HB := n1_; have BK135 := n2_; have GW135 := n3_; have GE135 := n4_; have NB125_135 := n5_; have NB135_125 := n6_; clear n0_ n1_ n2_ n3_ n4_ n5_ n6_; clear hb hbox hg; have hnb62 := NB135_125.out; have hnc62 := NB125_135.out; obtain ⟨hcz63_0, hcz63_1, hcz63_2, hcz63_3, hcz63_4, hcz63_5, hfz63_0, hfz63_1, hfz63_2, hfz63_3, hfz63_4, hfz63_5⟩ := c6X BK135))
                have n0_ : Aside0 (((((((w61.setCell ⟨gb135, 0, none⟩ (.string ((rd_T105 l0_5 x5_4).f0))).setCell ⟨gb135, 1, none⟩ (.string ((rd_T105 l0_5 x5_4).f1))).setCell ⟨gb135, 2, none⟩ (.int .i64 ((rd_T105 l0_5 x5_4).f2))).setCell ⟨gb135, 3, none⟩ (.int .i64 ((rd_T105 l0_5 x5_4).f3))).setCell ⟨gb135, 4, none⟩ (.int .i64 ((rd_T105 l0_5 x5_4).f4))).setCell ⟨gb135, 5, none⟩ (.slice A134_5 ((rd_T105 l0_5 x5_4).f5).length c134_5)).heap[gb125]? = some (.cells #[.string a0_0, .string a0_1, .slice A0_2 l0_2.length c0_2, .int .i64 a0_3, .int .i64 a0_4, .slice (some ad134) l0_5.length c0_5] 85 (0, 0))) := ⟨fX BK125 NB125_135⟩
                have n1_ : Aside0 (((((((w61.setCell ⟨gb135, 0, none⟩ (.string ((rd_T105 l0_5 x5_4).f0))).setCell ⟨gb135, 1, none⟩ (.string ((rd_T105 l0_5 x5_4).f1))).setCell ⟨gb135, 2, none⟩ (.int .i64 ((rd_T105 l0_5 x5_4).f2))).setCell ⟨gb135, 3, none⟩ (.int .i64 ((rd_T105 l0_5 x5_4).f3))).setCell ⟨gb135, 4, none⟩ (.int .i64 ((rd_T105 l0_5 x5_4).f4))).setCell ⟨gb135, 5, none⟩ (.slice A134_5 ((rd_T105 l0_5 x5_4).f5).length c134_5)).heap[gb135]? = some (.cells #[.string ((rd_T105 l0_5 x5_4).f0), .string ((rd_T105 l0_5 x5_4).f1), .int .i64 ((rd_T105 l0_5 x5_4).f2), .int .i64 ((rd_T105 l0_5 x5_4).f3), .int .i64 ((rd_T105 l0_5 x5_4).f4), .slice A134_5 ((rd_T105 l0_5 x5_4).f5).length c134_5] 105 (0, 0))) := ⟨by (with_reducible repeat (first | refine blk_drewN ?_ _ | refine blk_drew ?_ | refine blk_alloc ?_ _)); refine blk_put (cs := #[.string ((rd_T105 l0_5 x5_4).f0), .string ((rd_T105 l0_5 x5_4).f1), .int .i64 ((rd_T105 l0_5 x5_4).f2), .int .i64 ((rd_T105 l0_5 x5_4).f3), .int .i64 ((rd_T105 l0_5 x5_4).f4), .slice none 0 0]) ?_ 5 _ rfl; (with_reducible repeat (first | refine blk_drewN ?_ _ | refine blk_drew ?_ | refine blk_alloc ?_ _)); refine blk_put (cs := #[.string ((rd_T105 l0_5 x5_4).f0), .string ((rd_T105 l0_5 x5_4).f1), .int .i64 ((rd_T105 l0_5 x5_4).f2), .int .i64 ((rd_T105 l0_5 x5_4).f3), .int .i64 0, .slice none 0 0]) ?_ 4 _ rfl; (with_reducible repeat (first | refine blk_drewN ?_ _ | refine blk_drew ?_ | refine blk_alloc ?_ _)); refine blk_put (cs := #[.string ((rd_T105 l0_5 x5_4).f0), .string ((rd_T105 l0_5 x5_4).f1), .int .i64 ((rd_T105 l0_5 x5_4).f2), .int .i64 0, .int .i64 0, .slice none 0 0]) ?_ 3 _ rfl; (with_reducible repeat (first | refine blk_drewN ?_ _ | refine blk_drew ?_ | refine blk_alloc ?_ _)); refine blk_put (cs := #[.string ((rd_T105 l0_5 x5_4).f0), .string ((rd_T105 l0_5 x5_4).f1), .int .i64 0, .int .i64 0, .int .i64 0, .slice none 0 0]) ?_ 2 _ rfl; (with_reducible repeat (first | refine blk_drewN ?_ _ | refine blk_drew ?_ | refine blk_alloc ?_ _)); refine blk_put (cs := #[.string ((rd_T105 l0_5 x5_4).f0), .string (⟨#[]⟩ : ByteArray), .int .i64 0, .int .i64 0, .int .i64 0, .slice none 0 0]) ?_ 1 _ rfl; (with_reducible repeat (first | refine blk_drewN ?_ _ | refine blk_drew ?_ | refine blk_alloc ?_ _)); refine blk_put (cs := #[.string (⟨#[]⟩ : ByteArray), .string (⟨#[]⟩ : ByteArray), .int .i64 0, .int .i64 0, .int .i64 0, .slice none 0 0]) ?_ 0 _ rfl; (with_reducible repeat (first | refine blk_drewN ?_ _ | refine blk_drew ?_ | refine blk_alloc ?_ _)); exact BK135.out⟩
                have n2_ : Aside0 (Below w.heap.size w ((((((w61.setCell ⟨gb135, 0, none⟩ (.string ((rd_T105 l0_5 x5_4).f0))).setCell ⟨gb135, 1, none⟩ (.string ((rd_T105 l0_5 x5_4).f1))).setCell ⟨gb135, 2, none⟩ (.int .i64 ((rd_T105 l0_5 x5_4).f2))).setCell ⟨gb135, 3, none⟩ (.int .i64 ((rd_T105 l0_5 x5_4).f3))).setCell ⟨gb135, 4, none⟩ (.int .i64 ((rd_T105 l0_5 x5_4).f4))).setCell ⟨gb135, 5, none⟩ (.slice A134_5 ((rd_T105 l0_5 x5_4).f5).length c134_5))) := ⟨bX2 HB GE125 GE135⟩
                (try clear BK125)
                (try clear BK135)
                (try clear HB)
                generalize ((((((w61.setCell ⟨gb135, 0, none⟩ (.string ((rd_T105 l0_5 x5_4).f0))).setCell ⟨gb135, 1, none⟩ (.string ((rd_T105 l0_5 x5_4).f1))).setCell ⟨gb135, 2, none⟩ (.int .i64 ((rd_T105 l0_5 x5_4).f2))).setCell ⟨gb135, 3, none⟩ (.int .i64 ((rd_T105 l0_5 x5_4).f3))).setCell ⟨gb135, 4, none⟩ (.int .i64 ((rd_T105 l0_5 x5_4).f4))).setCell ⟨gb135, 5, none⟩ (.slice A134_5 ((rd_T105 l0_5 x5_4).f5).length c134_5)) = w64 at n0_ n1_ n2_ ⊢; have BK125 := n0_; have BK135 := n1_; have HB := n2_; clear n0_ n1_ n2_; have n0_ := Aside0.mk (blk_drew BK125.out); have n1_ := Aside0.mk (blk_drew BK135.out); have n2_ := Aside0.mk (below_drew1 HB.out); clear BK125; clear BK135; clear HB; have BK125 := n0_; have BK135 := n1_; have HB := n2_; clear n0_ n1_ n2_; refine start_ (n := 16) (S := fun w' => w'.cell? ⟨gb135, 0, none⟩ = some (.string ((rd_T105 l0_5 x5_4).f0)) ∧ w'.cell? ⟨gb135, 1, none⟩ = some (.string ((rd_T105 l0_5 x5_4).f1)) ∧ w'.cell? ⟨gb135, 2, none⟩ = some (.int .i64 ((rd_T105 l0_5 x5_4).f2)) ∧ w'.cell? ⟨gb135, 3, none⟩ = some (.int .i64 ((rd_T105 l0_5 x5_4).f3)) ∧ w'.cell? ⟨gb135, 4, none⟩ = some (.int .i64 ((rd_T105 l0_5 x5_4).f4)) ∧ w'.cell? ⟨gb135, 5, none⟩ = some (.slice A134_5 ((rd_T105 l0_5 x5_4).f5).length c134_5) ∧ w'.cell? ⟨gb125, 0, none⟩ = some (.string a0_0) ∧ w'.cell? ⟨gb125, 1, none⟩ = some (.string a0_1) ∧ w'.cell? ⟨gb125, 2, none⟩ = some (.slice A0_2 l0_2.length c0_2) ∧ w'.cell? ⟨gb125, 3, none⟩ = some (.int .i64 a0_3) ∧ w'.cell? ⟨gb125, 4, none⟩ = some (.int .i64 a0_4) ∧ w'.cell? ⟨gb125, 5, none⟩ = some (.slice (some ad134) l0_5.length c0_5)) (ds := []) #[false, false, false, false, false, false, false, false, false, false, false, false, false, false, false, false] (by kernel_rfl) rfl rfl ⟨(blk_cell BK135.out 0).trans rfl, (blk_cell BK135.out 1).trans rfl, (blk_cell BK135.out 2).trans rfl, (blk_cell BK135.out 3).trans rfl, (blk_cell BK135.out 4).trans rfl, (blk_cell BK135.out 5).trans rfl, (blk_cell BK125.out 0).trans rfl, (blk_cell BK125.out 1).trans rfl, (blk_cell BK125.out 2).trans rfl, (blk_cell BK125.out 3).trans rfl, (blk_cell BK125.out 4).trans rfl, (blk_cell BK125.out 5).trans rfl⟩ (fun hHeld => ?_); refine with_tabW arbiterref05_Check.tab19 arbiterref05_Check.bits19 (fun HT_ HW_ => ?_); generalize w64.drew = w65 at BK125 BK135 HB hHeld ⊢; refine pX HT_ 1 (some 103) ?_; refine tX HT_ HW_ hHeld 0 (some 102) ?_; refine tX HT_ HW_ hHeld 2 (some 104) ?_; refine oX HT_ 3 (some 105) (fun K hK => ?_); refine hX Tryz.func53 #[.int .i64 a0_3, .int .i64 512] ?_
                with_reducible refine (arbiterref03_Has.calls a0_3 512 t136 _ A55.out).mono ?_
                rintro e w66 ⟨rfl, hb⟩; refine ⟨_, rfl, ?_⟩; have n0_ := Aside0.mk (blk_below (kX BK125) hb); have n1_ := Aside0.mk (blk_below (kX BK135) hb); have n2_ := Aside0.mk (below_step (bX2 HB GE125 GE135) hb); clear BK125; clear BK135; clear HB; have BK125 := n0_; have BK135 := n1_; have HB := n2_; clear n0_ n1_ n2_
                (try clear hb)
                (try clear hb2)
                (try clear hk)
                (try clear hi)
                refine hK.out _ _ ⟨(blk_cell BK135.out 0).trans rfl, (blk_cell BK135.out 1).trans rfl, (blk_cell BK135.out 2).trans rfl, (blk_cell BK135.out 3).trans rfl, (blk_cell BK135.out 4).trans rfl, (blk_cell BK135.out 5).trans rfl, (blk_cell BK125.out 0).trans rfl, (blk_cell BK125.out 1).trans rfl, (blk_cell BK125.out 2).trans rfl, (blk_cell BK125.out 3).trans rfl, (blk_cell BK125.out 4).trans rfl, (blk_cell BK125.out 5).trans rfl⟩ (fun hHeld => ?_); clear hK K; refine nX (some 105) ?_; refine oX HT_ 4 (some 106) (fun K hK => ?_); refine hX Tryz.func118 #[.agg #[.string ((rd_T105 l0_5 x5_4).f0), .string ((rd_T105 l0_5 x5_4).f1), .int .i64 ((rd_T105 l0_5 x5_4).f2), .int .i64 ((rd_T105 l0_5 x5_4).f3), .int .i64 ((rd_T105 l0_5 x5_4).f4), .slice A134_5 ((rd_T105 l0_5 x5_4).f5).length c134_5], .bool t136] ?_
                with_reducible refine (arbiterref05_method.calls ((rd_T105 l0_5 x5_4).f0) ((rd_T105 l0_5 x5_4).f1) ((rd_T105 l0_5 x5_4).f2) ((rd_T105 l0_5 x5_4).f3) ((rd_T105 l0_5 x5_4).f4) _ _ ((rd_T105 l0_5 x5_4).f5) t136 true _ ?side1 ?side2 A56.out).mono ?_
                (case side1 => repeat (first | exact (Kd.C_below HR134_5.out HB.out) | (with_reducible refine Kd.C_alloc ?_ _) | (with_reducible refine Kd.C_drewN ?_ _) | (with_reducible refine Kd.C_drew ?_)))
                (case side2 => exact HC134_5.out)
                rintro e w67 ⟨rfl, hb⟩; refine ⟨_, rfl, ?_⟩; have n0_ := Aside0.mk (blk_below (kX BK125) hb); have n1_ := Aside0.mk (blk_below (kX BK135) hb); have n2_ := Aside0.mk (below_step (bX2 HB GE125 GE135) hb); clear BK125; clear BK135; clear HB; have BK125 := n0_; have BK135 := n1_; have HB := n2_; clear n0_ n1_ n2_
                (try clear hb)
                (try clear hb2)
                (try clear hk)
                (try clear hi)
                refine hK.out _ _ ⟨(blk_cell BK135.out 0).trans rfl, (blk_cell BK135.out 1).trans rfl, (blk_cell BK135.out 2).trans rfl, (blk_cell BK135.out 3).trans rfl, (blk_cell BK135.out 4).trans rfl, (blk_cell BK135.out 5).trans rfl, (blk_cell BK125.out 0).trans rfl, (blk_cell BK125.out 1).trans rfl, (blk_cell BK125.out 2).trans rfl, (blk_cell BK125.out 3).trans rfl, (blk_cell BK125.out 4).trans rfl, (blk_cell BK125.out 5).trans rfl⟩ (fun hHeld => ?_); clear hK K; refine nX (some 106) ?_; refine pX HT_ 5 (some 107) ?_; refine pX HT_ 6 (some 108) ?_; refine pX HT_ 8 (some 110) ?_; refine pX HT_ 10 (some 112) ?_; refine pX HT_ 13 (some 115) ?_; refine tX HT_ HW_ hHeld 7 (some 109) ?_; refine tX HT_ HW_ hHeld 9 (some 111) ?_; refine tX HT_ HW_ hHeld 11 (some 113) ?_; refine oX HT_ 12 (some 114) (fun K hK => ?_); refine hX Tryz.func119 #[.agg #[.string a0_0, .string a0_1, .slice A0_2 l0_2.length c0_2, .int .i64 a0_3, .int .i64 a0_4, .slice (some ad134) l0_5.length c0_5], .string ((rd_T105 l0_5 x5_4).f0), .string ((rd_T105 l0_5 x5_4).f1)] ?_
                with_reducible refine (arbiterref05_Find.calls a0_0 a0_1 _ _ l0_2 a0_3 a0_4 _ _ l0_5 ((rd_T105 l0_5 x5_4).f0) ((rd_T105 l0_5 x5_4).f1) t138 _ ?side1 ?side2 ?side3 ?side4 A58.out).mono ?_
                (case side1 => repeat (first | exact (Kd.C_below HR0_2.out HB.out) | (with_reducible refine Kd.C_alloc ?_ _) | (with_reducible refine Kd.C_drewN ?_ _) | (with_reducible refine Kd.C_drew ?_)))
                (case side2 => exact HC0_2.out)
                (case side3 => repeat (first | exact (Kd.C_below HR0_5.out HB.out) | (with_reducible refine Kd.C_alloc ?_ _) | (with_reducible refine Kd.C_drewN ?_ _) | (with_reducible refine Kd.C_drew ?_)))
                (case side4 => exact HC0_5.out)
                rintro e w68 ⟨rfl, hb⟩; refine ⟨_, rfl, ?_⟩; have n0_ := Aside0.mk (blk_below (kX BK125) hb); have n1_ := Aside0.mk (blk_below (kX BK135) hb); have n2_ := Aside0.mk (below_step (bX2 HB GE125 GE135) hb); clear BK125; clear BK135; clear HB; have BK125 := n0_; have BK135 := n1_; have HB := n2_; clear n0_ n1_ n2_
                (try clear hb)
                (try clear hb2)
                (try clear hk)
                (try clear hi)
                refine hK.out _ _ ⟨(blk_cell BK135.out 0).trans rfl, (blk_cell BK135.out 1).trans rfl, (blk_cell BK135.out 2).trans rfl, (blk_cell BK135.out 3).trans rfl, (blk_cell BK135.out 4).trans rfl, (blk_cell BK135.out 5).trans rfl, (blk_cell BK125.out 0).trans rfl, (blk_cell BK125.out 1).trans rfl, (blk_cell BK125.out 2).trans rfl, (blk_cell BK125.out 3).trans rfl, (blk_cell BK125.out 4).trans rfl, (blk_cell BK125.out 5).trans rfl⟩ (fun hHeld => ?_); clear hK K; refine nX (some 114) ?_; refine pX HT_ 14 (some 116) ?_; refine pX HT_ 15 (some 117) ?_; refine done_ (done_of HT_.out (by kernel_rfl)) ?_
                try go_wp2
                go_roundg k4
                case measure => have := HJ1.out; have := HJ19.out; have := HK3.out; have := HK4.out; omega
                case rel => exact ⟨(wrap64 (x5_4 + 1)), vX, H', ⟨by have := HJ1.out; have := HJ19.out; have := HK3.out; have := HK4.out; omega⟩, ⟨by (with_reducible repeat (first | refine blk_drewN ?_ _ | refine blk_drew ?_ | refine blk_alloc ?_ _)); exact BK125.out⟩, ⟨bX2 HB GE125 GE135⟩⟩
               ·rw [if_neg c59] at H
                have c59b0 : (t138 == x5_4) = false := beq_eq_false_iff_ne.mpr c59; have c59b1 : (t138 != x5_4) = true := bne_iff_ne.mpr c59; obtain rfl := Option.some.inj H; obtain ⟨hcz69_0, hcz69_1, hcz69_2, hcz69_3, hcz69_4, hcz69_5, hfz69_0, hfz69_1, hfz69_2, hfz69_3, hfz69_4, hfz69_5⟩ := c6X BK125; have p134 : 0 ≤ (x5_4 : Int) := qX; have q134 : x5_4 < (l0_5.length : Int) := qX; obtain ⟨ad134, A134_5, c134_5, e134, hx134_0, hx134_1, hx134_2, hx134_3, hx134_4, hx134_5, hl134_5, hi134_5⟩ := at_T105 HR0_5.out x5_4 p134 q134
                cases e134
                replace hx134_0 := (HB.out.cell (World.block_lt_of_cell? w _ hx134_0)).trans hx134_0; replace hx134_1 := (HB.out.cell (World.block_lt_of_cell? w _ hx134_1)).trans hx134_1; replace hx134_2 := (HB.out.cell (World.block_lt_of_cell? w _ hx134_2)).trans hx134_2; replace hx134_3 := (HB.out.cell (World.block_lt_of_cell? w _ hx134_3)).trans hx134_3; replace hx134_4 := (HB.out.cell (World.block_lt_of_cell? w _ hx134_4)).trans hx134_4; replace hx134_5 := (HB.out.cell (World.block_lt_of_cell? w _ hx134_5)).trans hx134_5; have HR134_5 := Aside0.mk hi134_5; have HC134_5 := Aside0.mk hl134_5; clear hi134_5 hl134_5; replace p134 := eq_true p134; replace q134 := eq_true q134
                try go_wp2_with (first | ((with_reducible refine gate_dst (N := 6) rfl ?_); (try (refine gate_guard (by rfl) ?_; dsimp only)); refine eX 6 #[.string (⟨#[]⟩ : ByteArray), .string (⟨#[]⟩ : ByteArray), .int .i64 0, .int .i64 0, .int .i64 0, .slice none 0 0] 105 ?_; intro gb135 hg w70 hbox hb; have n0_ := Aside0.mk (blk_below (kX BK125) hb); have n1_ := Aside0.mk (below_step (bX1 HB GE125) hb); have n2_ := Aside0.mk (hbox); have n3_ := Aside0.mk ((by rw [hg]; exact (below_size (bX1 HB GE125)) : w.heap.size ≤ gb135)); have n4_ := Aside0.mk ((by rw [hg]; exact (below_size (bX1 HB GE125)) : w.heap.size ≤ gb135)); have n5_ := Aside0.mk ((by rw [hg]; exact Nat.ne_of_lt (blk_lt (kX BK125)) : gb125 ≠ gb135)); have n6_ := Aside0.mk ((by rw [hg]; exact Nat.ne_of_gt (blk_lt (kX BK125)) : gb135 ≠ gb125)); clear BK125; clear HB; have BK125 := n0_; have HB := n1_; have BK135 := n2_; have GW135 := n3_; have GE135 := n4_; have NB125_135 := n5_; have NB135_125 := n6_; clear n0_ n1_ n2_ n3_ n4_ n5_ n6_; clear hb hbox hg; have hnb71 := NB135_125.out; have hnc71 := NB125_135.out; obtain ⟨hcz72_0, hcz72_1, hcz72_2, hcz72_3, hcz72_4, hcz72_5, hfz72_0, hfz72_1, hfz72_2, hfz72_3, hfz72_4, hfz72_5⟩ := c6X BK135))
                have n0_ : Aside0 (((((((w70.setCell ⟨gb135, 0, none⟩ (.string ((rd_T105 l0_5 x5_4).f0))).setCell ⟨gb135, 1, none⟩ (.string ((rd_T105 l0_5 x5_4).f1))).setCell ⟨gb135, 2, none⟩ (.int .i64 ((rd_T105 l0_5 x5_4).f2))).setCell ⟨gb135, 3, none⟩ (.int .i64 ((rd_T105 l0_5 x5_4).f3))).setCell ⟨gb135, 4, none⟩ (.int .i64 ((rd_T105 l0_5 x5_4).f4))).setCell ⟨gb135, 5, none⟩ (.slice A134_5 ((rd_T105 l0_5 x5_4).f5).length c134_5)).heap[gb125]? = some (.cells #[.string a0_0, .string a0_1, .slice A0_2 l0_2.length c0_2, .int .i64 a0_3, .int .i64 a0_4, .slice (some ad134) l0_5.length c0_5] 85 (0, 0))) := ⟨fX BK125 NB125_135⟩
                have n1_ : Aside0 (((((((w70.setCell ⟨gb135, 0, none⟩ (.string ((rd_T105 l0_5 x5_4).f0))).setCell ⟨gb135, 1, none⟩ (.string ((rd_T105 l0_5 x5_4).f1))).setCell ⟨gb135, 2, none⟩ (.int .i64 ((rd_T105 l0_5 x5_4).f2))).setCell ⟨gb135, 3, none⟩ (.int .i64 ((rd_T105 l0_5 x5_4).f3))).setCell ⟨gb135, 4, none⟩ (.int .i64 ((rd_T105 l0_5 x5_4).f4))).setCell ⟨gb135, 5, none⟩ (.slice A134_5 ((rd_T105 l0_5 x5_4).f5).length c134_5)).heap[gb135]? = some (.cells #[.string ((rd_T105 l0_5 x5_4).f0), .string ((rd_T105 l0_5 x5_4).f1), .int .i64 ((rd_T105 l0_5 x5_4).f2), .int .i64 ((rd_T105 l0_5 x5_4).f3), .int .i64 ((rd_T105 l0_5 x5_4).f4), .slice A134_5 ((rd_T105 l0_5 x5_4).f5).length c134_5] 105 (0, 0))) := ⟨by (with_reducible repeat (first | refine blk_drewN ?_ _ | refine blk_drew ?_ | refine blk_alloc ?_ _)); refine blk_put (cs := #[.string ((rd_T105 l0_5 x5_4).f0), .string ((rd_T105 l0_5 x5_4).f1), .int .i64 ((rd_T105 l0_5 x5_4).f2), .int .i64 ((rd_T105 l0_5 x5_4).f3), .int .i64 ((rd_T105 l0_5 x5_4).f4), .slice none 0 0]) ?_ 5 _ rfl; (with_reducible repeat (first | refine blk_drewN ?_ _ | refine blk_drew ?_ | refine blk_alloc ?_ _)); refine blk_put (cs := #[.string ((rd_T105 l0_5 x5_4).f0), .string ((rd_T105 l0_5 x5_4).f1), .int .i64 ((rd_T105 l0_5 x5_4).f2), .int .i64 ((rd_T105 l0_5 x5_4).f3), .int .i64 0, .slice none 0 0]) ?_ 4 _ rfl; (with_reducible repeat (first | refine blk_drewN ?_ _ | refine blk_drew ?_ | refine blk_alloc ?_ _)); refine blk_put (cs := #[.string ((rd_T105 l0_5 x5_4).f0), .string ((rd_T105 l0_5 x5_4).f1), .int .i64 ((rd_T105 l0_5 x5_4).f2), .int .i64 0, .int .i64 0, .slice none 0 0]) ?_ 3 _ rfl; (with_reducible repeat (first | refine blk_drewN ?_ _ | refine blk_drew ?_ | refine blk_alloc ?_ _)); refine blk_put (cs := #[.string ((rd_T105 l0_5 x5_4).f0), .string ((rd_T105 l0_5 x5_4).f1), .int .i64 0, .int .i64 0, .int .i64 0, .slice none 0 0]) ?_ 2 _ rfl; (with_reducible repeat (first | refine blk_drewN ?_ _ | refine blk_drew ?_ | refine blk_alloc ?_ _)); refine blk_put (cs := #[.string ((rd_T105 l0_5 x5_4).f0), .string (⟨#[]⟩ : ByteArray), .int .i64 0, .int .i64 0, .int .i64 0, .slice none 0 0]) ?_ 1 _ rfl; (with_reducible repeat (first | refine blk_drewN ?_ _ | refine blk_drew ?_ | refine blk_alloc ?_ _)); refine blk_put (cs := #[.string (⟨#[]⟩ : ByteArray), .string (⟨#[]⟩ : ByteArray), .int .i64 0, .int .i64 0, .int .i64 0, .slice none 0 0]) ?_ 0 _ rfl; (with_reducible repeat (first | refine blk_drewN ?_ _ | refine blk_drew ?_ | refine blk_alloc ?_ _)); exact BK135.out⟩
                have n2_ : Aside0 (Below w.heap.size w ((((((w70.setCell ⟨gb135, 0, none⟩ (.string ((rd_T105 l0_5 x5_4).f0))).setCell ⟨gb135, 1, none⟩ (.string ((rd_T105 l0_5 x5_4).f1))).setCell ⟨gb135, 2, none⟩ (.int .i64 ((rd_T105 l0_5 x5_4).f2))).setCell ⟨gb135, 3, none⟩ (.int .i64 ((rd_T105 l0_5 x5_4).f3))).setCell ⟨gb135, 4, none⟩ (.int .i64 ((rd_T105 l0_5 x5_4).f4))).setCell ⟨gb135, 5, none⟩ (.slice A134_5 ((rd_T105 l0_5 x5_4).f5).length c134_5))) := ⟨bX2 HB GE125 GE135⟩
                (try clear BK125)
                (try clear BK135)
                (try clear HB)
                generalize ((((((w70.setCell ⟨gb135, 0, none⟩ (.string ((rd_T105 l0_5 x5_4).f0))).setCell ⟨gb135, 1, none⟩ (.string ((rd_T105 l0_5 x5_4).f1))).setCell ⟨gb135, 2, none⟩ (.int .i64 ((rd_T105 l0_5 x5_4).f2))).setCell ⟨gb135, 3, none⟩ (.int .i64 ((rd_T105 l0_5 x5_4).f3))).setCell ⟨gb135, 4, none⟩ (.int .i64 ((rd_T105 l0_5 x5_4).f4))).setCell ⟨gb135, 5, none⟩ (.slice A134_5 ((rd_T105 l0_5 x5_4).f5).length c134_5)) = w73 at n0_ n1_ n2_ ⊢; have BK125 := n0_; have BK135 := n1_; have HB := n2_; clear n0_ n1_ n2_; have n0_ := Aside0.mk (blk_drew BK125.out); have n1_ := Aside0.mk (blk_drew BK135.out); have n2_ := Aside0.mk (below_drew1 HB.out); clear BK125; clear BK135; clear HB; have BK125 := n0_; have BK135 := n1_; have HB := n2_; clear n0_ n1_ n2_; refine start_ (n := 16) (S := fun w' => w'.cell? ⟨gb135, 0, none⟩ = some (.string ((rd_T105 l0_5 x5_4).f0)) ∧ w'.cell? ⟨gb135, 1, none⟩ = some (.string ((rd_T105 l0_5 x5_4).f1)) ∧ w'.cell? ⟨gb135, 2, none⟩ = some (.int .i64 ((rd_T105 l0_5 x5_4).f2)) ∧ w'.cell? ⟨gb135, 3, none⟩ = some (.int .i64 ((rd_T105 l0_5 x5_4).f3)) ∧ w'.cell? ⟨gb135, 4, none⟩ = some (.int .i64 ((rd_T105 l0_5 x5_4).f4)) ∧ w'.cell? ⟨gb135, 5, none⟩ = some (.slice A134_5 ((rd_T105 l0_5 x5_4).f5).length c134_5) ∧ w'.cell? ⟨gb125, 0, none⟩ = some (.string a0_0) ∧ w'.cell? ⟨gb125, 1, none⟩ = some (.string a0_1) ∧ w'.cell? ⟨gb125, 2, none⟩ = some (.slice A0_2 l0_2.length c0_2) ∧ w'.cell? ⟨gb125, 3, none⟩ = some (.int .i64 a0_3) ∧ w'.cell? ⟨gb125, 4, none⟩ = some (.int .i64 a0_4) ∧ w'.cell? ⟨gb125, 5, none⟩ = some (.slice (some ad134) l0_5.length c0_5)) (ds := []) #[false, false, false, false, false, false, false, false, false, false, false, false, false, false, false, false] (by kernel_rfl) rfl rfl ⟨(blk_cell BK135.out 0).trans rfl, (blk_cell BK135.out 1).trans rfl, (blk_cell BK135.out 2).trans rfl, (blk_cell BK135.out 3).trans rfl, (blk_cell BK135.out 4).trans rfl, (blk_cell BK135.out 5).trans rfl, (blk_cell BK125.out 0).trans rfl, (blk_cell BK125.out 1).trans rfl, (blk_cell BK125.out 2).trans rfl, (blk_cell BK125.out 3).trans rfl, (blk_cell BK125.out 4).trans rfl, (blk_cell BK125.out 5).trans rfl⟩ (fun hHeld => ?_); refine with_tabW arbiterref05_Check.tab19 arbiterref05_Check.bits19 (fun HT_ HW_ => ?_); generalize w73.drew = w74 at BK125 BK135 HB hHeld ⊢; refine pX HT_ 1 (some 103) ?_; refine tX HT_ HW_ hHeld 0 (some 102) ?_; refine tX HT_ HW_ hHeld 2 (some 104) ?_; refine oX HT_ 3 (some 105) (fun K hK => ?_); refine hX Tryz.func53 #[.int .i64 a0_3, .int .i64 512] ?_
                with_reducible refine (arbiterref03_Has.calls a0_3 512 t136 _ A55.out).mono ?_
                rintro e w75 ⟨rfl, hb⟩; refine ⟨_, rfl, ?_⟩; have n0_ := Aside0.mk (blk_below (kX BK125) hb); have n1_ := Aside0.mk (blk_below (kX BK135) hb); have n2_ := Aside0.mk (below_step (bX2 HB GE125 GE135) hb); clear BK125; clear BK135; clear HB; have BK125 := n0_; have BK135 := n1_; have HB := n2_; clear n0_ n1_ n2_
                (try clear hb)
                (try clear hb2)
                (try clear hk)
                (try clear hi)
                refine hK.out _ _ ⟨(blk_cell BK135.out 0).trans rfl, (blk_cell BK135.out 1).trans rfl, (blk_cell BK135.out 2).trans rfl, (blk_cell BK135.out 3).trans rfl, (blk_cell BK135.out 4).trans rfl, (blk_cell BK135.out 5).trans rfl, (blk_cell BK125.out 0).trans rfl, (blk_cell BK125.out 1).trans rfl, (blk_cell BK125.out 2).trans rfl, (blk_cell BK125.out 3).trans rfl, (blk_cell BK125.out 4).trans rfl, (blk_cell BK125.out 5).trans rfl⟩ (fun hHeld => ?_); clear hK K; refine nX (some 105) ?_; refine oX HT_ 4 (some 106) (fun K hK => ?_); refine hX Tryz.func118 #[.agg #[.string ((rd_T105 l0_5 x5_4).f0), .string ((rd_T105 l0_5 x5_4).f1), .int .i64 ((rd_T105 l0_5 x5_4).f2), .int .i64 ((rd_T105 l0_5 x5_4).f3), .int .i64 ((rd_T105 l0_5 x5_4).f4), .slice A134_5 ((rd_T105 l0_5 x5_4).f5).length c134_5], .bool t136] ?_
                with_reducible refine (arbiterref05_method.calls ((rd_T105 l0_5 x5_4).f0) ((rd_T105 l0_5 x5_4).f1) ((rd_T105 l0_5 x5_4).f2) ((rd_T105 l0_5 x5_4).f3) ((rd_T105 l0_5 x5_4).f4) _ _ ((rd_T105 l0_5 x5_4).f5) t136 true _ ?side1 ?side2 A56.out).mono ?_
                (case side1 => repeat (first | exact (Kd.C_below HR134_5.out HB.out) | (with_reducible refine Kd.C_alloc ?_ _) | (with_reducible refine Kd.C_drewN ?_ _) | (with_reducible refine Kd.C_drew ?_)))
                (case side2 => exact HC134_5.out)
                rintro e w76 ⟨rfl, hb⟩; refine ⟨_, rfl, ?_⟩; have n0_ := Aside0.mk (blk_below (kX BK125) hb); have n1_ := Aside0.mk (blk_below (kX BK135) hb); have n2_ := Aside0.mk (below_step (bX2 HB GE125 GE135) hb); clear BK125; clear BK135; clear HB; have BK125 := n0_; have BK135 := n1_; have HB := n2_; clear n0_ n1_ n2_
                (try clear hb)
                (try clear hb2)
                (try clear hk)
                (try clear hi)
                refine hK.out _ _ ⟨(blk_cell BK135.out 0).trans rfl, (blk_cell BK135.out 1).trans rfl, (blk_cell BK135.out 2).trans rfl, (blk_cell BK135.out 3).trans rfl, (blk_cell BK135.out 4).trans rfl, (blk_cell BK135.out 5).trans rfl, (blk_cell BK125.out 0).trans rfl, (blk_cell BK125.out 1).trans rfl, (blk_cell BK125.out 2).trans rfl, (blk_cell BK125.out 3).trans rfl, (blk_cell BK125.out 4).trans rfl, (blk_cell BK125.out 5).trans rfl⟩ (fun hHeld => ?_); clear hK K; refine nX (some 106) ?_; refine pX HT_ 5 (some 107) ?_; refine pX HT_ 6 (some 108) ?_; refine pX HT_ 8 (some 110) ?_; refine pX HT_ 10 (some 112) ?_; refine pX HT_ 13 (some 115) ?_; refine tX HT_ HW_ hHeld 7 (some 109) ?_; refine tX HT_ HW_ hHeld 9 (some 111) ?_; refine tX HT_ HW_ hHeld 11 (some 113) ?_; refine oX HT_ 12 (some 114) (fun K hK => ?_); refine hX Tryz.func119 #[.agg #[.string a0_0, .string a0_1, .slice A0_2 l0_2.length c0_2, .int .i64 a0_3, .int .i64 a0_4, .slice (some ad134) l0_5.length c0_5], .string ((rd_T105 l0_5 x5_4).f0), .string ((rd_T105 l0_5 x5_4).f1)] ?_
                with_reducible refine (arbiterref05_Find.calls a0_0 a0_1 _ _ l0_2 a0_3 a0_4 _ _ l0_5 ((rd_T105 l0_5 x5_4).f0) ((rd_T105 l0_5 x5_4).f1) t138 _ ?side1 ?side2 ?side3 ?side4 A58.out).mono ?_
                (case side1 => repeat (first | exact (Kd.C_below HR0_2.out HB.out) | (with_reducible refine Kd.C_alloc ?_ _) | (with_reducible refine Kd.C_drewN ?_ _) | (with_reducible refine Kd.C_drew ?_)))
                (case side2 => exact HC0_2.out)
                (case side3 => repeat (first | exact (Kd.C_below HR0_5.out HB.out) | (with_reducible refine Kd.C_alloc ?_ _) | (with_reducible refine Kd.C_drewN ?_ _) | (with_reducible refine Kd.C_drew ?_)))
                (case side4 => exact HC0_5.out)
                rintro e w77 ⟨rfl, hb⟩; refine ⟨_, rfl, ?_⟩; have n0_ := Aside0.mk (blk_below (kX BK125) hb); have n1_ := Aside0.mk (blk_below (kX BK135) hb); have n2_ := Aside0.mk (below_step (bX2 HB GE125 GE135) hb); clear BK125; clear BK135; clear HB; have BK125 := n0_; have BK135 := n1_; have HB := n2_; clear n0_ n1_ n2_
                (try clear hb)
                (try clear hb2)
                (try clear hk)
                (try clear hi)
                refine hK.out _ _ ⟨(blk_cell BK135.out 0).trans rfl, (blk_cell BK135.out 1).trans rfl, (blk_cell BK135.out 2).trans rfl, (blk_cell BK135.out 3).trans rfl, (blk_cell BK135.out 4).trans rfl, (blk_cell BK135.out 5).trans rfl, (blk_cell BK125.out 0).trans rfl, (blk_cell BK125.out 1).trans rfl, (blk_cell BK125.out 2).trans rfl, (blk_cell BK125.out 3).trans rfl, (blk_cell BK125.out 4).trans rfl, (blk_cell BK125.out 5).trans rfl⟩ (fun hHeld => ?_); clear hK K; refine nX (some 114) ?_; refine pX HT_ 14 (some 116) ?_; refine pX HT_ 15 (some 117) ?_; refine done_ (done_of HT_.out (by kernel_rfl)) ?_
                try go_wp2
                go_ret
                exact ⟨by first | rfl | (simp [errW_none, errW_some] <;> rfl) | (simp [*, errW_none, errW_some] <;> rfl), bX2 HB GE125 GE135⟩
              ·replace c57 := Bool.eq_false_iff.mpr c57
               subst c57
               have H1 : (some 1) = some r := by rw [if_neg (show ¬ (false = true) by decide)] at H; exact H
               clear H; have H := H1; clear H1; obtain rfl := Option.some.inj H; obtain ⟨hcz78_0, hcz78_1, hcz78_2, hcz78_3, hcz78_4, hcz78_5, hfz78_0, hfz78_1, hfz78_2, hfz78_3, hfz78_4, hfz78_5⟩ := c6X BK125; have p134 : 0 ≤ (x5_4 : Int) := qX; have q134 : x5_4 < (l0_5.length : Int) := qX; obtain ⟨ad134, A134_5, c134_5, e134, hx134_0, hx134_1, hx134_2, hx134_3, hx134_4, hx134_5, hl134_5, hi134_5⟩ := at_T105 HR0_5.out x5_4 p134 q134
               cases e134
               replace hx134_0 := (HB.out.cell (World.block_lt_of_cell? w _ hx134_0)).trans hx134_0; replace hx134_1 := (HB.out.cell (World.block_lt_of_cell? w _ hx134_1)).trans hx134_1; replace hx134_2 := (HB.out.cell (World.block_lt_of_cell? w _ hx134_2)).trans hx134_2; replace hx134_3 := (HB.out.cell (World.block_lt_of_cell? w _ hx134_3)).trans hx134_3; replace hx134_4 := (HB.out.cell (World.block_lt_of_cell? w _ hx134_4)).trans hx134_4; replace hx134_5 := (HB.out.cell (World.block_lt_of_cell? w _ hx134_5)).trans hx134_5; have HR134_5 := Aside0.mk hi134_5; have HC134_5 := Aside0.mk hl134_5; clear hi134_5 hl134_5; replace p134 := eq_true p134; replace q134 := eq_true q134
               try go_wp2_with (first | ((with_reducible refine gate_dst (N := 6) rfl ?_); (try (refine gate_guard (by rfl) ?_; dsimp only)); refine eX 6 #[.string (⟨#[]⟩ : ByteArray), .string (⟨#[]⟩ : ByteArray), .int .i64 0, .int .i64 0, .int .i64 0, .slice none 0 0] 105 ?_; intro gb135 hg w79 hbox hb; have n0_ := Aside0.mk (blk_below (kX BK125) hb); have n1_ := Aside0.mk (below_step (bX1 HB GE125) hb); have n2_ := Aside0.mk (hbox); have n3_ := Aside0.mk ((by rw [hg]; exact (below_size (bX1 HB GE125)) : w.heap.size ≤ gb135)); have n4_ := Aside0.mk ((by rw [hg]; exact (below_size (bX1 HB GE125)) : w.heap.size ≤ gb135)); have n5_ := Aside0.mk ((by rw [hg]; exact Nat.ne_of_lt (blk_lt (kX BK125)) : gb125 ≠ gb135)); have n6_ := Aside0.mk ((by rw [hg]; exact Nat.ne_of_gt (blk_lt (kX BK125)) : gb135 ≠ gb125)); clear BK125; clear HB; have BK125 := n0_; have HB := n1_; have BK135 := n2_; have GW135 := n3_; have GE135 := n4_; have NB125_135 := n5_; have NB135_125 := n6_; clear n0_ n1_ n2_ n3_ n4_ n5_ n6_; clear hb hbox hg; have hnb80 := NB135_125.out; have hnc80 := NB125_135.out; obtain ⟨hcz81_0, hcz81_1, hcz81_2, hcz81_3, hcz81_4, hcz81_5, hfz81_0, hfz81_1, hfz81_2, hfz81_3, hfz81_4, hfz81_5⟩ := c6X BK135))
               have n0_ : Aside0 (((((((w79.setCell ⟨gb135, 0, none⟩ (.string ((rd_T105 l0_5 x5_4).f0))).setCell ⟨gb135, 1, none⟩ (.string ((rd_T105 l0_5 x5_4).f1))).setCell ⟨gb135, 2, none⟩ (.int .i64 ((rd_T105 l0_5 x5_4).f2))).setCell ⟨gb135, 3, none⟩ (.int .i64 ((rd_T105 l0_5 x5_4).f3))).setCell ⟨gb135, 4, none⟩ (.int .i64 ((rd_T105 l0_5 x5_4).f4))).setCell ⟨gb135, 5, none⟩ (.slice A134_5 ((rd_T105 l0_5 x5_4).f5).length c134_5)).heap[gb125]? = some (.cells #[.string a0_0, .string a0_1, .slice A0_2 l0_2.length c0_2, .int .i64 a0_3, .int .i64 a0_4, .slice (some ad134) l0_5.length c0_5] 85 (0, 0))) := ⟨fX BK125 NB125_135⟩
               have n1_ : Aside0 (((((((w79.setCell ⟨gb135, 0, none⟩ (.string ((rd_T105 l0_5 x5_4).f0))).setCell ⟨gb135, 1, none⟩ (.string ((rd_T105 l0_5 x5_4).f1))).setCell ⟨gb135, 2, none⟩ (.int .i64 ((rd_T105 l0_5 x5_4).f2))).setCell ⟨gb135, 3, none⟩ (.int .i64 ((rd_T105 l0_5 x5_4).f3))).setCell ⟨gb135, 4, none⟩ (.int .i64 ((rd_T105 l0_5 x5_4).f4))).setCell ⟨gb135, 5, none⟩ (.slice A134_5 ((rd_T105 l0_5 x5_4).f5).length c134_5)).heap[gb135]? = some (.cells #[.string ((rd_T105 l0_5 x5_4).f0), .string ((rd_T105 l0_5 x5_4).f1), .int .i64 ((rd_T105 l0_5 x5_4).f2), .int .i64 ((rd_T105 l0_5 x5_4).f3), .int .i64 ((rd_T105 l0_5 x5_4).f4), .slice A134_5 ((rd_T105 l0_5 x5_4).f5).length c134_5] 105 (0, 0))) := ⟨by (with_reducible repeat (first | refine blk_drewN ?_ _ | refine blk_drew ?_ | refine blk_alloc ?_ _)); refine blk_put (cs := #[.string ((rd_T105 l0_5 x5_4).f0), .string ((rd_T105 l0_5 x5_4).f1), .int .i64 ((rd_T105 l0_5 x5_4).f2), .int .i64 ((rd_T105 l0_5 x5_4).f3), .int .i64 ((rd_T105 l0_5 x5_4).f4), .slice none 0 0]) ?_ 5 _ rfl; (with_reducible repeat (first | refine blk_drewN ?_ _ | refine blk_drew ?_ | refine blk_alloc ?_ _)); refine blk_put (cs := #[.string ((rd_T105 l0_5 x5_4).f0), .string ((rd_T105 l0_5 x5_4).f1), .int .i64 ((rd_T105 l0_5 x5_4).f2), .int .i64 ((rd_T105 l0_5 x5_4).f3), .int .i64 0, .slice none 0 0]) ?_ 4 _ rfl; (with_reducible repeat (first | refine blk_drewN ?_ _ | refine blk_drew ?_ | refine blk_alloc ?_ _)); refine blk_put (cs := #[.string ((rd_T105 l0_5 x5_4).f0), .string ((rd_T105 l0_5 x5_4).f1), .int .i64 ((rd_T105 l0_5 x5_4).f2), .int .i64 0, .int .i64 0, .slice none 0 0]) ?_ 3 _ rfl; (with_reducible repeat (first | refine blk_drewN ?_ _ | refine blk_drew ?_ | refine blk_alloc ?_ _)); refine blk_put (cs := #[.string ((rd_T105 l0_5 x5_4).f0), .string ((rd_T105 l0_5 x5_4).f1), .int .i64 0, .int .i64 0, .int .i64 0, .slice none 0 0]) ?_ 2 _ rfl; (with_reducible repeat (first | refine blk_drewN ?_ _ | refine blk_drew ?_ | refine blk_alloc ?_ _)); refine blk_put (cs := #[.string ((rd_T105 l0_5 x5_4).f0), .string (⟨#[]⟩ : ByteArray), .int .i64 0, .int .i64 0, .int .i64 0, .slice none 0 0]) ?_ 1 _ rfl; (with_reducible repeat (first | refine blk_drewN ?_ _ | refine blk_drew ?_ | refine blk_alloc ?_ _)); refine blk_put (cs := #[.string (⟨#[]⟩ : ByteArray), .string (⟨#[]⟩ : ByteArray), .int .i64 0, .int .i64 0, .int .i64 0, .slice none 0 0]) ?_ 0 _ rfl; (with_reducible repeat (first | refine blk_drewN ?_ _ | refine blk_drew ?_ | refine blk_alloc ?_ _)); exact BK135.out⟩
               have n2_ : Aside0 (Below w.heap.size w ((((((w79.setCell ⟨gb135, 0, none⟩ (.string ((rd_T105 l0_5 x5_4).f0))).setCell ⟨gb135, 1, none⟩ (.string ((rd_T105 l0_5 x5_4).f1))).setCell ⟨gb135, 2, none⟩ (.int .i64 ((rd_T105 l0_5 x5_4).f2))).setCell ⟨gb135, 3, none⟩ (.int .i64 ((rd_T105 l0_5 x5_4).f3))).setCell ⟨gb135, 4, none⟩ (.int .i64 ((rd_T105 l0_5 x5_4).f4))).setCell ⟨gb135, 5, none⟩ (.slice A134_5 ((rd_T105 l0_5 x5_4).f5).length c134_5))) := ⟨bX2 HB GE125 GE135⟩
               (try clear BK125)
               (try clear BK135)
               (try clear HB)
               generalize ((((((w79.setCell ⟨gb135, 0, none⟩ (.string ((rd_T105 l0_5 x5_4).f0))).setCell ⟨gb135, 1, none⟩ (.string ((rd_T105 l0_5 x5_4).f1))).setCell ⟨gb135, 2, none⟩ (.int .i64 ((rd_T105 l0_5 x5_4).f2))).setCell ⟨gb135, 3, none⟩ (.int .i64 ((rd_T105 l0_5 x5_4).f3))).setCell ⟨gb135, 4, none⟩ (.int .i64 ((rd_T105 l0_5 x5_4).f4))).setCell ⟨gb135, 5, none⟩ (.slice A134_5 ((rd_T105 l0_5 x5_4).f5).length c134_5)) = w82 at n0_ n1_ n2_ ⊢; have BK125 := n0_; have BK135 := n1_; have HB := n2_; clear n0_ n1_ n2_; have n0_ := Aside0.mk (blk_drew BK125.out); have n1_ := Aside0.mk (blk_drew BK135.out); have n2_ := Aside0.mk (below_drew1 HB.out); clear BK125; clear BK135; clear HB; have BK125 := n0_; have BK135 := n1_; have HB := n2_; clear n0_ n1_ n2_; refine start_ (n := 16) (S := fun w' => w'.cell? ⟨gb135, 0, none⟩ = some (.string ((rd_T105 l0_5 x5_4).f0)) ∧ w'.cell? ⟨gb135, 1, none⟩ = some (.string ((rd_T105 l0_5 x5_4).f1)) ∧ w'.cell? ⟨gb135, 2, none⟩ = some (.int .i64 ((rd_T105 l0_5 x5_4).f2)) ∧ w'.cell? ⟨gb135, 3, none⟩ = some (.int .i64 ((rd_T105 l0_5 x5_4).f3)) ∧ w'.cell? ⟨gb135, 4, none⟩ = some (.int .i64 ((rd_T105 l0_5 x5_4).f4)) ∧ w'.cell? ⟨gb135, 5, none⟩ = some (.slice A134_5 ((rd_T105 l0_5 x5_4).f5).length c134_5) ∧ w'.cell? ⟨gb125, 0, none⟩ = some (.string a0_0) ∧ w'.cell? ⟨gb125, 1, none⟩ = some (.string a0_1) ∧ w'.cell? ⟨gb125, 2, none⟩ = some (.slice A0_2 l0_2.length c0_2) ∧ w'.cell? ⟨gb125, 3, none⟩ = some (.int .i64 a0_3) ∧ w'.cell? ⟨gb125, 4, none⟩ = some (.int .i64 a0_4) ∧ w'.cell? ⟨gb125, 5, none⟩ = some (.slice (some ad134) l0_5.length c0_5)) (ds := []) #[false, false, false, false, false, false, false, false, false, false, false, false, false, false, false, false] (by kernel_rfl) rfl rfl ⟨(blk_cell BK135.out 0).trans rfl, (blk_cell BK135.out 1).trans rfl, (blk_cell BK135.out 2).trans rfl, (blk_cell BK135.out 3).trans rfl, (blk_cell BK135.out 4).trans rfl, (blk_cell BK135.out 5).trans rfl, (blk_cell BK125.out 0).trans rfl, (blk_cell BK125.out 1).trans rfl, (blk_cell BK125.out 2).trans rfl, (blk_cell BK125.out 3).trans rfl, (blk_cell BK125.out 4).trans rfl, (blk_cell BK125.out 5).trans rfl⟩ (fun hHeld => ?_); refine with_tabW arbiterref05_Check.tab19 arbiterref05_Check.bits19 (fun HT_ HW_ => ?_); generalize w82.drew = w83 at BK125 BK135 HB hHeld ⊢; refine pX HT_ 1 (some 103) ?_; refine tX HT_ HW_ hHeld 0 (some 102) ?_; refine tX HT_ HW_ hHeld 2 (some 104) ?_; refine oX HT_ 3 (some 105) (fun K hK => ?_); refine hX Tryz.func53 #[.int .i64 a0_3, .int .i64 512] ?_
               with_reducible refine (arbiterref03_Has.calls a0_3 512 t136 _ A55.out).mono ?_
               rintro e w84 ⟨rfl, hb⟩; refine ⟨_, rfl, ?_⟩; have n0_ := Aside0.mk (blk_below (kX BK125) hb); have n1_ := Aside0.mk (blk_below (kX BK135) hb); have n2_ := Aside0.mk (below_step (bX2 HB GE125 GE135) hb); clear BK125; clear BK135; clear HB; have BK125 := n0_; have BK135 := n1_; have HB := n2_; clear n0_ n1_ n2_
               (try clear hb)
               (try clear hb2)
               (try clear hk)
               (try clear hi)
               refine hK.out _ _ ⟨(blk_cell BK135.out 0).trans rfl, (blk_cell BK135.out 1).trans rfl, (blk_cell BK135.out 2).trans rfl, (blk_cell BK135.out 3).trans rfl, (blk_cell BK135.out 4).trans rfl, (blk_cell BK135.out 5).trans rfl, (blk_cell BK125.out 0).trans rfl, (blk_cell BK125.out 1).trans rfl, (blk_cell BK125.out 2).trans rfl, (blk_cell BK125.out 3).trans rfl, (blk_cell BK125.out 4).trans rfl, (blk_cell BK125.out 5).trans rfl⟩ (fun hHeld => ?_); clear hK K; refine nX (some 105) ?_; refine oX HT_ 4 (some 106) (fun K hK => ?_); refine hX Tryz.func118 #[.agg #[.string ((rd_T105 l0_5 x5_4).f0), .string ((rd_T105 l0_5 x5_4).f1), .int .i64 ((rd_T105 l0_5 x5_4).f2), .int .i64 ((rd_T105 l0_5 x5_4).f3), .int .i64 ((rd_T105 l0_5 x5_4).f4), .slice A134_5 ((rd_T105 l0_5 x5_4).f5).length c134_5], .bool t136] ?_
               with_reducible refine (arbiterref05_method.calls ((rd_T105 l0_5 x5_4).f0) ((rd_T105 l0_5 x5_4).f1) ((rd_T105 l0_5 x5_4).f2) ((rd_T105 l0_5 x5_4).f3) ((rd_T105 l0_5 x5_4).f4) _ _ ((rd_T105 l0_5 x5_4).f5) t136 false _ ?side1 ?side2 A56.out).mono ?_
               (case side1 => repeat (first | exact (Kd.C_below HR134_5.out HB.out) | (with_reducible refine Kd.C_alloc ?_ _) | (with_reducible refine Kd.C_drewN ?_ _) | (with_reducible refine Kd.C_drew ?_)))
               (case side2 => exact HC134_5.out)
               rintro e w85 ⟨rfl, hb⟩; refine ⟨_, rfl, ?_⟩; have n0_ := Aside0.mk (blk_below (kX BK125) hb); have n1_ := Aside0.mk (blk_below (kX BK135) hb); have n2_ := Aside0.mk (below_step (bX2 HB GE125 GE135) hb); clear BK125; clear BK135; clear HB; have BK125 := n0_; have BK135 := n1_; have HB := n2_; clear n0_ n1_ n2_
               (try clear hb)
               (try clear hb2)
               (try clear hk)
               (try clear hi)
               refine hK.out _ _ ⟨(blk_cell BK135.out 0).trans rfl, (blk_cell BK135.out 1).trans rfl, (blk_cell BK135.out 2).trans rfl, (blk_cell BK135.out 3).trans rfl, (blk_cell BK135.out 4).trans rfl, (blk_cell BK135.out 5).trans rfl, (blk_cell BK125.out 0).trans rfl, (blk_cell BK125.out 1).trans rfl, (blk_cell BK125.out 2).trans rfl, (blk_cell BK125.out 3).trans rfl, (blk_cell BK125.out 4).trans rfl, (blk_cell BK125.out 5).trans rfl⟩ (fun hHeld => ?_); clear hK K; refine nX (some 106) ?_; refine pX HT_ 5 (some 107) ?_; refine pX HT_ 6 (some 108) ?_; refine uX HT_ 7 (some 109) ?_; refine uX HT_ 8 (some 110) ?_; refine uX HT_ 9 (some 111) ?_; refine uX HT_ 10 (some 112) ?_; refine uX HT_ 11 (some 113) ?_; refine uX HT_ 12 (some 114) ?_; refine uX HT_ 13 (some 115) ?_; refine uX HT_ 14 (some 116) ?_; refine pX HT_ 15 (some 117) ?_; refine done_ (done_of HT_.out (by kernel_rfl)) ?_
               try go_wp2
               go_ret
               exact ⟨by first | rfl | (simp [errW_none, errW_some] <;> rfl) | (simp [*, errW_none, errW_some] <;> rfl), bX2 HB GE125 GE135⟩
             ·rw [if_neg c54] at H
              exact absurd H (by simp)
            ·rw [if_neg c53] at H
             have c53b0 : decide (x5_4 < (l0_5.length : Int)) = false := decide_eq_false c53; clear c53; obtain rfl := Option.some.inj H; obtain ⟨hcz86_0, hcz86_1, hcz86_2, hcz86_3, hcz86_4, hcz86_5, hfz86_0, hfz86_1, hfz86_2, hfz86_3, hfz86_4, hfz86_5⟩ := c6X BK125; go_wp2; go_ret
             exact ⟨by first | rfl | (simp [errW_none, errW_some] <;> rfl) | (simp [*, errW_none, errW_some] <;> rfl), bX1 HB GE125⟩
end Go.Proofs.YtaipkdglhfhhiaaGreatDoor.Pt

namespace Go.Proofs.YtaipkdglhfhhiaaGreatDoor.Pt
open Go Go.RowKit Go.Proofs.YtaipkdglhfhhiaaGreatDoor.Nm Go.Proofs.YtaipkdglhfhhiaaGreatDoor.Ty Go.Proofs.YtaipkdglhfhhiaaGreatDoor.Cd Go.Proofs.YtaipkdglhfhhiaaGreatDoorW.PrintWords
set_option linter.unusedVariables false
set_option linter.unusedSimpArgs false
def rbadA (f0 f1 : ByteArray) : Bool := !validB f0 || (!validB f1 || (f0.toList == f1.toList))
def rbadB (n2 n5 f3 f4 : Int) : Bool := decide (n2 > 20) || (decide (n5 > 40) || (decide (f4 < 0) || (decide (f4 > 9) || Fl.rcheckClass f3 != 0)))
theorem rsound_eq (c : S85) (h : Fl.inR c.f3) : soundB c = (!rbadA c.f0 c.f1 && (!rbadB c.f2.length c.f5.length c.f3 c.f4 && (ifB c.f2 c.f0 0 c.f2 && msB c.f5 (Go.bits .and .i64 c.f3 512 != 0) 0 c.f5))) := by
 unfold soundB headB rbadA rbadB; rw [cls_eq _ h]; rw [show decide ((c.f2.length : Int) ≤ 20) = !decide ((c.f2.length : Int) > 20) by by_cases h : (c.f2.length : Int) > 20 <;> simp [h] <;> omega]; rw [show decide (0 ≤ c.f4) = !decide (c.f4 < 0) by by_cases h : c.f4 < 0 <;> simp [h] <;> omega]; rw [show decide (c.f4 ≤ 9) = !decide (c.f4 > 9) by by_cases h : c.f4 > 9 <;> simp [h] <;> omega]; generalize validB c.f0 = a; generalize validB c.f1 = b; generalize (c.f0.toList == c.f1.toList) = d; generalize decide ((c.f2.length : Int) > 20) = e; generalize decide ((c.f5.length : Int) > 40) = g; generalize decide (c.f4 < 0) = i; generalize decide (c.f4 > 9) = j; generalize ifB c.f2 c.f0 0 c.f2 = k; generalize msB c.f5 _ 0 c.f5 = m
 cases hc : (Fl.rcheckClass c.f3 == 0) with
 | true =>
  rw [show (Fl.rcheckClass c.f3 != 0) = false by rw [bne, hc]; rfl]
  cases a <;> cases b <;> cases d <;> cases e <;> cases g <;> cases i <;> cases j <;> cases k <;> cases m <;> rfl
 | false =>
  rw [show (Fl.rcheckClass c.f3 != 0) = true by rw [bne, hc]; rfl]
  cases a <;> cases b <;> cases d <;> cases e <;> cases g <;> cases i <;> cases j <;> cases k <;> cases m <;> rfl
theorem mem_take_succ {l : List ByteArray} {n m : ByteArray} {q : Nat} (hx : l[q]? = some m) (h : memB (l.take q) n = false) (hn : n.toList ≠ m.toList) : memB (l.take (q + 1)) n = false := by
 cases hm : memB (l.take (q + 1)) n with
 | false => rfl
 | true =>
  rw [memB_iff, List.take_add_one, hx, List.mem_append] at hm
  rcases hm with hm | hm
  ·rw [← memB_iff, h] at hm; cases hm
  ·have : n = m := by simpa using hm
   exact absurd (by rw [this]) hn
theorem mem_take_in {l : List ByteArray} {n m : ByteArray} {q j : Nat} (hx : l[q]? = some m) (hq : q < j) (hn : n.toList = m.toList) : memB (l.take j) n = true := by
 rw [memB_iff, ba_eq hn]
 exact List.mem_of_getElem? (i := q) (by rw [List.getElem?_take_of_lt hq]; exact hx)
theorem nat_wrap {j : Nat} (h : j ≤ 1000000) : wrap64 ((j : Int) + 1) = ((j + 1 : Nat) : Int) := by
 rw [wrap_small' (by omega) (by omega)]; push_cast
 rfl
section
variable (f0 f1 : ByteArray) (l2 : List ByteArray) (f3 f4 : Int) (l5 : List S105)
theorem ck_l2 (hms : ∀ m ∈ l5, inRB m.f2 = true) (hl : l5.length ≤ 40) : ∀ (d j k : Nat), j ≤ l5.length → l5.length - j ≤ d → d < k →
  arbiterref05_Check.l2 k j f0 f1 l2 f3 f4 l5 = some (if msB l5 (Go.bits .and .i64 f3 512 != 0) j (l5.drop j) = true then 0 else 1) := by
 intro d
 induction d with
 | zero =>
  intro j k hj hd hk
  obtain ⟨k, rfl⟩ : ∃ m, k = m + 1 := ⟨k - 1, by omega⟩
  simp only [arbiterref05_Check.l2]; rw [if_neg (by omega), List.drop_eq_nil_of_le (by omega)]
  rfl
 | succ d ih =>
  intro j k hj hd hk
  obtain ⟨k, rfl⟩ : ∃ m, k = m + 1 := ⟨k - 1, by omega⟩
  by_cases hlt : j < l5.length
  ·have hx := rd51 hlt
   have hm := hms _ (List.mem_of_getElem? hx); have I := ih (j + 1) k (by omega) (by omega) (by omega); simp only [arbiterref05_Check.l2]; rw [if_pos (by omega : (j : Int) < l5.length), if_pos (by omega : 0 ≤ (j : Int)), msB_step hx]; generalize rd_T105 l5 (j : Int) = x at *; have e : mOk l5 (Go.bits .and .i64 f3 512 != 0) j x = (methB x (Go.bits .and .i64 f3 512 != 0) && findM 0 l5 x.f0 x.f1 == (j : Int)) := rfl; rw [e]; unfold arbiterref03_Has.f arbiterref05_method.f arbiterref05_Find.f; rw [Option.bind_some, if_pos hm, Option.bind_some, if_pos (by omega : l5.length ≤ 4611686018427387904)]; change (if methB x (Go.bits .and .i64 f3 512 != 0) = true then _ else _) = _
   cases hb : methB x (Go.bits .and .i64 f3 512 != 0) with
   | false => rw [if_neg (by decide), Bool.false_and, Bool.false_and]; rfl
   | true =>
    rw [if_pos rfl, Option.bind_some, Bool.true_and]
    by_cases hf : findM 0 l5 x.f0 x.f1 = (j : Int)
    ·rw [if_pos hf, nat_wrap (by omega), I, beq_iff_eq.2 hf, Bool.true_and]
    ·rw [if_neg hf, beq_eq_false_iff_ne.2 hf, Bool.false_and]; rfl
  ·simp only [arbiterref05_Check.l2]
   rw [if_neg (by omega), List.drop_eq_nil_of_le (by omega)]
   rfl
theorem ck_l1 (j : Nat) (hj : j < l2.length) (hl : l2.length ≤ 20) (V : Int) (K : Nat) (hV : ∀ k, K ≤ k → arbiterref05_Check.l0 k ((j + 1 : Nat) : Int) f0 f1 l2 f3 f4 l5 = some V) : ∀ (d q k : Nat), q ≤ j → j - q ≤ d → K + d < k → memB (l2.take q) (rdOf ByteArray.empty l2 (j : Int)) = false →
  arbiterref05_Check.l1 k j q f0 f1 l2 f3 f4 l5 = some (if memB (l2.take j) (rdOf ByteArray.empty l2 (j : Int)) = true then 1 else V) := by
 intro d
 induction d with
 | zero =>
  intro q k hq hd hk hm
  obtain ⟨k, rfl⟩ : ∃ m, k = m + 1 := ⟨k - 1, by omega⟩
  obtain rfl : q = j := by omega
  simp only [arbiterref05_Check.l1]; rw [if_neg (by omega), nat_wrap (by omega), hV k (by omega), hm]
  rfl
 | succ d ih =>
  intro q k hq hd hk hm
  obtain ⟨k, rfl⟩ : ∃ m, k = m + 1 := ⟨k - 1, by omega⟩
  by_cases hlt : q < j
  ·have hx := rd_at (show q < l2.length by omega)
   simp only [arbiterref05_Check.l1]; rw [if_pos (by omega : (q : Int) < j), if_pos (by omega : 0 ≤ (j : Int)), if_pos (by omega : (j : Int) < l2.length), if_pos (by omega : 0 ≤ (q : Int)), if_pos (by omega : (q : Int) < l2.length)]
   by_cases he : (rdOf ByteArray.empty l2 (j : Int)).toList = (rdOf ByteArray.empty l2 (q : Int)).toList
   ·rw [if_pos he, mem_take_in hx hlt he]
    rfl
   ·rw [if_neg he, nat_wrap (by omega)]
    exact ih (q + 1) k (by omega) (by omega) (by omega) (mem_take_succ hx hm he)
  ·obtain rfl : q = j := by omega
   simp only [arbiterref05_Check.l1]; rw [if_neg (by omega), nat_wrap (by omega), hV k (by omega), hm]
   rfl
theorem ck_l0 (hms : ∀ m ∈ l5, inRB m.f2 = true) (hl : l5.length ≤ 40) (hl2 : l2.length ≤ 20) : ∀ (d j k : Nat), j ≤ l2.length → l2.length - j ≤ d → 50 + 30 * d ≤ k →
  arbiterref05_Check.l0 k j f0 f1 l2 f3 f4 l5 = some (if (ifB l2 f0 j (l2.drop j) && msB l5 (Go.bits .and .i64 f3 512 != 0) 0 l5) = true then 0 else 1) := by
 have hend : ∀ k j : Nat, l2.length ≤ j → 50 ≤ k → arbiterref05_Check.l0 k j f0 f1 l2 f3 f4 l5 = some (if (ifB l2 f0 j (l2.drop j) && msB l5 (Go.bits .and .i64 f3 512 != 0) 0 l5) = true then 0 else 1) := by
  intro k j hj hk
  obtain ⟨k, rfl⟩ : ∃ m, k = m + 1 := ⟨k - 1, by omega⟩
  simp only [arbiterref05_Check.l0]; rw [if_neg (by omega), List.drop_eq_nil_of_le hj]; have := ck_l2 f0 f1 l2 f3 f4 l5 hms hl l5.length 0 k (by omega) (by omega) (by omega); rw [List.drop_zero] at this
  exact this
 intro d
 induction d with
 | zero => exact fun j k hj hd hk => hend k j (by omega) (by omega)
 | succ d ih =>
  intro j k hj hd hk
  by_cases hlt : j < l2.length
  ·obtain ⟨k, rfl⟩ : ∃ m, k = m + 2 := ⟨k - 2, by omega⟩
   have hx := rd_at hlt; have L1 := ck_l1 f0 f1 l2 f3 f4 l5 j hlt hl2 _ (50 + 30 * d) (fun k hk => ih (j + 1) k (by omega) (by omega) hk) j 0 k (by omega) (by omega) (by omega) (by rw [List.take_zero]; rfl); simp only [arbiterref05_Check.l0]; rw [if_pos (by omega : (j : Int) < l2.length), if_pos (by omega : 0 ≤ (j : Int)), ifB_step hx]; generalize rdOf ByteArray.empty l2 (j : Int) = n at *; have e : ifOk l2 f0 j n = (validB n && (!(n.toList == f0.toList) && !memB (l2.take j) n)) := rfl; rw [e]; unfold arbiterref01_Valid.f; rw [Option.bind_some]; simp only [arbiterref05_Check.j3]
   cases hv : validB n with
   | false => rw [if_neg (by decide), if_pos trivial, Bool.false_and, Bool.false_and, Bool.false_and]; rfl
   | true =>
    rw [if_pos rfl, Bool.true_and]
    cases he : (n.toList == f0.toList) with
    | true => rw [if_pos rfl, Bool.not_true, Bool.false_and, Bool.false_and, Bool.false_and]; rfl
    | false =>
     rw [if_neg (by decide), Bool.not_false, Bool.true_and]; refine L1.trans ?_
     cases hm : memB (l2.take j) n with
     | true => rw [if_pos rfl, Bool.not_true, Bool.false_and, Bool.false_and]; rfl
     | false => rw [if_neg (by decide), Bool.not_false, Bool.true_and]
  ·exact hend k j (by omega) (by omega)
theorem ck_f (hf3 : inRB f3 = true) (hms : ∀ m ∈ l5, inRB m.f2 = true) (k : Nat) (hk : 1000 ≤ k) : arbiterref05_Check.f k f0 f1 l2 f3 f4 l5 = some (chkC ⟨f0, f1, l2, f3, f4, l5⟩) := by
 have hs := rsound_eq ⟨f0, f1, l2, f3, f4, l5⟩ (inRB_iff.1 hf3); simp only at hs
 obtain ⟨k, rfl⟩ : ∃ m, k = m + 2 := ⟨k - 2, by omega⟩
 unfold chkC; rw [hs]
 have H1 : ∀ b : Bool, b = rbadB l2.length l5.length f3 f4 → arbiterref05_Check.j1 (k + 1) b f0 f1 l2 f3 f4 l5 = some (if (!rbadB l2.length l5.length f3 f4 && (ifB l2 f0 0 l2 && msB l5 (Go.bits .and .i64 f3 512 != 0) 0 l5)) = true then 0 else 1) := by
  rintro b rfl; simp only [arbiterref05_Check.j1]
  cases hb : rbadB l2.length l5.length f3 f4 with
  | true => rw [if_pos rfl, Bool.not_true, Bool.false_and]; rfl
  | false =>
   have h2 : l2.length ≤ 20 := by
    unfold rbadB at hb; simp only [Bool.or_eq_false_iff, decide_eq_false_iff_not] at hb
    omega
   have h5 : l5.length ≤ 40 := by
    unfold rbadB at hb; simp only [Bool.or_eq_false_iff, decide_eq_false_iff_not] at hb
    omega
   rw [if_neg (by decide), Bool.not_false, Bool.true_and]; have := ck_l0 f0 f1 l2 f3 f4 l5 hms h5 h2 l2.length 0 k (by omega) (by omega) (by omega); rw [List.drop_zero] at this
   exact this
 have H0 : ∀ b : Bool, b = rbadA f0 f1 → arbiterref05_Check.j0 (k + 2) b f0 f1 l2 f3 f4 l5 = some (if (!rbadA f0 f1 && (!rbadB l2.length l5.length f3 f4 && (ifB l2 f0 0 l2 && msB l5 (Go.bits .and .i64 f3 512 != 0) 0 l5))) = true then 0 else 1) := by
  rintro b rfl; rw [show k + 2 = (k + 1) + 1 from rfl]; simp only [arbiterref05_Check.j0]
  cases hb : rbadA f0 f1 with
  | true => rw [if_pos rfl, Bool.not_true, Bool.false_and]; rfl
  | false =>
   rw [if_neg (by decide), Bool.not_false, Bool.true_and]; unfold arbiterref03_CheckClass.f; rw [Option.bind_some]; have hB : rbadB l2.length l5.length f3 f4 = (decide ((l2.length : Int) > 20) || (decide ((l5.length : Int) > 40) || (decide (f4 < 0) || (decide (f4 > 9) || Fl.rcheckClass f3 != 0)))) := rfl
   split
   ·rename_i h; rw [decide_eq_true h, Bool.true_or] at hB; exact H1 _ hB.symm
   ·rename_i h; rw [decide_eq_false h, Bool.false_or] at hB
    split
    ·rename_i h; rw [decide_eq_true h, Bool.true_or] at hB; exact H1 _ hB.symm
    ·rename_i h; rw [decide_eq_false h, Bool.false_or] at hB
     split
     ·rename_i h; rw [decide_eq_true h, Bool.true_or] at hB; exact H1 _ hB.symm
     ·rename_i h; rw [decide_eq_false h, Bool.false_or] at hB
      split
      ·rename_i h; rw [decide_eq_true h, Bool.true_or] at hB; exact H1 _ hB.symm
      ·rename_i h; rw [decide_eq_false h, Bool.false_or] at hB
       exact H1 _ hB.symm
 unfold arbiterref05_Check.f arbiterref01_Valid.f; rw [Option.bind_some]; have hA : rbadA f0 f1 = (!validB f0 || (!validB f1 || (f0.toList == f1.toList))) := rfl
 cases h0 : validB f0 with
 | false => rw [if_neg (by decide)]; exact H0 _ (by rw [hA, h0]; rfl)
 | true =>
  rw [if_pos rfl, Option.bind_some]
  cases h1 : validB f1 with
  | false => rw [if_neg (by decide)]; exact H0 _ (by rw [hA, h0, h1]; rfl)
  | true => rw [if_pos rfl]; exact H0 _ (by rw [hA, h0, h1]; rfl)
end
end Go.Proofs.YtaipkdglhfhhiaaGreatDoor.Pt

namespace Go.Proofs.YtaipkdglhfhhiaaGreatDoor.Hi
open Go Go.RowKit Go.Proofs.YtaipkdglhfhhiaaGreatDoorW.PrintWords Go.Proofs.YtaipkdglhfhhiaaGreatDoorW.PrintLast Go.Proofs.YtaipkdglhfhhiaaGreatDoorW.PrintMore Go.Proofs.YtaipkdglhfhhiaaGreatDoor.Pt
set_option linter.unusedVariables false
set_option linter.unusedSimpArgs false
set_option maxHeartbeats 4000000
set_option maxRecDepth 100000
def zRaw : RawM := ⟨⟨#[]⟩, ⟨#[]⟩, 0, 0, 0, (none, 0, 0)⟩
theorem raw_M {w : World} {base : Nat} {ok : Nat → Prop} (y : RawM) : kRawM.M w base ok y [.string y.f0, .string y.f1, .int .i64 y.f2, .int .i64 y.f3, .int .i64 y.f4, .slice y.sl.1 y.sl.2.1 y.sl.2.2] :=
 ⟨[_], [_, _, _, _, _], rfl, rfl, ⟨[_], [_, _, _, _], rfl, rfl, ⟨[_], [_, _, _], rfl, rfl, ⟨[_], [_, _], rfl, rfl, ⟨[_], [_], rfl, rfl, rfl⟩⟩⟩⟩⟩
theorem raw_K {w : World} {y : RawM} {cs : List Value} (h : kRawM.K w y cs) : cs = [.string y.f0, .string y.f1, .int .i64 y.f2, .int .i64 y.f3, .int .i64 y.f4, .slice y.sl.1 y.sl.2.1 y.sl.2.2] := by
 obtain ⟨_, _, rfl, rfl, ⟨_, _, rfl, rfl, ⟨_, _, rfl, rfl, ⟨_, _, rfl, rfl, ⟨_, _, rfl, rfl, rfl⟩⟩⟩⟩⟩ := h
 rfl
theorem infoRawM' : (Tryz.prog.info? 105).map (fun i => (i.zero, i.size, i.bytes)) = some (some (.agg #[.string ⟨#[]⟩, .string ⟨#[]⟩, .int .i64 0, .int .i64 0, .int .i64 0, .slice none 0 0]), kRawM.sz, 80) := by kernel_rfl
theorem infoInst' : (Tryz.prog.info? 143).map (fun i => (i.zero, i.size, i.bytes)) = some (some (.agg #[.int .i64 0, .int .i64 0, .string ⟨#[]⟩, .bool false, .string ⟨#[]⟩, .string ⟨#[]⟩, .string ⟨#[]⟩]), k143.sz, 88) := by kernel_rfl
structure CPart (w : World) (base : Nat) (v5 : Value) (l : List S105) (k : Nat) (ys : List RawM) : Prop where
 len : ys.length = l.length
 row : Kd.R kRawM 105 w base (fun _ => True) v5 ys
 bes : ∀ (j : Nat) (x : S105) (y : RawM), j < k → l[j]? = some x → ys[j]? = some y → Beside x y
 own : ∀ (j : Nat) (x : S105) (y : RawM), j < k → l[j]? = some x → ys[j]? = some y → Kd.R k143 143 w base (fun _ => True) (.slice y.sl.1 x.f5.length y.sl.2.2) x.f5
theorem raw_cells {w : World} {base g n cap : Nat} {ys : List RawM} (R : Kd.R kRawM 105 w base (fun _ => True) (.slice (some ⟨g, 0, none⟩) n cap) ys) {k : Nat} {y : RawM} (hy : ys[k]? = some y) :
  ∀ (j : Nat) (u : Value), [Value.string y.f0, .string y.f1, .int .i64 y.f2, .int .i64 y.f3, .int .i64 y.f4, .slice y.sl.1 y.sl.2.1 y.sl.2.2][j]? = some u → w.cell? ⟨g, k * 6 + j, none⟩ = some u := by
 have hk := (List.getElem?_eq_some_iff.1 hy).1; obtain ⟨A', c', ev, hlc, RC⟩ := Kd.R_reads R; injection ev with ea en ec; subst ea; obtain ⟨ad, cc, ead, hcl, hK, hcell⟩ := Kd.C_get RC y (k : Int) (by omega) (by omega); injection ead with ead; subst ead; rw [Int.toNat_natCast] at hK hcell
 have hyk : ys.getD k y = y := by rw [List.getD_eq_getElem?_getD, hy]; rfl
 rw [hyk] at hK; obtain rfl := raw_K hK; intro j u hj; have := hcell j u hj
 have ea : ∀ b o j, (⟨b, o, none⟩ : Addr).add j = ⟨b, o + j, none⟩ := fun b o j => by unfold Addr.add; split <;> simp_all
 rw [ea, Nat.zero_add] at this
 exact this
abbrev put6 (W : World) (g o : Nat) (u0 u1 u2 u3 u4 u5 : Value) : World := ((((((W.setCell ⟨g, o, none⟩ u0).setCell ⟨g, o + 1, none⟩ u1).setCell ⟨g, o + 2, none⟩ u2).setCell ⟨g, o + 3, none⟩ u3).setCell ⟨g, o + 4, none⟩ u4).setCell ⟨g, o + 5, none⟩ u5)
theorem blk_put6 {W : World} {g o b t : Nat} {cs : Array Value} (h : W.heap[b]? = some (.cells cs t (0, 0))) (hb : b ≠ g) (u0 u1 u2 u3 u4 u5 : Value) : (put6 W g o u0 u1 u2 u3 u4 u5).heap[b]? = some (.cells cs t (0, 0)) :=
 blk_far (p := ⟨g, o + 5, none⟩) (blk_far (p := ⟨g, o + 4, none⟩) (blk_far (p := ⟨g, o + 3, none⟩) (blk_far (p := ⟨g, o + 2, none⟩) (blk_far (p := ⟨g, o + 1, none⟩) (blk_far (p := ⟨g, o, none⟩) h hb u0) hb u1) hb u2) hb u3) hb u4) hb u5
theorem own_put6 {W : World} {g o t : Nat} {cs : Array Value} (h : W.heap[g]? = some (.cells cs t (0, 0))) (u0 u1 u2 u3 u4 u5 : Value) : ∃ cs', (put6 W g o u0 u1 u2 u3 u4 u5).heap[g]? = some (.cells cs' t (0, 0)) :=
 ⟨_, blk_set (blk_set (blk_set (blk_set (blk_set (blk_set h o u0) (o + 1) u1) (o + 2) u2) (o + 3) u3) (o + 4) u4) (o + 5) u5⟩
theorem R_put6 {α : Type} {d : Kd α} {e : Nat} {W : World} {base : Nat} {ok : Nat → Prop} {v : Value} {xs : List α} (h : d.R e W base ok v xs) {g o t : Nat} {cells : Array Value} (hb : W.heap[g]? = some (.cells cells t (0, 0))) (ht : ∀ q, q ∈ e :: d.E → q ≠ t) (u0 u1 u2 u3 u4 u5 : Value) : d.R e (put6 W g o u0 u1 u2 u3 u4 u5) base ok v xs :=
 Kd.R_set (Kd.R_set (Kd.R_set (Kd.R_set (Kd.R_set (Kd.R_set h hb ht o u0) (blk_set hb o u0) ht (o + 1) u1) (blk_set (blk_set hb o u0) (o + 1) u1) ht (o + 2) u2) (blk_set (blk_set (blk_set hb o u0) (o + 1) u1) (o + 2) u2) ht (o + 3) u3) (blk_set (blk_set (blk_set (blk_set hb o u0) (o + 1) u1) (o + 2) u2) (o + 3) u3) ht (o + 4) u4) (blk_set (blk_set (blk_set (blk_set (blk_set hb o u0) (o + 1) u1) (o + 2) u2) (o + 3) u3) (o + 4) u4) ht (o + 5) u5
theorem below_put6 {W0 W : World} {base g : Nat} (o : Nat) (h : Below base W0 W) (hg : base ≤ g) (u0 u1 u2 u3 u4 u5 : Value) : Below base W0 (put6 W g o u0 u1 u2 u3 u4 u5) :=
 (((((h.setCell (p := ⟨g, o, none⟩) hg u0).setCell (p := ⟨g, o + 1, none⟩) hg u1).setCell (p := ⟨g, o + 2, none⟩) hg u2).setCell (p := ⟨g, o + 3, none⟩) hg u3).setCell (p := ⟨g, o + 4, none⟩) hg u4).setCell (p := ⟨g, o + 5, none⟩) hg u5
theorem raw_put {w : World} {base g n cap : Nat} {ys : List RawM} (R : Kd.R kRawM 105 w base (fun _ => True) (.slice (some ⟨g, 0, none⟩) n cap) ys) {k : Nat} {y : RawM} (hy : ys[k]? = some y) (z : RawM) :
  Kd.R kRawM 105 (put6 w g (k * 6) (.string z.f0) (.string z.f1) (.int .i64 z.f2) (.int .i64 z.f3) (.int .i64 z.f4) (.slice z.sl.1 z.sl.2.1 z.sl.2.2)) base (fun _ => True) (.slice (some ⟨g, 0, none⟩) n cap) (ys.set k z) := by
 have hk := (List.getElem?_eq_some_iff.1 hy).1; obtain ⟨A', c', ev, hlc, RC⟩ := Kd.R_reads R; injection ev with ea en ec; have hc := raw_cells R hy; have := (Kd.R_seg R (k : Int) (by omega) (by omega) (j := 0) (seg := [.string z.f0, .string z.f1, .int .i64 z.f2, .int .i64 z.f3, .int .i64 z.f4, .slice z.sl.1 z.sl.2.1 z.sl.2.2]) (okp := fun _ => False) (c := [.string y.f0, .string y.f1, .int .i64 y.f2, .int .i64 y.f3, .int .i64 y.f4, .slice y.sl.1 y.sl.2.1 y.sl.2.2]) rfl (fun i u hi => hc i u hi) (show 0 + 6 ≤ 6 by omega) (x' := z) (raw_M z) (fun _ h => h.elim)).1
 exact this
theorem raw_put5 {w : World} {base g n cap : Nat} {ys : List RawM} (R : Kd.R kRawM 105 w base (fun _ => True) (.slice (some ⟨g, 0, none⟩) n cap) ys) {k : Nat} {y : RawM} (hy : ys[k]? = some y) (An : Option Addr) (m cn : Nat) :
  Kd.R kRawM 105 (w.setCell ⟨g, k * 6 + 5, none⟩ (.slice An m cn)) base (fun _ => True) (.slice (some ⟨g, 0, none⟩) n cap) (ys.set k ⟨y.f0, y.f1, y.f2, y.f3, y.f4, (An, m, cn)⟩) := by
 have hk := (List.getElem?_eq_some_iff.1 hy).1; obtain ⟨A', c', ev, hlc, RC⟩ := Kd.R_reads R; injection ev with ea en ec; have hc := raw_cells R hy
 exact (Kd.R_seg R (k : Int) (by omega) (by omega) (j := 5) (seg := [.slice An m cn]) (okp := fun _ => False) (c := [.string y.f0, .string y.f1, .int .i64 y.f2, .int .i64 y.f3, .int .i64 y.f4, .slice y.sl.1 y.sl.2.1 y.sl.2.2]) rfl (fun i u hi => hc i u hi) (show 5 + 1 ≤ 6 by omega) (x' := ⟨y.f0, y.f1, y.f2, y.f3, y.f4, (An, m, cn)⟩) (raw_M ⟨y.f0, y.f1, y.f2, y.f3, y.f4, (An, m, cn)⟩) (fun _ h => h.elim)).1
theorem rcopy_any (f0 f1 : ByteArray) (A2 : Option Addr) (c2 : Nat) (l2 : List ByteArray) (f3 f4 : Int) (A5 : Option Addr) (c5 : Nat) (l5 : List S105) (w : World)
    (h2 : Kd.C Kd.string w A2 l2.length l2) (h5 : Kd.C k105 w A5 l5.length l5) (b2 : l2.length * 16 ≤ 140737488355328) (b5 : Short l5) :
    Calls Tryz.prog 93 #[.agg #[.string f0, .string f1, .slice A2 l2.length c2, .int .i64 f3, .int .i64 f4, .slice A5 l5.length c5]] w fun e w' =>
      ∃ v2 v5, e = .returned (.agg #[.string f0, .string f1, v2, .int .i64 f3, .int .i64 f4, v5]) ∧ Kd.R Kd.string 9 w' w.heap.size (fun _ => True) v2 l2 ∧ Kd.R k105 105 w' w.heap.size (fun _ => True) v5 l5 ∧ Below w.heap.size w w' := by
  have BX := three_new w (.cells #[.string f0, .string f1, .slice A2 l2.length c2, .int .i64 f3, .int .i64 f4, .slice A5 l5.length c5] 85) (.cells #[.string ⟨#[]⟩, .string ⟨#[]⟩, .slice none 0 0, .int .i64 0, .int .i64 0, .slice none 0 0] 85) (.cells #[.string f0, .string f1, .slice A2 l2.length c2, .int .i64 f3, .int .i64 f4, .slice A5 l5.length c5] 85)
  have HB5 := Lib.hid b5
  replace BX := Lib.hid BX
  have H2 := Lib.hid h2
  have H5 := Lib.hid h5
  clear h2 h5 b5
  go_enter Tryz.func93, Tryz.ntmps93
  go_upto_region 2 with (fail)
  change Code.wp _ _ _ _ (((w.alloc (.cells #[.string f0, .string f1, .slice A2 l2.length c2, .int .i64 f3, .int .i64 f4, .slice A5 l5.length c5] 85)).alloc (.cells #[.string ⟨#[]⟩, .string ⟨#[]⟩, .slice none 0 0, .int .i64 0, .int .i64 0, .slice none 0 0] 85)).alloc (.cells #[.string f0, .string f1, .slice A2 l2.length c2, .int .i64 f3, .int .i64 f4, .slice A5 l5.length c5] 85))
  generalize (((w.alloc (.cells #[.string f0, .string f1, .slice A2 l2.length c2, .int .i64 f3, .int .i64 f4, .slice A5 l5.length c5] 85)).alloc (.cells #[.string ⟨#[]⟩, .string ⟨#[]⟩, .slice none 0 0, .int .i64 0, .int .i64 0, .slice none 0 0] 85)).alloc (.cells #[.string f0, .string f1, .slice A2 l2.length c2, .int .i64 f3, .int .i64 f4, .slice A5 l5.length c5] 85)) = W at *
  obtain ⟨B0, B1, B2, BB⟩ := BX.out
  replace B0 := Lib.hid B0
  replace B1 := Lib.hid B1
  replace B2 := Lib.hid B2
  replace BB := Lib.hid BB
  clear BX
  have hx2 := blk_lt B2.out
  -- the interfaces
  have HO := Lib.hid (own_empty Kd.string 9 W)
  have BA := Lib.hid ((Below.refl W.heap.size W).alloc (Nat.le_refl _) (.cells #[] 9))
  have HC := Lib.hid (Kd.C_below (Kd.C_below H2.out BB.out) BA.out)
  have y2 : (W.alloc (.cells #[] 9)).cell? ⟨w.heap.size, 2, none⟩ = some (.slice A2 l2.length c2) := pw_cell_below BA.out ((blk_cell B0.out 2).trans rfl)
  go_upto_region 3 with (at_builtin; refine Kd.R_append_rows Kd.string (Rr := (Kd.string).K (W.alloc (.cells #[] 9))) (w0 := W) W.heap.size rfl (.tmp 6) (.tmp 8) 82 9 (.string ⟨#[]⟩) 16 rfl Tryz.underlying82 infoStr rfl (by decide) (by omega) _ [] l2 _ l2.length c2 (fun _ => True) (fun _ => False) rfl rfl HO.out HC.out (fun _ _ h => h) (fun _ h => h.elim) (fun _ _ => trivial) BA.out (by simp) (by simp only [List.length_nil]; omega) ?_; intro v2 w1 h1 h2 _ _; obtain ⟨A2', c2', rfl⟩ := Kd.R_slice h1; have k2 := blk_frozen (blk_below B2.out h2) 2; have z2 : w1.cell? ⟨w.heap.size + 1 + 1, 2, none⟩ = some (.slice A2 l2.length c2) := (blk_cell (blk_below B2.out h2) 2).trans rfl; replace h1 := Lib.hid h1; replace h2 := Lib.hid h2)
  have D0 := Lib.hid (blk_far (p := ⟨w.heap.size + 1 + 1, 2, none⟩) (blk_below B0.out h2.out) (by simp; omega) (.slice A2' l2.length c2'))
  have D1 := Lib.hid (blk_far (p := ⟨w.heap.size + 1 + 1, 2, none⟩) (blk_below B1.out h2.out) (by simp) (.slice A2' l2.length c2'))
  have D2 := Lib.hid (blk_put (blk_below B2.out h2.out) 2 (.slice A2' l2.length c2') rfl)
  have R2 := Lib.hid (Kd.R_set (Kd.R_lower h1.out (show w.heap.size ≤ W.heap.size by omega)) (blk_below B2.out h2.out) (by decide) 2 (.slice A2' l2.length c2'))
  have BC := Lib.hid ((BB.out.trans (h2.out.mono BB.out.size)).setCell (p := ⟨w.heap.size + 1 + 1, 2, none⟩) (by show w.heap.size ≤ w.heap.size + 1 + 1; omega) (.slice A2' l2.length c2'))
  have hsz : Hid (w.heap.size + 1 + 1 < (w1.setCell ⟨w.heap.size + 1 + 1, 2, none⟩ (.slice A2' l2.length c2')).heap.size) := Lib.hid (blk_lt D2.out)
  simp only [List.nil_append] at h1 R2
  generalize w1.setCell ⟨w.heap.size + 1 + 1, 2, none⟩ (.slice A2' l2.length c2') = U at *
  clear B0 B1 B2 BB HO BA HC y2 h1 h2 k2 z2
  -- the methods' row
  have y5 : U.cell? ⟨w.heap.size, 5, none⟩ = some (.slice A5 l5.length c5) := (blk_cell D0.out 5).trans rfl
  go_upto_region 4 with (refine Kd.R_make kRawM (w0 := U) U.heap.size 105 rfl rfl _ _ _ rfl (l5.length : Int) rfl rfl Tryz.underlying83 _ 80 infoRawM' rfl (by decide) (by omega) zRaw (ok := fun _ => True) (okp := fun _ => False) (raw_M zRaw) (fun _ h => h.elim) trivial (by omega) (by have := HB5.out.1; rw [Int.toNat_natCast]; omega) (Below.refl _ _) (Nat.le_refl _) ?_; intro v5 w2 h1 h2 _ _; obtain ⟨A5', c5', rfl⟩ := Kd.R_slice h1; have k5 := blk_frozen (blk_below D2.out h2) 5; have z5 : w2.cell? ⟨w.heap.size + 1 + 1, 5, none⟩ = some (.slice A5 l5.length c5) := (blk_cell (blk_below D2.out h2) 5).trans rfl; rw [Int.toNat_natCast] at h1; simp only [List.length_replicate] at h1; replace h1 := Lib.hid h1; replace h2 := Lib.hid h2)
  have E0 := Lib.hid (blk_far (p := ⟨w.heap.size + 1 + 1, 5, none⟩) (blk_below D0.out h2.out) (by simp; omega) (.slice A5' l5.length c5'))
  have E1 := Lib.hid (blk_far (p := ⟨w.heap.size + 1 + 1, 5, none⟩) (blk_below D1.out h2.out) (by simp) (.slice A5' l5.length c5'))
  have E2 := Lib.hid (blk_put (blk_below D2.out h2.out) 5 (.slice A5' l5.length c5') rfl)
  have S2 := Lib.hid (Kd.R_set (Kd.R_below R2.out h2.out) (blk_below D2.out h2.out) (by decide) 5 (.slice A5' l5.length c5'))
  have BD := Lib.hid ((BC.out.trans (h2.out.mono BC.out.size)).setCell (p := ⟨w.heap.size + 1 + 1, 5, none⟩) (by show w.heap.size ≤ w.heap.size + 1 + 1; omega) (.slice A5' l5.length c5'))
  have PP : Hid (CPart (w2.setCell ⟨w.heap.size + 1 + 1, 5, none⟩ (.slice A5' l5.length c5')) (w.heap.size + 1) (.slice A5' l5.length c5') l5 0 (List.replicate l5.length zRaw)) :=
    Lib.hid ⟨by simp, Kd.R_set (Kd.R_lower h1.out (show w.heap.size + 1 ≤ U.heap.size by have := hsz.out; omega)) (blk_below D2.out h2.out) (by decide) 5 (.slice A5' l5.length c5'), fun j x y hj => absurd hj (by omega), fun j x y hj => absurd hj (by omega)⟩
  have hn : l5.length ≤ 1759218604441 := by have := HB5.out.1; omega
  generalize w2.setCell ⟨w.heap.size + 1 + 1, 5, none⟩ (.slice A5' l5.length c5') = V at *
  clear D0 D1 D2 R2 BC hsz y5 h1 h2 k5 z5
  go_wp2_with fail
  go_loopw [4] (fun i wr => ∃ (k : Nat) (ys : List RawM), k ≤ l5.length ∧ i = .int .i64 k ∧ Hid (CPart wr (w.heap.size + 1) (.slice A5' l5.length c5') l5 k ys) ∧ Hid (wr.heap[w.heap.size]? = some (.cells #[.string f0, .string f1, .slice A2 l2.length c2, .int .i64 f3, .int .i64 f4, .slice A5 l5.length c5] 85 (0, 0))) ∧ Hid (wr.heap[w.heap.size + 1]? = some (.cells #[.string ⟨#[]⟩, .string ⟨#[]⟩, .slice none 0 0, .int .i64 0, .int .i64 0, .slice none 0 0] 85 (0, 0))) ∧ Hid (wr.heap[w.heap.size + 1 + 1]? = some (.cells #[.string f0, .string f1, .slice A2' l2.length c2', .int .i64 f3, .int .i64 f4, .slice A5' l5.length c5'] 85 (0, 0))) ∧ Hid (Kd.R Kd.string 9 wr w.heap.size (fun _ => True) (.slice A2' l2.length c2') l2) ∧ Hid (Below w.heap.size w wr)) (fun i _ => l5.length - (intOf i).toNat)
  case atStart => exact ⟨0, _, Nat.zero_le _, rfl, PP, E0, E1, E2, S2, BD⟩
  case round =>
    clear PP E0 E1 E2 S2 BD
    obtain ⟨k, ys, hk, rfl, PP, E0, E1, E2, S2, BD⟩ := hrel
    have y5 : wr.cell? ⟨w.heap.size, 5, none⟩ = some (.slice A5 l5.length c5) := (blk_cell E0.out 5).trans rfl
    by_cases hlt : k < l5.length
    · have hlen : decide (k < l5.length) = true := decide_eq_true hlt
      obtain ⟨g, cap, eg, hg, hgl, cells, hcells⟩ := Kd.R_form PP.out.row (by rw [PP.out.len]; omega)
      injection eg with e1 e2 e3
      subst e1 e3
      clear e2
      have hky : k < ys.length := by rw [PP.out.len]; exact hlt
      have hy := List.getElem?_eq_getElem hky
      generalize ys[k] = y at *
      obtain ⟨ad, A6, c6, rfl, p0, p1, p2, p3, p4, p5, hc6, K6⟩ := at_T105 H5.out (k : Int) (by omega) (by omega)
      have hx : l5[k]? = some (rd_T105 l5 (k : Int)) := by
        simp [rd_T105, List.getD_eq_getElem?_getD, List.getElem?_eq_getElem hlt]
      rw [Int.toNat_natCast] at p0 p1 p2 p3 p4 p5
      generalize rd_T105 l5 (k : Int) = x at *
      have p5w := Lib.hid p5
      replace p0 := pw_cell_below BD.out p0
      replace p1 := pw_cell_below BD.out p1
      replace p2 := pw_cell_below BD.out p2
      replace p3 := pw_cell_below BD.out p3
      replace p4 := pw_cell_below BD.out p4
      replace p5 := pw_cell_below BD.out p5
      have hadg : Hid (ad.block ≠ g) := Lib.hid (fun e => by
        obtain ⟨ad', cc, ea, hcl, hK, hcell⟩ := Kd.C_get H5.out x (k : Int) (by omega) (by omega)
        injection ea with ea
        subst ea
        have h0 : ∃ u, cc[0]? = some u := by
          have : 0 < cc.length := by rw [hcl]; decide
          exact ⟨_, List.getElem?_eq_getElem this⟩
        obtain ⟨u, hu⟩ := h0
        have h1 := World.block_lt_of_cell? _ _ (hcell 0 u hu)
        have hbk : ∀ (a : Addr) (n : Nat), (a.add n).block = a.block := fun a n => by unfold Addr.add; split <;> rfl
        rw [hbk] at h1
        omega)
      have ne0 : Hid (w.heap.size ≠ g) := Lib.hid (by omega)
      have ne1 : Hid (w.heap.size + 1 ≠ g) := Lib.hid (blk_ne E1.out hcells (by decide))
      have ne2 : Hid (w.heap.size + 1 + 1 ≠ g) := Lib.hid (blk_ne E2.out hcells (by decide))
      have z5 : wr.cell? ⟨w.heap.size + 1 + 1, 5, none⟩ = some (.slice (some ⟨g, 0, none⟩) l5.length c5') := (blk_cell E2.out 5).trans rfl
      have RC := raw_cells PP.out.row hy
      have r0 : wr.cell? ⟨g, k * 6, none⟩ = some (.string y.f0) := RC 0 _ rfl
      have r1 := RC 1 _ rfl
      have r2 := RC 2 _ rfl
      have r3 := RC 3 _ rfl
      have r4 := RC 4 _ rfl
      have r5 := RC 5 _ rfl
      have k0 := blk_frozen hcells (k * 6)
      have k1 := blk_frozen hcells (k * 6 + 1)
      have k2 := blk_frozen hcells (k * 6 + 2)
      have k3 := blk_frozen hcells (k * 6 + 3)
      have k4 := blk_frozen hcells (k * 6 + 4)
      have k5 := blk_frozen hcells (k * 6 + 5)
      replace hcells := Lib.hid hcells
      replace hy := Lib.hid hy
      replace hx := Lib.hid hx
      replace K6 := Lib.hid K6
      clear RC
      go_wp2_with fail
      go_region
      go_upto_region 8 with (fail)
      have F0 := Lib.hid (blk_drew (blk_put6 (o := k * 6) E0.out ne0.out (.string x.f0) (.string x.f1) (.int .i64 x.f2) (.int .i64 x.f3) (.int .i64 x.f4) (.slice A6 x.f5.length c6)))
      have F1 := Lib.hid (blk_drew (blk_put6 (o := k * 6) E1.out ne1.out (.string x.f0) (.string x.f1) (.int .i64 x.f2) (.int .i64 x.f3) (.int .i64 x.f4) (.slice A6 x.f5.length c6)))
      have F2 := Lib.hid (blk_drew (blk_put6 (o := k * 6) E2.out ne2.out (.string x.f0) (.string x.f1) (.int .i64 x.f2) (.int .i64 x.f3) (.int .i64 x.f4) (.slice A6 x.f5.length c6)))
      have hgb : w.heap.size ≤ g := by omega
      have FB := Lib.hid (below_drew1 (below_put6 (k * 6) BD.out hgb (.string x.f0) (.string x.f1) (.int .i64 x.f2) (.int .i64 x.f3) (.int .i64 x.f4) (.slice A6 x.f5.length c6)))
      have FS := Lib.hid (Kd.R_below (R_put6 (o := k * 6) S2.out hcells.out (by decide) (.string x.f0) (.string x.f1) (.int .i64 x.f2) (.int .i64 x.f3) (.int .i64 x.f4) (.slice A6 x.f5.length c6)) (below_drew1 (Below.refl _ _)))
      have FR := Lib.hid (Kd.R_below (raw_put PP.out.row hy.out ⟨x.f0, x.f1, x.f2, x.f3, x.f4, (A6, x.f5.length, c6)⟩) (below_drew1 (Below.refl _ _)))
      obtain ⟨cells2, hcells2⟩ := own_put6 (o := k * 6) hcells.out (.string x.f0) (.string x.f1) (.int .i64 x.f2) (.int .i64 x.f3) (.int .i64 x.f4) (.slice A6 x.f5.length c6)
      have FC := Lib.hid (blk_drew hcells2)
      have FO : Hid (∀ (j : Nat) (x' : S105) (y' : RawM), j < k → l5[j]? = some x' → ys[j]? = some y' → Kd.R k143 143 (put6 wr g (k * 6) (.string x.f0) (.string x.f1) (.int .i64 x.f2) (.int .i64 x.f3) (.int .i64 x.f4) (.slice A6 x.f5.length c6)).drew (w.heap.size + 1) (fun _ => True) (.slice y'.sl.1 x'.f5.length y'.sl.2.2) x'.f5) :=
        Lib.hid (fun j x' y' hj hx' hy' => Kd.R_below (R_put6 (o := k * 6) (PP.out.own j x' y' hj hx' hy') hcells.out (by decide) (.string x.f0) (.string x.f1) (.int .i64 x.f2) (.int .i64 x.f3) (.int .i64 x.f4) (.slice A6 x.f5.length c6)) (below_drew1 (Below.refl _ _)))
      have FBe := Lib.hid PP.out.bes
      have FL := Lib.hid PP.out.len
      change Code.wp _ _ _ _ (put6 wr g (k * 6) (.string x.f0) (.string x.f1) (.int .i64 x.f2) (.int .i64 x.f3) (.int .i64 x.f4) (.slice A6 x.f5.length c6)).drew
      generalize (put6 wr g (k * 6) (.string x.f0) (.string x.f1) (.int .i64 x.f2) (.int .i64 x.f3) (.int .i64 x.f4) (.slice A6 x.f5.length c6)).drew = Y at *
      clear p0 p1 p2 p3 p4 p5 r0 r1 r2 r3 r4 r5 k0 k1 k2 k3 k4 k5 y5 z5 E0 E1 E2 S2 BD PP hcells hcells2
      have hy2 : (ys.set k ⟨x.f0, x.f1, x.f2, x.f3, x.f4, (A6, x.f5.length, c6)⟩)[k]? = some ⟨x.f0, x.f1, x.f2, x.f3, x.f4, (A6, x.f5.length, c6)⟩ := List.getElem?_set_self hky
      have s1 : Y.cell? ⟨w.heap.size, 5, none⟩ = some (.slice (some ad) l5.length c5) := (blk_cell F0.out 5).trans rfl
      have s2 : Y.cell? ⟨w.heap.size + 1 + 1, 5, none⟩ = some (.slice (some ⟨g, 0, none⟩) l5.length c5') := (blk_cell F2.out 5).trans rfl
      have s3 := pw_cell_below FB.out p5w.out
      have s4 : Y.cell? ⟨g, k * 6 + 5, none⟩ = some (.slice A6 x.f5.length c6) := raw_cells FR.out hy2 5 _ rfl
      have HO := Lib.hid (own_empty k143 143 Y.drew)
      have BA := Lib.hid ((Below.refl Y.heap.size Y.drew).alloc (Nat.le_refl _) (.cells #[] 143))
      have HC := Lib.hid (Kd.C_below (Kd.C_below K6.out (below_drew1 FB.out)) BA.out)
      have hcl := Lib.hid (HB5.out.2 x (List.mem_of_getElem? hx.out))
      have m0 : Hid (g ≠ w.heap.size) := Lib.hid (Ne.symm ne0.out)
      have m2 : Hid (g ≠ w.heap.size + 1 + 1) := Lib.hid (Ne.symm ne2.out)
      have hbk : ∀ (a : Addr) (n : Nat), (a.add n).block = a.block := fun a n => by unfold Addr.add; split <;> rfl
      have m3 : Hid (g ≠ (ad.add (k * 6)).block) := Lib.hid (by rw [hbk]; exact Ne.symm hadg.out)
      clear hbk
      have a1 := pw_cell_below (w := Y.drew) BA.out s1
      have a2 := pw_cell_below (w := Y.drew) BA.out s2
      have a3 := pw_cell_below (w := Y.drew) BA.out s3
      replace a1 := Lib.hid a1
      replace a2 := Lib.hid a2
      replace a3 := Lib.hid a3
      first
      | go_region_held3 (fun w' => w'.cell? ⟨w.heap.size, 5, none⟩ = some (.slice (some ad) l5.length c5) ∧ w'.cell? ⟨w.heap.size + 1 + 1, 5, none⟩ = some (.slice (some ⟨g, 0, none⟩) l5.length c5') ∧ w'.cell? ⟨(ad.add (k * 6)).block, (ad.add (k * 6)).off + 5, none⟩ = some (.slice A6 x.f5.length c6)) (first | exact ⟨s1, s2, s3⟩ | exact ⟨a1.out, a2.out, a3.out⟩ | exact ⟨t1.out, t2.out, t3.out⟩ | exact ⟨(World.cell?_setCell_far _ _ _ _ m0.out).trans t1.out, (World.cell?_setCell_far _ _ _ _ m2.out).trans t2.out, (World.cell?_setCell_far _ _ _ _ m3.out).trans t3.out⟩)
          (first | (refine Kd.R_append_rows_step k143 (Rr := (k143).K (Y.drew.alloc (.cells #[] 143))) (W := Y.drew.alloc (.cells #[] 143)) (w0 := Y.drew) Y.heap.size (by rfl) (.tmp 35) (.tmp 41) 103 143 (.agg #[.int .i64 0, .int .i64 0, .string ⟨#[]⟩, .bool false, .string ⟨#[]⟩, .string ⟨#[]⟩, .string ⟨#[]⟩]) 88 (by rfl) Tryz.underlying103 infoInst' rfl (by decide) (by omega) _ [] x.f5 _ x.f5.length c6 (fun _ => True) (fun _ => False) (by rfl) (by rfl) HO.out HC.out (fun _ _ h => h) (fun _ h => h.elim) (fun _ _ => trivial) BA.out (by simp) (by have := hcl.out; simp only [List.length_nil]; omega) ?_; intro vn w5 h1 h2 _ _; obtain ⟨An, cn, rfl⟩ := Kd.R_slice h1; have hb5 := Lib.hid ((below_drew1 (Below.refl Y.heap.size Y)).trans h2); have t1 := Lib.hid (pw_cell_below hb5.out s1); have t2 := Lib.hid (pw_cell_below hb5.out s2); have t3 := Lib.hid (pw_cell_below hb5.out s3); have t4 := pw_cell_below hb5.out s4; have k5 := blk_frozen (blk_below FC.out hb5.out) (k * 6 + 5); simp only [List.nil_append] at h1; replace h1 := Lib.hid h1; clear h2))
      | fail "no region"
      have hcn : x.f5.length ≤ cn := by
        obtain ⟨A', c', ev, hle, _⟩ := Kd.R_reads h1.out
        injection ev with _ _ ec
        rw [ec]; exact hle
      have hyb : w.heap.size + 1 ≤ Y.heap.size := blk_lt F0.out
      have G0 := Lib.hid (blk_far (p := ⟨g, k * 6 + 5, none⟩) (blk_below F0.out hb5.out) ne0.out (.slice An x.f5.length cn))
      have G1 := Lib.hid (blk_far (p := ⟨g, k * 6 + 5, none⟩) (blk_below F1.out hb5.out) ne1.out (.slice An x.f5.length cn))
      have G2 := Lib.hid (blk_far (p := ⟨g, k * 6 + 5, none⟩) (blk_below F2.out hb5.out) ne2.out (.slice An x.f5.length cn))
      have GC := blk_below FC.out hb5.out
      have GS := Lib.hid (Kd.R_set (Kd.R_below FS.out hb5.out) GC (by decide) (k * 6 + 5) (.slice An x.f5.length cn))
      have GB := Lib.hid ((FB.out.trans (hb5.out.mono FB.out.size)).setCell (p := ⟨g, k * 6 + 5, none⟩) hgb (.slice An x.f5.length cn))
      have GP : Hid (CPart (w5.setCell ⟨g, k * 6 + 5, none⟩ (.slice An x.f5.length cn)) (w.heap.size + 1) (.slice (some ⟨g, 0, none⟩) l5.length c5') l5 (k + 1) (ys.set k ⟨x.f0, x.f1, x.f2, x.f3, x.f4, (An, x.f5.length, cn)⟩)) := by
        refine Lib.hid ⟨by rw [List.length_set]; exact FL.out, ?_, fun j x' y' hj hx' hy' => ?_, fun j x' y' hj hx' hy' => ?_⟩
        · have := raw_put5 (Kd.R_below FR.out hb5.out) hy2 An x.f5.length cn
          rw [List.set_set] at this
          exact this
        · by_cases hjk : j = k
          · subst hjk
            rw [List.getElem?_set_self hky] at hy'
            rw [hx.out] at hx'
            cases hx'; cases hy'
            exact ⟨rfl, rfl, rfl, rfl, rfl, rfl, hcn⟩
          · rw [List.getElem?_set_ne (Ne.symm hjk)] at hy'
            exact FBe.out j _ _ (by omega) hx' hy'
        · by_cases hjk : j = k
          · subst hjk
            rw [List.getElem?_set_self hky] at hy'
            rw [hx.out] at hx'
            cases hx'; cases hy'
            exact Kd.R_set (Kd.R_lower h1.out hyb) GC (by decide) _ _
          · rw [List.getElem?_set_ne (Ne.symm hjk)] at hy'
            exact Kd.R_set (Kd.R_below (FO.out j _ _ (by omega) hx' hy') hb5.out) GC (by decide) _ _
      clear F0 F1 F2 FS FB FR FC FO FBe FL GC h1 hb5 t1 t2 t3 t4 k5 s1 s2 s3 s4 HO BA HC hcl m0 m2 m3 a1 a2 a3 hy2 hcn hyb
      go_wp2
      exact ⟨⟨k + 1, _, by omega, by push_cast; rfl, GP, G0, G1, G2, GS, GB⟩, by simp [intOf]; omega⟩
    · have p0 : wr.cell? ⟨w.heap.size + 1 + 1, 0, none⟩ = some (.string f0) := (blk_cell E2.out 0).trans rfl
      have p1 : wr.cell? ⟨w.heap.size + 1 + 1, 1, none⟩ = some (.string f1) := (blk_cell E2.out 1).trans rfl
      have p2 : wr.cell? ⟨w.heap.size + 1 + 1, 2, none⟩ = some (.slice A2' l2.length c2') := (blk_cell E2.out 2).trans rfl
      have p3 : wr.cell? ⟨w.heap.size + 1 + 1, 3, none⟩ = some (.int .i64 f3) := (blk_cell E2.out 3).trans rfl
      have p4 : wr.cell? ⟨w.heap.size + 1 + 1, 4, none⟩ = some (.int .i64 f4) := (blk_cell E2.out 4).trans rfl
      have p5 : wr.cell? ⟨w.heap.size + 1 + 1, 5, none⟩ = some (.slice A5' l5.length c5') := (blk_cell E2.out 5).trans rfl
      have q0 : wr.cell? ⟨w.heap.size + 1, 0, none⟩ = some (.string ⟨#[]⟩) := (blk_cell E1.out 0).trans rfl
      have q1 : wr.cell? ⟨w.heap.size + 1, 1, none⟩ = some (.string ⟨#[]⟩) := (blk_cell E1.out 1).trans rfl
      have q2 : wr.cell? ⟨w.heap.size + 1, 2, none⟩ = some (.slice none 0 0) := (blk_cell E1.out 2).trans rfl
      have q3 : wr.cell? ⟨w.heap.size + 1, 3, none⟩ = some (.int .i64 0) := (blk_cell E1.out 3).trans rfl
      have q4 : wr.cell? ⟨w.heap.size + 1, 4, none⟩ = some (.int .i64 0) := (blk_cell E1.out 4).trans rfl
      have q5 : wr.cell? ⟨w.heap.size + 1, 5, none⟩ = some (.slice none 0 0) := (blk_cell E1.out 5).trans rfl
      have g0 := blk_frozen E1.out 0
      have g1 := blk_frozen E1.out 1
      have g2 := blk_frozen E1.out 2
      have g3 := blk_frozen E1.out 3
      have g4 := blk_frozen E1.out 4
      have g5 := blk_frozen E1.out 5
      have W1 := Lib.hid hlt
      clear hlt
      have hge : decide (k < l5.length) = false := decide_eq_false W1.out
      have hall : Kd.R k105 105 wr (w.heap.size + 1) (fun _ => True) (.slice A5' l5.length c5') l5 := backOf PP.out.len PP.out.row (fun j x y hx hy => ⟨PP.out.bes j x y (by have := (List.getElem?_eq_some_iff.1 hx).1; have := W1.out; omega) hx hy, PP.out.own j x y (by have := (List.getElem?_eq_some_iff.1 hx).1; have := W1.out; omega) hx hy⟩)
      have T5 := Lib.hid (R_set6 (Kd.R_lower hall (Nat.le_succ _)) E1.out (by decide) (.string f0) (.string f1) (.slice A2' l2.length c2') (.int .i64 f3) (.int .i64 f4) (.slice A5' l5.length c5'))
      have T2 := Lib.hid (R_set6 S2.out E1.out (by decide) (.string f0) (.string f1) (.slice A2' l2.length c2') (.int .i64 f3) (.int .i64 f4) (.slice A5' l5.length c5'))
      have X1 := Lib.hid (blk_set6 E1.out (.string f0) (.string f1) (.slice A2' l2.length c2') (.int .i64 f3) (.int .i64 f4) (.slice A5' l5.length c5'))
      have X2 := Lib.hid (below_set6 BD.out (g := w.heap.size + 1) (Nat.le_succ _) (.string f0) (.string f1) (.slice A2' l2.length c2') (.int .i64 f3) (.int .i64 f4) (.slice A5' l5.length c5'))
      clear hall PP E0 E1 E2 S2 BD
      go_wp2
      exact bodyPost_ret (v := .agg #[.string f0, .string f1, .slice A2' l2.length c2', .int .i64 f3, .int .i64 f4, .slice A5' l5.length c5']) (results_cell_row rfl _ _ (w.heap.size + 1) 85 _ (0, 0) _ rfl (X1.out.trans rfl) Tryz.underlying85 rfl (by kernel_rfl)) rfl ⟨_, _, rfl, T2.out, T5.out, X2.out⟩
end Go.Proofs.YtaipkdglhfhhiaaGreatDoor.Hi

namespace Go.Proofs.YtaipkdglhfhhiaaGreatDoor.Hi
open Go Go.RowKit Go.Proofs.YtaipkdglhfhhiaaGreatDoorW.PrintWords Go.Proofs.YtaipkdglhfhhiaaGreatDoorW.PrintLast Go.Proofs.YtaipkdglhfhhiaaGreatDoorW.PrintMore Go.Proofs.YtaipkdglhfhhiaaGreatDoor.Pt
set_option linter.unusedVariables false
set_option linter.unusedSimpArgs false
set_option maxHeartbeats 2000000
set_option maxRecDepth 100000
def methC3 (b1 b2 b3 : Nat) : List Value := ((([.string sInit, .string sV, .int .i64 1, .int .i64 1, .int .i64 0, .slice (some ⟨b1, 0, none⟩) 1 1] : List Value) ++ [.string sId, .string sI, .int .i64 1, .int .i64 1, .int .i64 1, .slice (some ⟨b2, 0, none⟩) 2 2]) ++ [.string sKin, .string sLO, .int .i64 4, .int .i64 1, .int .i64 1, .slice (some ⟨b3, 0, none⟩) 2 2])
theorem objR2 {W : World} {base b1 b2 b3 b4 : Nat} {ok : Nat → Prop} (g1 : base ≤ b1) (g2 : base ≤ b2) (g3 : base ≤ b3) (g4 : base ≤ b4) (k1 : ok b1) (k2 : ok b2) (k3 : ok b3) (k4 : ok b4) (n1 : b1 ≠ b4) (n2 : b2 ≠ b4) (n3 : b3 ≠ b4)
  (h1 : W.heap[b1]? = some (.cells (instC 38 0).toArray 143 (0, 0))) (h2 : W.heap[b2]? = some (.cells (instC 1 7 ++ instC 36 0).toArray 143 (0, 0))) (h3 : W.heap[b3]? = some (.cells (instC 4 0 ++ instC 37 0).toArray 143 (0, 0)))
  (h4 : W.heap[b4]? = some (.cells (methC3 (b1) (b2) (b3)).toArray 105 (0, 0))) :
  Kd.R k105 105 W base ok (.slice (some ⟨b4, 0, none⟩) 3 3) objM := by
 have r1 := R_block k143 143 (base := base) (ok := fun k => ok k ∧ some k ≠ some b4) h1 g1 ⟨k1, by simpa using n1⟩ (by decide) (reps_inst W base _ 38 0); have r2 := R_block k143 143 (base := base) (ok := fun k => ok k ∧ some k ≠ some b4) h2 g2 ⟨k2, by simpa using n2⟩ (by decide) (reps_inst2 W base _ 1 7 36 0); have r3 := R_block k143 143 (base := base) (ok := fun k => ok k ∧ some k ≠ some b4) h3 g3 ⟨k3, by simpa using n3⟩ (by decide) (reps_inst2 W base _ 4 0 37 0); refine R_block k105 105 (xs := objM) h4 g4 k4 (by decide) ?_
 exact (((Reps.none _ _).snoc (k105_mkM W base _ ⟨sInit, sV, 1, 1, 0, [inst 38 0]⟩ r1) rfl).snoc (k105_mkM W base _ ⟨sId, sI, 1, 1, 1, [inst 1 7, inst 36 0]⟩ r2) rfl).snoc (k105_mkM W base _ ⟨sKin, sLO, 4, 1, 1, [inst 4 0, inst 37 0]⟩ r3) rfl
def newCells (g : Nat) : List Value := (([.string sObject, .string ⟨#[]⟩, .slice none 0 0, .int .i64 33, .int .i64 0, .slice (some ⟨g + 1 + 1 + 1, 0, none⟩) 3 3] : List Value) ++ [.string sCloneable, .string sObject, .slice none 0 0, .int .i64 1537, .int .i64 0, .slice none 0 0]) ++ [.string sSerializable, .string sObject, .slice none 0 0, .int .i64 1537, .int .i64 0, .slice none 0 0]
theorem newR {W : World} {base g : Nat} (hb : base ≤ g)
  (h1 : W.heap[g]? = some (.cells (instC 38 0).toArray 143 (0, 0))) (h2 : W.heap[g + 1]? = some (.cells (instC 1 7 ++ instC 36 0).toArray 143 (0, 0))) (h3 : W.heap[g + 1 + 1]? = some (.cells (instC 4 0 ++ instC 37 0).toArray 143 (0, 0)))
  (h4 : W.heap[g + 1 + 1 + 1]? = some (.cells (methC3 (g) (g + 1) (g + 1 + 1)).toArray 105 (0, 0)))
  (h6 : W.heap[g + 1 + 1 + 1 + 1 + 1]? = some (.cells (newCells g).toArray 85 (0, 0))) :
  Kd.R k85 85 W base (fun _ => True) (.slice (some ⟨g + 1 + 1 + 1 + 1 + 1, 0, none⟩) 3 3) (newE.map (·.c)) := by
 have r5 := objR2 (ok := fun k => True ∧ some k ≠ some (g + 1 + 1 + 1 + 1 + 1)) (base := base) (by omega) (by omega) (by omega) (by omega) ⟨trivial, by simp <;> omega⟩ ⟨trivial, by simp <;> omega⟩ ⟨trivial, by simp⟩ ⟨trivial, by simp⟩ (by omega) (by omega) (by omega) h1 h2 h3 h4; refine R_block k85 85 (base := base) (ok := fun _ => True) (xs := newE.map (·.c)) h6 (Nat.le_trans hb (by omega)) trivial (by decide) ?_
 exact (((Reps.none _ _).snoc (k85_mkM W base _ objC (Kd.R_nil _ _ _ _ _) r5) rfl).snoc (k85_mkM W base _ (ifaceC sCloneable) (Kd.R_nil _ _ _ _ _) (Kd.R_nil _ _ _ _ _)) rfl).snoc (k85_mkM W base _ (ifaceC sSerializable) (Kd.R_nil _ _ _ _ _) (Kd.R_nil _ _ _ _ _)) rfl
theorem seven_new (w : World) (o0 o1 o2 o3 o4 o5 o6 : Obj) : let W := ((((((w.alloc o0).alloc o1).alloc o2).alloc o3).alloc o4).alloc o5).alloc o6
  W.heap[w.heap.size]? = some o0 ∧ W.heap[w.heap.size + 1]? = some o1 ∧ W.heap[w.heap.size + 1 + 1]? = some o2 ∧ W.heap[w.heap.size + 1 + 1 + 1]? = some o3 ∧ W.heap[w.heap.size + 1 + 1 + 1 + 1 + 1]? = some o5 ∧ W.heap[w.heap.size + 1 + 1 + 1 + 1 + 1 + 1]? = some o6 ∧ Below w.heap.size w W := by
 obtain ⟨f0, f1, f2, f3, f4, fb⟩ := five_new w o0 o1 o2 o3 o4
 have e5 : (((((w.alloc o0).alloc o1).alloc o2).alloc o3).alloc o4).heap.size = w.heap.size + 1 + 1 + 1 + 1 + 1 := by simp
 refine ⟨blk_alloc (blk_alloc f0 o5) o6, blk_alloc (blk_alloc f1 o5) o6, blk_alloc (blk_alloc f2 o5) o6, blk_alloc (blk_alloc f3 o5) o6, ?_, ?_, ?_⟩
 ·have := blk_alloc (blk_new (((((w.alloc o0).alloc o1).alloc o2).alloc o3).alloc o4) o5) o6
  rwa [e5] at this
 ·have := blk_new ((((((w.alloc o0).alloc o1).alloc o2).alloc o3).alloc o4).alloc o5) o6
  rwa [show ((((((w.alloc o0).alloc o1).alloc o2).alloc o3).alloc o4).alloc o5).heap.size = w.heap.size + 1 + 1 + 1 + 1 + 1 + 1 by simp] at this
 ·exact (fb.alloc (by omega) _).alloc (by simp; omega) _
theorem rnew_any (w : World) : Calls Tryz.prog 48 #[] w fun e w' => ∃ g v, e = .returned (.pointer (some ⟨g, 0, none⟩)) ∧ RIn w' w.heap.size g v (newE.map (·.c)) ∧ Below w.heap.size w w' := by
 go_enter Tryz.func48, Tryz.ntmps48; go_wp2; go_ret
 have F := seven_new w (.cells (instC 38 0).toArray 143) (.cells (instC 1 7 ++ instC 36 0).toArray 143) (.cells (instC 4 0 ++ instC 37 0).toArray 143)
  (.cells (methC3 (w.heap.size) (w.heap.size + 1) (w.heap.size + 1 + 1)).toArray 105)
  (.cells #[.string sObject, .string ⟨#[]⟩, .slice none 0 0, .int .i64 33, .int .i64 0, .slice (some ⟨w.heap.size + 1 + 1 + 1, 0, none⟩) 3 3] 85) (.cells (newCells w.heap.size).toArray 85) (.cells #[.slice (some ⟨w.heap.size + 1 + 1 + 1 + 1 + 1, 0, none⟩) 3 3] 94)
 exact ⟨_, _, rfl, ⟨by omega, F.2.2.2.2.2.1, newR (Nat.le_refl _) F.1 F.2.1 F.2.2.1 F.2.2.2.1 F.2.2.2.2.1⟩, F.2.2.2.2.2.2⟩
end Go.Proofs.YtaipkdglhfhhiaaGreatDoor.Hi

namespace Go.Proofs.YtaipkdglhfhhiaaGreatDoor.Pt
open Go Go.RowKit Go.Proofs.YtaipkdglhfhhiaaGreatDoor.Nm Go.Proofs.YtaipkdglhfhhiaaGreatDoor.Ty Go.Proofs.YtaipkdglhfhhiaaGreatDoor.Hi Go.Proofs.YtaipkdglhfhhiaaGreatDoorW.PrintWords Go.Proofs.YtaipkdglhfhhiaaGreatDoorW.PrintLast Go.Proofs.YtaipkdglhfhhiaaGreatDoorW.PrintMore
set_option linter.unusedVariables false
set_option linter.unusedSimpArgs false
set_option maxHeartbeats 4000000
set_option maxRecDepth 100000
theorem infoClass : (Tryz.prog.info? 85).map (fun i => (i.zero, i.size, i.bytes)) = some (some (.agg #[.string ⟨#[]⟩, .string ⟨#[]⟩, .slice none 0 0, .int .i64 0, .int .i64 0, .slice none 0 0]), k85.sz, 96) := by kernel_rfl
theorem rno {w W : World} {base g : Nat} {v : Value} {cs cs' : List S85} (h : RIn w base g v cs) (hbs : base ≤ w.heap.size) (hb : Below w.heap.size w W) (e : cs' = cs) (a b : Int) :
  ∃ n err, Ending.returned (.tuple #[.int .i64 a, .int .i64 b]) = Ending.returned (.tuple #[.int .i64 n, .int .i64 err]) ∧ ∃ v', RIn W base g v' cs' ∧ Below base w W :=
 ⟨a, b, rfl, v, e ▸ h.below hb, hb.mono hbs⟩
theorem rdefine_any (w : World) (base g : Nat) (v : Value) (es : List Ent) (h : RIn w base g v (csOf es)) (hbs : base ≤ w.heap.size) (hf : ∀ x ∈ es, Fine x) (hlen : es.length ≤ 1000)
  (f0 f1 : ByteArray) (A2 : Option Addr) (c2 : Nat) (l2 : List ByteArray) (f3 f4 : Int) (A5 : Option Addr) (c5 : Nat) (l5 : List S105) (h2 : Kd.C Kd.string w A2 l2.length l2) (hc2 : l2.length ≤ c2) (h5 : Kd.C k105 w A5 l5.length l5) (hc5 : l5.length ≤ c5)
  (hr3 : inRB f3 = true) (hms : ∀ m ∈ l5, inRB m.f2 = true) :
  Calls Tryz.prog 49 #[.pointer (some ⟨g, 0, none⟩), .agg #[.string f0, .string f1, .slice A2 l2.length c2, .int .i64 f3, .int .i64 f4, .slice A5 l5.length c5]] w fun e w' =>
   ∃ n err, e = .returned (.tuple #[.int .i64 n, .int .i64 err]) ∧ ∃ v', RIn w' base g v' (csOf (stepF es ⟨f0, f1, l2, f3, f4, l5⟩)) ∧ Below base w w' := by
 have hst := cs_step es ⟨f0, f1, l2, f3, f4, l5⟩; generalize csOf (stepF es ⟨f0, f1, l2, f3, f4, l5⟩) = T at *; replace hst := Lib.hid hst; unfold takeB at hst; simp only at hst; have SS := Lib.hid (@sound_sizes ⟨f0, f1, l2, f3, f4, l5⟩); have B0 := Lib.hid (blk_new w (.cells #[.string f0, .string f1, .slice A2 l2.length c2, .int .i64 f3, .int .i64 f4, .slice A5 l5.length c5] 85)); have AB : Hid (Below w.heap.size w (w.alloc (.cells #[.string f0, .string f1, .slice A2 l2.length c2, .int .i64 f3, .int .i64 f4, .slice A5 l5.length c5] 85))) := Lib.hid ((Below.refl _ _).alloc (Nat.le_refl _) _); have HW := Lib.hid h; have H2 := Lib.hid h2; have H5 := Lib.hid h5; have HF := Lib.hid hf; have CK := Lib.hid (fun (W : World) (hb : Below w.heap.size w W) => arbiterref05_Check.calls 1000 f0 f1 A2 c2 l2 f3 f4 A5 c5 l5 _ W (Kd.C_below h2 hb) hc2 (Kd.C_below h5 hb) hc5 (ck_f f0 f1 l2 f3 f4 l5 hr3 hms 1000 (Nat.le_refl _))); have CN := Lib.hid (fun (W : World) (hb : Below w.heap.size w W) (s : ByteArray) => arbiterref06_named.calls 1001 g (csOf es) s _ W ⟨base, v, h.below hb⟩ (named_ok es hlen s 1001 (by omega))); have CI := Lib.hid (fun (W : World) (hb : Below w.heap.size w W) (i : Int) => arbiterref06_IsIface.calls g (csOf es) i _ W ⟨base, v, h.below hb⟩ (isif_ok es i)); have CH := Lib.hid (fun W => Fl.has_any f3 512 W); unfold Fl.band at CH; have hgl := blk_lt h.blk; obtain ⟨Av, cv, rfl⟩ := Kd.R_slice h.row; have hle := Lib.hid (cs_len es); clear h h2 h5 hf hms; generalize hck : chkC ⟨f0, f1, l2, f3, f4, l5⟩ = r at *; replace hck := Lib.hid hck; have C1 := Lib.hid (CK.out _ AB.out); go_enter Tryz.func49, Tryz.ntmps49; go_wp2_with fail; refine C1.out.mono ?_; rintro e w1 ⟨rfl, hb1⟩; have HB := Lib.hid (AB.out.trans (hb1.mono AB.out.size)); have B1 := Lib.hid (blk_below B0.out hb1); clear hb1 C1 CK AB B0
 by_cases h0 : r = 0
 ·subst h0
  obtain ⟨s0, s1, s2, s3, s5⟩ := SS.out rfl; replace s3 := Lib.hid s3; replace s5 := Lib.hid s5; have q0 : w1.cell? ⟨g, 0, none⟩ = some (.slice Av (csOf es).length cv) := (blk_cell (HW.out.below HB.out).blk 0).trans rfl
  by_cases h300 : es.length ≥ 300
  ·have hd : decide (((csOf es).length : Int) ≥ 300) = true := decide_eq_true (by have := hle.out; omega)
   have hT : Hid (T = csOf es) := Lib.hid (by rw [hst.out, decide_eq_true h300]; rfl); clear hst; go_wp2; go_ret2
   exact rno HW.out hbs HB.out hT.out _ _
  ·have hd : decide (((csOf es).length : Int) ≥ 300) = false := decide_eq_false (by have := hle.out; omega)
   have hst1 : Hid (T = if (decide (rnm es f0 < 0) && ((aboveF es ⟨f0, f1, l2, f3, f4, l5⟩ f1 false).2 == 0 && l2.all fun n => (aboveF es ⟨f0, f1, l2, f3, f4, l5⟩ n true).2 == 0)) = true then csOf es ++ [⟨f0, f1, l2, f3, f4, l5⟩] else csOf es) := Lib.hid (by rw [hst.out, decide_eq_false h300]; rfl); clear hst; have y0 : w1.cell? ⟨w.heap.size, 0, none⟩ = some (.string f0) := (blk_cell B1.out 0).trans rfl; have CN0 := Lib.hid (CN.out w1 HB.out f0); go_wp2_with fail; refine CN0.out.mono ?_; rintro e w2 ⟨rfl, ⟨nd, rfl⟩⟩; have HB2 := Lib.hid (pw_below_drewN HB.out nd); have B2 := Lib.hid (blk_drewN B1.out nd); clear CN0 q0 y0; generalize w1.drewN nd = w2 at *; clear HB B1
   by_cases hn : rnm es f0 < 0
   ·have hd2 : decide (rnm es f0 ≥ 0) = false := decide_eq_false (by omega)
    have hst2 : Hid (T = if ((aboveF es ⟨f0, f1, l2, f3, f4, l5⟩ f1 false).2 == 0 && l2.all fun n => (aboveF es ⟨f0, f1, l2, f3, f4, l5⟩ n true).2 == 0) = true then csOf es ++ [⟨f0, f1, l2, f3, f4, l5⟩] else csOf es) := Lib.hid (by rw [hst1.out, decide_eq_true hn]; rfl); have y1 : w2.cell? ⟨w.heap.size, 1, none⟩ = some (.string f1) := (blk_cell B2.out 1).trans rfl; have CN1 := Lib.hid (CN.out w2 HB2.out f1); have hsup := Lib.hid (sup_ok es ⟨f0, f1, l2, f3, f4, l5⟩ f1); have hrin := Lib.hid (@rnm_in es f1); clear hst1 hn; go_wp2_with fail; refine CN1.out.mono ?_; rintro e w3 ⟨rfl, ⟨nd3, rfl⟩⟩; have HB3 := Lib.hid (pw_below_drewN HB2.out nd3); have B3 := Lib.hid (blk_drewN B2.out nd3); clear CN1 y1 hd2; generalize w2.drewN nd3 = w3 at *; clear HB2 B2; generalize rnm es f1 = s at *
    by_cases hs : s < 0
    ·have hd3 : decide (s < 0) = true := decide_eq_true hs
     have hT : Hid (T = csOf es) := Lib.hid (by rw [hst2.out, hsup.out, hd3]; rfl); clear hs; go_wp2; go_ret2
     exact rno HW.out hbs HB3.out hT.out _ _
    ·have hd3 : decide (s < 0) = false := decide_eq_false hs
     obtain ⟨hs0, hs1, -⟩ := hrin.out (by omega); clear hrin
     have hs1' : s < ((csOf es).length : Int) := by have := hle.out; omega
     rw [hd3, Bool.not_false, Bool.true_and] at hsup; have CI1 := Lib.hid (CI.out w3 HB3.out s); have hin : Hid ((inB es s && isI (ent es s).c) = isI (ent es s).c) := Lib.hid (by unfold inB; rw [decide_eq_true ⟨hs0, hs1⟩, Bool.true_and]); rw [hin.out] at CI1; have hfp : Hid ((ent es s).c.f0.size < 4611686018427387904) := Lib.hid (HF.out _ (List.mem_of_getElem? (get_ent hs0 hs1))).2.1; have hic : Hid (isI (⟨f0, f1, l2, f3, f4, l5⟩ : S85) = (Go.bits .and .i64 f3 512 != 0)) := Lib.hid rfl; rw [hic.out] at hsup; obtain ⟨Ar, cr, ev, hlr, RC⟩ := Kd.R_reads HW.out.row; injection ev with ea eb ec; subst ea ec; obtain ⟨ad, P2, pc2, P5, pc5, rfl, p0, p1, p2, p3, p4, p5, hp2, KP2, hp5, KP5⟩ := at_T85 (Kd.C_below RC HB3.out) s hs0 hs1'; rw [cs_rd hs0 hs1] at p0 p1 p2 p3 p4 p5 hp2 KP2 hp5 KP5; clear eb hs RC hin; generalize (ent es s).c = p at *; have CO := Lib.hid (fun W (hb : Below w3.heap.size w3 W) => arbiterref06_open.calls f0 f1 A2 c2 l2 f3 f4 A5 c5 l5 p.f0 p.f1 P2 pc2 p.f2 p.f3 p.f4 P5 pc5 p.f5 _ W (Kd.C_below H2.out (HB3.out.trans (hb.mono HB3.out.size))) hc2 (Kd.C_below H5.out (HB3.out.trans (hb.mono HB3.out.size))) hc5 (Kd.C_below KP2 hb) hp2 (Kd.C_below KP5 hb) hp5 (open_ok ⟨f0, f1, l2, f3, f4, l5⟩ p (by show f0.size < _; omega) hfp.out)); replace KP2 := Lib.hid KP2; replace KP5 := Lib.hid KP5; generalize isI p = ip at *; generalize (Go.bits .and .i64 f3 512 != 0) = ic at *
     go_upto_region 10 with (fail)
     go_cut [0, 3, 6, 40] (fun v0 v3 v6 v40 wr => v0 = .pointer (some ⟨g, 0, none⟩) ∧ v3 = .pointer (some ⟨w.heap.size, 0, none⟩) ∧ v6 = .int .i64 s ∧ v40 = .bool (ip || (ic && s != 0)) ∧ Hid (wr.heap[w.heap.size]? = some (.cells #[.string f0, .string f1, .slice A2 l2.length c2, .int .i64 f3, .int .i64 f4, .slice A5 l5.length c5] 85 (0, 0))) ∧ Hid (Below w3.heap.size w3 wr))
     case first =>
      go_wp2_with fail; refine CI1.out.mono ?_; rintro e w4 ⟨rfl, hb4⟩; have B4 := Lib.hid (blk_below B3.out hb4); replace hb4 := Lib.hid hb4
      cases ip with
      | true =>
       go_wp2; go_meet
       case rel => exact ⟨rfl, rfl, rfl, rfl, B4, hb4⟩
      | false =>
       have y3 : w4.cell? ⟨w.heap.size, 3, none⟩ = some (.int .i64 f3) := (blk_cell B4.out 3).trans rfl; go_wp2_with fail; refine (CH.out _).mono ?_; rintro e w5 ⟨rfl, rfl⟩
       cases ic with
       | false =>
        go_wp2; go_meet
        case rel => exact ⟨rfl, rfl, rfl, rfl, B4, hb4⟩
       | true =>
        go_wp2; go_meet
        case rel => exact ⟨rfl, rfl, rfl, by first | rfl | simp, B4, hb4⟩
     case rest =>
      clear B3; obtain ⟨rfl, rfl, rfl, rfl, B4, hb4⟩ := hcut
      cases hbad : (ip || (ic && s != 0)) with
      | true =>
       have hT : Hid (T = csOf es) := Lib.hid (by rw [hst2.out, hsup.out, hbad]; rfl); clear hbad; go_wp2; go_ret2
       exact rno HW.out hbs (HB3.out.trans (hb4.out.mono HB3.out.size)) hT.out _ _
      | false =>
       rw [hbad, Bool.not_false, Bool.true_and] at hsup; clear hbad
       go_upto_region 12 with (fail)
       generalize hob : (Go.bits .and .i64 p.f3 1 != 0 || tog ⟨f0, f1, l2, f3, f4, l5⟩ p) = ob at *; clear hob
       go_cut [0, 3, 50] (fun v0 v3 v50 wr => v0 = .pointer (some ⟨g, 0, none⟩) ∧ v3 = .pointer (some ⟨w.heap.size, 0, none⟩) ∧ v50 = .bool (!ob) ∧ Hid (wr.heap[w.heap.size]? = some (.cells #[.string f0, .string f1, .slice A2 l2.length c2, .int .i64 f3, .int .i64 f4, .slice A5 l5.length c5] 85 (0, 0))) ∧ Hid (Below w.heap.size w wr))
       case first =>
        have q0 : wc.cell? ⟨g, 0, none⟩ = some (.slice (some ad) (csOf es).length cv) := (blk_cell (HW.out.below (HB3.out.trans (hb4.out.mono HB3.out.size))).blk 0).trans rfl; have y0 : wc.cell? ⟨w.heap.size, 0, none⟩ = some (.string f0) := (blk_cell B4.out 0).trans rfl; have y1 : wc.cell? ⟨w.heap.size, 1, none⟩ = some (.string f1) := (blk_cell B4.out 1).trans rfl; have y2 : wc.cell? ⟨w.heap.size, 2, none⟩ = some (.slice A2 l2.length c2) := (blk_cell B4.out 2).trans rfl; have y3 : wc.cell? ⟨w.heap.size, 3, none⟩ = some (.int .i64 f3) := (blk_cell B4.out 3).trans rfl; have y4 : wc.cell? ⟨w.heap.size, 4, none⟩ = some (.int .i64 f4) := (blk_cell B4.out 4).trans rfl; have y5 : wc.cell? ⟨w.heap.size, 5, none⟩ = some (.slice A5 l5.length c5) := (blk_cell B4.out 5).trans rfl; replace p0 := pw_cell_below hb4.out p0; replace p1 := pw_cell_below hb4.out p1; replace p2 := pw_cell_below hb4.out p2; replace p3 := pw_cell_below hb4.out p3; replace p4 := pw_cell_below hb4.out p4; replace p5 := pw_cell_below hb4.out p5
        go_region_with (go_at_call 92; refine (CO.out _ (by repeat (first | exact hb4.out | apply below_drew1 | apply pw_below_drewN))).mono ?_; rintro e w5 ⟨rfl, hb5⟩; have hb6 : Hid (Below wc.heap.size wc w5) := Lib.hid ⟨hb5.os, hb5.tape, hb5.output, hb5.size, hb5.block⟩; clear hb5)
        all_goals
         try go_wp2
         go_meet
         case rel => exact ⟨rfl, rfl, rfl, Lib.hid (blk_below B4.out hb6.out), Lib.hid ((HB3.out.trans (hb4.out.mono HB3.out.size)).trans (hb6.out.mono (HB3.out.trans (hb4.out.mono HB3.out.size)).size))⟩
       case rest =>
        clear B4 hb4 CO KP2 KP5 p0 p1 p2 p3 p4 p5 hp2 hp5 CI1 hfp HB3; obtain ⟨rfl, rfl, rfl, B5, HB5⟩ := hcut
        cases ob with
        | false =>
         have hT : Hid (T = csOf es) := Lib.hid (by rw [hst2.out, hsup.out]; rfl); go_wp2; go_ret2
         exact rno HW.out hbs HB5.out hT.out _ _
        | true =>
         rw [Bool.not_true]; have hst3 : Hid (T = if (l2.all fun n => (aboveF es ⟨f0, f1, l2, f3, f4, l5⟩ n true).2 == 0) = true then csOf es ++ [⟨f0, f1, l2, f3, f4, l5⟩] else csOf es) := Lib.hid (by rw [hst2.out, hsup.out]; rfl); clear hst2 hsup hd3 hs0 hs1 hs1' hic CH
         go_upto_region 14 with (fail)
         go_wp2_with fail
         go_loopw [7] (fun v7 wr => ∃ j : Nat, j ≤ l2.length ∧ v7 = .int .i64 j ∧ Hid (((l2.take j).all fun n => (aboveF es ⟨f0, f1, l2, f3, f4, l5⟩ n true).2 == 0) = true) ∧ Hid (wr.heap[w.heap.size]? = some (.cells #[.string f0, .string f1, .slice A2 l2.length c2, .int .i64 f3, .int .i64 f4, .slice A5 l5.length c5] 85 (0, 0))) ∧ Hid (Below w.heap.size w wr)) (fun v7 _ => l2.length - (intOf v7).toNat)
         case atStart => exact ⟨0, Nat.zero_le _, rfl, Lib.hid (by simp), B5, HB5⟩
         case round =>
          clear B5 HB5; obtain ⟨j, hj, rfl, HT, B6, HB6⟩ := hrel; have y2 : wr.cell? ⟨w.heap.size, 2, none⟩ = some (.slice A2 l2.length c2) := (blk_cell B6.out 2).trans rfl
          by_cases hlt : j < l2.length
          ·have hjd : decide (j < l2.length) = true := decide_eq_true hlt
           obtain ⟨ad2, cc, rfl, hcl, hKK, hic⟩ := Kd.C_get (Kd.C_below H2.out HB6.out) ByteArray.empty (j : Int) (by omega) (by omega); have hx := rd_at hlt; obtain rfl : cc = [.string (rdOf ByteArray.empty l2 (j : Int))] := hKK; have hic := hic 0 _ rfl; rw [show Kd.string.sz = 1 from rfl, Nat.mul_one, Nat.add_zero, Int.toNat_natCast] at hic; generalize rdOf ByteArray.empty l2 (j : Int) = n at *; have haok := Lib.hid (if_ok es ⟨f0, f1, l2, f3, f4, l5⟩ n)
           have hbad : Hid (((aboveF es ⟨f0, f1, l2, f3, f4, l5⟩ n true).2 == 0) = false → T = csOf es) := Lib.hid (fun h => by
            rw [hst3.out, bad_all (p := fun n => (aboveF es ⟨f0, f1, l2, f3, f4, l5⟩ n true).2 == 0) hx h]; rfl)
           have hgood : Hid (((aboveF es ⟨f0, f1, l2, f3, f4, l5⟩ n true).2 == 0) = true → ((l2.take (j + 1)).all fun n => (aboveF es ⟨f0, f1, l2, f3, f4, l5⟩ n true).2 == 0) = true) := Lib.hid (fun h => all_take (p := fun n => (aboveF es ⟨f0, f1, l2, f3, f4, l5⟩ n true).2 == 0) hx h HT.out); have hrin := Lib.hid (@rnm_in es n); have CN1 := Lib.hid (CN.out wr HB6.out n); generalize ((aboveF es ⟨f0, f1, l2, f3, f4, l5⟩ n true).2 == 0) = aok at *; clear HT hx hcl; go_wp2_with fail; refine CN1.out.mono ?_; rintro e w7 ⟨rfl, ⟨nd7, rfl⟩⟩; have HB7 := Lib.hid (pw_below_drewN HB6.out nd7); have B7 := Lib.hid (blk_drewN B6.out nd7); clear CN1 y2 hic; generalize wr.drewN nd7 = w7 at *; clear HB6 B6; generalize rnm es n = k at *
           by_cases hs : k < 0
           ·have hd3 : decide (k < 0) = true := decide_eq_true hs
            have hT := Lib.hid (hbad.out (by rw [haok.out, hd3]; rfl)); clear hs; go_wp2; go_ret2
            exact rno HW.out hbs HB7.out hT.out _ _
           ·have hd3 : decide (k < 0) = false := decide_eq_false hs
            obtain ⟨hs0, hs1, -⟩ := hrin.out (by omega); clear hrin
            have hs1' : k < ((csOf es).length : Int) := by have := hle.out; omega
            rw [hd3, Bool.not_false, Bool.true_and] at haok; have CI1 := Lib.hid (CI.out w7 HB7.out k); have hin : Hid ((inB es k && isI (ent es k).c) = isI (ent es k).c) := Lib.hid (by unfold inB; rw [decide_eq_true ⟨hs0, hs1⟩, Bool.true_and]); rw [hin.out] at CI1; have hfp : Hid ((ent es k).c.f0.size < 4611686018427387904) := Lib.hid (HF.out _ (List.mem_of_getElem? (get_ent hs0 hs1))).2.1; obtain ⟨Ar, cr, ev, hlr, RC⟩ := Kd.R_reads HW.out.row; injection ev with ea eb ec; subst ec; obtain ⟨ad', P2, pc2, P5, pc5, ea', p0, p1, p2, p3, p4, p5, hp2, KP2, hp5, KP5⟩ := at_T85 (Kd.C_below RC HB7.out) k hs0 hs1'; rw [ea'] at ea; injection ea with ea; subst ea; rw [cs_rd hs0 hs1] at p0 p1 p2 p3 p4 p5 hp2 KP2 hp5 KP5; clear eb hs RC hin ea'; generalize (ent es k).c = p at *; have CO := Lib.hid (fun W (hb : Below w7.heap.size w7 W) => arbiterref06_open.calls f0 f1 (some ad2) c2 l2 f3 f4 A5 c5 l5 p.f0 p.f1 P2 pc2 p.f2 p.f3 p.f4 P5 pc5 p.f5 _ W (Kd.C_below H2.out (HB7.out.trans (hb.mono HB7.out.size))) hc2 (Kd.C_below H5.out (HB7.out.trans (hb.mono HB7.out.size))) hc5 (Kd.C_below KP2 hb) hp2 (Kd.C_below KP5 hb) hp5 (open_ok ⟨f0, f1, l2, f3, f4, l5⟩ p (by show f0.size < _; omega) hfp.out)); replace KP2 := Lib.hid KP2; replace KP5 := Lib.hid KP5; generalize isI p = ip at *; generalize (Go.bits .and .i64 p.f3 1 != 0 || tog ⟨f0, f1, l2, f3, f4, l5⟩ p) = ob at *; go_wp2_with fail; refine CI1.out.mono ?_; rintro e w8 ⟨rfl, hb8⟩; have B8 := Lib.hid (blk_below B7.out hb8); replace hb8 := Lib.hid hb8; clear CI1 B7
            cases ip with
            | false =>
             have hT := Lib.hid (hbad.out (by rw [haok.out]; rfl)); go_wp2; go_ret2
             exact rno HW.out hbs (HB7.out.trans (hb8.out.mono HB7.out.size)) hT.out _ _
            | true =>
             rw [Bool.true_and] at haok
             go_upto_region 22 with (fail)
             go_cut [0, 3, 7, 80] (fun v0 v3 v7 v80 wr => v0 = .pointer (some ⟨g, 0, none⟩) ∧ v3 = .pointer (some ⟨w.heap.size, 0, none⟩) ∧ v7 = .int .i64 j ∧ v80 = .bool (!ob) ∧ Hid (wr.heap[w.heap.size]? = some (.cells #[.string f0, .string f1, .slice (some ad2) l2.length c2, .int .i64 f3, .int .i64 f4, .slice A5 l5.length c5] 85 (0, 0))) ∧ Hid (Below w.heap.size w wr))
             case first =>
              have q0 : w8.cell? ⟨g, 0, none⟩ = some (.slice (some ad) (csOf es).length cv) := (blk_cell (HW.out.below (HB7.out.trans (hb8.out.mono HB7.out.size))).blk 0).trans rfl; have y0 : w8.cell? ⟨w.heap.size, 0, none⟩ = some (.string f0) := (blk_cell B8.out 0).trans rfl; have y1 : w8.cell? ⟨w.heap.size, 1, none⟩ = some (.string f1) := (blk_cell B8.out 1).trans rfl; have y2 : w8.cell? ⟨w.heap.size, 2, none⟩ = some (.slice (some ad2) l2.length c2) := (blk_cell B8.out 2).trans rfl; have y3 : w8.cell? ⟨w.heap.size, 3, none⟩ = some (.int .i64 f3) := (blk_cell B8.out 3).trans rfl; have y4 : w8.cell? ⟨w.heap.size, 4, none⟩ = some (.int .i64 f4) := (blk_cell B8.out 4).trans rfl; have y5 : w8.cell? ⟨w.heap.size, 5, none⟩ = some (.slice A5 l5.length c5) := (blk_cell B8.out 5).trans rfl; replace p0 := pw_cell_below hb8.out p0; replace p1 := pw_cell_below hb8.out p1; replace p2 := pw_cell_below hb8.out p2; replace p3 := pw_cell_below hb8.out p3; replace p4 := pw_cell_below hb8.out p4; replace p5 := pw_cell_below hb8.out p5
              go_region_with (go_at_call 92; refine (CO.out _ (by repeat (first | exact hb8.out | apply below_drew1 | apply pw_below_drewN))).mono ?_; rintro e w5 ⟨rfl, hb5⟩; have hb6 : Hid (Below w8.heap.size w8 w5) := Lib.hid ⟨hb5.os, hb5.tape, hb5.output, hb5.size, hb5.block⟩; clear hb5)
              all_goals
               try go_wp2
               go_meet
               case rel => exact ⟨rfl, rfl, rfl, rfl, Lib.hid (blk_below B8.out hb6.out), Lib.hid ((HB7.out.trans (hb8.out.mono HB7.out.size)).trans (hb6.out.mono (HB7.out.trans (hb8.out.mono HB7.out.size)).size))⟩
             case rest =>
              clear B8 hb8 CO KP2 KP5 p0 p1 p2 p3 p4 p5 hp2 hp5 hfp HB7; obtain ⟨rfl, rfl, rfl, rfl, B9, HB9⟩ := hcut
              cases ob with
              | false =>
               have hT := Lib.hid (hbad.out haok.out); go_wp2; go_ret2
               exact rno HW.out hbs HB9.out hT.out _ _
              | true =>
               rw [Bool.not_true]; have hg1 := Lib.hid (hgood.out haok.out); go_wp2
               exact ⟨⟨j + 1, by omega, by push_cast; rfl, hg1, B9, HB9⟩, by simp [intOf]; omega⟩
          ·have hjd : decide (j < l2.length) = false := decide_eq_false hlt
           have hjl : j = l2.length := by omega
           have h1 := HT.out; rw [hjl, List.take_length] at h1; have hT : Hid (T = csOf es ++ [⟨f0, f1, l2, f3, f4, l5⟩]) := Lib.hid (by rw [hst3.out, h1]; rfl); clear h1 hst3 HT hjl
           go_upto_region 24 with (fail)
           have HWr := Lib.hid (HW.out.below HB6.out); have q0 : wr.cell? ⟨g, 0, none⟩ = some (.slice (some ad) (csOf es).length cv) := (blk_cell HWr.out.blk 0).trans rfl; have y0 : wr.cell? ⟨w.heap.size, 0, none⟩ = some (.string f0) := (blk_cell B6.out 0).trans rfl; have y1 : wr.cell? ⟨w.heap.size, 1, none⟩ = some (.string f1) := (blk_cell B6.out 1).trans rfl; have y2 : wr.cell? ⟨w.heap.size, 2, none⟩ = some (.slice A2 l2.length c2) := (blk_cell B6.out 2).trans rfl; have y3 : wr.cell? ⟨w.heap.size, 3, none⟩ = some (.int .i64 f3) := (blk_cell B6.out 3).trans rfl; have y4 : wr.cell? ⟨w.heap.size, 4, none⟩ = some (.int .i64 f4) := (blk_cell B6.out 4).trans rfl; have y5 : wr.cell? ⟨w.heap.size, 5, none⟩ = some (.slice A5 l5.length c5) := (blk_cell B6.out 5).trans rfl; have kq := blk_frozen HWr.out.blk 0; have hwb : base ≤ wr.heap.size := Nat.le_trans hbs HB6.out.size; have hgl2 : g < wr.heap.size := blk_lt HWr.out.blk; have hgn := Lib.hid (Kd.R_ne HWr.out.row HWr.out.blk (by decide))
           have hvb : Hid (∀ k, (Value.slice (some ad) (csOf es).length cv).ownBlock = some k → k < wr.heap.size) := Lib.hid (fun k hk => by
            obtain ⟨inner, ho⟩ := Kd.R_own HWr.out.row; obtain ⟨cells, hc⟩ := own_typed ho k hk
            exact blk_lt hc)
           have CP := Lib.hid (fun W (hb : Below wr.heap.size wr W) => rcopy_any f0 f1 A2 c2 l2 f3 f4 A5 c5 l5 W (Kd.C_below H2.out (HB6.out.trans (hb.mono HB6.out.size))) (Kd.C_below H5.out (HB6.out.trans (hb.mono HB6.out.size))) (by omega) s5.out); clear y2 B6
           go_cut [0, 3] (fun v0 v3 wf => ∃ v1, v0 = .pointer (some ⟨g, 0, none⟩) ∧ Hid (RIn wf base g v1 (csOf es ++ [⟨f0, f1, l2, f3, f4, l5⟩])) ∧ Hid (Below base w wf))
           case first =>
            go_region_law (first
             | (refine Kd.R_append_step k85 (W := w5) (w0 := w5) base (by rfl) (.tmp 85) (.tmp 88) 22 85 (.agg #[.string ⟨#[]⟩, .string ⟨#[]⟩, .slice none 0 0, .int .i64 0, .int .i64 0, .slice none 0 0]) 96 (by rfl) Tryz.underlying22 infoClass rfl (by decide) (by omega) _ (csOf es) ⟨f0, f1, l2, f3, f4, l5⟩ [.string f0, .string f1, .slice Ac2 l2.length cc2, .int .i64 f3, .int .i64 f4, .slice Ac5 l5.length cc5] (fun _ => True) (fun k => wr.heap.size ≤ k) (by rfl) (by rfl) (HM.out) (HN.out) (fun _ _ => trivial) (Kd.R_below HWr.out.row hb6.out) (Below.refl _ _) (Nat.le_trans hwb hb6.out.size) (by have := hle.out; omega) ?_; intro v1 w6 h1 h2 h3 h4; obtain ⟨A9, c9, rfl⟩ := Kd.R_slice h1; rw [show (csOf es ++ [(⟨f0, f1, l2, f3, f4, l5⟩ : S85)]).length = (csOf es).length + 1 by simp] at h1; have kx := (h3.frozen_far ⟨g, 0, none⟩ (Nat.lt_of_lt_of_le hgl2 hb6.out.size) hgn.out).trans kq6.out; have qx := (h3.cell_far ⟨g, 0, none⟩ (Nat.lt_of_lt_of_le hgl2 hb6.out.size) hgn.out).trans qq6.out; have hblk := Lib.hid (blk_grown (blk_below HWr.out.blk hb6.out) h3 hgn.out); replace h1 := Lib.hid h1; replace h2 := Lib.hid h2; clear h3 h4)
             | (go_simp; go_at_call 93; refine (CP.out _ (by repeat (first | exact Below.refl _ _ | apply below_drew1 | apply pw_below_drewN))).mono ?_; rintro e w5 ⟨v2', v5', rfl, R2, R5, hb5⟩; have hb6 : Hid (Below wr.heap.size wr w5) := Lib.hid ⟨hb5.os, hb5.tape, hb5.output, hb5.size, hb5.block⟩; obtain ⟨Ac2, cc2, rfl⟩ := Kd.R_slice R2; obtain ⟨Ac5, cc5, rfl⟩ := Kd.R_slice R5; have kq6 := Lib.hid (blk_frozen (blk_below HWr.out.blk hb6.out) 0); have qq6 := Lib.hid (pw_cell_below hb6.out q0); have qq7 := qq6.out; have qq8 := cell_allocs qq7; have HM := Lib.hid (k85_mkM w5 base (fun k => wr.heap.size ≤ k) ⟨f0, f1, l2, f3, f4, l5⟩ (Kd.R_lower (Kd.R_mono (Kd.R_bound R2) (fun k hk => (show wr.heap.size ≤ k from hk.2.1))) hwb) (Kd.R_lower (Kd.R_mono (Kd.R_bound R5) (fun k hk => (show wr.heap.size ≤ k from hk.2.1))) hwb)); have HN : Hid (∀ k, wr.heap.size ≤ k → True ∧ some k ≠ (Value.slice (some ad) (csOf es).length cv).ownBlock) := Lib.hid (fun k hk => ⟨trivial, fun e => by have := hvb.out k e.symm; omega⟩); clear R2 R5 hb5))
            all_goals have NR := Lib.hid (show RIn (w6.setCell ⟨g, 0, none⟩ (.slice A9 ((csOf es).length + 1) c9)) base g (.slice A9 ((csOf es).length + 1) c9) (csOf es ++ [⟨f0, f1, l2, f3, f4, l5⟩]) from ⟨HWr.out.hg, blk_put hblk.out 0 _ rfl, Kd.R_set h1.out hblk.out (by decide) 0 _⟩)
            all_goals have NB := Lib.hid (((HB6.out.mono hbs).trans ((hb6.out.mono hwb).trans h2.out)).setCell (p := ⟨g, 0, none⟩) HWr.out.hg (.slice A9 ((csOf es).length + 1) c9))
            all_goals clear h1 h2 kx qx hblk HM HN hb6 kq6 qq6 qq7 qq8
            all_goals try go_wp2
            all_goals go_meet
            all_goals (case rel => exact ⟨_, rfl, NR, NB⟩)
           case rest =>
            clear q0 y0 y1 y3 y4 y5 HWr kq hgn hvb CP HB6; obtain ⟨v1, rfl, NR, NB⟩ := hcut; obtain ⟨A9, c9, rfl⟩ := Kd.R_slice NR.out.row; have q9 : wc.cell? ⟨g, 0, none⟩ = some (.slice A9 (csOf es ++ [(⟨f0, f1, l2, f3, f4, l5⟩ : S85)]).length c9) := (blk_cell NR.out.blk 0).trans rfl; go_wp2; go_ret2
            exact ⟨_, _, rfl, _, by rw [hT.out]; exact NR.out, NB.out⟩
   ·have hd2 : decide (rnm es f0 ≥ 0) = true := decide_eq_true (by omega)
    have hT : Hid (T = csOf es) := Lib.hid (by rw [hst1.out, decide_eq_false hn]; rfl); clear hst1 hn; go_wp2; go_ret2
    exact rno HW.out hbs HB2.out hT.out _ _
 ·have hne : (r != 0) = true := bne_iff_ne.2 h0
  have hT : Hid (T = csOf es) := Lib.hid (by rw [hst.out, beq_eq_false_iff_ne.2 h0]; rfl); clear hst h0; go_wp2; go_ret2
  exact rno HW.out hbs HB.out hT.out _ _
end Go.Proofs.YtaipkdglhfhhiaaGreatDoor.Pt

namespace Go.Proofs.YtaipkdglhfhhiaaGreatDoor.Pt
open Go Go.RowKit Go.Proofs.YtaipkdglhfhhiaaGreatDoor.Nm Go.Proofs.YtaipkdglhfhhiaaGreatDoor.Hi Go.Proofs.YtaipkdglhfhhiaaGreatDoorW.PrintWords Go.Proofs.YtaipkdglhfhhiaaGreatDoorW.PrintLast Go.Proofs.YtaipkdglhfhhiaaGreatDoorW.PrintMore
set_option linter.unusedVariables false
set_option linter.unusedSimpArgs false
set_option maxHeartbeats 2000000
set_option maxRecDepth 100000
theorem rd44 {l : List S85} {i : Nat} (h : i < l.length) : l[i]? = some (rd_T85 l (i : Int)) := by
 simp [rd_T85, List.getD_eq_getElem?_getD, List.getElem?_eq_getElem h]
def arbiterlaw07_built.f (l0 : List (S85)) : Option (List Hi.Ent) := some (builtF l0)
def arbiterlaw08_built.f (l0 : List (S85)) : Option (List Hi.Ent) := some (builtF l0)
def arbiterlaw15_built.f (l0 : List (S85)) : Option (List Hi.Ent) := some (builtF l0)
theorem arbiterlaw15_built.calls (A0 : Option Addr) (c0 : Nat) (l0 : List (S85)) (r : List Hi.Ent) (w : World) (hr0 : Kd.C k85 w A0 l0.length l0) (hc0 : l0.length ≤ c0) (h : arbiterlaw15_built.f l0 = some r) :
  Calls Tryz.prog 24 #[.slice A0 l0.length c0] w fun e w' => ∃ G_, e = .returned (.pointer (some ⟨G_, 0, none⟩)) ∧ WOK w' G_ r ∧ Below w.heap.size w w' := by
 obtain rfl := Option.some.inj h; have HR := Lib.hid hr0; have hmax := Kd.C_max hr0; clear h hr0; go_enter Tryz.func24, Tryz.ntmps24; go_wp2_with fail; refine (new_any _).mono ?_; rintro e w1 ⟨g, v, mb, ps, rfl, hI, hb⟩; have HI := Lib.hid hI; have HB := Lib.hid hb; clear hI hb; go_wp2_with fail
 go_loopw [4] (fun v4 wr => ∃ j : Nat, j ≤ l0.length ∧ v4 = .int .i64 j ∧ Hid (∃ v ps, WIn wr w.heap.size g v mb ps (builtF (l0.take j))) ∧ Hid (Below w.heap.size w wr)) (fun v4 _ => l0.length - (intOf v4).toNat)
 case atStart => exact ⟨0, Nat.zero_le _, rfl, Lib.hid ⟨_, _, HI.out⟩, HB⟩
 case round =>
  clear HI HB; obtain ⟨j, hj, rfl, HI, HB⟩ := hrel
  by_cases hlt : j < l0.length
  ·have hjd : decide (j < l0.length) = true := decide_eq_true hlt
   obtain ⟨ad, A2, c2, A5, c5, rfl, q0, q1, q2, q3, q4, q5, hc2, K2, hc5, K5⟩ := at_T85 (Kd.C_below HR.out HB.out) (j : Int) (by omega) (by omega); have hx := rd44 hlt; rw [Int.toNat_natCast] at q0 q1 q2 q3 q4 q5; generalize rd_T85 l0 (j : Int) = x at *; obtain ⟨v, ps, hI⟩ := HI.out
   have hst : Hid (builtF (l0.take (j + 1)) = stepF (builtF (l0.take j)) x) := Lib.hid (by
    unfold builtF; rw [List.take_add_one, hx, List.foldl_append]
    rfl)
   have DF := Lib.hid (define_any wr w.heap.size g v mb ps _ hI HB.out.size (good_made (made_built _)) x.f0 x.f1 A2 c2 x.f2 x.f3 x.f4 A5 c5 x.f5 K2 hc2 K5 hc5 (chkC x) rfl (fun h => by
    obtain ⟨s0, s1, s2, s3, s5⟩ := sound_sizes h
    exact ⟨by omega, by omega, by omega, fun n hn => by have := s3 n hn; omega, s5⟩))
   clear K2 K5 hI HI hx; obtain ⟨n0, n1, n2, n3, n4, n5⟩ := x; go_wp2_with fail; refine DF.out.mono ?_; rintro e w2 ⟨rfl, v', ps', I2, hb2, hk2⟩; replace I2 := Lib.hid I2; have HB2 := Lib.hid (HB.out.trans hb2); clear hb2 hk2 DF HB q0 q1 q2 q3 q4 q5; go_wp2
   exact ⟨⟨j + 1, by omega, by push_cast; rfl, Lib.hid ⟨_, _, by rw [hst.out]; exact I2.out⟩, HB2⟩, by simp [intOf]; omega⟩
  ·have hjd : decide (j < l0.length) = false := decide_eq_false hlt
   have e1 : j = l0.length := by omega
   subst e1; rw [List.take_length] at HI; go_wp2; go_ret; obtain ⟨v, ps, hI⟩ := HI.out; have hg := good_made (made_built l0)
   exact ⟨g, rfl, ⟨⟨_, _, _, _, hI⟩, hg.fine, hg.tree, by have := hg.len; omega⟩, HB.out⟩
end Go.Proofs.YtaipkdglhfhhiaaGreatDoor.Pt

namespace Go.Proofs.YtaipkdglhfhhiaaGreatDoor.Pt
open Go Go.RowKit Go.Proofs.YtaipkdglhfhhiaaGreatDoor.Nm Go.Proofs.YtaipkdglhfhhiaaGreatDoor.Hi Go.Proofs.YtaipkdglhfhhiaaGreatDoorW.PrintWords Go.Proofs.YtaipkdglhfhhiaaGreatDoorW.PrintLast Go.Proofs.YtaipkdglhfhhiaaGreatDoorW.PrintMore
set_option linter.unusedVariables false
set_option linter.unusedSimpArgs false
set_option maxHeartbeats 2000000
set_option maxRecDepth 100000
def goodC (c : S85) : Bool := inRB c.f3 && c.f5.all fun m => inRB m.f2
def arbiterref06_Of.f (l0 : List (S85)) : Option (List (S85)) := if l0.all goodC = true then some (csOf (builtF l0)) else none
theorem arbiterref06_Of.calls (A0 : Option Addr) (c0 : Nat) (l0 : List (S85)) (r : List (S85)) (w : World) (hr0 : Kd.C k85 w A0 l0.length l0) (hc0 : l0.length ≤ c0) (h : arbiterref06_Of.f l0 = some r) :
  Calls Tryz.prog 13 #[.slice A0 l0.length c0] w fun e w' => ∃ G_, e = .returned (.pointer (some ⟨G_, 0, none⟩)) ∧ ROK w' G_ r ∧ Below w.heap.size w w' := by
 unfold arbiterref06_Of.f at h; obtain ⟨hg, h⟩ := if_some h; obtain rfl := Option.some.inj h; have HR := Lib.hid hr0; have HG := Lib.hid hg; have hmax := Kd.C_max hr0; clear h hr0 hg; go_enter Tryz.func13, Tryz.ntmps13; go_wp2_with fail; refine (rnew_any _).mono ?_; rintro e w1 ⟨g, v, rfl, hI, hb⟩; have HI := Lib.hid hI; have HB := Lib.hid hb; clear hI hb; go_wp2_with fail
 go_loopw [4] (fun v4 wr => ∃ j : Nat, j ≤ l0.length ∧ v4 = .int .i64 j ∧ Hid (∃ v, RIn wr w.heap.size g v (csOf (builtF (l0.take j)))) ∧ Hid (Below w.heap.size w wr)) (fun v4 _ => l0.length - (intOf v4).toNat)
 case atStart => exact ⟨0, Nat.zero_le _, rfl, Lib.hid ⟨_, HI.out⟩, HB⟩
 case round =>
  clear HI HB; obtain ⟨j, hj, rfl, HI, HB⟩ := hrel
  by_cases hlt : j < l0.length
  ·have hjd : decide (j < l0.length) = true := decide_eq_true hlt
   obtain ⟨ad, A2, c2, A5, c5, rfl, q0, q1, q2, q3, q4, q5, hc2, K2, hc5, K5⟩ := at_T85 (Kd.C_below HR.out HB.out) (j : Int) (by omega) (by omega); have hx := rd44 hlt; rw [Int.toNat_natCast] at q0 q1 q2 q3 q4 q5; generalize rd_T85 l0 (j : Int) = x at *; obtain ⟨v, hI⟩ := HI.out
   have hst : Hid (builtF (l0.take (j + 1)) = stepF (builtF (l0.take j)) x) := Lib.hid (by
    unfold builtF; rw [List.take_add_one, hx, List.foldl_append]
    rfl)
   have hgx : goodC x = true := List.all_eq_true.1 HG.out x (List.mem_of_getElem? hx); unfold goodC at hgx; rw [Bool.and_eq_true, List.all_eq_true] at hgx; have hgd := good_made (made_built (l0.take j)); have DF := Lib.hid (rdefine_any wr w.heap.size g v _ hI HB.out.size hgd.fine (by have := hgd.len; omega) x.f0 x.f1 A2 c2 x.f2 x.f3 x.f4 A5 c5 x.f5 K2 hc2 K5 hc5 hgx.1 hgx.2); clear K2 K5 hI HI hx hgx hgd; obtain ⟨n0, n1, n2, n3, n4, n5⟩ := x; go_wp2_with fail; refine DF.out.mono ?_; rintro e w2 ⟨nn, er, rfl, v', I2, hb2⟩; replace I2 := Lib.hid I2; have HB2 := Lib.hid (HB.out.trans hb2); clear hb2 DF HB q0 q1 q2 q3 q4 q5; go_wp2
   exact ⟨⟨j + 1, by omega, by push_cast; rfl, Lib.hid ⟨_, by rw [hst.out]; exact I2.out⟩, HB2⟩, by simp [intOf]; omega⟩
  ·have hjd : decide (j < l0.length) = false := decide_eq_false hlt
   have e1 : j = l0.length := by omega
   subst e1; rw [List.take_length] at HI; go_wp2; go_ret; obtain ⟨v, hI⟩ := HI.out
   exact ⟨g, rfl, ⟨_, _, hI⟩, HB.out⟩
end Go.Proofs.YtaipkdglhfhhiaaGreatDoor.Pt

namespace Go.Proofs.YtaipkdglhfhhiaaGreatDoor.Pt
open Go Go.RowKit Go.Proofs.YtaipkdglhfhhiaaGreatDoor.Nm Go.Proofs.YtaipkdglhfhhiaaGreatDoor.Ty Go.Proofs.YtaipkdglhfhhiaaGreatDoor.Hi Go.Proofs.YtaipkdglhfhhiaaGreatDoorW.PrintWords Go.Proofs.YtaipkdglhfhhiaaGreatDoorW.PrintLast Go.Proofs.YtaipkdglhfhhiaaGreatDoorW.PrintMore
set_option linter.unusedVariables false
set_option linter.unusedSimpArgs false
set_option maxRecDepth 100000
theorem same_l0 (l : List Int) (hl : l.length ≤ 1000) : ∀ (d j k : Nat), j + d = l.length → d < k → arbiterref06_SameNums.l0 k l l (j : Int) = some true := by
 intro d
 induction d with
 | zero =>
  intro j k hj hk
  obtain ⟨k, rfl⟩ : ∃ m, k = m + 1 := ⟨k - 1, by omega⟩
  rw [arbiterref06_SameNums.l0, if_neg (by omega)]
 | succ d ih =>
  intro j k hj hk
  obtain ⟨k, rfl⟩ : ∃ m, k = m + 1 := ⟨k - 1, by omega⟩
  rw [arbiterref06_SameNums.l0, if_pos (by omega), if_pos (by omega), if_pos (by omega), if_pos rfl, show wrap64 ((j : Int) + 1) = ((j + 1 : Nat) : Int) by unfold wrap64; omega]
  exact ih (j + 1) k (by omega) (by omega)
theorem same_ok (l : List Int) (hl : l.length ≤ 1000) (k : Nat) (hk : l.length < k) : arbiterref06_SameNums.f k l l = some true := by
 unfold arbiterref06_SameNums.f; rw [if_pos rfl]
 exact same_l0 l hl l.length 0 k (by omega) hk
end Go.Proofs.YtaipkdglhfhhiaaGreatDoor.Pt

namespace Go.Proofs.YtaipkdglhfhhiaaGreatDoor.Pt
open Go Go.RowKit Go.Proofs.YtaipkdglhfhhiaaGreatDoor.Nm Go.Proofs.YtaipkdglhfhhiaaGreatDoor.Hi Go.Proofs.YtaipkdglhfhhiaaGreatDoorW.PrintWords Go.Proofs.YtaipkdglhfhhiaaGreatDoorW.PrintLast Go.Proofs.YtaipkdglhfhhiaaGreatDoorW.PrintMore
set_option linter.unusedVariables false
set_option linter.unusedSimpArgs false
set_option maxHeartbeats 2000000
set_option maxRecDepth 100000
theorem test_new : display_Test.f newE 1 0 = some (true, 1, 0) := by
 unfold display_Test.f
 decide +kernel
def arbiterlaw15_awake.f : Option Bool := some true
theorem arbiterlaw15_awake.calls (r : Bool) (w : World) (h : arbiterlaw15_awake.f = some r) : Calls Tryz.prog 22 #[] w fun e w' => e = .returned (.bool r) ∧ Below w.heap.size w w' := by
 obtain rfl := Option.some.inj h; go_enter Tryz.func22, Tryz.ntmps22; go_wp2_with fail; refine (new_any _).mono ?_; rintro e w1 ⟨g, v, mb, ps, rfl, hI, hb⟩; have HO := Lib.hid (display_Test.calls g newE 1 0 true 1 0 w1 (wok_new hI) test_new); have HB := Lib.hid hb; clear hI hb; go_wp2_with fail; refine HO.out.mono ?_; rintro e w2 ⟨rfl, hb2⟩; have HB2 := Lib.hid (HB.out.trans (hb2.mono HB.out.size)); clear hb2; go_wp2; go_ret
 exact ⟨rfl, HB2.out⟩
end Go.Proofs.YtaipkdglhfhhiaaGreatDoor.Pt

namespace Go.Proofs.YtaipkdglhfhhiaaGreatDoor.Pt
open Go.RowKit Go.Proofs.YtaipkdglhfhhiaaGreatDoorW.PrintWords Go.Proofs.YtaipkdglhfhhiaaGreatDoorW.PrintLast Go.Proofs.YtaipkdglhfhhiaaGreatDoorW.PrintMore
attribute [local go_sem] max2_int min2_int max_two min_two max_three min_three max_four min_four   -- for this text's walks alone
set_option linter.unusedVariables false
set_option linter.unusedSimpArgs false
def arbiterlaw15_DisplayBuilds.f (k : Nat) (l0 : List (S85)) (a1 : Int) : Option (Bool) := (arbiterlaw15_awake.f).bind fun t555 => (if t555 = true then ((arbiterlaw15_built.f l0).bind fun t556 => ((arbiterref06_Of.f l0).bind fun t557 => ((display_Build.f k t556 a1).bind fun bt558 => ((arbiterref15_Build.f k t557 a1).bind fun bt569 => ((display_Deepest.f k t556).bind fun bt580 => (if bt558.2.2.2 = bt569.2.2.2 then ((arbiterref15_Same.f k bt558.1 bt558.2.1 bt558.2.2.1 bt569.1 bt569.2.1 bt569.2.2.1).bind fun t582 => (if t582 = true then ((arbiterref15_Deepest.f k t557).bind fun t583 => (if bt580.1 = t583 then (some (bt580.2 == 0)) else (some false))) else (some false))) else (some false))))))) else (some false))
end Go.Proofs.YtaipkdglhfhhiaaGreatDoor.Pt

namespace Go.Proofs.YtaipkdglhfhhiaaGreatDoor.Pt
open Go Go.RowKit Go.Proofs.YtaipkdglhfhhiaaGreatDoor.Nm Go.Proofs.YtaipkdglhfhhiaaGreatDoor.Ty Go.Proofs.YtaipkdglhfhhiaaGreatDoor.Hi Go.Proofs.YtaipkdglhfhhiaaGreatDoorW.PrintWords Go.Proofs.YtaipkdglhfhhiaaGreatDoorW.PrintLast Go.Proofs.YtaipkdglhfhhiaaGreatDoorW.PrintMore
set_option linter.unusedVariables false
set_option linter.unusedSimpArgs false
set_option maxRecDepth 100000
theorem build_lens {es : List Ent} (h : Thy es) (hl : es.length ≤ 1000) (i : Int) : (buildF es i).1.length ≤ 1000 ∧ (buildF es i).2.1.length ≤ 1000 ∧ (buildF es i).2.2.1.length ≤ 1000 := by
 unfold buildF
 by_cases hi : 0 ≤ i ∧ i < es.length
 ·have hc := chL_len h.good.tree hi.1 hi.2
  have hd := h.good.tree.depth_ hi.1 hi.2; have hcl := (h.good.fine _ (List.mem_of_getElem? (get_ent hi.1 hi.2))).2.2; rw [if_pos hi]; refine ⟨?_, ?_, hcl⟩
  ·show ((rcL es i).take 8).length ≤ 1000
   rw [List.length_take, rcL, List.length_reverse]; omega
  ·show ((rcL es i).drop 8).length ≤ 1000
   rw [List.length_drop, rcL, List.length_reverse]; omega
 ·rw [if_neg hi]
  decide
end Go.Proofs.YtaipkdglhfhhiaaGreatDoor.Pt

namespace Go.Proofs.YtaipkdglhfhhiaaGreatDoor.Pt
open Go Go.RowKit Go.Proofs.YtaipkdglhfhhiaaGreatDoor.Nm Go.Proofs.YtaipkdglhfhhiaaGreatDoor.Hi Go.Proofs.YtaipkdglhfhhiaaGreatDoorW.PrintWords Go.Proofs.YtaipkdglhfhhiaaGreatDoorW.PrintLast Go.Proofs.YtaipkdglhfhhiaaGreatDoorW.PrintMore
set_option linter.unusedVariables false
set_option linter.unusedSimpArgs false
set_option maxHeartbeats 2000000
set_option maxRecDepth 100000
def nearF (h1 h2 : Int × ByteArray × S85 × Int) : Bool := decide (h1.1 = h2.1) && decide (h1.2.1 = h2.2.1)
def copenF (es : List Ent) (d c : Int) : Bool × Int :=
 if (homeF es d).2.2.2 ≠ 0 then (false, (homeF es d).2.2.2) else if (homeF es c).2.2.2 ≠ 0 then (false, (homeF es c).2.2.2) else
 ((Go.bits .and .i64 (homeF es c).2.2.1.f3 1 != 0) || nearF (homeF es d) (homeF es c), 0)
def access_ClassOpen.f (a0 : List Hi.Ent) (a1 : Int) (a2 : Int) : Option (Bool × Int) := some (copenF a0 a1 a2)
end Go.Proofs.YtaipkdglhfhhiaaGreatDoor.Pt

namespace Go.Proofs.YtaipkdglhfhhiaaGreatDoor.Pt
open Go Go.RowKit Go.Proofs.YtaipkdglhfhhiaaGreatDoor.Nm Go.Proofs.YtaipkdglhfhhiaaGreatDoor.Hi Go.Proofs.YtaipkdglhfhhiaaGreatDoorW.PrintWords Go.Proofs.YtaipkdglhfhhiaaGreatDoorW.PrintLast Go.Proofs.YtaipkdglhfhhiaaGreatDoorW.PrintMore
set_option linter.unusedVariables false
set_option linter.unusedSimpArgs false
set_option maxHeartbeats 2000000
set_option maxRecDepth 100000
def KeptL (w w' : World) : Prop := ∀ (k : Nat) (cells : Array Value) (t : Nat), w.heap[k]? = some (.cells cells t (0, 0)) → t ≠ 66 → t ≠ 24 → w'.heap[k]? = some (.cells cells t (0, 0))
theorem KeptL.trans {w w1 w2 : World} (h : KeptL w w1) (h2 : KeptL w1 w2) : KeptL w w2 := fun k cells t hk h3 h4 => h2 k cells t (h k cells t hk h3 h4) h3 h4
theorem KeptL.refl (w : World) : KeptL w w := fun _ _ _ h _ _ => h
structure Stp (w wr : World) (gl gd : Nat) (dims : Int) (ts : List S24) : Prop where
 bl : ∃ v, wr.heap[gl]? = some (.cells #[v] 66 (0, 0)) ∧ Kd.R k24 24 wr w.heap.size (fun _ => True) v ts
 bd : wr.heap[gd]? = some (.cells #[.int .i64 dims] 3 (0, 0))
 hb : Below w.heap.size w wr
 le : w.heap.size ≤ gl
theorem Stp.below {w wr w1 : World} {gl gd : Nat} {dims : Int} {ts : List S24} (h : Stp w wr gl gd dims ts) (hb : Below wr.heap.size wr w1) : Stp w w1 gl gd dims ts := by
 obtain ⟨⟨v, h1, h2⟩, h3, h4, h5⟩ := h
 exact ⟨⟨v, blk_below h1 hb, Kd.R_below h2 hb⟩, blk_below h3 hb, h4.trans (hb.mono h4.size), h5⟩
def aCond (d : Int) (s : ByteArray) : Bool := decide (d > 0) && ((s.toList == ([] : List UInt8)) || (s.toList == ([79, 98, 106, 101, 99, 116] : List UInt8)))
def aboveTF (es : List Ent) (d : Int) (s : ByteArray) : List S24 × Int :=
 if loadF es d s ≠ 0 then ([], loadF es d s) else if aCond d s = true then ([⟨d - 1, sObject⟩, ⟨d - 1, sCloneable⟩, ⟨d - 1, sSerializable⟩], 0) else if s.toList = [] then ([], 0) else
 ((if (classF es (nameF es s).1).1.f1.toList = [] then [] else [⟨d, (classF es (nameF es s).1).1.f1⟩]) ++ (classF es (nameF es s).1).1.f2.map (fun n => ⟨d, n⟩), 0)
def arrays_Above.f (a0 : List Hi.Ent) (a1_0 : Int) (a1_1 : ByteArray) : Option (List S24 × Int) := if (classF a0 (nameF a0 a1_1).1).1.f2.length ≤ 900 then some (aboveTF a0 a1_0 a1_1) else none
end Go.Proofs.YtaipkdglhfhhiaaGreatDoor.Pt

namespace Go.Proofs.YtaipkdglhfhhiaaGreatDoor.Pt
open Go Go.RowKit Go.Proofs.YtaipkdglhfhhiaaGreatDoor.Nm Go.Proofs.YtaipkdglhfhhiaaGreatDoor.Hi Go.Proofs.YtaipkdglhfhhiaaGreatDoorW.PrintWords Go.Proofs.YtaipkdglhfhhiaaGreatDoorW.PrintLast Go.Proofs.YtaipkdglhfhhiaaGreatDoorW.PrintMore
set_option linter.unusedVariables false
set_option linter.unusedSimpArgs false
set_option maxHeartbeats 2000000
set_option maxRecDepth 100000
def arrays_TypeOf.f (a0 : List Hi.Ent) (a1 : Int) : Option (Int × ByteArray × Int) := some (0, (classF a0 a1).1.f0, (classF a0 a1).2)
end Go.Proofs.YtaipkdglhfhhiaaGreatDoor.Pt

namespace Go.Proofs.YtaipkdglhfhhiaaGreatDoor.Pt
open Go Go.RowKit Go.Proofs.YtaipkdglhfhhiaaGreatDoor.Nm Go.Proofs.YtaipkdglhfhhiaaGreatDoor.Hi Go.Proofs.YtaipkdglhfhhiaaGreatDoorW.PrintWords Go.Proofs.YtaipkdglhfhhiaaGreatDoorW.PrintLast Go.Proofs.YtaipkdglhfhhiaaGreatDoorW.PrintMore
set_option linter.unusedVariables false
set_option linter.unusedSimpArgs false
set_option maxHeartbeats 1000000
set_option maxRecDepth 100000
def arrays_Loaded_nil.f (a1_0 : Int) (a1_1 : ByteArray) : Option Int := some 2
theorem arrays_Loaded_nil.calls (a1_0 : Int) (a1_1 : ByteArray) (r : Int) (w : World) (h : arrays_Loaded_nil.f a1_0 a1_1 = some r) :
  Calls Tryz.prog 42 #[.pointer none, .agg #[.int .i64 a1_0, .string a1_1]] w fun e w' => e = .returned (.int .i64 r) ∧ Below w.heap.size w w' := by
 obtain rfl := Option.some.inj h; go_enter Tryz.func42, Tryz.ntmps42; go_wp2; go_ret
 exact ⟨rfl, by repeat (first | exact Below.refl _ _ | refine below_alloc ?_ _)⟩
def arrays_Sub_nil.f (a1_0 : Int) (a1_1 : ByteArray) (a2_0 : Int) (a2_1 : ByteArray) : Option (Bool × Int) := some (false, 2)
theorem arrays_Sub_nil.calls (a1_0 : Int) (a1_1 : ByteArray) (a2_0 : Int) (a2_1 : ByteArray) (r1 : Bool) (r2 : Int) (w : World) (h : arrays_Sub_nil.f a1_0 a1_1 a2_0 a2_1 = some (r1, r2)) :
  Calls Tryz.prog 41 #[.pointer none, .agg #[.int .i64 a1_0, .string a1_1], .agg #[.int .i64 a2_0, .string a2_1]] w fun e w' => e = .returned (.tuple #[.bool r1, .int .i64 r2]) ∧ Below w.heap.size w w' := by
 have h := Option.some.inj h; simp only [Prod.mk.injEq] at h; obtain ⟨rfl, rfl⟩ := h; have BB := Lib.hid (((Below.refl w.heap.size w).alloc (Nat.le_refl _) (.cells #[.int .i64 a1_0, .string a1_1] 24)).alloc (by simp) (.cells #[.int .i64 a2_0, .string a2_1] 24)); have LD := Lib.hid (fun (W : World) => arrays_Loaded_nil.calls a1_0 a1_1 2 W rfl); have I0 := fun w => index_two a1_0 a1_1 a2_0 a2_1 w; go_enter Tryz.func41, Tryz.ntmps41; go_wp2_with fail; change Code.wp _ _ _ _ ((w.alloc (.cells #[.int .i64 a1_0, .string a1_1] 24)).alloc (.cells #[.int .i64 a2_0, .string a2_1] 24)); generalize (w.alloc (.cells #[.int .i64 a1_0, .string a1_1] 24)).alloc (.cells #[.int .i64 a2_0, .string a2_1] 24) = w0 at *; have N1 := Lib.hid (BB.out.alloc BB.out.size (.cells #[.int .i64 a1_0, .string a1_1] 24)); refine wp_loop_rounds 3 ?_; rw [rounds_succ]; go_wp2_with fail; refine (LD.out _).mono ?_; rintro e w1 ⟨rfl, hb1⟩; have M1 := Lib.hid (N1.out.trans (hb1.mono N1.out.size)); clear hb1 N1 LD; go_wp2; go_ret2
 exact ⟨rfl, M1.out⟩
def arrays_Above_nil.f (a1_0 : Int) (a1_1 : ByteArray) : Option (List S24 × Int) := some ([], 2)
def arrays_Holder_nil.f (a1_0 : Int) (a1_1 : ByteArray) : Option (Int × Int) := some (0, 2)
def arrays_TypeOf_nil.f (a1 : Int) : Option (Int × ByteArray × Int) := some (0, ⟨#[]⟩, 2)
theorem typed_away {w : World} {row : Option Nat} {t : Nat} (hb : ∀ k, row = some k → TypeAt w k t) {k q : Nat} {cells : Array Value} (h : w.heap[k]? = some (.cells cells q (0, 0))) (hq : q ≠ t) : some k ≠ row := by
 intro e; obtain ⟨c2, h2⟩ := hb k e.symm; rw [h] at h2
 cases h2
 exact hq rfl
theorem heap_lt {w : World} {k : Nat} {o : Obj} (h : w.heap[k]? = some o) : k < w.heap.size := by
 obtain ⟨h, _⟩ := Array.getElem?_eq_some_iff.mp h
 exact h
theorem WOK.grown {w w1 : World} {g : Nat} {es : List Hi.Ent} {row : Option Nat} {t : Nat} (hg : w.grownBy w1 row) (h : WOK w g es) (hb : ∀ k, row = some k → TypeAt w k t)
  (ht : ∀ q, q ∈ 133 :: 150 :: 147 :: kE.E → q ≠ t) : WOK w1 g es := by
 obtain ⟨⟨base, v, mb, ps, hi⟩, h2, h3, h4⟩ := h; refine ⟨⟨base, v, mb, ps, hi.hg, (hg.block g (heap_lt hi.blk) (typed_away hb hi.blk (ht _ List.mem_cons_self))).trans hi.blk, ?_, hi.len, fun i x p hx hp => ?_, hi.mbl, ?_⟩, h2, h3, h4⟩
 ·refine Kd.R_mono (Kd.R_move (Kd.R_bound hi.row) (fun k hk => ?_)) (fun _ hk => hk.1)
  obtain ⟨_, _, hlt, q, hq, cells, hc⟩ := hk
  exact hg.block k hlt (typed_away hb hc (ht q (by
   rcases List.mem_cons.1 hq with rfl | hq
   ·simp
   ·cases hq)))
 ·obtain ⟨h1, cs, h2, h3⟩ := hi.ent i x p hx hp
  refine ⟨h1, cs, (hg.block p (heap_lt h2) (typed_away hb h2 (ht _ (by simp)))).trans h2, kE.M_mono (fun _ hk => hk.1) (kE.M_move (fun k hk => ?_) (kE.M_bound h3))⟩; obtain ⟨_, _, hlt, q, hq, cells, hc⟩ := hk
  exact hg.block k hlt (typed_away hb hc (ht q (by simp [hq])))
 ·obtain ⟨D, h1, h2⟩ := hi.map
  obtain ⟨es1, clock, hbk, F, hs, rfl⟩ := h1; refine ⟨_, ⟨es1, clock, (hg.block mb (heap_lt hbk) ?_).trans hbk, F, hs, rfl⟩, h2⟩; intro e; obtain ⟨c2, h2⟩ := hb mb e.symm; rw [hbk] at h2
  cases h2
theorem ROK.grown {w w1 : World} {g : Nat} {cs : List S85} {row : Option Nat} {t : Nat} (hg : w.grownBy w1 row) (h : ROK w g cs) (hb : ∀ k, row = some k → TypeAt w k t)
  (ht : ∀ q, q ∈ 94 :: 85 :: k85.E → q ≠ t) : ROK w1 g cs := by
 obtain ⟨base, v, hi⟩ := h; refine ⟨base, v, hi.hg, (hg.block g (heap_lt hi.blk) (typed_away hb hi.blk (ht _ List.mem_cons_self))).trans hi.blk, ?_⟩; refine Kd.R_mono (Kd.R_move (Kd.R_bound hi.row) (fun k hk => ?_)) (fun _ hk => hk.1); obtain ⟨_, _, hlt, q, hq, cells, hc⟩ := hk
 exact hg.block k hlt (typed_away hb hc (ht q (by simp [hq])))
end Go.Proofs.YtaipkdglhfhhiaaGreatDoor.Pt
