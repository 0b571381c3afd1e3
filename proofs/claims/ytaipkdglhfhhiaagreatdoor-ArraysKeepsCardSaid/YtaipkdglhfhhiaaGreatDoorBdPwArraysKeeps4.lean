/- Lemmas and contracts for the statement of PwArraysKeeps: joined by program out of this session's texts. -/
import Derived.Test.YtaipkdglhfhhiaaGreatDoorBdPwArraysKeeps3
import Derived.Outline
namespace Go.Proofs.YtaipkdglhfhhiaaGreatDoor.Pt
open Go.RowKit Go.Proofs.YtaipkdglhfhhiaaGreatDoorW.PrintWords Go.Proofs.YtaipkdglhfhhiaaGreatDoorW.PrintLast Go.Proofs.YtaipkdglhfhhiaaGreatDoorW.PrintMore
attribute [local go_sem] max2_int min2_int max_two min_two max_three min_three max_four min_four   -- for this text's walks alone
set_option linter.unusedVariables false
set_option linter.unusedSimpArgs false
mutual
def arbiterref02_ParseDesc.j0 : Nat → ByteArray → Bool → Bool → Bool → Int → ByteArray → Option ((List (S24)) × Bool × Int × ByteArray × Int)
 | 0, _, _, _, _, _, _ => none
 | k + 1, x0, x5, x23, x103001, x103002, x103003 => if x23 = true then (some (([] : List (S24)), x103001, x103002, x103003, 4)) else (arbiterref02_ParseDesc.l0 k x0 x5 1 ([] : List (S24)) x103001 x103002 x103003)
def arbiterref02_ParseDesc.l0 : Nat → ByteArray → Bool → Int → List (S24) → Bool → Int → ByteArray → Option ((List (S24)) × Bool × Int × ByteArray × Int)
 | 0, _, _, _, _, _, _, _ => none
 | k + 1, x0, x5, x6, x103000, x103001, x103002, x103003 => if x6 < (x0.size : Int) then (if 0 ≤ x6 then (arbiterref02_ParseDesc.j2 k x0 x5 x6 ((bt x0 x6) != 41) x103000 x103001 x103002 x103003) else (none)) else (arbiterref02_ParseDesc.j2 k x0 x5 x6 false x103000 x103001 x103002 x103003)
def arbiterref02_ParseDesc.j2 : Nat → ByteArray → Bool → Int → Bool → List (S24) → Bool → Int → ByteArray → Option ((List (S24)) × Bool × Int × ByteArray × Int)
 | 0, _, _, _, _, _, _, _, _ => none
 | k + 1, x0, x5, x6, x34, x103000, x103001, x103002, x103003 => if x34 = true then ((arbiterref02_read.f x0 x6).bind fun bt103 => (if bt103.2.2 < 0 then (some (([] : List (S24)), false, 0, (⟨#[]⟩ : ByteArray), 4)) else (if x5 = true then (if x103000.length < 5864062014805 then (arbiterref02_ParseDesc.l0 k x0 true bt103.2.2 (x103000 ++ [(⟨bt103.1, bt103.2.1⟩ : S24)]) x103001 x103002 x103003) else (none)) else (if x103000.length < 5864062014805 then (arbiterref02_ParseDesc.l0 k x0 (decide (bt103.1 > 255)) bt103.2.2 (x103000 ++ [(⟨bt103.1, bt103.2.1⟩ : S24)]) x103001 x103002 x103003) else (none))))) else (if x6 ≥ (x0.size : Int) then (some (([] : List (S24)), false, 0, (⟨#[]⟩ : ByteArray), 4)) else (if (wrap64 (x6 + 1)) < (x0.size : Int) then (if 0 ≤ (wrap64 (x6 + 1)) then (arbiterref02_ParseDesc.j3 k x0 x5 (wrap64 (x6 + 1)) ((bt x0 (wrap64 (x6 + 1))) == 86) x103000 x103001 x103002 x103003) else (none)) else (arbiterref02_ParseDesc.j3 k x0 x5 (wrap64 (x6 + 1)) false x103000 x103001 x103002 x103003)))
def arbiterref02_ParseDesc.j3 : Nat → ByteArray → Bool → Int → Bool → List (S24) → Bool → Int → ByteArray → Option ((List (S24)) × Bool × Int × ByteArray × Int)
 | 0, _, _, _, _, _, _, _, _ => none
 | k + 1, x0, x5, x6, x73, x103000, x103001, x103002, x103003 => if x73 = true then (arbiterref02_ParseDesc.j4 k x0 x5 (wrap64 (x6 + 1)) x103000 true x103002 x103003) else ((arbiterref02_read.f x0 x6).bind fun bt113 => (if x5 = true then (arbiterref02_ParseDesc.j4 k x0 true bt113.2.2 x103000 x103001 bt113.1 bt113.2.1) else (arbiterref02_ParseDesc.j4 k x0 (decide (bt113.1 > 255)) bt113.2.2 x103000 x103001 bt113.1 bt113.2.1)))
def arbiterref02_ParseDesc.j4 : Nat → ByteArray → Bool → Int → List (S24) → Bool → Int → ByteArray → Option ((List (S24)) × Bool × Int × ByteArray × Int)
 | 0, _, _, _, _, _, _, _ => none
 | k + 1, x0, x5, x6, x103000, x103001, x103002, x103003 => if x6 = (x0.size : Int) then (if x5 = true then (some (([] : List (S24)), false, 0, (⟨#[]⟩ : ByteArray), 5)) else (if (x103000.length : Int) > 20 then (some (([] : List (S24)), false, 0, (⟨#[]⟩ : ByteArray), 5)) else (some (x103000, x103001, x103002, x103003, 0)))) else (some (([] : List (S24)), false, 0, (⟨#[]⟩ : ByteArray), 4))
end
def arbiterref02_ParseDesc.f (k : Nat) (a0 : ByteArray) : Option ((List (S24)) × Bool × Int × ByteArray × Int) := if (a0.size : Int) > 2000 then (some (([] : List (S24)), false, 0, (⟨#[]⟩ : ByteArray), 5)) else (if (a0.size : Int) = 0 then (arbiterref02_ParseDesc.j0 k a0 false true false 0 (⟨#[]⟩ : ByteArray)) else (if 0 < (a0.size : Int) then (arbiterref02_ParseDesc.j0 k a0 false ((bt a0 0) != 40) false 0 (⟨#[]⟩ : ByteArray)) else (none)))
set_option maxHeartbeats 8000000 in
set_option maxRecDepth 100000 in
theorem arbiterref02_ParseDesc.calls (k : Nat) (a0 : ByteArray) (r1 : List (S24)) (r2 : Bool) (r3 : Int) (r4 : ByteArray) (r5 : Int) (w : World) (h : arbiterref02_ParseDesc.f k a0 = some (r1, r2, r3, r4, r5)) :
  Calls Tryz.prog 141 #[.string a0] w fun e w' => ∃ v0_ : Value, e = .returned (.tuple #[.agg #[v0_, .bool r2, .int .i64 r3, .string r4], .int .i64 r5]) ∧ Kd.R k24 24 w' w.heap.size (fun _ => True) v0_ r1 ∧ Below w.heap.size w w' := by
 have hu172 := Tryz.underlying172; have hu24 := Tryz.underlying24; have HB := Aside0.mk (Below.refl w.heap.size w); have H : (if (a0.size : Int) > 2000 then (some (([] : List (S24)), false, 0, (⟨#[]⟩ : ByteArray), 5)) else (if (a0.size : Int) = 0 then (arbiterref02_ParseDesc.j0 k a0 false true false 0 (⟨#[]⟩ : ByteArray)) else (if 0 < (a0.size : Int) then (arbiterref02_ParseDesc.j0 k a0 false ((bt a0 0) != 40) false 0 (⟨#[]⟩ : ByteArray)) else (none)))) = some (r1, r2, r3, r4, r5) := h; clear h
 by_cases c2 : (a0.size : Int) > 2000
 ·rw [if_pos c2] at H
  have c2b0 : decide (2000 < (a0.size : Int)) = true := decide_eq_true c2; have c2b1 : decide (2000 < a0.size) = true := decide_eq_true (by omega); clear c2; simp only [Option.some.injEq, Prod.mk.injEq] at H; obtain ⟨rfl, rfl, rfl, rfl, rfl⟩ := H; go_enter Tryz.func141, Tryz.ntmps141; go_wp2_with (first | ((with_reducible refine gate_dst (N := 2) rfl ?_); (try (refine gate_guard (by rfl) ?_; dsimp only)); refine eX 2 #[.slice none 0 0, .bool false, .int .i64 0, .string (⟨#[]⟩ : ByteArray)] 172 ?_; intro gb101 hg w3 hbox hb; have n0_ := Aside0.mk (below_step (bX HB) hb); have n1_ := Aside0.mk (hbox); have n2_ := Aside0.mk ((by rw [hg]; exact (below_size (bX HB)) : w.heap.size ≤ gb101)); have n3_ := Aside0.mk ((by rw [hg]; exact (below_size (bX HB)) : w.heap.size ≤ gb101)); clear HB; have HB := n0_; have BK101 := n1_; have GW101 := n2_; have GE101 := n3_; clear n0_ n1_ n2_ n3_; clear hb hbox hg; obtain ⟨hcz4_0, hcz4_1, hcz4_2, hcz4_3, hfz4_0, hfz4_1, hfz4_2, hfz4_3⟩ := c4X BK101)); refine bodyPost_ret (results_ct rfl _ _ gb101 172 #[.slice none 0 0, .bool false, .int .i64 0, .string (⟨#[]⟩ : ByteArray)] (0, 0) _ rfl (by (with_reducible repeat (first | refine blk_drewN ?_ _ | refine blk_drew ?_ | refine blk_alloc ?_ _)); refine blk_put (cs := #[.slice none 0 0, .bool false, .int .i64 0, .string (⟨#[]⟩ : ByteArray)]) ?_ 3 _ rfl; (with_reducible repeat (first | refine blk_drewN ?_ _ | refine blk_drew ?_ | refine blk_alloc ?_ _)); refine blk_put (cs := #[.slice none 0 0, .bool false, .int .i64 0, .string (⟨#[]⟩ : ByteArray)]) ?_ 2 _ rfl; (with_reducible repeat (first | refine blk_drewN ?_ _ | refine blk_drew ?_ | refine blk_alloc ?_ _)); refine blk_put (cs := #[.slice none 0 0, .bool false, .int .i64 0, .string (⟨#[]⟩ : ByteArray)]) ?_ 1 _ rfl; (with_reducible repeat (first | refine blk_drewN ?_ _ | refine blk_drew ?_ | refine blk_alloc ?_ _)); refine blk_put (cs := #[.slice none 0 0, .bool false, .int .i64 0, .string (⟨#[]⟩ : ByteArray)]) ?_ 0 _ rfl; (with_reducible repeat (first | refine blk_drewN ?_ _ | refine blk_drew ?_ | refine blk_alloc ?_ _)); exact BK101.out) Tryz.underlying172 rfl (by kernel_rfl)) rfl ?_
  exact ⟨_, by first | rfl | (simp [errW_none, errW_some] <;> rfl) | (simp [*, errW_none, errW_some] <;> rfl), by first | exact Kd.R_nil _ _ _ _ _ | exact Kd.N_nil _ _ _ _ _ | exact Kd.V_nil _ _ _ _ _ | exact Kd.Q_nil _ _ _ _ _ | exact Kd.S_nil _ _ _ _ _, bX1 HB GE101⟩
 ·rw [if_neg c2] at H
  have c2b0 : decide (2000 < (a0.size : Int)) = false := decide_eq_false c2; have c2b1 : decide (2000 < a0.size) = false := decide_eq_false (by omega); clear c2; have HC5 := Aside0.mk H; clear H; go_enter Tryz.func141, Tryz.ntmps141
  go_upto_region 5 with (first | ((with_reducible refine gate_dst (N := 2) rfl ?_); (try (refine gate_guard (by rfl) ?_; dsimp only)); refine eX 2 #[.slice none 0 0, .bool false, .int .i64 0, .string (⟨#[]⟩ : ByteArray)] 172 ?_; intro gb101 hg w6 hbox hb; have n0_ := Aside0.mk (below_step (bX HB) hb); have n1_ := Aside0.mk (hbox); have n2_ := Aside0.mk ((by rw [hg]; exact (below_size (bX HB)) : w.heap.size ≤ gb101)); have n3_ := Aside0.mk ((by rw [hg]; exact (below_size (bX HB)) : w.heap.size ≤ gb101)); clear HB; have HB := n0_; have BK101 := n1_; have GW101 := n2_; have GE101 := n3_; clear n0_ n1_ n2_ n3_; clear hb hbox hg) | ((with_reducible refine gate_dst (N := 4) rfl ?_); (try (refine gate_guard (by rfl) ?_; dsimp only)); refine eX 4 #[.slice none 0 0, .bool false, .int .i64 0, .string (⟨#[]⟩ : ByteArray)] 172 ?_; intro gb102 hg w7 hbox hb; have n0_ := Aside0.mk (blk_below (kX BK101) hb); have n1_ := Aside0.mk (below_step (bX1 HB GE101) hb); have n2_ := Aside0.mk (hbox); have n3_ := Aside0.mk ((by rw [hg]; exact (below_size (bX1 HB GE101)) : w.heap.size ≤ gb102)); have n4_ := Aside0.mk ((by rw [hg]; exact (below_size (bX1 HB GE101)) : w.heap.size ≤ gb102)); have n5_ := Aside0.mk ((by rw [hg]; exact Nat.ne_of_lt (blk_lt (kX BK101)) : gb101 ≠ gb102)); have n6_ := Aside0.mk ((by rw [hg]; exact Nat.ne_of_gt (blk_lt (kX BK101)) : gb102 ≠ gb101)); clear BK101; clear HB; have BK101 := n0_; have HB := n1_; have BK102 := n2_; have GW102 := n3_; have GE102 := n4_; have NB101_102 := n5_; have NB102_101 := n6_; clear n0_ n1_ n2_ n3_ n4_ n5_ n6_; clear hb hbox hg; have hnb8 := NB102_101.out; have hnc8 := NB101_102.out; obtain ⟨hcz9_0, hcz9_1, hcz9_2, hcz9_3, hfz9_0, hfz9_1, hfz9_2, hfz9_3⟩ := c4X BK102))
  (try simp only [Act.put, List.setIfInBounds_toArray, List.set_cons_zero, List.set_cons_succ])
  go_cut [23] (fun v23 wc => ∃ (kq : Nat) (x23_4 : Bool), v23 = .bool x23_4 ∧ Aside0 (arbiterref02_ParseDesc.j0 kq a0 false x23_4 false 0 (⟨#[]⟩ : ByteArray) = some (r1, r2, r3, r4, r5)) ∧ Aside0 (kq ≤ k) ∧ Aside0 (wc.heap[gb101]? = some (.cells #[(.slice none 0 0), .bool false, .int .i64 0, .string (⟨#[]⟩ : ByteArray)] 172 (0, 0))) ∧ Aside0 (wc.heap[gb102]? = some (.cells #[(.slice none 0 0), .bool false, .int .i64 0, .string (⟨#[]⟩ : ByteArray)] 172 (0, 0))) ∧ Aside0 (Below w.heap.size w wc))
  case first =>
   have H := HC5.out; clear HC5
   by_cases c10 : (a0.size : Int) = 0
   ·rw [if_pos c10] at H
    have c10b0 : ((a0.size : Int) == 0) = true := beq_iff_eq.mpr c10; have c10b1 : ((a0.size : Int) != 0) = false := bne_eq_false_iff_eq.mpr c10; clear c10
    (first | rw [c10b0] | (simp only [i64_w, i32_w]; rw [c10b0]) | skip)
    have H' := Aside0.mk H; clear H; go_wp2; go_meet
    case rel => exact ⟨_, (true), vX, H', ⟨by first | omega | exact Nat.le_refl _⟩, ⟨fX BK101 NB101_102⟩, ⟨by (with_reducible repeat (first | refine blk_drewN ?_ _ | refine blk_drew ?_ | refine blk_alloc ?_ _)); refine blk_put (cs := #[.slice none 0 0, .bool false, .int .i64 0, .string (⟨#[]⟩ : ByteArray)]) ?_ 3 _ rfl; (with_reducible repeat (first | refine blk_drewN ?_ _ | refine blk_drew ?_ | refine blk_alloc ?_ _)); refine blk_put (cs := #[.slice none 0 0, .bool false, .int .i64 0, .string (⟨#[]⟩ : ByteArray)]) ?_ 2 _ rfl; (with_reducible repeat (first | refine blk_drewN ?_ _ | refine blk_drew ?_ | refine blk_alloc ?_ _)); refine blk_put (cs := #[.slice none 0 0, .bool false, .int .i64 0, .string (⟨#[]⟩ : ByteArray)]) ?_ 1 _ rfl; (with_reducible repeat (first | refine blk_drewN ?_ _ | refine blk_drew ?_ | refine blk_alloc ?_ _)); refine blk_put (cs := #[.slice none 0 0, .bool false, .int .i64 0, .string (⟨#[]⟩ : ByteArray)]) ?_ 0 _ rfl; (with_reducible repeat (first | refine blk_drewN ?_ _ | refine blk_drew ?_ | refine blk_alloc ?_ _)); exact BK102.out⟩, ⟨bX2 HB GE101 GE102⟩⟩
   ·rw [if_neg c10] at H
    have c10b0 : ((a0.size : Int) == 0) = false := beq_eq_false_iff_ne.mpr c10; have c10b1 : ((a0.size : Int) != 0) = true := bne_iff_ne.mpr c10
    (first | rw [c10b0] | (simp only [i64_w, i32_w]; rw [c10b0]) | skip)
    by_cases c11 : 0 < (a0.size : Int)
    ·rw [if_pos c11] at H
     have c11b0 : decide (0 < (a0.size : Int)) = true := decide_eq_true c11; have c11b1 : decide (0 < a0.size) = true := decide_eq_true (by omega); clear c11; have H' := Aside0.mk H; clear H
     have p12 : 0 ≤ (0 : Int) := (by omega)
     have q12 : 0 < a0.size := (by have : (0 : Int) < (a0.size : Int) := qX; omega)
     have hx12 : ∀ h : 0 < a0.size, ((a0[0]'h).toNat : Int) = bt a0 0 := bt_at a0 0; clear p12; have qi12 : (0 < (a0.size : Int)) = True := eq_true (qX); replace q12 := eq_true q12; go_wp2; go_meet
     case rel => exact ⟨_, (((bt a0 0) != 40)), vX, H', ⟨by first | omega | exact Nat.le_refl _⟩, ⟨fX BK101 NB101_102⟩, ⟨by (with_reducible repeat (first | refine blk_drewN ?_ _ | refine blk_drew ?_ | refine blk_alloc ?_ _)); refine blk_put (cs := #[.slice none 0 0, .bool false, .int .i64 0, .string (⟨#[]⟩ : ByteArray)]) ?_ 3 _ rfl; (with_reducible repeat (first | refine blk_drewN ?_ _ | refine blk_drew ?_ | refine blk_alloc ?_ _)); refine blk_put (cs := #[.slice none 0 0, .bool false, .int .i64 0, .string (⟨#[]⟩ : ByteArray)]) ?_ 2 _ rfl; (with_reducible repeat (first | refine blk_drewN ?_ _ | refine blk_drew ?_ | refine blk_alloc ?_ _)); refine blk_put (cs := #[.slice none 0 0, .bool false, .int .i64 0, .string (⟨#[]⟩ : ByteArray)]) ?_ 1 _ rfl; (with_reducible repeat (first | refine blk_drewN ?_ _ | refine blk_drew ?_ | refine blk_alloc ?_ _)); refine blk_put (cs := #[.slice none 0 0, .bool false, .int .i64 0, .string (⟨#[]⟩ : ByteArray)]) ?_ 0 _ rfl; (with_reducible repeat (first | refine blk_drewN ?_ _ | refine blk_drew ?_ | refine blk_alloc ?_ _)); exact BK102.out⟩, ⟨bX2 HB GE101 GE102⟩⟩
    ·rw [if_neg c11] at H
     exact absurd H (by simp)
  case rest =>
   clear HC5
   try clear c1
   try clear p1
   try clear q1
   try clear hx1
   try clear qi1
   try clear c2
   try clear c2b0
   try clear c2b1
   try clear p2
   try clear c8
   try clear c10
   try clear c10b0
   try clear c10b1
   try clear c11
   try clear c11b0
   try clear c11b1
   try clear p12
   try clear q12
   try clear hx12
   try clear qi12
   try clear hcz4_0 hcz4_1 hcz4_2 hcz4_3
   try clear hcz9_0 hcz9_1 hcz9_2 hcz9_3
   try clear hfz4_0 hfz4_1 hfz4_2 hfz4_3
   try clear hfz9_0 hfz9_1 hfz9_2 hfz9_3
   try clear p12
   try clear q12
   obtain ⟨kq, x23_4, rfl, HA, HJ4, BK101, BK102, HB⟩ := hcut
   cases kq with
   | zero => exact absurd HA.out (by simp [arbiterref02_ParseDesc.j0])
   | succ kj4 =>
    have H := HA.out; clear HA; simp only [arbiterref02_ParseDesc.j0] at H
    by_cases c13 : x23_4 = true
    ·subst c13
     have H1 : (some (([] : List (S24)), false, 0, (⟨#[]⟩ : ByteArray), 4)) = some (r1, r2, r3, r4, r5) := by rw [if_pos rfl] at H; exact H
     clear H; have H := H1; clear H1; simp only [Option.some.injEq, Prod.mk.injEq] at H; obtain ⟨rfl, rfl, rfl, rfl, rfl⟩ := H; have hnb14 := NB102_101.out; have hnc14 := NB101_102.out; obtain ⟨hcz15_0, hcz15_1, hcz15_2, hcz15_3, hfz15_0, hfz15_1, hfz15_2, hfz15_3⟩ := c4X BK102; obtain ⟨hcz16_0, hcz16_1, hcz16_2, hcz16_3, hfz16_0, hfz16_1, hfz16_2, hfz16_3⟩ := c4X BK101; go_wp2; refine bodyPost_ret (results_ct rfl _ _ gb101 172 #[.slice none 0 0, .bool false, .int .i64 0, .string (⟨#[]⟩ : ByteArray)] (0, 0) _ rfl (by (with_reducible repeat (first | refine blk_drewN ?_ _ | refine blk_drew ?_ | refine blk_alloc ?_ _)); refine blk_put (cs := #[.slice none 0 0, .bool false, .int .i64 0, .string (⟨#[]⟩ : ByteArray)]) ?_ 3 _ rfl; (with_reducible repeat (first | refine blk_drewN ?_ _ | refine blk_drew ?_ | refine blk_alloc ?_ _)); refine blk_put (cs := #[.slice none 0 0, .bool false, .int .i64 0, .string (⟨#[]⟩ : ByteArray)]) ?_ 2 _ rfl; (with_reducible repeat (first | refine blk_drewN ?_ _ | refine blk_drew ?_ | refine blk_alloc ?_ _)); refine blk_put (cs := #[.slice none 0 0, .bool false, .int .i64 0, .string (⟨#[]⟩ : ByteArray)]) ?_ 1 _ rfl; (with_reducible repeat (first | refine blk_drewN ?_ _ | refine blk_drew ?_ | refine blk_alloc ?_ _)); refine blk_put (cs := #[.slice none 0 0, .bool false, .int .i64 0, .string (⟨#[]⟩ : ByteArray)]) ?_ 0 _ rfl; (with_reducible repeat (first | refine blk_drewN ?_ _ | refine blk_drew ?_ | refine blk_alloc ?_ _)); exact BK101.out) Tryz.underlying172 rfl (by kernel_rfl)) rfl ?_
     exact ⟨_, by first | rfl | (simp [errW_none, errW_some] <;> rfl) | (simp [*, errW_none, errW_some] <;> rfl), by first | exact Kd.R_nil _ _ _ _ _ | exact Kd.N_nil _ _ _ _ _ | exact Kd.V_nil _ _ _ _ _ | exact Kd.Q_nil _ _ _ _ _ | exact Kd.S_nil _ _ _ _ _, bX2 HB GE101 GE102⟩
    ·replace c13 := Bool.eq_false_iff.mpr c13
     subst c13
     have H1 : (arbiterref02_ParseDesc.l0 kj4 a0 false 1 ([] : List (S24)) false 0 (⟨#[]⟩ : ByteArray)) = some (r1, r2, r3, r4, r5) := by rw [if_neg (show ¬ (false = true) by decide)] at H; exact H
     clear H; have H := H1; clear H1; have H' := Aside0.mk H; clear H; go_wp2
     go_loopg [5, 6] kj4 (fun kq v5 v6 w' => ∃ (x5_2 : Bool) (x6_2 : Int) (x102001_2 : Bool) (x102002_2 : Int) (x102003_2 : ByteArray) (x103000_2 : List (S24)) (u103000 : Value), v5 = .bool x5_2 ∧ v6 = .int .i64 x6_2 ∧ Aside0 (arbiterref02_ParseDesc.l0 kq a0 x5_2 x6_2 x103000_2 false 0 (⟨#[]⟩ : ByteArray) = some (r1, r2, r3, r4, r5)) ∧ Aside0 (kq ≤ kj4) ∧ Aside0 (Kd.R k24 24 w' w.heap.size (fun _ => True) u103000 x103000_2) ∧ Aside0 (w'.heap[gb101]? = some (.cells #[(.slice none 0 0), .bool x102001_2, .int .i64 x102002_2, .string x102003_2] 172 (0, 0))) ∧ Aside0 (w'.heap[gb102]? = some (.cells #[u103000, .bool false, .int .i64 0, .string (⟨#[]⟩ : ByteArray)] 172 (0, 0))) ∧ Aside0 (Below w.heap.size w w'))
     case atStart => exact ⟨(false), (1), (false), (0), ((⟨#[]⟩ : ByteArray)), (([] : List (S24))), (.slice none 0 0), vX, vX, H', ⟨Nat.le_refl _⟩, ⟨by first | exact Kd.R_nil _ _ _ _ _ | exact Kd.N_nil _ _ _ _ _ | exact Kd.V_nil _ _ _ _ _ | exact Kd.Q_nil _ _ _ _ _ | exact Kd.S_nil _ _ _ _ _⟩, ⟨by (with_reducible repeat (first | refine blk_drewN ?_ _ | refine blk_drew ?_ | refine blk_alloc ?_ _)); exact BK101.out⟩, ⟨by (with_reducible repeat (first | refine blk_drewN ?_ _ | refine blk_drew ?_ | refine blk_alloc ?_ _)); exact BK102.out⟩, ⟨bX2 HB GE101 GE102⟩⟩
     case round =>
      clear H'
      try clear c1
      try clear p1
      try clear q1
      try clear hx1
      try clear qi1
      try clear c2
      try clear c2b0
      try clear c2b1
      try clear p2
      try clear c8
      try clear c10
      try clear c10b0
      try clear c10b1
      try clear c11
      try clear c11b0
      try clear c11b1
      try clear p12
      try clear q12
      try clear hx12
      try clear qi12
      try clear c13
      try clear c14
      try clear hcz15_0 hcz15_1 hcz15_2 hcz15_3
      try clear hcz16_0 hcz16_1 hcz16_2 hcz16_3
      try clear hcz4_0 hcz4_1 hcz4_2 hcz4_3
      try clear hcz9_0 hcz9_1 hcz9_2 hcz9_3
      try clear hfz15_0 hfz15_1 hfz15_2 hfz15_3
      try clear hfz16_0 hfz16_1 hfz16_2 hfz16_3
      try clear hfz4_0 hfz4_1 hfz4_2 hfz4_3
      try clear hfz9_0 hfz9_1 hfz9_2 hfz9_3
      try clear p1
      try clear p12
      try clear p2
      try clear q1
      try clear q12
      obtain ⟨x5_2, x6_2, x102001_2, x102002_2, x102003_2, x103000_2, u103000, rfl, rfl, HA, HK2, HO_103000, BK101, BK102, HB⟩ := hrel
      cases gk with
      | zero => exact absurd HA.out (by simp [arbiterref02_ParseDesc.l0])
      | succ k2 =>
       have H := HA.out; clear HA; simp only [arbiterref02_ParseDesc.l0] at H; have HC17 := Aside0.mk H; clear H
       go_upto_region 8 with (fail)
       go_cut [34] (fun v34 wc => ∃ (kq : Nat) (x34_16 : Bool), v34 = .bool x34_16 ∧ Aside0 (arbiterref02_ParseDesc.j2 kq a0 x5_2 x6_2 x34_16 x103000_2 false 0 (⟨#[]⟩ : ByteArray) = some (r1, r2, r3, r4, r5)) ∧ Aside0 (kq ≤ k2) ∧ Aside0 (Kd.R k24 24 wc w.heap.size (fun _ => True) u103000 x103000_2) ∧ Aside0 (wc.heap[gb101]? = some (.cells #[(.slice none 0 0), .bool x102001_2, .int .i64 x102002_2, .string x102003_2] 172 (0, 0))) ∧ Aside0 (wc.heap[gb102]? = some (.cells #[u103000, .bool false, .int .i64 0, .string (⟨#[]⟩ : ByteArray)] 172 (0, 0))) ∧ Aside0 (Below w.heap.size w wc))
       case first =>
        have H := HC17.out; clear HC17
        by_cases c18 : x6_2 < (a0.size : Int)
        ·rw [if_pos c18] at H
         have c18b0 : decide (x6_2 < (a0.size : Int)) = true := decide_eq_true c18; clear c18
         (first | rw [c18b0] | (simp only [i64_w, i32_w]; rw [c18b0]) | skip)
         by_cases c19 : 0 ≤ x6_2
         ·rw [if_pos c19] at H
          have c19b0 : decide (0 ≤ x6_2) = true := decide_eq_true c19; clear c19; have H' := Aside0.mk H; clear H; have p20 : 0 ≤ (x6_2 : Int) := qX; have q20 : x6_2 < (a0.size : Int) := qX; have hx20 := bt_at a0 x6_2; replace p20 := eq_true p20; replace q20 := eq_true q20; go_wp2; go_meet
          case rel => exact ⟨_, (((bt a0 x6_2) != 41)), vX, H', ⟨by have := HJ4.out; have := HK2.out; first | omega | exact Nat.le_refl _⟩, ⟨rX HO_103000⟩, ⟨by (with_reducible repeat (first | refine blk_drewN ?_ _ | refine blk_drew ?_ | refine blk_alloc ?_ _)); exact BK101.out⟩, ⟨by (with_reducible repeat (first | refine blk_drewN ?_ _ | refine blk_drew ?_ | refine blk_alloc ?_ _)); exact BK102.out⟩, ⟨bX2 HB GE101 GE102⟩⟩
         ·rw [if_neg c19] at H
          exact absurd H (by simp)
        ·rw [if_neg c18] at H
         have c18b0 : decide (x6_2 < (a0.size : Int)) = false := decide_eq_false c18; clear c18
         (first | rw [c18b0] | (simp only [i64_w, i32_w]; rw [c18b0]) | skip)
         have H' := Aside0.mk H; clear H; go_wp2; go_meet
         case rel => exact ⟨_, (false), vX, H', ⟨by have := HJ4.out; have := HK2.out; first | omega | exact Nat.le_refl _⟩, ⟨rX HO_103000⟩, ⟨by (with_reducible repeat (first | refine blk_drewN ?_ _ | refine blk_drew ?_ | refine blk_alloc ?_ _)); exact BK101.out⟩, ⟨by (with_reducible repeat (first | refine blk_drewN ?_ _ | refine blk_drew ?_ | refine blk_alloc ?_ _)); exact BK102.out⟩, ⟨bX2 HB GE101 GE102⟩⟩
       case rest =>
        clear HC17
        try clear c1
        try clear p1
        try clear q1
        try clear hx1
        try clear qi1
        try clear c2
        try clear c2b0
        try clear c2b1
        try clear p2
        try clear q2
        try clear hx2
        try clear c8
        try clear c10
        try clear c10b0
        try clear c10b1
        try clear c11
        try clear c11b0
        try clear c11b1
        try clear p12
        try clear q12
        try clear hx12
        try clear qi12
        try clear c13
        try clear c14
        try clear c18
        try clear c18b0
        try clear c19
        try clear c19b0
        try clear p20
        try clear q20
        try clear hx20
        try clear hcz15_0 hcz15_1 hcz15_2 hcz15_3
        try clear hcz16_0 hcz16_1 hcz16_2 hcz16_3
        try clear hcz4_0 hcz4_1 hcz4_2 hcz4_3
        try clear hcz9_0 hcz9_1 hcz9_2 hcz9_3
        try clear hfz15_0 hfz15_1 hfz15_2 hfz15_3
        try clear hfz16_0 hfz16_1 hfz16_2 hfz16_3
        try clear hfz4_0 hfz4_1 hfz4_2 hfz4_3
        try clear hfz9_0 hfz9_1 hfz9_2 hfz9_3
        try clear p1
        try clear p12
        try clear p2
        try clear p20
        try clear q1
        try clear q12
        try clear q20
        obtain ⟨kq, x34_16, rfl, HA, HJ16, HO_103000, BK101, BK102, HB⟩ := hcut
        cases kq with
        | zero => exact absurd HA.out (by simp [arbiterref02_ParseDesc.j2])
        | succ kj16 =>
         have H := HA.out; clear HA; simp only [arbiterref02_ParseDesc.j2] at H
         by_cases c21 : x34_16 = true
         ·subst c21
          have H1 : ((arbiterref02_read.f a0 x6_2).bind fun bt103 => (if bt103.2.2 < 0 then (some (([] : List (S24)), false, 0, (⟨#[]⟩ : ByteArray), 4)) else (if x5_2 = true then (if x103000_2.length < 5864062014805 then (arbiterref02_ParseDesc.l0 kj16 a0 true bt103.2.2 (x103000_2 ++ [(⟨bt103.1, bt103.2.1⟩ : S24)]) false 0 (⟨#[]⟩ : ByteArray)) else (none)) else (if x103000_2.length < 5864062014805 then (arbiterref02_ParseDesc.l0 kj16 a0 (decide (bt103.1 > 255)) bt103.2.2 (x103000_2 ++ [(⟨bt103.1, bt103.2.1⟩ : S24)]) false 0 (⟨#[]⟩ : ByteArray)) else (none))))) = some (r1, r2, r3, r4, r5) := by rw [if_pos rfl] at H; exact H
          clear H; have H := H1; clear H1; replace H := Option.bind_eq_some_iff.mp H; obtain ⟨⟨t103, t104, t105⟩, A220, H⟩ := H; replace H : (if t105 < 0 then (some (([] : List (S24)), false, 0, (⟨#[]⟩ : ByteArray), 4)) else (if x5_2 = true then (if x103000_2.length < 5864062014805 then (arbiterref02_ParseDesc.l0 kj16 a0 true t105 (x103000_2 ++ [(⟨t103, t104⟩ : S24)]) false 0 (⟨#[]⟩ : ByteArray)) else (none)) else (if x103000_2.length < 5864062014805 then (arbiterref02_ParseDesc.l0 kj16 a0 (decide (t103 > 255)) t105 (x103000_2 ++ [(⟨t103, t104⟩ : S24)]) false 0 (⟨#[]⟩ : ByteArray)) else (none)))) = some (r1, r2, r3, r4, r5) := H; have A22 := Aside0.mk A220; clear A220
          by_cases c23 : t105 < 0
          ·rw [if_pos c23] at H
           have c23b0 : decide (t105 < 0) = true := decide_eq_true c23; clear c23; simp only [Option.some.injEq, Prod.mk.injEq] at H; obtain ⟨rfl, rfl, rfl, rfl, rfl⟩ := H; go_wp2_with (first | ((with_reducible refine gate_callee (f := 158) rfl ?_); refine gX (some 38) Tryz.func158 #[.string a0, .int .i64 x6_2] ?_; (with_reducible refine (arbiterref02_read.calls a0 x6_2 t103 t104 t105 _ A22.out).mono ?_); rintro e w24 ⟨rfl, hb⟩; refine ⟨_, rfl, ?_⟩; have n0_ := Aside0.mk (Kd.R_below (rX HO_103000) hb); have n1_ := Aside0.mk (blk_below (kX BK101) hb); have n2_ := Aside0.mk (blk_below (kX BK102) hb); have n3_ := Aside0.mk (below_step (bX2 HB GE101 GE102) hb); clear HO_103000; clear BK101; clear BK102; clear HB; have HO_103000 := n0_; have BK101 := n1_; have BK102 := n2_; have HB := n3_; clear n0_ n1_ n2_ n3_; (try clear hb); (try clear hb2); (try clear hk); (try clear hi)) | ((with_reducible refine gate_dst (N := 7) rfl ?_); (try (refine gate_guard (by rfl) ?_; dsimp only)); refine eX 7 #[.int .i64 0, .string (⟨#[]⟩ : ByteArray)] 24 ?_; intro gb106 hg w25 hbox hb; have n0_ := Aside0.mk (Kd.R_below (Kd.R_elderB (rX HO_103000) gb106 (Nat.le_of_eq hg.symm)) hb); have n1_ := Aside0.mk (blk_below (kX BK101) hb); have n2_ := Aside0.mk (blk_below (kX BK102) hb); have n3_ := Aside0.mk (below_step (bX2 HB GE101 GE102) hb); have n4_ := Aside0.mk (hbox); have n5_ := Aside0.mk ((by rw [hg]; exact (below_size (bX2 HB GE101 GE102)) : w.heap.size ≤ gb106)); have n6_ := Aside0.mk ((by rw [hg]; exact (below_size (bX2 HB GE101 GE102)) : w.heap.size ≤ gb106)); have n7_ := Aside0.mk ((by rw [hg]; exact Nat.ne_of_lt (blk_lt (kX BK101)) : gb101 ≠ gb106)); have n8_ := Aside0.mk ((by rw [hg]; exact Nat.ne_of_gt (blk_lt (kX BK101)) : gb106 ≠ gb101)); have n9_ := Aside0.mk ((by rw [hg]; exact Nat.ne_of_lt (blk_lt (kX BK102)) : gb102 ≠ gb106)); have n10_ := Aside0.mk ((by rw [hg]; exact Nat.ne_of_gt (blk_lt (kX BK102)) : gb106 ≠ gb102)); clear HO_103000; clear BK101; clear BK102; clear HB; have HO_103000 := n0_; have BK101 := n1_; have BK102 := n2_; have HB := n3_; have BK106 := n4_; have GW106 := n5_; have GE106 := n6_; have NB101_106 := n7_; have NB106_101 := n8_; have NB102_106 := n9_; have NB106_102 := n10_; clear n0_ n1_ n2_ n3_ n4_ n5_ n6_ n7_ n8_ n9_ n10_; clear hb hbox hg; have hnb26 := NB106_101.out; have hnc26 := NB101_106.out; have hnb27 := NB106_102.out; have hnc27 := NB102_106.out; obtain ⟨hcz28_0, hcz28_1, hfz28_0, hfz28_1⟩ := c2X BK106; have hnb29 := NB101_102.out; have hnc29 := NB102_101.out; obtain ⟨hcz30_0, hcz30_1, hcz30_2, hcz30_3, hfz30_0, hfz30_1, hfz30_2, hfz30_3⟩ := c4X BK101)); refine bodyPost_ret (results_ct rfl _ _ gb101 172 #[.slice none 0 0, .bool false, .int .i64 0, .string (⟨#[]⟩ : ByteArray)] (0, 0) _ rfl (by (with_reducible repeat (first | refine blk_drewN ?_ _ | refine blk_drew ?_ | refine blk_alloc ?_ _)); refine blk_put (cs := #[.slice none 0 0, .bool false, .int .i64 0, .string x102003_2]) ?_ 3 _ rfl; (with_reducible repeat (first | refine blk_drewN ?_ _ | refine blk_drew ?_ | refine blk_alloc ?_ _)); refine blk_put (cs := #[.slice none 0 0, .bool false, .int .i64 x102002_2, .string x102003_2]) ?_ 2 _ rfl; (with_reducible repeat (first | refine blk_drewN ?_ _ | refine blk_drew ?_ | refine blk_alloc ?_ _)); refine blk_put (cs := #[.slice none 0 0, .bool x102001_2, .int .i64 x102002_2, .string x102003_2]) ?_ 1 _ rfl; (with_reducible repeat (first | refine blk_drewN ?_ _ | refine blk_drew ?_ | refine blk_alloc ?_ _)); refine blk_put (cs := #[.slice none 0 0, .bool x102001_2, .int .i64 x102002_2, .string x102003_2]) ?_ 0 _ rfl; (with_reducible repeat (first | refine blk_drewN ?_ _ | refine blk_drew ?_ | refine blk_alloc ?_ _)); refine blk_far ?_ NB101_106.out _; (with_reducible repeat (first | refine blk_drewN ?_ _ | refine blk_drew ?_ | refine blk_alloc ?_ _)); refine blk_far ?_ NB101_106.out _; (with_reducible repeat (first | refine blk_drewN ?_ _ | refine blk_drew ?_ | refine blk_alloc ?_ _)); exact BK101.out) Tryz.underlying172 rfl (by kernel_rfl)) rfl ?_
           exact ⟨_, by first | rfl | (simp [errW_none, errW_some] <;> rfl) | (simp [*, errW_none, errW_some] <;> rfl), by first | exact Kd.R_nil _ _ _ _ _ | exact Kd.N_nil _ _ _ _ _ | exact Kd.V_nil _ _ _ _ _ | exact Kd.Q_nil _ _ _ _ _ | exact Kd.S_nil _ _ _ _ _, bX3 HB GE101 GE102 GE106⟩
          ·rw [if_neg c23] at H
           have c23b0 : decide (t105 < 0) = false := decide_eq_false c23; clear c23
           by_cases c31 : x5_2 = true
           ·subst c31
            have H1 : (if x103000_2.length < 5864062014805 then (arbiterref02_ParseDesc.l0 kj16 a0 true t105 (x103000_2 ++ [(⟨t103, t104⟩ : S24)]) false 0 (⟨#[]⟩ : ByteArray)) else (none)) = some (r1, r2, r3, r4, r5) := by rw [if_pos rfl] at H; exact H
            clear H; have H := H1; clear H1
            by_cases c32 : x103000_2.length < 5864062014805
            ·rw [if_pos c32] at H
             have LMc32 := Aside0.mk c32; clear c32
             obtain ⟨y107, hy107⟩ : ∃ y_ : List (S24), y_ = (x103000_2 ++ [(⟨t103, t104⟩ : S24)]) := ⟨_, rfl⟩
             replace H : (arbiterref02_ParseDesc.l0 kj16 a0 true t105 y107 false 0 (⟨#[]⟩ : ByteArray)) = some (r1, r2, r3, r4, r5) := by first | (rw [hy107]; with_reducible exact H) | (have H2_ := (Option.bind_some _ _).symm.trans H; rw [hy107]; with_reducible exact H2_) | (have H2_ := (Option.bind_some _ _).symm.trans H; with_reducible exact H2_) | with_reducible exact H | (rw [hy107]; exact H) | exact H
             have Ny107 := Aside0.mk hy107; clear hy107; have H' := Aside0.mk H; clear H; go_wp2_with (first | ((with_reducible refine gate_callee (f := 158) rfl ?_); refine gX (some 38) Tryz.func158 #[.string a0, .int .i64 x6_2] ?_; (with_reducible refine (arbiterref02_read.calls a0 x6_2 t103 t104 t105 _ A22.out).mono ?_); rintro e w33 ⟨rfl, hb⟩; refine ⟨_, rfl, ?_⟩; have n0_ := Aside0.mk (Kd.R_below (rX HO_103000) hb); have n1_ := Aside0.mk (blk_below (kX BK101) hb); have n2_ := Aside0.mk (blk_below (kX BK102) hb); have n3_ := Aside0.mk (below_step (bX2 HB GE101 GE102) hb); clear HO_103000; clear BK101; clear BK102; clear HB; have HO_103000 := n0_; have BK101 := n1_; have BK102 := n2_; have HB := n3_; clear n0_ n1_ n2_ n3_; (try clear hb); (try clear hb2); (try clear hk); (try clear hi)) | ((with_reducible refine gate_dst (N := 7) rfl ?_); (try (refine gate_guard (by rfl) ?_; dsimp only)); refine eX 7 #[.int .i64 0, .string (⟨#[]⟩ : ByteArray)] 24 ?_; intro gb106 hg w34 hbox hb; have n0_ := Aside0.mk (Kd.R_below (Kd.R_elderB (rX HO_103000) gb106 (Nat.le_of_eq hg.symm)) hb); have n1_ := Aside0.mk (blk_below (kX BK101) hb); have n2_ := Aside0.mk (blk_below (kX BK102) hb); have n3_ := Aside0.mk (below_step (bX2 HB GE101 GE102) hb); have n4_ := Aside0.mk (hbox); have n5_ := Aside0.mk ((by rw [hg]; exact (below_size (bX2 HB GE101 GE102)) : w.heap.size ≤ gb106)); have n6_ := Aside0.mk ((by rw [hg]; exact (below_size (bX2 HB GE101 GE102)) : w.heap.size ≤ gb106)); have n7_ := Aside0.mk ((by rw [hg]; exact Nat.ne_of_lt (blk_lt (kX BK101)) : gb101 ≠ gb106)); have n8_ := Aside0.mk ((by rw [hg]; exact Nat.ne_of_gt (blk_lt (kX BK101)) : gb106 ≠ gb101)); have n9_ := Aside0.mk ((by rw [hg]; exact Nat.ne_of_lt (blk_lt (kX BK102)) : gb102 ≠ gb106)); have n10_ := Aside0.mk ((by rw [hg]; exact Nat.ne_of_gt (blk_lt (kX BK102)) : gb106 ≠ gb102)); clear HO_103000; clear BK101; clear BK102; clear HB; have HO_103000 := n0_; have BK101 := n1_; have BK102 := n2_; have HB := n3_; have BK106 := n4_; have GW106 := n5_; have GE106 := n6_; have NB101_106 := n7_; have NB106_101 := n8_; have NB102_106 := n9_; have NB106_102 := n10_; clear n0_ n1_ n2_ n3_ n4_ n5_ n6_ n7_ n8_ n9_ n10_; clear hb hbox hg; have hnb35 := NB106_101.out; have hnc35 := NB101_106.out; have hnb36 := NB106_102.out; have hnc36 := NB102_106.out; obtain ⟨hcz37_0, hcz37_1, hfz37_0, hfz37_1⟩ := c2X BK106; have hnb38 := NB102_101.out; have hnc38 := NB101_102.out; obtain ⟨hcz39_0, hcz39_1, hcz39_2, hcz39_3, hfz39_0, hfz39_1, hfz39_2, hfz39_3⟩ := c4X BK102) | ((with_reducible refine gate_builtin (b := .append) (xs := #[.tmp 51, .tmp 53]) rfl ?_); (try (refine gate_guard (by rfl) ?_; dsimp only)); at_builtin; refine Kd.R_append k24 (w0 := w) w.heap.size rfl (.tmp 51) (.tmp 53) 66 24 (.agg #[(.int .i64 0), (.string ⟨#[]⟩)]) 24 rfl Tryz.underlying66 info24 rfl (by decide) (by omega) u103000 x103000_2 (⟨t103, t104⟩ : S24) [.int .i64 t103, .string t104] (fun k_ => k_ ≠ gb106) (fun _ => False) rfl (by first | (go_simp; done) | (go_simp; rfl)) ?aP (fun _ hk => hk.elim) ?aF ?aO ?aB ?aS ?aL ?_; (case aP => exact k24_mkM _ _ _ (⟨t103, t104⟩ : S24)); (case aB => exact (bX3 HB GE101 GE102 GE106)); (case aF => exact (fun k_ hk => Kd.freshB (g := gb106) (o := .cells #[.int .i64 t103, .string t104] 24 (0, 0)) (by (with_reducible repeat (first | refine blk_drewN ?_ _ | refine blk_drew ?_ | refine blk_alloc ?_ _)); refine blk_put (cs := #[.int .i64 t103, .string (⟨#[]⟩ : ByteArray)]) ?_ 1 _ rfl; (with_reducible repeat (first | refine blk_drewN ?_ _ | refine blk_drew ?_ | refine blk_alloc ?_ _)); refine blk_put (cs := #[.int .i64 0, .string (⟨#[]⟩ : ByteArray)]) ?_ 0 _ rfl; (with_reducible repeat (first | refine blk_drewN ?_ _ | refine blk_drew ?_ | refine blk_alloc ?_ _)); exact BK106.out) k_ hk)); (case aO => exact (by (with_reducible repeat (first | apply Kd.R_alloc | apply Kd.R_drewN | apply Kd.R_drew)); exact Kd.R_mono (Kd.R_far (p := ⟨gb106, 1, none⟩) (Kd.R_far (p := ⟨gb106, 0, none⟩) (Kd.R_mono HO_103000.out (fun k_ hk => (⟨hk, hk.2⟩ : _ ∧ k_ ≠ gb106))) (fun _ hk => hk.2) (.int .i64 t103)) (fun _ hk => hk.2) (.string t104)) (fun _ hk => hk.1.2))); (case aS => exact (below_size (bX3 HB GE101 GE102 GE106))); (case aL => have := LMc32.out; omega); intro v108 w40 ho hb hg hat; rw [← Ny107.out] at ho; have n0_ := Aside0.mk (blk_grown (g := gb101) (o := .cells #[.slice none 0 0, .bool x102001_2, .int .i64 x102002_2, .string x102003_2] 172 (0, 0)) (fX BK101 NB101_106) hg (Kd.R_ne HO_103000.out BK101.out (by decide))); have n1_ := Aside0.mk (blk_grown (g := gb102) (o := .cells #[u103000, .bool false, .int .i64 0, .string (⟨#[]⟩ : ByteArray)] 172 (0, 0)) (fX BK102 NB102_106) hg (Kd.R_ne HO_103000.out BK102.out (by decide))); have n2_ := Aside0.mk (blk_grown (g := gb106) (o := .cells #[.int .i64 t103, .string t104] 24 (0, 0)) (by (with_reducible repeat (first | refine blk_drewN ?_ _ | refine blk_drew ?_ | refine blk_alloc ?_ _)); refine blk_put (cs := #[.int .i64 t103, .string (⟨#[]⟩ : ByteArray)]) ?_ 1 _ rfl; (with_reducible repeat (first | refine blk_drewN ?_ _ | refine blk_drew ?_ | refine blk_alloc ?_ _)); refine blk_put (cs := #[.int .i64 0, .string (⟨#[]⟩ : ByteArray)]) ?_ 0 _ rfl; (with_reducible repeat (first | refine blk_drewN ?_ _ | refine blk_drew ?_ | refine blk_alloc ?_ _)); exact BK106.out) hg (Kd.R_away HO_103000.out (fun _ hk => hk.2))); have n3_ := Aside0.mk (hb); have n4_ := Aside0.mk (ho); clear BK101; clear BK102; clear BK106; clear HB; clear HO_103000; have BK101 := n0_; have BK102 := n1_; have BK106 := n2_; have HB := n3_; have HO109 := n4_; clear n0_ n1_ n2_ n3_ n4_; clear ho hb hg hat; obtain ⟨Ao41, co41, eo41⟩ := Kd.R_slice HO109.out; subst eo41; obtain ⟨hcz42_0, hcz42_1, hcz42_2, hcz42_3, hfz42_0, hfz42_1, hfz42_2, hfz42_3⟩ := c4X BK102))
             go_roundg kj16
             case measure => have := HJ4.out; have := HK2.out; have := HJ16.out; omega
             case rel => exact ⟨(true), (t105), (x102001_2), (x102002_2), (x102003_2), (y107), (.slice Ao41 y107.length co41), vX, vX, H', ⟨by have := HJ4.out; have := HK2.out; have := HJ16.out; omega⟩, ⟨by (with_reducible repeat (first | apply Kd.R_alloc | apply Kd.R_drewN | apply Kd.R_drew)); exact Kd.R_mono (Kd.R_far (p := ⟨gb102, 0, none⟩) (Kd.R_types HO109.out BK102.out (by decide)) (fun _ hk => hk.2) (.slice Ao41 y107.length co41)) (fun _ hk => trivial)⟩, ⟨fX BK101 NB101_102⟩, ⟨by (with_reducible repeat (first | refine blk_drewN ?_ _ | refine blk_drew ?_ | refine blk_alloc ?_ _)); refine blk_put (cs := #[u103000, .bool false, .int .i64 0, .string (⟨#[]⟩ : ByteArray)]) ?_ 0 _ rfl; (with_reducible repeat (first | refine blk_drewN ?_ _ | refine blk_drew ?_ | refine blk_alloc ?_ _)); exact BK102.out⟩, ⟨bX3 HB GE101 GE102 GE106⟩⟩
            ·rw [if_neg c32] at H
             exact absurd H (by simp)
           ·replace c31 := Bool.eq_false_iff.mpr c31
            subst c31
            have H1 : (if x103000_2.length < 5864062014805 then (arbiterref02_ParseDesc.l0 kj16 a0 (decide (t103 > 255)) t105 (x103000_2 ++ [(⟨t103, t104⟩ : S24)]) false 0 (⟨#[]⟩ : ByteArray)) else (none)) = some (r1, r2, r3, r4, r5) := by rw [if_neg (show ¬ (false = true) by decide)] at H; exact H
            clear H; have H := H1; clear H1
            by_cases c43 : x103000_2.length < 5864062014805
            ·rw [if_pos c43] at H
             have LMc43 := Aside0.mk c43; clear c43
             obtain ⟨y110, hy110⟩ : ∃ y_ : List (S24), y_ = (x103000_2 ++ [(⟨t103, t104⟩ : S24)]) := ⟨_, rfl⟩
             replace H : (arbiterref02_ParseDesc.l0 kj16 a0 (decide (t103 > 255)) t105 y110 false 0 (⟨#[]⟩ : ByteArray)) = some (r1, r2, r3, r4, r5) := by first | (rw [hy110]; with_reducible exact H) | (have H2_ := (Option.bind_some _ _).symm.trans H; rw [hy110]; with_reducible exact H2_) | (have H2_ := (Option.bind_some _ _).symm.trans H; with_reducible exact H2_) | with_reducible exact H | (rw [hy110]; exact H) | exact H
             have Ny110 := Aside0.mk hy110; clear hy110; have H' := Aside0.mk H; clear H; go_wp2_with (first | ((with_reducible refine gate_callee (f := 158) rfl ?_); refine gX (some 38) Tryz.func158 #[.string a0, .int .i64 x6_2] ?_; (with_reducible refine (arbiterref02_read.calls a0 x6_2 t103 t104 t105 _ A22.out).mono ?_); rintro e w44 ⟨rfl, hb⟩; refine ⟨_, rfl, ?_⟩; have n0_ := Aside0.mk (Kd.R_below (rX HO_103000) hb); have n1_ := Aside0.mk (blk_below (kX BK101) hb); have n2_ := Aside0.mk (blk_below (kX BK102) hb); have n3_ := Aside0.mk (below_step (bX2 HB GE101 GE102) hb); clear HO_103000; clear BK101; clear BK102; clear HB; have HO_103000 := n0_; have BK101 := n1_; have BK102 := n2_; have HB := n3_; clear n0_ n1_ n2_ n3_; (try clear hb); (try clear hb2); (try clear hk); (try clear hi)) | ((with_reducible refine gate_dst (N := 7) rfl ?_); (try (refine gate_guard (by rfl) ?_; dsimp only)); refine eX 7 #[.int .i64 0, .string (⟨#[]⟩ : ByteArray)] 24 ?_; intro gb106 hg w45 hbox hb; have n0_ := Aside0.mk (Kd.R_below (Kd.R_elderB (rX HO_103000) gb106 (Nat.le_of_eq hg.symm)) hb); have n1_ := Aside0.mk (blk_below (kX BK101) hb); have n2_ := Aside0.mk (blk_below (kX BK102) hb); have n3_ := Aside0.mk (below_step (bX2 HB GE101 GE102) hb); have n4_ := Aside0.mk (hbox); have n5_ := Aside0.mk ((by rw [hg]; exact (below_size (bX2 HB GE101 GE102)) : w.heap.size ≤ gb106)); have n6_ := Aside0.mk ((by rw [hg]; exact (below_size (bX2 HB GE101 GE102)) : w.heap.size ≤ gb106)); have n7_ := Aside0.mk ((by rw [hg]; exact Nat.ne_of_lt (blk_lt (kX BK101)) : gb101 ≠ gb106)); have n8_ := Aside0.mk ((by rw [hg]; exact Nat.ne_of_gt (blk_lt (kX BK101)) : gb106 ≠ gb101)); have n9_ := Aside0.mk ((by rw [hg]; exact Nat.ne_of_lt (blk_lt (kX BK102)) : gb102 ≠ gb106)); have n10_ := Aside0.mk ((by rw [hg]; exact Nat.ne_of_gt (blk_lt (kX BK102)) : gb106 ≠ gb102)); clear HO_103000; clear BK101; clear BK102; clear HB; have HO_103000 := n0_; have BK101 := n1_; have BK102 := n2_; have HB := n3_; have BK106 := n4_; have GW106 := n5_; have GE106 := n6_; have NB101_106 := n7_; have NB106_101 := n8_; have NB102_106 := n9_; have NB106_102 := n10_; clear n0_ n1_ n2_ n3_ n4_ n5_ n6_ n7_ n8_ n9_ n10_; clear hb hbox hg; have hnb46 := NB106_101.out; have hnc46 := NB101_106.out; have hnb47 := NB106_102.out; have hnc47 := NB102_106.out; obtain ⟨hcz48_0, hcz48_1, hfz48_0, hfz48_1⟩ := c2X BK106; have hnb49 := NB102_101.out; have hnc49 := NB101_102.out; obtain ⟨hcz50_0, hcz50_1, hcz50_2, hcz50_3, hfz50_0, hfz50_1, hfz50_2, hfz50_3⟩ := c4X BK102) | ((with_reducible refine gate_builtin (b := .append) (xs := #[.tmp 51, .tmp 53]) rfl ?_); (try (refine gate_guard (by rfl) ?_; dsimp only)); at_builtin; refine Kd.R_append k24 (w0 := w) w.heap.size rfl (.tmp 51) (.tmp 53) 66 24 (.agg #[(.int .i64 0), (.string ⟨#[]⟩)]) 24 rfl Tryz.underlying66 info24 rfl (by decide) (by omega) u103000 x103000_2 (⟨t103, t104⟩ : S24) [.int .i64 t103, .string t104] (fun k_ => k_ ≠ gb106) (fun _ => False) rfl (by first | (go_simp; done) | (go_simp; rfl)) ?aP (fun _ hk => hk.elim) ?aF ?aO ?aB ?aS ?aL ?_; (case aP => exact k24_mkM _ _ _ (⟨t103, t104⟩ : S24)); (case aB => exact (bX3 HB GE101 GE102 GE106)); (case aF => exact (fun k_ hk => Kd.freshB (g := gb106) (o := .cells #[.int .i64 t103, .string t104] 24 (0, 0)) (by (with_reducible repeat (first | refine blk_drewN ?_ _ | refine blk_drew ?_ | refine blk_alloc ?_ _)); refine blk_put (cs := #[.int .i64 t103, .string (⟨#[]⟩ : ByteArray)]) ?_ 1 _ rfl; (with_reducible repeat (first | refine blk_drewN ?_ _ | refine blk_drew ?_ | refine blk_alloc ?_ _)); refine blk_put (cs := #[.int .i64 0, .string (⟨#[]⟩ : ByteArray)]) ?_ 0 _ rfl; (with_reducible repeat (first | refine blk_drewN ?_ _ | refine blk_drew ?_ | refine blk_alloc ?_ _)); exact BK106.out) k_ hk)); (case aO => exact (by (with_reducible repeat (first | apply Kd.R_alloc | apply Kd.R_drewN | apply Kd.R_drew)); exact Kd.R_mono (Kd.R_far (p := ⟨gb106, 1, none⟩) (Kd.R_far (p := ⟨gb106, 0, none⟩) (Kd.R_mono HO_103000.out (fun k_ hk => (⟨hk, hk.2⟩ : _ ∧ k_ ≠ gb106))) (fun _ hk => hk.2) (.int .i64 t103)) (fun _ hk => hk.2) (.string t104)) (fun _ hk => hk.1.2))); (case aS => exact (below_size (bX3 HB GE101 GE102 GE106))); (case aL => have := LMc43.out; omega); intro v111 w51 ho hb hg hat; rw [← Ny110.out] at ho; have n0_ := Aside0.mk (blk_grown (g := gb101) (o := .cells #[.slice none 0 0, .bool x102001_2, .int .i64 x102002_2, .string x102003_2] 172 (0, 0)) (fX BK101 NB101_106) hg (Kd.R_ne HO_103000.out BK101.out (by decide))); have n1_ := Aside0.mk (blk_grown (g := gb102) (o := .cells #[u103000, .bool false, .int .i64 0, .string (⟨#[]⟩ : ByteArray)] 172 (0, 0)) (fX BK102 NB102_106) hg (Kd.R_ne HO_103000.out BK102.out (by decide))); have n2_ := Aside0.mk (blk_grown (g := gb106) (o := .cells #[.int .i64 t103, .string t104] 24 (0, 0)) (by (with_reducible repeat (first | refine blk_drewN ?_ _ | refine blk_drew ?_ | refine blk_alloc ?_ _)); refine blk_put (cs := #[.int .i64 t103, .string (⟨#[]⟩ : ByteArray)]) ?_ 1 _ rfl; (with_reducible repeat (first | refine blk_drewN ?_ _ | refine blk_drew ?_ | refine blk_alloc ?_ _)); refine blk_put (cs := #[.int .i64 0, .string (⟨#[]⟩ : ByteArray)]) ?_ 0 _ rfl; (with_reducible repeat (first | refine blk_drewN ?_ _ | refine blk_drew ?_ | refine blk_alloc ?_ _)); exact BK106.out) hg (Kd.R_away HO_103000.out (fun _ hk => hk.2))); have n3_ := Aside0.mk (hb); have n4_ := Aside0.mk (ho); clear BK101; clear BK102; clear BK106; clear HB; clear HO_103000; have BK101 := n0_; have BK102 := n1_; have BK106 := n2_; have HB := n3_; have HO112 := n4_; clear n0_ n1_ n2_ n3_ n4_; clear ho hb hg hat; obtain ⟨Ao52, co52, eo52⟩ := Kd.R_slice HO112.out; subst eo52; obtain ⟨hcz53_0, hcz53_1, hcz53_2, hcz53_3, hfz53_0, hfz53_1, hfz53_2, hfz53_3⟩ := c4X BK102))
             go_roundg kj16
             case measure => have := HJ4.out; have := HK2.out; have := HJ16.out; omega
             case rel => exact ⟨(decide (t103 > 255)), (t105), (x102001_2), (x102002_2), (x102003_2), (y110), (.slice Ao52 y110.length co52), vX, vX, H', ⟨by have := HJ4.out; have := HK2.out; have := HJ16.out; omega⟩, ⟨by (with_reducible repeat (first | apply Kd.R_alloc | apply Kd.R_drewN | apply Kd.R_drew)); exact Kd.R_mono (Kd.R_far (p := ⟨gb102, 0, none⟩) (Kd.R_types HO112.out BK102.out (by decide)) (fun _ hk => hk.2) (.slice Ao52 y110.length co52)) (fun _ hk => trivial)⟩, ⟨fX BK101 NB101_102⟩, ⟨by (with_reducible repeat (first | refine blk_drewN ?_ _ | refine blk_drew ?_ | refine blk_alloc ?_ _)); refine blk_put (cs := #[u103000, .bool false, .int .i64 0, .string (⟨#[]⟩ : ByteArray)]) ?_ 0 _ rfl; (with_reducible repeat (first | refine blk_drewN ?_ _ | refine blk_drew ?_ | refine blk_alloc ?_ _)); exact BK102.out⟩, ⟨bX3 HB GE101 GE102 GE106⟩⟩
            ·rw [if_neg c43] at H
             exact absurd H (by simp)
         ·replace c21 := Bool.eq_false_iff.mpr c21
          subst c21
          have H1 : (if x6_2 ≥ (a0.size : Int) then (some (([] : List (S24)), false, 0, (⟨#[]⟩ : ByteArray), 4)) else (if (wrap64 (x6_2 + 1)) < (a0.size : Int) then (if 0 ≤ (wrap64 (x6_2 + 1)) then (arbiterref02_ParseDesc.j3 kj16 a0 x5_2 (wrap64 (x6_2 + 1)) ((bt a0 (wrap64 (x6_2 + 1))) == 86) x103000_2 false 0 (⟨#[]⟩ : ByteArray)) else (none)) else (arbiterref02_ParseDesc.j3 kj16 a0 x5_2 (wrap64 (x6_2 + 1)) false x103000_2 false 0 (⟨#[]⟩ : ByteArray)))) = some (r1, r2, r3, r4, r5) := by rw [if_neg (show ¬ (false = true) by decide)] at H; exact H
          clear H; have H := H1; clear H1
          by_cases c54 : x6_2 ≥ (a0.size : Int)
          ·rw [if_pos c54] at H
           have c54b0 : decide ((a0.size : Int) ≤ x6_2) = true := decide_eq_true c54; clear c54; simp only [Option.some.injEq, Prod.mk.injEq] at H; obtain ⟨rfl, rfl, rfl, rfl, rfl⟩ := H; have hnb55 := NB101_102.out; have hnc55 := NB102_101.out; obtain ⟨hcz56_0, hcz56_1, hcz56_2, hcz56_3, hfz56_0, hfz56_1, hfz56_2, hfz56_3⟩ := c4X BK101; go_wp2; refine bodyPost_ret (results_ct rfl _ _ gb101 172 #[.slice none 0 0, .bool false, .int .i64 0, .string (⟨#[]⟩ : ByteArray)] (0, 0) _ rfl (by (with_reducible repeat (first | refine blk_drewN ?_ _ | refine blk_drew ?_ | refine blk_alloc ?_ _)); refine blk_put (cs := #[.slice none 0 0, .bool false, .int .i64 0, .string x102003_2]) ?_ 3 _ rfl; (with_reducible repeat (first | refine blk_drewN ?_ _ | refine blk_drew ?_ | refine blk_alloc ?_ _)); refine blk_put (cs := #[.slice none 0 0, .bool false, .int .i64 x102002_2, .string x102003_2]) ?_ 2 _ rfl; (with_reducible repeat (first | refine blk_drewN ?_ _ | refine blk_drew ?_ | refine blk_alloc ?_ _)); refine blk_put (cs := #[.slice none 0 0, .bool x102001_2, .int .i64 x102002_2, .string x102003_2]) ?_ 1 _ rfl; (with_reducible repeat (first | refine blk_drewN ?_ _ | refine blk_drew ?_ | refine blk_alloc ?_ _)); refine blk_put (cs := #[.slice none 0 0, .bool x102001_2, .int .i64 x102002_2, .string x102003_2]) ?_ 0 _ rfl; (with_reducible repeat (first | refine blk_drewN ?_ _ | refine blk_drew ?_ | refine blk_alloc ?_ _)); exact BK101.out) Tryz.underlying172 rfl (by kernel_rfl)) rfl ?_
           exact ⟨_, by first | rfl | (simp [errW_none, errW_some] <;> rfl) | (simp [*, errW_none, errW_some] <;> rfl), by first | exact Kd.R_nil _ _ _ _ _ | exact Kd.N_nil _ _ _ _ _ | exact Kd.V_nil _ _ _ _ _ | exact Kd.Q_nil _ _ _ _ _ | exact Kd.S_nil _ _ _ _ _, bX2 HB GE101 GE102⟩
          ·rw [if_neg c54] at H
           have c54b0 : decide ((a0.size : Int) ≤ x6_2) = false := decide_eq_false c54; clear c54; have HC57 := Aside0.mk H; clear H
           go_upto_region 18 with (fail)
           go_cut [73] (fun v73 wc => ∃ (kq : Nat) (x73_56 : Bool), v73 = .bool x73_56 ∧ Aside0 (arbiterref02_ParseDesc.j3 kq a0 x5_2 (wrap64 (x6_2 + 1)) x73_56 x103000_2 false 0 (⟨#[]⟩ : ByteArray) = some (r1, r2, r3, r4, r5)) ∧ Aside0 (kq ≤ kj16) ∧ Aside0 (Kd.R k24 24 wc w.heap.size (fun _ => True) u103000 x103000_2) ∧ Aside0 (wc.heap[gb101]? = some (.cells #[(.slice none 0 0), .bool x102001_2, .int .i64 x102002_2, .string x102003_2] 172 (0, 0))) ∧ Aside0 (wc.heap[gb102]? = some (.cells #[u103000, .bool false, .int .i64 0, .string (⟨#[]⟩ : ByteArray)] 172 (0, 0))) ∧ Aside0 (Below w.heap.size w wc))
           case first =>
            have H := HC57.out; clear HC57
            by_cases c58 : (wrap64 (x6_2 + 1)) < (a0.size : Int)
            ·rw [if_pos c58] at H
             have c58b0 : decide ((wrap64 (x6_2 + 1)) < (a0.size : Int)) = true := decide_eq_true c58; clear c58
             (first | rw [c58b0] | (simp only [i64_w, i32_w]; rw [c58b0]) | skip)
             obtain ⟨ji59, hji59⟩ : ∃ j_ : Int, (wrap64 (x6_2 + 1)) = j_ := ⟨_, rfl⟩
             replace H : (if 0 ≤ (ji59) then (arbiterref02_ParseDesc.j3 kj16 a0 x5_2 ji59 ((bt a0 (ji59)) == 86) x103000_2 false 0 (⟨#[]⟩ : ByteArray)) else (none)) = some (r1, r2, r3, r4, r5) := by first | (rw [hji59] at H; exact H) | (simp only [hji59] at H ⊢; exact H)
             (try rw [hji59] at c58b0)
             have hji59w : (IntKind.i64.wrap (x6_2 + 1)) = ji59 := (i64_w _).trans hji59
             by_cases c60 : 0 ≤ (ji59)
             ·rw [if_pos c60] at H
              have c60b0 : decide (0 ≤ (ji59)) = true := decide_eq_true c60; clear c60; have H' := Aside0.mk H; clear H; have p61 : 0 ≤ ((ji59) : Int) := qX; have q61 : (ji59) < (a0.size : Int) := qX; have hx61 := bt_at a0 (ji59); replace p61 := eq_true p61; replace q61 := eq_true q61; go_wp2; go_meet
              case rel => exact ⟨_, (((bt a0 (ji59)) == 86)), (by first | rfl | (simp; done) | (simp only [← hji59] <;> (first | rfl | simp)) | (simp [*]; done)), (by first | (with_reducible exact H') | exact H' | (rw [hji59]; exact H') | (rw [← hji59]; exact H')), ⟨by have := HJ4.out; have := HK2.out; have := HJ16.out; first | omega | exact Nat.le_refl _⟩, ⟨rX HO_103000⟩, ⟨by (with_reducible repeat (first | refine blk_drewN ?_ _ | refine blk_drew ?_ | refine blk_alloc ?_ _)); exact BK101.out⟩, ⟨by (with_reducible repeat (first | refine blk_drewN ?_ _ | refine blk_drew ?_ | refine blk_alloc ?_ _)); exact BK102.out⟩, ⟨bX2 HB GE101 GE102⟩⟩
             ·rw [if_neg c60] at H
              exact absurd H (by simp)
            ·rw [if_neg c58] at H
             have c58b0 : decide ((wrap64 (x6_2 + 1)) < (a0.size : Int)) = false := decide_eq_false c58; clear c58
             (first | rw [c58b0] | (simp only [i64_w, i32_w]; rw [c58b0]) | skip)
             have H' := Aside0.mk H; clear H; go_wp2; go_meet
             case rel => exact ⟨_, (false), vX, (by first | (with_reducible exact H') | exact H' | (rw [hji59]; exact H') | (rw [← hji59]; exact H')), ⟨by have := HJ4.out; have := HK2.out; have := HJ16.out; first | omega | exact Nat.le_refl _⟩, ⟨rX HO_103000⟩, ⟨by (with_reducible repeat (first | refine blk_drewN ?_ _ | refine blk_drew ?_ | refine blk_alloc ?_ _)); exact BK101.out⟩, ⟨by (with_reducible repeat (first | refine blk_drewN ?_ _ | refine blk_drew ?_ | refine blk_alloc ?_ _)); exact BK102.out⟩, ⟨bX2 HB GE101 GE102⟩⟩
           case rest =>
            clear HC57
            try clear c1
            try clear p1
            try clear q1
            try clear hx1
            try clear qi1
            try clear c2
            try clear c2b0
            try clear c2b1
            try clear p2
            try clear q2
            try clear hx2
            try clear c3
            try clear c4
            try clear c5
            try clear c6
            try clear p6
            try clear q6
            try clear hx6
            try clear c8
            try clear c10
            try clear c10b0
            try clear c10b1
            try clear c11
            try clear c11b0
            try clear c11b1
            try clear p12
            try clear q12
            try clear hx12
            try clear qi12
            try clear c13
            try clear c14
            try clear c15
            try clear c18
            try clear c18b0
            try clear c19
            try clear c19b0
            try clear p20
            try clear q20
            try clear hx20
            try clear c21
            try clear c23
            try clear c23b0
            try clear c26
            try clear c27
            try clear c29
            try clear c31
            try clear c32
            try clear c35
            try clear c36
            try clear c38
            try clear c43
            try clear c46
            try clear c47
            try clear c49
            try clear c54
            try clear c54b0
            try clear c55
            try clear c58
            try clear c58b0
            try clear c60
            try clear c60b0
            try clear p61
            try clear q61
            try clear hx61
            try clear hcz15_0 hcz15_1 hcz15_2 hcz15_3
            try clear hcz16_0 hcz16_1 hcz16_2 hcz16_3
            try clear hcz28_0 hcz28_1
            try clear hcz30_0 hcz30_1 hcz30_2 hcz30_3
            try clear hcz37_0 hcz37_1
            try clear hcz39_0 hcz39_1 hcz39_2 hcz39_3
            try clear hcz42_0 hcz42_1 hcz42_2 hcz42_3
            try clear hcz48_0 hcz48_1
            try clear hcz4_0 hcz4_1 hcz4_2 hcz4_3
            try clear hcz50_0 hcz50_1 hcz50_2 hcz50_3
            try clear hcz53_0 hcz53_1 hcz53_2 hcz53_3
            try clear hcz56_0 hcz56_1 hcz56_2 hcz56_3
            try clear hcz9_0 hcz9_1 hcz9_2 hcz9_3
            try clear hfz15_0 hfz15_1 hfz15_2 hfz15_3
            try clear hfz16_0 hfz16_1 hfz16_2 hfz16_3
            try clear hfz28_0 hfz28_1
            try clear hfz30_0 hfz30_1 hfz30_2 hfz30_3
            try clear hfz37_0 hfz37_1
            try clear hfz39_0 hfz39_1 hfz39_2 hfz39_3
            try clear hfz42_0 hfz42_1 hfz42_2 hfz42_3
            try clear hfz48_0 hfz48_1
            try clear hfz4_0 hfz4_1 hfz4_2 hfz4_3
            try clear hfz50_0 hfz50_1 hfz50_2 hfz50_3
            try clear hfz53_0 hfz53_1 hfz53_2 hfz53_3
            try clear hfz56_0 hfz56_1 hfz56_2 hfz56_3
            try clear hfz9_0 hfz9_1 hfz9_2 hfz9_3
            try clear p1
            try clear p12
            try clear p2
            try clear p20
            try clear p61
            try clear q1
            try clear q12
            try clear q2
            try clear q20
            try clear q61
            obtain ⟨kq, x73_56, rfl, HA, HJ56, HO_103000, BK101, BK102, HB⟩ := hcut
            cases kq with
            | zero => exact absurd HA.out (by simp [arbiterref02_ParseDesc.j3])
            | succ kj56 =>
             have H := HA.out; clear HA; simp only [arbiterref02_ParseDesc.j3] at H; have HC62 := Aside0.mk H; clear H
             go_upto_if 73 with (fail)
             go_cut [5, 6] (fun v5 v6 wc => ∃ (kq : Nat) (x5_61 : Bool) (x6_61 : Int) (x103001_61 : Bool) (x103002_61 : Int) (x103003_61 : ByteArray), v5 = .bool x5_61 ∧ v6 = .int .i64 x6_61 ∧ Aside0 (arbiterref02_ParseDesc.j4 kq a0 x5_61 x6_61 x103000_2 x103001_61 x103002_61 x103003_61 = some (r1, r2, r3, r4, r5)) ∧ Aside0 (kq ≤ kj56) ∧ Aside0 (Kd.R k24 24 wc w.heap.size (fun _ => True) u103000 x103000_2) ∧ Aside0 (wc.heap[gb101]? = some (.cells #[(.slice none 0 0), .bool x102001_2, .int .i64 x102002_2, .string x102003_2] 172 (0, 0))) ∧ Aside0 (wc.heap[gb102]? = some (.cells #[u103000, .bool x103001_61, .int .i64 x103002_61, .string x103003_61] 172 (0, 0))) ∧ Aside0 (Below w.heap.size w wc))
             case first =>
              have H := HC62.out; clear HC62
              by_cases c63 : x73_56 = true
              ·subst c63
               have H1 : (arbiterref02_ParseDesc.j4 kj56 a0 x5_2 (wrap64 ((wrap64 (x6_2 + 1)) + 1)) x103000_2 true 0 (⟨#[]⟩ : ByteArray)) = some (r1, r2, r3, r4, r5) := by rw [if_pos rfl] at H; exact H
               clear H; have H := H1; clear H1; have H' := Aside0.mk H; clear H; have hnb64 := NB102_101.out; have hnc64 := NB101_102.out; obtain ⟨hcz65_0, hcz65_1, hcz65_2, hcz65_3, hfz65_0, hfz65_1, hfz65_2, hfz65_3⟩ := c4X BK102; go_wp2; go_meet
               case rel => exact ⟨_, (x5_2), (wrap64 ((wrap64 (x6_2 + 1)) + 1)), (true), (0), ((⟨#[]⟩ : ByteArray)), vX, vX, H', ⟨by have := HJ4.out; have := HK2.out; have := HJ16.out; have := HJ56.out; first | omega | exact Nat.le_refl _⟩, ⟨by (with_reducible repeat (first | apply Kd.R_alloc | apply Kd.R_drewN | apply Kd.R_drew)); exact Kd.R_mono (Kd.R_far (p := ⟨gb102, 1, none⟩) (Kd.R_types HO_103000.out BK102.out (by decide)) (fun _ hk => hk.2) (.bool true)) (fun _ hk => trivial)⟩, ⟨fX BK101 NB101_102⟩, ⟨by (with_reducible repeat (first | refine blk_drewN ?_ _ | refine blk_drew ?_ | refine blk_alloc ?_ _)); refine blk_put (cs := #[u103000, .bool false, .int .i64 0, .string (⟨#[]⟩ : ByteArray)]) ?_ 1 _ rfl; (with_reducible repeat (first | refine blk_drewN ?_ _ | refine blk_drew ?_ | refine blk_alloc ?_ _)); exact BK102.out⟩, ⟨bX2 HB GE101 GE102⟩⟩
              ·replace c63 := Bool.eq_false_iff.mpr c63
               subst c63
               have H1 : ((arbiterref02_read.f a0 (wrap64 (x6_2 + 1))).bind fun bt113 => (if x5_2 = true then (arbiterref02_ParseDesc.j4 kj56 a0 true bt113.2.2 x103000_2 false bt113.1 bt113.2.1) else (arbiterref02_ParseDesc.j4 kj56 a0 (decide (bt113.1 > 255)) bt113.2.2 x103000_2 false bt113.1 bt113.2.1))) = some (r1, r2, r3, r4, r5) := by rw [if_neg (show ¬ (false = true) by decide)] at H; exact H
               clear H; have H := H1; clear H1; replace H := Option.bind_eq_some_iff.mp H; obtain ⟨⟨t113, t114, t115⟩, A660, H⟩ := H; replace H : (if x5_2 = true then (arbiterref02_ParseDesc.j4 kj56 a0 true t115 x103000_2 false t113 t114) else (arbiterref02_ParseDesc.j4 kj56 a0 (decide (t113 > 255)) t115 x103000_2 false t113 t114)) = some (r1, r2, r3, r4, r5) := H; have A66 := Aside0.mk A660; clear A660
               by_cases c67 : x5_2 = true
               ·subst c67
                have H1 : (arbiterref02_ParseDesc.j4 kj56 a0 true t115 x103000_2 false t113 t114) = some (r1, r2, r3, r4, r5) := by rw [if_pos rfl] at H; exact H
                clear H; have H := H1; clear H1; have H' := Aside0.mk H; clear H; go_wp2_with (first | ((with_reducible refine gate_callee (f := 158) rfl ?_); refine gX (some 80) Tryz.func158 #[.string a0, .int .i64 (wrap64 (x6_2 + 1))] ?_; (with_reducible refine (arbiterref02_read.calls a0 (wrap64 (x6_2 + 1)) t113 t114 t115 _ A66.out).mono ?_); rintro e w68 ⟨rfl, hb⟩; refine ⟨_, rfl, ?_⟩; have n0_ := Aside0.mk (Kd.R_below (rX HO_103000) hb); have n1_ := Aside0.mk (blk_below (kX BK101) hb); have n2_ := Aside0.mk (blk_below (kX BK102) hb); have n3_ := Aside0.mk (below_step (bX2 HB GE101 GE102) hb); clear HO_103000; clear BK101; clear BK102; clear HB; have HO_103000 := n0_; have BK101 := n1_; have BK102 := n2_; have HB := n3_; clear n0_ n1_ n2_ n3_; (try clear hb); (try clear hb2); (try clear hk); (try clear hi)) | ((with_reducible refine gate_dst (N := 9) rfl ?_); (try (refine gate_guard (by rfl) ?_; dsimp only)); refine eX 9 #[.int .i64 0, .string (⟨#[]⟩ : ByteArray)] 24 ?_; intro gb116 hg w69 hbox hb; have n0_ := Aside0.mk (Kd.R_below (Kd.R_elderB (rX HO_103000) gb116 (Nat.le_of_eq hg.symm)) hb); have n1_ := Aside0.mk (blk_below (kX BK101) hb); have n2_ := Aside0.mk (blk_below (kX BK102) hb); have n3_ := Aside0.mk (below_step (bX2 HB GE101 GE102) hb); have n4_ := Aside0.mk (hbox); have n5_ := Aside0.mk ((by rw [hg]; exact (below_size (bX2 HB GE101 GE102)) : w.heap.size ≤ gb116)); have n6_ := Aside0.mk ((by rw [hg]; exact (below_size (bX2 HB GE101 GE102)) : w.heap.size ≤ gb116)); have n7_ := Aside0.mk ((by rw [hg]; exact Nat.ne_of_lt (blk_lt (kX BK101)) : gb101 ≠ gb116)); have n8_ := Aside0.mk ((by rw [hg]; exact Nat.ne_of_gt (blk_lt (kX BK101)) : gb116 ≠ gb101)); have n9_ := Aside0.mk ((by rw [hg]; exact Nat.ne_of_lt (blk_lt (kX BK102)) : gb102 ≠ gb116)); have n10_ := Aside0.mk ((by rw [hg]; exact Nat.ne_of_gt (blk_lt (kX BK102)) : gb116 ≠ gb102)); clear HO_103000; clear BK101; clear BK102; clear HB; have HO_103000 := n0_; have BK101 := n1_; have BK102 := n2_; have HB := n3_; have BK116 := n4_; have GW116 := n5_; have GE116 := n6_; have NB101_116 := n7_; have NB116_101 := n8_; have NB102_116 := n9_; have NB116_102 := n10_; clear n0_ n1_ n2_ n3_ n4_ n5_ n6_ n7_ n8_ n9_ n10_; clear hb hbox hg; have hnb70 := NB116_101.out; have hnc70 := NB101_116.out; have hnb71 := NB116_102.out; have hnc71 := NB102_116.out; obtain ⟨hcz72_0, hcz72_1, hfz72_0, hfz72_1⟩ := c2X BK116; have hnb73 := NB102_101.out; have hnc73 := NB101_102.out; obtain ⟨hcz74_0, hcz74_1, hcz74_2, hcz74_3, hfz74_0, hfz74_1, hfz74_2, hfz74_3⟩ := c4X BK102)); go_meet
                case rel => exact ⟨_, (true), (t115), (false), (t113), (t114), vX, vX, H', ⟨by have := HJ4.out; have := HK2.out; have := HJ16.out; have := HJ56.out; first | omega | exact Nat.le_refl _⟩, ⟨by (with_reducible repeat (first | apply Kd.R_alloc | apply Kd.R_drewN | apply Kd.R_drew)); exact Kd.R_mono (Kd.R_far (p := ⟨gb102, 3, none⟩) (Kd.R_far (p := ⟨gb102, 2, none⟩) (Kd.R_far (p := ⟨gb116, 1, none⟩) (Kd.R_far (p := ⟨gb116, 0, none⟩) (Kd.R_types (Kd.R_mono HO_103000.out (fun k_ hk => (⟨hk, hk.2⟩ : _ ∧ k_ ≠ gb116))) BK102.out (by decide)) (fun _ hk => hk.1.2) (.int .i64 t113)) (fun _ hk => hk.1.2) (.string t114)) (fun _ hk => hk.2) (.int .i64 t113)) (fun _ hk => hk.2) (.string t114)) (fun _ hk => trivial)⟩, ⟨by (with_reducible repeat (first | refine blk_drewN ?_ _ | refine blk_drew ?_ | refine blk_alloc ?_ _)); refine blk_far ?_ NB101_102.out _; (with_reducible repeat (first | refine blk_drewN ?_ _ | refine blk_drew ?_ | refine blk_alloc ?_ _)); refine blk_far ?_ NB101_102.out _; (with_reducible repeat (first | refine blk_drewN ?_ _ | refine blk_drew ?_ | refine blk_alloc ?_ _)); refine blk_far ?_ NB101_116.out _; (with_reducible repeat (first | refine blk_drewN ?_ _ | refine blk_drew ?_ | refine blk_alloc ?_ _)); refine blk_far ?_ NB101_116.out _; (with_reducible repeat (first | refine blk_drewN ?_ _ | refine blk_drew ?_ | refine blk_alloc ?_ _)); exact BK101.out⟩, ⟨by (with_reducible repeat (first | refine blk_drewN ?_ _ | refine blk_drew ?_ | refine blk_alloc ?_ _)); refine blk_put (cs := #[u103000, .bool false, .int .i64 t113, .string (⟨#[]⟩ : ByteArray)]) ?_ 3 _ rfl; (with_reducible repeat (first | refine blk_drewN ?_ _ | refine blk_drew ?_ | refine blk_alloc ?_ _)); refine blk_put (cs := #[u103000, .bool false, .int .i64 0, .string (⟨#[]⟩ : ByteArray)]) ?_ 2 _ rfl; (with_reducible repeat (first | refine blk_drewN ?_ _ | refine blk_drew ?_ | refine blk_alloc ?_ _)); refine blk_far ?_ NB102_116.out _; (with_reducible repeat (first | refine blk_drewN ?_ _ | refine blk_drew ?_ | refine blk_alloc ?_ _)); refine blk_far ?_ NB102_116.out _; (with_reducible repeat (first | refine blk_drewN ?_ _ | refine blk_drew ?_ | refine blk_alloc ?_ _)); exact BK102.out⟩, ⟨bX3 HB GE101 GE102 GE116⟩⟩
               ·replace c67 := Bool.eq_false_iff.mpr c67
                subst c67
                have H1 : (arbiterref02_ParseDesc.j4 kj56 a0 (decide (t113 > 255)) t115 x103000_2 false t113 t114) = some (r1, r2, r3, r4, r5) := by rw [if_neg (show ¬ (false = true) by decide)] at H; exact H
                clear H; have H := H1; clear H1; have H' := Aside0.mk H; clear H; go_wp2_with (first | ((with_reducible refine gate_callee (f := 158) rfl ?_); refine gX (some 80) Tryz.func158 #[.string a0, .int .i64 (wrap64 (x6_2 + 1))] ?_; (with_reducible refine (arbiterref02_read.calls a0 (wrap64 (x6_2 + 1)) t113 t114 t115 _ A66.out).mono ?_); rintro e w75 ⟨rfl, hb⟩; refine ⟨_, rfl, ?_⟩; have n0_ := Aside0.mk (Kd.R_below (rX HO_103000) hb); have n1_ := Aside0.mk (blk_below (kX BK101) hb); have n2_ := Aside0.mk (blk_below (kX BK102) hb); have n3_ := Aside0.mk (below_step (bX2 HB GE101 GE102) hb); clear HO_103000; clear BK101; clear BK102; clear HB; have HO_103000 := n0_; have BK101 := n1_; have BK102 := n2_; have HB := n3_; clear n0_ n1_ n2_ n3_; (try clear hb); (try clear hb2); (try clear hk); (try clear hi)) | ((with_reducible refine gate_dst (N := 9) rfl ?_); (try (refine gate_guard (by rfl) ?_; dsimp only)); refine eX 9 #[.int .i64 0, .string (⟨#[]⟩ : ByteArray)] 24 ?_; intro gb116 hg w76 hbox hb; have n0_ := Aside0.mk (Kd.R_below (Kd.R_elderB (rX HO_103000) gb116 (Nat.le_of_eq hg.symm)) hb); have n1_ := Aside0.mk (blk_below (kX BK101) hb); have n2_ := Aside0.mk (blk_below (kX BK102) hb); have n3_ := Aside0.mk (below_step (bX2 HB GE101 GE102) hb); have n4_ := Aside0.mk (hbox); have n5_ := Aside0.mk ((by rw [hg]; exact (below_size (bX2 HB GE101 GE102)) : w.heap.size ≤ gb116)); have n6_ := Aside0.mk ((by rw [hg]; exact (below_size (bX2 HB GE101 GE102)) : w.heap.size ≤ gb116)); have n7_ := Aside0.mk ((by rw [hg]; exact Nat.ne_of_lt (blk_lt (kX BK101)) : gb101 ≠ gb116)); have n8_ := Aside0.mk ((by rw [hg]; exact Nat.ne_of_gt (blk_lt (kX BK101)) : gb116 ≠ gb101)); have n9_ := Aside0.mk ((by rw [hg]; exact Nat.ne_of_lt (blk_lt (kX BK102)) : gb102 ≠ gb116)); have n10_ := Aside0.mk ((by rw [hg]; exact Nat.ne_of_gt (blk_lt (kX BK102)) : gb116 ≠ gb102)); clear HO_103000; clear BK101; clear BK102; clear HB; have HO_103000 := n0_; have BK101 := n1_; have BK102 := n2_; have HB := n3_; have BK116 := n4_; have GW116 := n5_; have GE116 := n6_; have NB101_116 := n7_; have NB116_101 := n8_; have NB102_116 := n9_; have NB116_102 := n10_; clear n0_ n1_ n2_ n3_ n4_ n5_ n6_ n7_ n8_ n9_ n10_; clear hb hbox hg; have hnb77 := NB116_101.out; have hnc77 := NB101_116.out; have hnb78 := NB116_102.out; have hnc78 := NB102_116.out; obtain ⟨hcz79_0, hcz79_1, hfz79_0, hfz79_1⟩ := c2X BK116; have hnb80 := NB102_101.out; have hnc80 := NB101_102.out; obtain ⟨hcz81_0, hcz81_1, hcz81_2, hcz81_3, hfz81_0, hfz81_1, hfz81_2, hfz81_3⟩ := c4X BK102)); go_meet
                case rel => exact ⟨_, (decide (t113 > 255)), (t115), (false), (t113), (t114), vX, vX, H', ⟨by have := HJ4.out; have := HK2.out; have := HJ16.out; have := HJ56.out; first | omega | exact Nat.le_refl _⟩, ⟨by (with_reducible repeat (first | apply Kd.R_alloc | apply Kd.R_drewN | apply Kd.R_drew)); exact Kd.R_mono (Kd.R_far (p := ⟨gb102, 3, none⟩) (Kd.R_far (p := ⟨gb102, 2, none⟩) (Kd.R_far (p := ⟨gb116, 1, none⟩) (Kd.R_far (p := ⟨gb116, 0, none⟩) (Kd.R_types (Kd.R_mono HO_103000.out (fun k_ hk => (⟨hk, hk.2⟩ : _ ∧ k_ ≠ gb116))) BK102.out (by decide)) (fun _ hk => hk.1.2) (.int .i64 t113)) (fun _ hk => hk.1.2) (.string t114)) (fun _ hk => hk.2) (.int .i64 t113)) (fun _ hk => hk.2) (.string t114)) (fun _ hk => trivial)⟩, ⟨by (with_reducible repeat (first | refine blk_drewN ?_ _ | refine blk_drew ?_ | refine blk_alloc ?_ _)); refine blk_far ?_ NB101_102.out _; (with_reducible repeat (first | refine blk_drewN ?_ _ | refine blk_drew ?_ | refine blk_alloc ?_ _)); refine blk_far ?_ NB101_102.out _; (with_reducible repeat (first | refine blk_drewN ?_ _ | refine blk_drew ?_ | refine blk_alloc ?_ _)); refine blk_far ?_ NB101_116.out _; (with_reducible repeat (first | refine blk_drewN ?_ _ | refine blk_drew ?_ | refine blk_alloc ?_ _)); refine blk_far ?_ NB101_116.out _; (with_reducible repeat (first | refine blk_drewN ?_ _ | refine blk_drew ?_ | refine blk_alloc ?_ _)); exact BK101.out⟩, ⟨by (with_reducible repeat (first | refine blk_drewN ?_ _ | refine blk_drew ?_ | refine blk_alloc ?_ _)); refine blk_put (cs := #[u103000, .bool false, .int .i64 t113, .string (⟨#[]⟩ : ByteArray)]) ?_ 3 _ rfl; (with_reducible repeat (first | refine blk_drewN ?_ _ | refine blk_drew ?_ | refine blk_alloc ?_ _)); refine blk_put (cs := #[u103000, .bool false, .int .i64 0, .string (⟨#[]⟩ : ByteArray)]) ?_ 2 _ rfl; (with_reducible repeat (first | refine blk_drewN ?_ _ | refine blk_drew ?_ | refine blk_alloc ?_ _)); refine blk_far ?_ NB102_116.out _; (with_reducible repeat (first | refine blk_drewN ?_ _ | refine blk_drew ?_ | refine blk_alloc ?_ _)); refine blk_far ?_ NB102_116.out _; (with_reducible repeat (first | refine blk_drewN ?_ _ | refine blk_drew ?_ | refine blk_alloc ?_ _)); exact BK102.out⟩, ⟨bX3 HB GE101 GE102 GE116⟩⟩
             case rest =>
              clear HC62
              try clear c1
              try clear p1
              try clear q1
              try clear hx1
              try clear qi1
              try clear c2
              try clear c2b0
              try clear c2b1
              try clear p2
              try clear q2
              try clear hx2
              try clear c3
              try clear c4
              try clear c5
              try clear c6
              try clear p6
              try clear q6
              try clear hx6
              try clear c7
              try clear c8
              try clear c10
              try clear c10b0
              try clear c10b1
              try clear c11
              try clear c11b0
              try clear c11b1
              try clear p12
              try clear q12
              try clear hx12
              try clear qi12
              try clear c13
              try clear c14
              try clear c15
              try clear c18
              try clear c18b0
              try clear c19
              try clear c19b0
              try clear p20
              try clear q20
              try clear hx20
              try clear c21
              try clear c23
              try clear c23b0
              try clear c26
              try clear c27
              try clear c29
              try clear c31
              try clear c32
              try clear c35
              try clear c36
              try clear c38
              try clear c43
              try clear c46
              try clear c47
              try clear c49
              try clear c54
              try clear c54b0
              try clear c55
              try clear c58
              try clear c58b0
              try clear c60
              try clear c60b0
              try clear p61
              try clear q61
              try clear hx61
              try clear c63
              try clear c64
              try clear p64
              try clear c67
              try clear c70
              try clear c71
              try clear c73
              try clear c77
              try clear c78
              try clear c80
              try clear hcz15_0 hcz15_1 hcz15_2 hcz15_3
              try clear hcz16_0 hcz16_1 hcz16_2 hcz16_3
              try clear hcz28_0 hcz28_1
              try clear hcz30_0 hcz30_1 hcz30_2 hcz30_3
              try clear hcz37_0 hcz37_1
              try clear hcz39_0 hcz39_1 hcz39_2 hcz39_3
              try clear hcz42_0 hcz42_1 hcz42_2 hcz42_3
              try clear hcz48_0 hcz48_1
              try clear hcz4_0 hcz4_1 hcz4_2 hcz4_3
              try clear hcz50_0 hcz50_1 hcz50_2 hcz50_3
              try clear hcz53_0 hcz53_1 hcz53_2 hcz53_3
              try clear hcz56_0 hcz56_1 hcz56_2 hcz56_3
              try clear hcz65_0 hcz65_1 hcz65_2 hcz65_3
              try clear hcz72_0 hcz72_1
              try clear hcz74_0 hcz74_1 hcz74_2 hcz74_3
              try clear hcz79_0 hcz79_1
              try clear hcz81_0 hcz81_1 hcz81_2 hcz81_3
              try clear hcz9_0 hcz9_1 hcz9_2 hcz9_3
              try clear hfz15_0 hfz15_1 hfz15_2 hfz15_3
              try clear hfz16_0 hfz16_1 hfz16_2 hfz16_3
              try clear hfz28_0 hfz28_1
              try clear hfz30_0 hfz30_1 hfz30_2 hfz30_3
              try clear hfz37_0 hfz37_1
              try clear hfz39_0 hfz39_1 hfz39_2 hfz39_3
              try clear hfz42_0 hfz42_1 hfz42_2 hfz42_3
              try clear hfz48_0 hfz48_1
              try clear hfz4_0 hfz4_1 hfz4_2 hfz4_3
              try clear hfz50_0 hfz50_1 hfz50_2 hfz50_3
              try clear hfz53_0 hfz53_1 hfz53_2 hfz53_3
              try clear hfz56_0 hfz56_1 hfz56_2 hfz56_3
              try clear hfz65_0 hfz65_1 hfz65_2 hfz65_3
              try clear hfz72_0 hfz72_1
              try clear hfz74_0 hfz74_1 hfz74_2 hfz74_3
              try clear hfz79_0 hfz79_1
              try clear hfz81_0 hfz81_1 hfz81_2 hfz81_3
              try clear hfz9_0 hfz9_1 hfz9_2 hfz9_3
              try clear p1
              try clear p12
              try clear p2
              try clear p20
              try clear p6
              try clear p61
              try clear q1
              try clear q12
              try clear q2
              try clear q20
              try clear q6
              try clear q61
              obtain ⟨kq, x5_61, x6_61, x103001_61, x103002_61, x103003_61, rfl, rfl, HA, HJ61, HO_103000, BK101, BK102, HB⟩ := hcut
              cases kq with
              | zero => exact absurd HA.out (by simp [arbiterref02_ParseDesc.j4])
              | succ kj61 =>
               have H := HA.out; clear HA; simp only [arbiterref02_ParseDesc.j4] at H
               by_cases c82 : x6_61 = (a0.size : Int)
               ·rw [if_pos c82] at H
                have c82b0 : (x6_61 == (a0.size : Int)) = true := beq_iff_eq.mpr c82; have c82b1 : (x6_61 != (a0.size : Int)) = false := bne_eq_false_iff_eq.mpr c82; clear c82
                by_cases c83 : x5_61 = true
                ·subst c83
                 have H1 : (some (([] : List (S24)), false, 0, (⟨#[]⟩ : ByteArray), 5)) = some (r1, r2, r3, r4, r5) := by rw [if_pos rfl] at H; exact H
                 clear H; have H := H1; clear H1; simp only [Option.some.injEq, Prod.mk.injEq] at H; obtain ⟨rfl, rfl, rfl, rfl, rfl⟩ := H; have hnb84 := NB101_102.out; have hnc84 := NB102_101.out; obtain ⟨hcz85_0, hcz85_1, hcz85_2, hcz85_3, hfz85_0, hfz85_1, hfz85_2, hfz85_3⟩ := c4X BK101; go_wp2; refine bodyPost_ret (results_ct rfl _ _ gb101 172 #[.slice none 0 0, .bool false, .int .i64 0, .string (⟨#[]⟩ : ByteArray)] (0, 0) _ rfl (by (with_reducible repeat (first | refine blk_drewN ?_ _ | refine blk_drew ?_ | refine blk_alloc ?_ _)); refine blk_put (cs := #[.slice none 0 0, .bool false, .int .i64 0, .string x102003_2]) ?_ 3 _ rfl; (with_reducible repeat (first | refine blk_drewN ?_ _ | refine blk_drew ?_ | refine blk_alloc ?_ _)); refine blk_put (cs := #[.slice none 0 0, .bool false, .int .i64 x102002_2, .string x102003_2]) ?_ 2 _ rfl; (with_reducible repeat (first | refine blk_drewN ?_ _ | refine blk_drew ?_ | refine blk_alloc ?_ _)); refine blk_put (cs := #[.slice none 0 0, .bool x102001_2, .int .i64 x102002_2, .string x102003_2]) ?_ 1 _ rfl; (with_reducible repeat (first | refine blk_drewN ?_ _ | refine blk_drew ?_ | refine blk_alloc ?_ _)); refine blk_put (cs := #[.slice none 0 0, .bool x102001_2, .int .i64 x102002_2, .string x102003_2]) ?_ 0 _ rfl; (with_reducible repeat (first | refine blk_drewN ?_ _ | refine blk_drew ?_ | refine blk_alloc ?_ _)); exact BK101.out) Tryz.underlying172 rfl (by kernel_rfl)) rfl ?_
                 exact ⟨_, by first | rfl | (simp [errW_none, errW_some] <;> rfl) | (simp [*, errW_none, errW_some] <;> rfl), by first | exact Kd.R_nil _ _ _ _ _ | exact Kd.N_nil _ _ _ _ _ | exact Kd.V_nil _ _ _ _ _ | exact Kd.Q_nil _ _ _ _ _ | exact Kd.S_nil _ _ _ _ _, bX2 HB GE101 GE102⟩
                ·replace c83 := Bool.eq_false_iff.mpr c83
                 subst c83
                 have H1 : (if (x103000_2.length : Int) > 20 then (some (([] : List (S24)), false, 0, (⟨#[]⟩ : ByteArray), 5)) else (some (x103000_2, x103001_61, x103002_61, x103003_61, 0))) = some (r1, r2, r3, r4, r5) := by rw [if_neg (show ¬ (false = true) by decide)] at H; exact H
                 clear H; have H := H1; clear H1
                 by_cases c86 : (x103000_2.length : Int) > 20
                 ·rw [if_pos c86] at H
                  have c86b0 : decide (20 < (x103000_2.length : Int)) = true := decide_eq_true c86; have c86b1 : decide (20 < x103000_2.length) = true := decide_eq_true (by omega); clear c86; simp only [Option.some.injEq, Prod.mk.injEq] at H; obtain ⟨rfl, rfl, rfl, rfl, rfl⟩ := H; have hnb87 := NB102_101.out; have hnc87 := NB101_102.out; obtain ⟨hcz88_0, hcz88_1, hcz88_2, hcz88_3, hfz88_0, hfz88_1, hfz88_2, hfz88_3⟩ := c4X BK102; obtain ⟨Ao89, co89, eo89⟩ := Kd.R_slice HO_103000.out; subst eo89; obtain ⟨hcz90_0, hcz90_1, hcz90_2, hcz90_3, hfz90_0, hfz90_1, hfz90_2, hfz90_3⟩ := c4X BK101; go_wp2; refine bodyPost_ret (results_ct rfl _ _ gb101 172 #[.slice none 0 0, .bool false, .int .i64 0, .string (⟨#[]⟩ : ByteArray)] (0, 0) _ rfl (by (with_reducible repeat (first | refine blk_drewN ?_ _ | refine blk_drew ?_ | refine blk_alloc ?_ _)); refine blk_put (cs := #[.slice none 0 0, .bool false, .int .i64 0, .string x102003_2]) ?_ 3 _ rfl; (with_reducible repeat (first | refine blk_drewN ?_ _ | refine blk_drew ?_ | refine blk_alloc ?_ _)); refine blk_put (cs := #[.slice none 0 0, .bool false, .int .i64 x102002_2, .string x102003_2]) ?_ 2 _ rfl; (with_reducible repeat (first | refine blk_drewN ?_ _ | refine blk_drew ?_ | refine blk_alloc ?_ _)); refine blk_put (cs := #[.slice none 0 0, .bool x102001_2, .int .i64 x102002_2, .string x102003_2]) ?_ 1 _ rfl; (with_reducible repeat (first | refine blk_drewN ?_ _ | refine blk_drew ?_ | refine blk_alloc ?_ _)); refine blk_put (cs := #[.slice none 0 0, .bool x102001_2, .int .i64 x102002_2, .string x102003_2]) ?_ 0 _ rfl; (with_reducible repeat (first | refine blk_drewN ?_ _ | refine blk_drew ?_ | refine blk_alloc ?_ _)); exact BK101.out) Tryz.underlying172 rfl (by kernel_rfl)) rfl ?_
                  exact ⟨_, by first | rfl | (simp [errW_none, errW_some] <;> rfl) | (simp [*, errW_none, errW_some] <;> rfl), by first | exact Kd.R_nil _ _ _ _ _ | exact Kd.N_nil _ _ _ _ _ | exact Kd.V_nil _ _ _ _ _ | exact Kd.Q_nil _ _ _ _ _ | exact Kd.S_nil _ _ _ _ _, bX2 HB GE101 GE102⟩
                 ·rw [if_neg c86] at H
                  have c86b0 : decide (20 < (x103000_2.length : Int)) = false := decide_eq_false c86; have c86b1 : decide (20 < x103000_2.length) = false := decide_eq_false (by omega); clear c86; simp only [Option.some.injEq, Prod.mk.injEq] at H; obtain ⟨rfl, rfl, rfl, rfl, rfl⟩ := H; have hnb91 := NB102_101.out; have hnc91 := NB101_102.out; obtain ⟨hcz92_0, hcz92_1, hcz92_2, hcz92_3, hfz92_0, hfz92_1, hfz92_2, hfz92_3⟩ := c4X BK102; obtain ⟨Ao93, co93, eo93⟩ := Kd.R_slice HO_103000.out; subst eo93; obtain ⟨hcz94_0, hcz94_1, hcz94_2, hcz94_3, hfz94_0, hfz94_1, hfz94_2, hfz94_3⟩ := c4X BK101; go_wp2; refine bodyPost_ret (results_ct rfl _ _ gb101 172 #[.slice Ao93 x103000_2.length co93, .bool x103001_61, .int .i64 x103002_61, .string x103003_61] (0, 0) _ rfl (by (with_reducible repeat (first | refine blk_drewN ?_ _ | refine blk_drew ?_ | refine blk_alloc ?_ _)); refine blk_put (cs := #[.slice Ao93 x103000_2.length co93, .bool x103001_61, .int .i64 x103002_61, .string x102003_2]) ?_ 3 _ rfl; (with_reducible repeat (first | refine blk_drewN ?_ _ | refine blk_drew ?_ | refine blk_alloc ?_ _)); refine blk_put (cs := #[.slice Ao93 x103000_2.length co93, .bool x103001_61, .int .i64 x102002_2, .string x102003_2]) ?_ 2 _ rfl; (with_reducible repeat (first | refine blk_drewN ?_ _ | refine blk_drew ?_ | refine blk_alloc ?_ _)); refine blk_put (cs := #[.slice Ao93 x103000_2.length co93, .bool x102001_2, .int .i64 x102002_2, .string x102003_2]) ?_ 1 _ rfl; (with_reducible repeat (first | refine blk_drewN ?_ _ | refine blk_drew ?_ | refine blk_alloc ?_ _)); refine blk_put (cs := #[.slice none 0 0, .bool x102001_2, .int .i64 x102002_2, .string x102003_2]) ?_ 0 _ rfl; (with_reducible repeat (first | refine blk_drewN ?_ _ | refine blk_drew ?_ | refine blk_alloc ?_ _)); exact BK101.out) Tryz.underlying172 rfl (by kernel_rfl)) rfl ?_
                  exact ⟨_, by first | rfl | (simp [errW_none, errW_some] <;> rfl) | (simp [*, errW_none, errW_some] <;> rfl), by (with_reducible repeat (first | apply Kd.R_alloc | apply Kd.R_drewN | apply Kd.R_drew)); exact Kd.R_mono (Kd.R_far (p := ⟨gb101, 3, none⟩) (Kd.R_far (p := ⟨gb101, 2, none⟩) (Kd.R_far (p := ⟨gb101, 1, none⟩) (Kd.R_far (p := ⟨gb101, 0, none⟩) (Kd.R_types HO_103000.out BK101.out (by decide)) (fun _ hk => hk.2) (.slice Ao93 x103000_2.length co93)) (fun _ hk => hk.2) (.bool x103001_61)) (fun _ hk => hk.2) (.int .i64 x103002_61)) (fun _ hk => hk.2) (.string x103003_61)) (fun _ hk => trivial), bX2 HB GE101 GE102⟩
               ·rw [if_neg c82] at H
                have c82b0 : (x6_61 == (a0.size : Int)) = false := beq_eq_false_iff_ne.mpr c82; have c82b1 : (x6_61 != (a0.size : Int)) = true := bne_iff_ne.mpr c82; simp only [Option.some.injEq, Prod.mk.injEq] at H; obtain ⟨rfl, rfl, rfl, rfl, rfl⟩ := H; have hnb95 := NB101_102.out; have hnc95 := NB102_101.out; obtain ⟨hcz96_0, hcz96_1, hcz96_2, hcz96_3, hfz96_0, hfz96_1, hfz96_2, hfz96_3⟩ := c4X BK101; go_wp2; refine bodyPost_ret (results_ct rfl _ _ gb101 172 #[.slice none 0 0, .bool false, .int .i64 0, .string (⟨#[]⟩ : ByteArray)] (0, 0) _ rfl (by (with_reducible repeat (first | refine blk_drewN ?_ _ | refine blk_drew ?_ | refine blk_alloc ?_ _)); refine blk_put (cs := #[.slice none 0 0, .bool false, .int .i64 0, .string x102003_2]) ?_ 3 _ rfl; (with_reducible repeat (first | refine blk_drewN ?_ _ | refine blk_drew ?_ | refine blk_alloc ?_ _)); refine blk_put (cs := #[.slice none 0 0, .bool false, .int .i64 x102002_2, .string x102003_2]) ?_ 2 _ rfl; (with_reducible repeat (first | refine blk_drewN ?_ _ | refine blk_drew ?_ | refine blk_alloc ?_ _)); refine blk_put (cs := #[.slice none 0 0, .bool x102001_2, .int .i64 x102002_2, .string x102003_2]) ?_ 1 _ rfl; (with_reducible repeat (first | refine blk_drewN ?_ _ | refine blk_drew ?_ | refine blk_alloc ?_ _)); refine blk_put (cs := #[.slice none 0 0, .bool x102001_2, .int .i64 x102002_2, .string x102003_2]) ?_ 0 _ rfl; (with_reducible repeat (first | refine blk_drewN ?_ _ | refine blk_drew ?_ | refine blk_alloc ?_ _)); exact BK101.out) Tryz.underlying172 rfl (by kernel_rfl)) rfl ?_
                exact ⟨_, by first | rfl | (simp [errW_none, errW_some] <;> rfl) | (simp [*, errW_none, errW_some] <;> rfl), by first | exact Kd.R_nil _ _ _ _ _ | exact Kd.N_nil _ _ _ _ _ | exact Kd.V_nil _ _ _ _ _ | exact Kd.Q_nil _ _ _ _ _ | exact Kd.S_nil _ _ _ _ _, bX2 HB GE101 GE102⟩
end Go.Proofs.YtaipkdglhfhhiaaGreatDoor.Pt

namespace Go.Proofs.YtaipkdglhfhhiaaGreatDoor.Pt
open Go Go.RowKit Go.Proofs.YtaipkdglhfhhiaaGreatDoor.Nm Go.Proofs.YtaipkdglhfhhiaaGreatDoor.Ty Go.Proofs.YtaipkdglhfhhiaaGreatDoorW.PrintWords
set_option linter.unusedVariables false
set_option linter.unusedSimpArgs false
theorem wrap_small' {i : Int} (h0 : -9223372036854775808 ≤ i) (h : i ≤ 9223372036854775807) : wrap64 i = i := by
 unfold wrap64
 omega
theorem bs_at (L : List UInt8) (n : Nat) (h : n < L.length) : ∃ x, L.drop n = x :: L.drop (n + 1) ∧ Go.Proofs.YtaipkdglhfhhiaaGreatDoorW.PrintWords.bt (bs L) (n : Int) = (x.toNat : Int) := by
 obtain ⟨x, hx, hb⟩ := drop_at L n h; refine ⟨x, hx, ?_⟩
 have h' : n < (bs L).size := by rw [mk_size]; exact h
 have e := Go.Proofs.YtaipkdglhfhhiaaGreatDoor.Nm.bt_at (bs L) n h'; unfold Go.Proofs.YtaipkdglhfhhiaaGreatDoorW.PrintWords.bt; simp only [Int.toNat_natCast]; rw [dif_pos h', e]
 exact hb
theorem u8_iff (x : UInt8) (n : Nat) (hn : n < 256) : ((x.toNat : Int) = n) ↔ x = UInt8.ofNat n := by
 constructor
 ·exact u8_ne hn
 ·rintro rfl
  simp
  omega
theorem j4_ok (L : List UInt8) (k : Nat) (wide : Bool) (p : Int) (ts : List (Nat × List UInt8)) (vo : Bool) (d : Int) (nm : ByteArray) (r : List UInt8) (hp : p = (L.length : Int) ↔ r = []) :
  arbiterref02_ParseDesc.j4 (k + 1) (bs L) wide p (ts.map toS) vo d nm = some (tup5 (descEnd ⟨ts, vo, d, nm.data.toList⟩ wide r)) := by
 simp only [arbiterref02_ParseDesc.j4]; rw [mk_size]
 by_cases hr : r = []
 ·rw [if_pos (hp.2 hr)]
  have e : descEnd ⟨ts, vo, d, nm.data.toList⟩ wide r = if wide || decide (20 < ts.length) then (.zero, 5) else (⟨ts, vo, d, nm.data.toList⟩, 0) := by
   unfold descEnd; rw [if_neg (fun h => h hr)]
  rw [e, List.length_map]
  cases wide
  ·rw [if_neg (show ¬ false = true by decide), Bool.false_or]
   by_cases h20 : 20 < ts.length
   ·rw [if_pos (show (ts.length : Int) > 20 by omega), if_pos (show decide (20 < ts.length) = true from decide_eq_true h20)]; rfl
   ·rw [if_neg (show ¬ (ts.length : Int) > 20 by omega), if_neg (show ¬ decide (20 < ts.length) = true by simp [h20])]
    simp only [tup5, mk_data]
  ·rw [if_pos rfl, Bool.true_or, if_pos rfl]; rfl
 ·have e : descEnd ⟨ts, vo, d, nm.data.toList⟩ wide r = (.zero, 4) := by
   unfold descEnd; rw [if_pos hr]
  rw [if_neg (fun h => hr (hp.1 h)), e]; rfl
theorem read_f (L : List UInt8) (hL : L.length ≤ 2000) (n : Nat) (hn : n ≤ L.length) : arbiterref02_read.f (bs L) n = some (tup3 (readF L n)) := by
 unfold arbiterref02_read.f; rw [mk_size, Int.toNat_natCast, mk_toList, if_pos ⟨by omega, hn, by omega⟩]
theorem j3_ok (L : List UInt8) (hL : L.length ≤ 2000) (k n : Nat) (hn : n ≤ L.length) (ts : List (Nat × List UInt8)) :
  arbiterref02_ParseDesc.j3 (k + 2) (bs L) (wideL ts) n (took (L.drop n) 86) (ts.map toS) false 0 ⟨#[]⟩ = some (tup5 (descRet ts (L.drop n))) := by
 rw [show k + 2 = (k + 1) + 1 from rfl]; simp only [arbiterref02_ParseDesc.j3]; unfold descRet
 cases h86 : took (L.drop n) 86
 ·rw [if_neg (by decide), if_neg (by decide), read_f L hL n hn, Option.bind_some]
  cases hr : (rd (L.drop n)).rest with
  | none =>
   have hp : (readF L n).2.2 = -1 := by unfold readF; rw [hr]
   simp only [tup3, hp]
   have E : ∀ (wd : Bool) (d : Int) (nm : ByteArray), arbiterref02_ParseDesc.j4 (k + 1) (bs L) wd (-1) (ts.map toS) false d nm = some (tup5 (.zero, 4)) := by
    intro wd d nm; rw [j4_ok L k wd (-1) ts false d nm [0] (by constructor <;> intro h <;> first | omega | cases h)]
    rfl
   split <;> exact E _ _ _
  | some r =>
   obtain ⟨m, hm, h1, h2, h3⟩ := place_drop L n hn r hr
   have hp : (readF L n).2.2 = m := by unfold readF; rw [hr]; exact hm
   have hn2 : (readF L n).2.1 = (rd (L.drop n)).name := by unfold readF; exact rdNm_name _ _ hr
   have hn1 : (readF L n).1 = (rd (L.drop n)).dims := by unfold readF; rw [rd_dims]
   simp only [tup3, hp, hn1, hn2]
   have hrr : ((m : Int) = (L.length : Int)) ↔ r = [] := by
    rw [← h3, List.drop_eq_nil_iff]
    omega
   have E : ∀ wd : Bool, arbiterref02_ParseDesc.j4 (k + 1) (bs L) wd m (ts.map toS) false (rd (L.drop n)).dims (bs (rd (L.drop n)).name) = some (tup5 (descEnd ⟨ts, false, (rd (L.drop n)).dims, (rd (L.drop n)).name⟩ wd r)) := by
    intro wd; rw [j4_ok L k wd m ts false _ _ r hrr, mk_toList]
   rw [E, E]
   cases wideL ts
   ·rw [if_neg (by decide)]
    simp only [Bool.false_or]; rw [show decide (((rd (L.drop n)).dims : Int) > 255) = decide (255 < (rd (L.drop n)).dims) from by by_cases h : 255 < (rd (L.drop n)).dims <;> simp [h] <;> omega]
   ·rw [if_pos rfl, Bool.true_or]
 ·rw [if_pos rfl, if_pos rfl]
  have hne : L.drop n ≠ [] := by intro h; rw [h] at h86; cases h86
  have hlt : n < L.length := by
   rw [ne_eq, List.drop_eq_nil_iff] at hne
   omega
  rw [wrap_small' (by omega) (by omega)]; refine j4_ok L k (wideL ts) _ ts true 0 ⟨#[]⟩ _ ?_; rw [List.tail_drop, List.drop_eq_nil_iff]
  omega
theorem l0_ok (L : List UInt8) (hL : L.length ≤ 2000) (m : Nat) : ∀ (n : Nat) (ts : List (Nat × List UInt8)) (k : Nat), n ≤ L.length → L.length - n < m → ts.length + (L.length - n) ≤ 2000 → 2 * m + 4 ≤ k →
  arbiterref02_ParseDesc.l0 k (bs L) (wideL ts) n (ts.map toS) false 0 ⟨#[]⟩ = some (tup5 (descOf (prep ts (rdArgs m (L.drop n))))) := by
 induction m with
 | zero => intro n ts k _ h; omega
 | succ m ih =>
  intro n ts k hn hm hts hk
  obtain ⟨k, rfl⟩ : ∃ j, k = j + 1 + 1 + 2 := ⟨k - 4, by omega⟩
  rw [show k + 1 + 1 + 2 = (k + 1 + 2) + 1 from rfl]; simp only [arbiterref02_ParseDesc.l0]; rw [mk_size]
  by_cases hlt : n < L.length
  ·obtain ⟨x, hx, hb⟩ := bs_at L n hlt
   rw [if_pos (by omega), if_pos (by omega), hb]; rw [show k + 1 + 2 = (k + 2) + 1 from rfl]; simp only [arbiterref02_ParseDesc.j2]
   by_cases h41 : x = 41
   ·have ht : took (L.drop n) 41 = true := by rw [hx, took_cons]; simp [h41]
    rw [rdArgs_close m _ ts ht]; rw [if_neg (by rw [h41]; decide), mk_size, if_neg (by omega)]; rw [wrap_small' (by omega) (by omega)]
    show _ = some (tup5 (descRet ts (L.drop n).tail))
    rw [List.tail_drop]; rw [← j3_ok L hL k (n + 1) (by omega) ts]
    by_cases h2 : n + 1 < L.length
    ·obtain ⟨y, hy, hby⟩ := bs_at L (n + 1) h2
     rw [if_pos (by omega), if_pos (by omega)]
     have e : (Go.Proofs.YtaipkdglhfhhiaaGreatDoorW.PrintWords.bt (bs L) ((n : Int) + 1) == 86) = took (L.drop (n + 1)) 86 := by
      rw [show (n : Int) + 1 = ((n + 1 : Nat) : Int) from by omega, hby, hy, took_cons]; rw [Bool.eq_iff_iff, beq_iff_eq, decide_eq_true_iff]
      exact u8_iff y 86 (by decide)
     rw [e]; rfl
    ·rw [if_neg (by omega)]
     have e : took (L.drop (n + 1)) 86 = false := by rw [List.drop_eq_nil_of_le (by omega)]; rfl
     rw [e]; rfl
   ·have ht : took (L.drop n) 41 = false := by rw [hx, took_cons]; simp [h41]
    have hne : ((x.toNat : Int) != 41) = true := by
     rw [bne_iff_ne]
     exact fun h => h41 (u8_ne (n := 41) (by decide) h)
    rw [if_pos hne, read_f L hL n hn, Option.bind_some]
    cases hr : (rd (L.drop n)).rest with
    | none =>
     have hp : (readF L n).2.2 = -1 := by unfold readF; rw [hr]
     simp only [tup3, hp]; rw [if_pos (by decide), rdArgs_fail m _ ts ht hr]
     rfl
    | some r =>
     obtain ⟨p, hp0, h1, h2, h3⟩ := place_drop L n hn r hr
     have hp : (readF L n).2.2 = p := by unfold readF; rw [hr]; exact hp0
     have hn2 : (readF L n).2.1 = (rd (L.drop n)).name := by unfold readF; exact rdNm_name _ _ hr
     have hn1 : (readF L n).1 = (rd (L.drop n)).dims := by unfold readF; rw [rd_dims]
     simp only [tup3, hp, hn1, hn2]; rw [if_neg (show ¬ (p : Int) < 0 by omega), List.length_map]; rw [rdArgs_step m _ r ts ht hr, ← h3]; have I := ih p (ts ++ [((rd (L.drop n)).dims, (rd (L.drop n)).name)]) (k + 2) h2 (by omega) (by simp; omega) (by omega); rw [wideL_snoc, List.map_append, List.map_cons, List.map_nil, toS] at I; rw [← I]
     have hlen : ts.length < 5864062014805 := by omega
     cases wideL ts
     ·rw [if_neg (show ¬ false = true by decide), if_pos hlen]
      simp only [Bool.false_or]; rw [show decide (((rd (L.drop n)).dims : Int) > 255) = decide (255 < (rd (L.drop n)).dims) from by by_cases h : 255 < (rd (L.drop n)).dims <;> simp [h] <;> omega]
     ·rw [if_pos rfl, if_pos hlen, Bool.true_or]
  ·obtain rfl : n = L.length := by omega
   rw [if_neg (by omega), List.drop_length]; rw [show k + 1 + 2 = (k + 2) + 1 from rfl]; simp only [arbiterref02_ParseDesc.j2]; rw [if_neg (by decide), mk_size, if_pos (by omega)]; have : prep ts (rdArgs (m + 1) []) = none := rdArgs_fail m [] ts rfl rfl; rw [this]
   rfl
theorem pdesc_f (a0 : ByteArray) (k : Nat) (hk : 5000 ≤ k) : arbiterref02_ParseDesc.f k a0 = some (tup5 (parseD a0.data.toList)) := by
 obtain ⟨L, rfl⟩ : ∃ L, a0 = bs L := ⟨a0.data.toList, (mk_data a0).symm⟩
 rw [mk_toList]; unfold arbiterref02_ParseDesc.f; rw [mk_size]
 by_cases hbig : 2000 < L.length
 ·rw [if_pos (by omega), parseD_big L hbig]; rfl
 ·rw [if_neg (by omega)]
  obtain ⟨k, rfl⟩ : ∃ j, k = j + 1 := ⟨k - 1, by omega⟩
  cases L with
  | nil =>
   rw [if_pos (show (([] : List UInt8).length : Int) = 0 from rfl), parseD_not [] hbig rfl]; simp only [arbiterref02_ParseDesc.j0]; rw [if_pos trivial]; rfl
  | cons x l =>
   obtain ⟨y, hy, hby⟩ := bs_at (x :: l) 0 (by simp); rw [if_neg (show ¬ (((x :: l).length : Int) = 0) by simp only [List.length_cons]; omega), if_pos (show 0 < ((x :: l).length : Int) by simp only [List.length_cons]; omega)]; have hby' : Go.Proofs.YtaipkdglhfhhiaaGreatDoorW.PrintWords.bt (bs (x :: l)) 0 = (y.toNat : Int) := hby
   obtain rfl : x = y := by simp at hy; exact hy
   rw [hby']; simp only [arbiterref02_ParseDesc.j0]
   by_cases h40 : x = 40
   ·have ht : took (x :: l) 40 = true := by rw [took_cons]; simp [h40]
    rw [if_neg (by rw [h40]; decide), parseD_args _ hbig ht]; simp only [List.length_cons] at hbig ⊢; have I := l0_ok (x :: l) (by simp; omega) ((x :: l).length + 1) 1 [] k (by simp) (by simp only [List.length_cons]; omega) (by simp; omega) (by simp only [List.length_cons]; omega); rw [prep_nil] at I
    exact I
   ·have ht : took (x :: l) 40 = false := by rw [took_cons]; simp [h40]
    have hne : ((x.toNat : Int) != 40) = true := by
     rw [bne_iff_ne]
     exact fun h => h40 (u8_ne (n := 40) (by decide) h)
    rw [if_pos hne, parseD_not _ hbig ht]; rfl
end Go.Proofs.YtaipkdglhfhhiaaGreatDoor.Pt

namespace Go.Proofs.YtaipkdglhfhhiaaGreatDoor.Pt
open Go.RowKit Go.Proofs.YtaipkdglhfhhiaaGreatDoorW.PrintWords Go.Proofs.YtaipkdglhfhhiaaGreatDoorW.PrintLast Go.Proofs.YtaipkdglhfhhiaaGreatDoorW.PrintMore
attribute [local go_sem] max2_int min2_int max_two min_two max_three min_three max_four min_four   -- for this text's walks alone
set_option linter.unusedVariables false
set_option linter.unusedSimpArgs false
def arbiterref06_named.l0 : Nat → List S85 → ByteArray → Int → Option (Int)
 | 0, _, _, _ => none
 | k + 1, x0, x1, x5 => if x5 < (x0.length : Int) then (if 0 ≤ x5 then (if ((rd_T85 x0 x5).f0).toList = x1.toList then (some x5) else (arbiterref06_named.l0 k x0 x1 (wrap64 (x5 + 1)))) else (none)) else (some (-1))
def arbiterref06_named.f (k : Nat) (a0 : List S85) (a1 : ByteArray) : Option (Int) := arbiterref06_named.l0 k a0 a1 0
set_option maxHeartbeats 8000000 in
set_option maxRecDepth 100000 in
theorem arbiterref06_named.calls (k : Nat) (G_ : Nat) (a0 : List S85) (a1 : ByteArray) (r : Int) (w : World) (hq0 : ROK w G_ a0) (h : arbiterref06_named.f k a0 a1 = some r) :
  Calls Tryz.prog 91 #[.pointer (some ⟨G_, 0, none⟩), .string a1] w fun e w' => e = .returned (.int .i64 r) ∧ Drawn0 w w' := by
 obtain ⟨AQa0, cQa0, hp0, hrq0, hcq0⟩ := ROK.open hq0; have HPa0 := Aside0.mk hp0; have HRqa0 := Aside0.mk hrq0; have HCqa0 := Aside0.mk hcq0; clear hp0 hrq0 hcq0; have HQa0 := Aside0.mk hq0; clear hq0; have H : (arbiterref06_named.l0 k a0 a1 0) = some r := h; clear h; have H' := Aside0.mk H; clear H; go_enter Tryz.func91, Tryz.ntmps91; go_wp2
 go_loopg [5] k (fun kq v5 w' => ∃ (x5_1 : Int), v5 = .int .i64 x5_1 ∧ Aside0 (arbiterref06_named.l0 kq a0 a1 x5_1 = some r) ∧ Aside0 (kq ≤ k) ∧ Drawn0 w w')
 case atStart => exact ⟨(0), vX, H', ⟨Nat.le_refl _⟩, by repeat (first | exact Drawn0.refl _ | apply Drawn0.step)⟩
 case round =>
  clear H'
  try clear p2
  obtain ⟨x5_1, rfl, HA, HK1, ⟨m1, rfl⟩⟩ := hrel
  cases gk with
  | zero => exact absurd HA.out (by simp [arbiterref06_named.l0])
  | succ k1 =>
   have H := HA.out; clear HA; simp only [arbiterref06_named.l0] at H
   by_cases c3 : x5_1 < (a0.length : Int)
   ·rw [if_pos c3] at H
    have c3b0 : decide (x5_1 < (a0.length : Int)) = true := decide_eq_true c3; clear c3
    by_cases c4 : 0 ≤ x5_1
    ·rw [if_pos c4] at H
     have c4b0 : decide (0 ≤ x5_1) = true := decide_eq_true c4; clear c4
     by_cases c5 : ((rd_T85 a0 x5_1).f0).toList = a1.toList
     ·rw [if_pos c5] at H
      have c5b0 : (((rd_T85 a0 x5_1).f0).toList == a1.toList) = true := beq_iff_eq.mpr c5; have c5b1 : (((rd_T85 a0 x5_1).f0).toList != a1.toList) = false := bne_eq_false_iff_eq.mpr c5; clear c5; obtain rfl := Option.some.inj H; have hcpq6 := HPa0.out; have hcpq7 := HPa0.out; have p154 : 0 ≤ (x5_1 : Int) := qX; have q154 : x5_1 < (a0.length : Int) := qX; obtain ⟨ad154, A154_2, c154_2, A154_5, c154_5, e154, hx154_0, hx154_1, hx154_2, hx154_3, hx154_4, hx154_5, hl154_2, hi154_2, hl154_5, hi154_5⟩ := at_T85 HRqa0.out x5_1 p154 q154
      cases e154
      have HR154_2 := Aside0.mk hi154_2; have HC154_2 := Aside0.mk hl154_2; clear hi154_2 hl154_2; have HR154_5 := Aside0.mk hi154_5; have HC154_5 := Aside0.mk hl154_5; clear hi154_5 hl154_5; replace p154 := eq_true p154; replace q154 := eq_true q154; go_wp2; go_ret
      exact ⟨by first | rfl | (simp; done) | (simp [*]; done), by repeat (first | exact Drawn0.refl _ | apply Drawn0.step)⟩
     ·rw [if_neg c5] at H
      have c5b0 : (((rd_T85 a0 x5_1).f0).toList == a1.toList) = false := beq_eq_false_iff_ne.mpr c5; have c5b1 : (((rd_T85 a0 x5_1).f0).toList != a1.toList) = true := bne_iff_ne.mpr c5; have H' := Aside0.mk H; clear H; have hcpq8 := HPa0.out; have hcpq9 := HPa0.out; have p154 : 0 ≤ (x5_1 : Int) := qX; have q154 : x5_1 < (a0.length : Int) := qX; obtain ⟨ad154, A154_2, c154_2, A154_5, c154_5, e154, hx154_0, hx154_1, hx154_2, hx154_3, hx154_4, hx154_5, hl154_2, hi154_2, hl154_5, hi154_5⟩ := at_T85 HRqa0.out x5_1 p154 q154
      cases e154
      have HR154_2 := Aside0.mk hi154_2; have HC154_2 := Aside0.mk hl154_2; clear hi154_2 hl154_2; have HR154_5 := Aside0.mk hi154_5; have HC154_5 := Aside0.mk hl154_5; clear hi154_5 hl154_5; replace p154 := eq_true p154; replace q154 := eq_true q154; go_wp2
      go_roundg k1
      case measure => have := HK1.out; omega
      case rel => exact ⟨(wrap64 (x5_1 + 1)), vX, H', ⟨by have := HK1.out; omega⟩, by repeat (first | exact Drawn0.refl _ | apply Drawn0.step)⟩
    ·rw [if_neg c4] at H
     exact absurd H (by simp)
   ·rw [if_neg c3] at H
    have c3b0 : decide (x5_1 < (a0.length : Int)) = false := decide_eq_false c3; clear c3; obtain rfl := Option.some.inj H; have hcpq10 := HPa0.out; go_wp2; go_ret
    exact ⟨by first | rfl | (simp; done) | (simp [*]; done), by repeat (first | exact Drawn0.refl _ | apply Drawn0.step)⟩
end Go.Proofs.YtaipkdglhfhhiaaGreatDoor.Pt

namespace Go.Proofs.YtaipkdglhfhhiaaGreatDoor.Pt
open Go.RowKit Go.Proofs.YtaipkdglhfhhiaaGreatDoorW.PrintWords Go.Proofs.YtaipkdglhfhhiaaGreatDoorW.PrintLast Go.Proofs.YtaipkdglhfhhiaaGreatDoorW.PrintMore
attribute [local go_sem] max2_int min2_int max_two min_two max_three min_three max_four min_four   -- for this text's walks alone
set_option linter.unusedVariables false
set_option linter.unusedSimpArgs false
def arbiterref06_In.f (a0 : List S85) (a1 : Int) : Option (Bool) := if a1 ≥ 0 then (some (decide (a1 < (a0.length : Int)))) else (some false)
set_option maxHeartbeats 8000000 in
set_option maxRecDepth 100000 in
theorem arbiterref06_In.calls (G_ : Nat) (a0 : List S85) (a1 : Int) (r : Bool) (w : World) (hq0 : ROK w G_ a0) (h : arbiterref06_In.f a0 a1 = some r) :
  Calls Tryz.prog 51 #[.pointer (some ⟨G_, 0, none⟩), .int .i64 a1] w fun e w' => e = .returned (.bool r) ∧ Drawn0 w w' := by
 obtain ⟨AQa0, cQa0, hp0, hrq0, hcq0⟩ := ROK.open hq0; have HPa0 := Aside0.mk hp0; have HRqa0 := Aside0.mk hrq0; have HCqa0 := Aside0.mk hcq0; clear hp0 hrq0 hcq0; have HQa0 := Aside0.mk hq0; clear hq0; have H : (if a1 ≥ 0 then (some (decide (a1 < (a0.length : Int)))) else (some false)) = some r := h; clear h
 by_cases c3 : a1 ≥ 0
 ·rw [if_pos c3] at H
  have c3b0 : decide (0 ≤ a1) = true := decide_eq_true c3; clear c3; obtain rfl := Option.some.inj H; have hcpq4 := HPa0.out; go_enter Tryz.func51, Tryz.ntmps51; go_wp2; go_ret
  exact ⟨by first | rfl | (simp; done) | (simp [*]; done), by repeat (first | exact Drawn0.refl _ | apply Drawn0.step)⟩
 ·rw [if_neg c3] at H
  have c3b0 : decide (0 ≤ a1) = false := decide_eq_false c3; clear c3; obtain rfl := Option.some.inj H; go_enter Tryz.func51, Tryz.ntmps51; go_wp2; go_ret
  exact ⟨by first | rfl | (simp; done) | (simp [*]; done), by repeat (first | exact Drawn0.refl _ | apply Drawn0.step)⟩
def arbiterref06_IsIface.f (a0 : List S85) (a1 : Int) : Option (Bool) := (arbiterref06_In.f a0 a1).bind fun t155 => (if t155 = true then (if 0 ≤ a1 then (if a1 < (a0.length : Int) then ((arbiterref03_Has.f ((rd_T85 a0 a1).f3) 512).bind fun t157 => (some t157)) else (none)) else (none)) else (some false))
set_option maxHeartbeats 8000000 in
set_option maxRecDepth 100000 in
theorem arbiterref06_IsIface.calls (G_ : Nat) (a0 : List S85) (a1 : Int) (r : Bool) (w : World) (hq0 : ROK w G_ a0) (h : arbiterref06_IsIface.f a0 a1 = some r) :
  Calls Tryz.prog 65 #[.pointer (some ⟨G_, 0, none⟩), .int .i64 a1] w fun e w' => e = .returned (.bool r) ∧ Below w.heap.size w w' := by
 obtain ⟨AQa0, cQa0, hp0, hrq0, hcq0⟩ := ROK.open hq0; have HPa0 := Aside0.mk hp0; have HRqa0 := Aside0.mk hrq0; have HCqa0 := Aside0.mk hcq0; clear hp0 hrq0 hcq0; have HQa0 := Aside0.mk hq0; clear hq0; have HB := Aside0.mk (Below.refl w.heap.size w); have H : ((arbiterref06_In.f a0 a1).bind fun t155 => (if t155 = true then (if 0 ≤ a1 then (if a1 < (a0.length : Int) then ((arbiterref03_Has.f ((rd_T85 a0 a1).f3) 512).bind fun t157 => (some t157)) else (none)) else (none)) else (some false))) = some r := h; clear h; replace H := Option.bind_eq_some_iff.mp H; obtain ⟨t155, A30, H⟩ := H; replace H : (if t155 = true then (if 0 ≤ a1 then (if a1 < (a0.length : Int) then ((arbiterref03_Has.f ((rd_T85 a0 a1).f3) 512).bind fun t157 => (some t157)) else (none)) else (none)) else (some false)) = some r := H; have A3 := Aside0.mk A30; clear A30
 by_cases c4 : t155 = true
 ·subst c4
  have H1 : (if 0 ≤ a1 then (if a1 < (a0.length : Int) then ((arbiterref03_Has.f ((rd_T85 a0 a1).f3) 512).bind fun t157 => (some t157)) else (none)) else (none)) = some r := by rw [if_pos rfl] at H; exact H
  clear H; have H := H1; clear H1
  by_cases c5 : 0 ≤ a1
  ·rw [if_pos c5] at H
   have c5b0 : decide (0 ≤ a1) = true := decide_eq_true c5; clear c5
   by_cases c6 : a1 < (a0.length : Int)
   ·rw [if_pos c6] at H
    have c6b0 : decide (a1 < (a0.length : Int)) = true := decide_eq_true c6; clear c6; replace H := Option.bind_eq_some_iff.mp H; obtain ⟨t157, A70, H⟩ := H; replace H : (some t157) = some r := H; have A7 := Aside0.mk A70; clear A70; obtain rfl := Option.some.inj H; go_enter Tryz.func65, Tryz.ntmps65; go_wp2_with (first | ((with_reducible refine gate_callee (f := 51) rfl ?_); refine gX (some 7) Tryz.func51 #[.pointer (some ⟨G_, 0, none⟩), .int .i64 a1] ?_; (with_reducible refine (arbiterref06_In.calls G_ a0 a1 true _ ?side1 A3.out).mono ?_); (case side1 => repeat (first | (with_reducible exact HQa0.out) | (with_reducible refine ROK.alloc ?_ _) | (with_reducible refine ROK.drewN ?_ _) | (with_reducible refine ROK.drew ?_) | exact ROK.below HQa0.out HB.out | exact ROK.below HQa0.out (bX HB))); rintro e w' ⟨rfl, ⟨nd, rfl⟩⟩; refine ⟨_, rfl, ?_⟩; have hcpq8 := HPa0.out; have p156 : 0 ≤ (a1 : Int) := qX; have q156 : a1 < (a0.length : Int) := qX; obtain ⟨ad156, A156_2, c156_2, A156_5, c156_5, e156, hx156_0, hx156_1, hx156_2, hx156_3, hx156_4, hx156_5, hl156_2, hi156_2, hl156_5, hi156_5⟩ := at_T85 HRqa0.out a1 p156 q156; cases e156; have HR156_2 := Aside0.mk hi156_2; have HC156_2 := Aside0.mk hl156_2; clear hi156_2 hl156_2; have HR156_5 := Aside0.mk hi156_5; have HC156_5 := Aside0.mk hl156_5; clear hi156_5 hl156_5; replace p156 := eq_true p156; replace q156 := eq_true q156) | (go_at_call 53; (with_reducible refine (arbiterref03_Has.calls ((rd_T85 a0 a1).f3) 512 t157 _ A7.out).mono ?_); rintro e w9 ⟨rfl, hb⟩; have n0_ := Aside0.mk (below_step (bX HB) hb); clear HB; have HB := n0_; clear n0_; (try clear hb); (try clear hb2); (try clear hk); (try clear hi))); go_ret
    exact ⟨by first | rfl | (simp [errW_none, errW_some] <;> rfl) | (simp [*, errW_none, errW_some] <;> rfl), bX HB⟩
   ·rw [if_neg c6] at H
    exact absurd H (by simp)
  ·rw [if_neg c5] at H
   exact absurd H (by simp)
 ·replace c4 := Bool.eq_false_iff.mpr c4
  subst c4
  have H1 : (some false) = some r := by rw [if_neg (show ¬ (false = true) by decide)] at H; exact H
  clear H; have H := H1; clear H1; obtain rfl := Option.some.inj H; go_enter Tryz.func65, Tryz.ntmps65; go_wp2_with (first | ((with_reducible refine gate_callee (f := 51) rfl ?_); refine gX (some 7) Tryz.func51 #[.pointer (some ⟨G_, 0, none⟩), .int .i64 a1] ?_; (with_reducible refine (arbiterref06_In.calls G_ a0 a1 false _ ?side1 A3.out).mono ?_); (case side1 => repeat (first | (with_reducible exact HQa0.out) | (with_reducible refine ROK.alloc ?_ _) | (with_reducible refine ROK.drewN ?_ _) | (with_reducible refine ROK.drew ?_) | exact ROK.below HQa0.out HB.out | exact ROK.below HQa0.out (bX HB))); rintro e w' ⟨rfl, ⟨nd, rfl⟩⟩; refine ⟨_, rfl, ?_⟩)); go_ret
  exact ⟨by first | rfl | (simp [errW_none, errW_some] <;> rfl) | (simp [*, errW_none, errW_some] <;> rfl), bX HB⟩
def arbiterref06_together.f (a0_0 : ByteArray) (a0_1 : ByteArray) (l0_2 : List ByteArray) (a0_3 : Int) (a0_4 : Int) (l0_5 : List (S105)) (a1_0 : ByteArray) (a1_1 : ByteArray) (l1_2 : List ByteArray) (a1_3 : Int) (a1_4 : Int) (l1_5 : List (S105)) : Option (Bool) := if a0_4 = a1_4 then ((arbiterref01_Package.f a0_0).bind fun t160 => ((arbiterref01_Package.f a1_0).bind fun t161 => (some (t160.toList == t161.toList)))) else (some false)
def arbiterref06_together.T1 : Bool × List (List Nat × List Nat) := (true, [([], []), ([0], [0]), ([], []), ([2], [2]), ([1, 3], [1, 3]), ([4], [4]), ([5], [5]), ([6, 5], [5, 6]), ([7, 5, 5], [5, 7]), ([5], [5]), ([9, 5], [5, 9]), ([10, 8, 5], [5, 10]), ([8, 11, 5], [5, 8, 11]), ([5, 12], [5, 12]), ([13, 11, 0, 1, 2, 3, 4, 5, 6, 7, 8, 9, 10, 11, 12, 13], [13])])
def arbiterref06_together.B1 : List Nat := [0, 1, 0, 4, 15, 31, 63, 127, 255, 63, 575, 2047, 4095, 8191, 16383]
theorem arbiterref06_together.tab1 : rtab .any (opsOf Tryz.f96 1) = arbiterref06_together.T1 := by kernel_rfl
theorem arbiterref06_together.bits1 : waitsOk arbiterref06_together.T1.2 arbiterref06_together.B1 = true := by kernel_rfl
set_option maxHeartbeats 8000000 in
set_option maxRecDepth 100000 in
theorem arbiterref06_together.calls (a0_0 : ByteArray) (a0_1 : ByteArray) (A0_2 : Option Addr) (c0_2 : Nat) (l0_2 : List ByteArray) (a0_3 : Int) (a0_4 : Int) (A0_5 : Option Addr) (c0_5 : Nat) (l0_5 : List (S105)) (a1_0 : ByteArray) (a1_1 : ByteArray) (A1_2 : Option Addr) (c1_2 : Nat) (l1_2 : List ByteArray) (a1_3 : Int) (a1_4 : Int) (A1_5 : Option Addr) (c1_5 : Nat) (l1_5 : List (S105)) (r : Bool) (w : World) (hr0_2 : Kd.C Kd.string w A0_2 l0_2.length l0_2) (hc0_2 : l0_2.length ≤ c0_2) (hr0_5 : Kd.C k105 w A0_5 l0_5.length l0_5) (hc0_5 : l0_5.length ≤ c0_5) (hr1_2 : Kd.C Kd.string w A1_2 l1_2.length l1_2) (hc1_2 : l1_2.length ≤ c1_2) (hr1_5 : Kd.C k105 w A1_5 l1_5.length l1_5) (hc1_5 : l1_5.length ≤ c1_5) (h : arbiterref06_together.f a0_0 a0_1 l0_2 a0_3 a0_4 l0_5 a1_0 a1_1 l1_2 a1_3 a1_4 l1_5 = some r) :
  Calls Tryz.prog 96 #[.agg #[.string a0_0, .string a0_1, .slice A0_2 l0_2.length c0_2, .int .i64 a0_3, .int .i64 a0_4, .slice A0_5 l0_5.length c0_5], .agg #[.string a1_0, .string a1_1, .slice A1_2 l1_2.length c1_2, .int .i64 a1_3, .int .i64 a1_4, .slice A1_5 l1_5.length c1_5]] w fun e w' => e = .returned (.bool r) ∧ Below w.heap.size w w' := by
 have hu85 := Tryz.underlying85; have HR0_2 := Aside0.mk hr0_2; have HC0_2 := Aside0.mk hc0_2; clear hr0_2 hc0_2; have HR0_5 := Aside0.mk hr0_5; have HC0_5 := Aside0.mk hc0_5; clear hr0_5 hc0_5; have HR1_2 := Aside0.mk hr1_2; have HC1_2 := Aside0.mk hc1_2; clear hr1_2 hc1_2; have HR1_5 := Aside0.mk hr1_5; have HC1_5 := Aside0.mk hc1_5; clear hr1_5 hc1_5; have HB := Aside0.mk (Below.refl w.heap.size w); have H : (if a0_4 = a1_4 then ((arbiterref01_Package.f a0_0).bind fun t160 => ((arbiterref01_Package.f a1_0).bind fun t161 => (some (t160.toList == t161.toList)))) else (some false)) = some r := h; clear h
 by_cases c3 : a0_4 = a1_4
 ·rw [if_pos c3] at H
  have c3b0 : (a0_4 == a1_4) = true := beq_iff_eq.mpr c3; have c3b1 : (a0_4 != a1_4) = false := bne_eq_false_iff_eq.mpr c3; clear c3; replace H := Option.bind_eq_some_iff.mp H; obtain ⟨t160, A40, H⟩ := H; replace H : ((arbiterref01_Package.f a1_0).bind fun t161 => (some (t160.toList == t161.toList))) = some r := H; have A4 := Aside0.mk A40; clear A40; replace H := Option.bind_eq_some_iff.mp H; obtain ⟨t161, A50, H⟩ := H; replace H : (some (t160.toList == t161.toList)) = some r := H; have A5 := Aside0.mk A50; clear A50; obtain rfl := Option.some.inj H; go_enter Tryz.func96, Tryz.ntmps96
  try go_wp2_with (first | ((with_reducible refine gate_dst (N := 2) rfl ?_); refine eX 2 #[.string a0_0, .string a0_1, .slice A0_2 l0_2.length c0_2, .int .i64 a0_3, .int .i64 a0_4, .slice A0_5 l0_5.length c0_5] 85 ?_; intro gb158 hg w6 hbox hb; have n0_ := Aside0.mk (below_step (bX HB) hb); have n1_ := Aside0.mk (hbox); have n2_ := Aside0.mk ((by rw [hg]; exact (below_size (bX HB)) : w.heap.size ≤ gb158)); have n3_ := Aside0.mk ((by rw [hg]; exact (below_size (bX HB)) : w.heap.size ≤ gb158)); clear HB; have HB := n0_; have BK158 := n1_; have GW158 := n2_; have GE158 := n3_; clear n0_ n1_ n2_ n3_; clear hb hbox hg) | ((with_reducible refine gate_dst (N := 3) rfl ?_); refine eX 3 #[.string a1_0, .string a1_1, .slice A1_2 l1_2.length c1_2, .int .i64 a1_3, .int .i64 a1_4, .slice A1_5 l1_5.length c1_5] 85 ?_; intro gb159 hg w7 hbox hb; have n0_ := Aside0.mk (blk_below (kX BK158) hb); have n1_ := Aside0.mk (below_step (bX1 HB GE158) hb); have n2_ := Aside0.mk (hbox); have n3_ := Aside0.mk ((by rw [hg]; exact (below_size (bX1 HB GE158)) : w.heap.size ≤ gb159)); have n4_ := Aside0.mk ((by rw [hg]; exact (below_size (bX1 HB GE158)) : w.heap.size ≤ gb159)); have n5_ := Aside0.mk ((by rw [hg]; exact Nat.ne_of_lt (blk_lt (kX BK158)) : gb158 ≠ gb159)); have n6_ := Aside0.mk ((by rw [hg]; exact Nat.ne_of_gt (blk_lt (kX BK158)) : gb159 ≠ gb158)); clear BK158; clear HB; have BK158 := n0_; have HB := n1_; have BK159 := n2_; have GW159 := n3_; have GE159 := n4_; have NB158_159 := n5_; have NB159_158 := n6_; clear n0_ n1_ n2_ n3_ n4_ n5_ n6_; clear hb hbox hg))
  have n0_ := Aside0.mk (blk_drew BK158.out); have n1_ := Aside0.mk (blk_drew BK159.out); have n2_ := Aside0.mk (below_drew1 HB.out); clear BK158; clear BK159; clear HB; have BK158 := n0_; have BK159 := n1_; have HB := n2_; clear n0_ n1_ n2_; refine start_ (n := 15) (S := fun w' => w'.cell? ⟨gb158, 0, none⟩ = some (.string a0_0) ∧ w'.cell? ⟨gb158, 1, none⟩ = some (.string a0_1) ∧ w'.cell? ⟨gb158, 2, none⟩ = some (.slice A0_2 l0_2.length c0_2) ∧ w'.cell? ⟨gb158, 3, none⟩ = some (.int .i64 a0_3) ∧ w'.cell? ⟨gb158, 4, none⟩ = some (.int .i64 a0_4) ∧ w'.cell? ⟨gb158, 5, none⟩ = some (.slice A0_5 l0_5.length c0_5) ∧ w'.cell? ⟨gb159, 0, none⟩ = some (.string a1_0) ∧ w'.cell? ⟨gb159, 1, none⟩ = some (.string a1_1) ∧ w'.cell? ⟨gb159, 2, none⟩ = some (.slice A1_2 l1_2.length c1_2) ∧ w'.cell? ⟨gb159, 3, none⟩ = some (.int .i64 a1_3) ∧ w'.cell? ⟨gb159, 4, none⟩ = some (.int .i64 a1_4) ∧ w'.cell? ⟨gb159, 5, none⟩ = some (.slice A1_5 l1_5.length c1_5)) (ds := []) #[false, false, false, false, false, false, false, false, false, false, false, false, false, false, false] (by kernel_rfl) rfl rfl ⟨(blk_cell BK158.out 0).trans rfl, (blk_cell BK158.out 1).trans rfl, (blk_cell BK158.out 2).trans rfl, (blk_cell BK158.out 3).trans rfl, (blk_cell BK158.out 4).trans rfl, (blk_cell BK158.out 5).trans rfl, (blk_cell BK159.out 0).trans rfl, (blk_cell BK159.out 1).trans rfl, (blk_cell BK159.out 2).trans rfl, (blk_cell BK159.out 3).trans rfl, (blk_cell BK159.out 4).trans rfl, (blk_cell BK159.out 5).trans rfl⟩ (fun hHeld => ?_); refine with_tabW arbiterref06_together.tab1 arbiterref06_together.bits1 (fun HT_ HW_ => ?_); generalize w7.drew = w8 at BK158 BK159 HB hHeld ⊢; refine pX HT_ 0 (some 5) ?_; refine pX HT_ 2 (some 7) ?_; refine tX HT_ HW_ hHeld 1 (some 6) ?_; refine tX HT_ HW_ hHeld 3 (some 8) ?_; refine pX HT_ 4 (some 9) ?_; refine pX HT_ 5 (some 10) ?_; refine pX HT_ 6 (some 11) ?_; refine pX HT_ 9 (some 14) ?_; refine tX HT_ HW_ hHeld 7 (some 12) ?_; refine tX HT_ HW_ hHeld 10 (some 15) ?_; refine oX HT_ 8 (some 13) (fun K hK => ?_); refine hX Tryz.func52 #[.string a0_0] ?_
  with_reducible refine (arbiterref01_Package.calls a0_0 t160 _ A4.out).mono ?_
  rintro e w9 ⟨rfl, hb⟩; refine ⟨_, rfl, ?_⟩; have n0_ := Aside0.mk (blk_below (kX BK158) hb); have n1_ := Aside0.mk (blk_below (kX BK159) hb); have n2_ := Aside0.mk (below_step (bX2 HB GE158 GE159) hb); clear BK158; clear BK159; clear HB; have BK158 := n0_; have BK159 := n1_; have HB := n2_; clear n0_ n1_ n2_
  (try clear hb)
  (try clear hb2)
  (try clear hk)
  (try clear hi)
  refine hK.out _ _ ⟨(blk_cell BK158.out 0).trans rfl, (blk_cell BK158.out 1).trans rfl, (blk_cell BK158.out 2).trans rfl, (blk_cell BK158.out 3).trans rfl, (blk_cell BK158.out 4).trans rfl, (blk_cell BK158.out 5).trans rfl, (blk_cell BK159.out 0).trans rfl, (blk_cell BK159.out 1).trans rfl, (blk_cell BK159.out 2).trans rfl, (blk_cell BK159.out 3).trans rfl, (blk_cell BK159.out 4).trans rfl, (blk_cell BK159.out 5).trans rfl⟩ (fun hHeld => ?_); clear hK K; refine nX (some 13) ?_; refine oX HT_ 11 (some 16) (fun K hK => ?_); refine hX Tryz.func52 #[.string a1_0] ?_
  with_reducible refine (arbiterref01_Package.calls a1_0 t161 _ A5.out).mono ?_
  rintro e w10 ⟨rfl, hb⟩; refine ⟨_, rfl, ?_⟩; have n0_ := Aside0.mk (blk_below (kX BK158) hb); have n1_ := Aside0.mk (blk_below (kX BK159) hb); have n2_ := Aside0.mk (below_step (bX2 HB GE158 GE159) hb); clear BK158; clear BK159; clear HB; have BK158 := n0_; have BK159 := n1_; have HB := n2_; clear n0_ n1_ n2_
  (try clear hb)
  (try clear hb2)
  (try clear hk)
  (try clear hi)
  refine hK.out _ _ ⟨(blk_cell BK158.out 0).trans rfl, (blk_cell BK158.out 1).trans rfl, (blk_cell BK158.out 2).trans rfl, (blk_cell BK158.out 3).trans rfl, (blk_cell BK158.out 4).trans rfl, (blk_cell BK158.out 5).trans rfl, (blk_cell BK159.out 0).trans rfl, (blk_cell BK159.out 1).trans rfl, (blk_cell BK159.out 2).trans rfl, (blk_cell BK159.out 3).trans rfl, (blk_cell BK159.out 4).trans rfl, (blk_cell BK159.out 5).trans rfl⟩ (fun hHeld => ?_); clear hK K; refine nX (some 16) ?_; refine pX HT_ 12 (some 17) ?_; refine pX HT_ 13 (some 18) ?_; refine pX HT_ 14 (some 4) ?_; refine done_ (done_of HT_.out (by kernel_rfl)) ?_
  try go_wp2
  go_ret
  exact ⟨by first | rfl | (simp [errW_none, errW_some] <;> rfl) | (simp [*, errW_none, errW_some] <;> rfl), bX2 HB GE158 GE159⟩
 ·rw [if_neg c3] at H
  have c3b0 : (a0_4 == a1_4) = false := beq_eq_false_iff_ne.mpr c3; have c3b1 : (a0_4 != a1_4) = true := bne_iff_ne.mpr c3; obtain rfl := Option.some.inj H; go_enter Tryz.func96, Tryz.ntmps96
  try go_wp2_with (first | ((with_reducible refine gate_dst (N := 2) rfl ?_); refine eX 2 #[.string a0_0, .string a0_1, .slice A0_2 l0_2.length c0_2, .int .i64 a0_3, .int .i64 a0_4, .slice A0_5 l0_5.length c0_5] 85 ?_; intro gb158 hg w11 hbox hb; have n0_ := Aside0.mk (below_step (bX HB) hb); have n1_ := Aside0.mk (hbox); have n2_ := Aside0.mk ((by rw [hg]; exact (below_size (bX HB)) : w.heap.size ≤ gb158)); have n3_ := Aside0.mk ((by rw [hg]; exact (below_size (bX HB)) : w.heap.size ≤ gb158)); clear HB; have HB := n0_; have BK158 := n1_; have GW158 := n2_; have GE158 := n3_; clear n0_ n1_ n2_ n3_; clear hb hbox hg) | ((with_reducible refine gate_dst (N := 3) rfl ?_); refine eX 3 #[.string a1_0, .string a1_1, .slice A1_2 l1_2.length c1_2, .int .i64 a1_3, .int .i64 a1_4, .slice A1_5 l1_5.length c1_5] 85 ?_; intro gb159 hg w12 hbox hb; have n0_ := Aside0.mk (blk_below (kX BK158) hb); have n1_ := Aside0.mk (below_step (bX1 HB GE158) hb); have n2_ := Aside0.mk (hbox); have n3_ := Aside0.mk ((by rw [hg]; exact (below_size (bX1 HB GE158)) : w.heap.size ≤ gb159)); have n4_ := Aside0.mk ((by rw [hg]; exact (below_size (bX1 HB GE158)) : w.heap.size ≤ gb159)); have n5_ := Aside0.mk ((by rw [hg]; exact Nat.ne_of_lt (blk_lt (kX BK158)) : gb158 ≠ gb159)); have n6_ := Aside0.mk ((by rw [hg]; exact Nat.ne_of_gt (blk_lt (kX BK158)) : gb159 ≠ gb158)); clear BK158; clear HB; have BK158 := n0_; have HB := n1_; have BK159 := n2_; have GW159 := n3_; have GE159 := n4_; have NB158_159 := n5_; have NB159_158 := n6_; clear n0_ n1_ n2_ n3_ n4_ n5_ n6_; clear hb hbox hg))
  have n0_ := Aside0.mk (blk_drew BK158.out); have n1_ := Aside0.mk (blk_drew BK159.out); have n2_ := Aside0.mk (below_drew1 HB.out); clear BK158; clear BK159; clear HB; have BK158 := n0_; have BK159 := n1_; have HB := n2_; clear n0_ n1_ n2_; refine start_ (n := 15) (S := fun w' => w'.cell? ⟨gb158, 0, none⟩ = some (.string a0_0) ∧ w'.cell? ⟨gb158, 1, none⟩ = some (.string a0_1) ∧ w'.cell? ⟨gb158, 2, none⟩ = some (.slice A0_2 l0_2.length c0_2) ∧ w'.cell? ⟨gb158, 3, none⟩ = some (.int .i64 a0_3) ∧ w'.cell? ⟨gb158, 4, none⟩ = some (.int .i64 a0_4) ∧ w'.cell? ⟨gb158, 5, none⟩ = some (.slice A0_5 l0_5.length c0_5) ∧ w'.cell? ⟨gb159, 0, none⟩ = some (.string a1_0) ∧ w'.cell? ⟨gb159, 1, none⟩ = some (.string a1_1) ∧ w'.cell? ⟨gb159, 2, none⟩ = some (.slice A1_2 l1_2.length c1_2) ∧ w'.cell? ⟨gb159, 3, none⟩ = some (.int .i64 a1_3) ∧ w'.cell? ⟨gb159, 4, none⟩ = some (.int .i64 a1_4) ∧ w'.cell? ⟨gb159, 5, none⟩ = some (.slice A1_5 l1_5.length c1_5)) (ds := []) #[false, false, false, false, false, false, false, false, false, false, false, false, false, false, false] (by kernel_rfl) rfl rfl ⟨(blk_cell BK158.out 0).trans rfl, (blk_cell BK158.out 1).trans rfl, (blk_cell BK158.out 2).trans rfl, (blk_cell BK158.out 3).trans rfl, (blk_cell BK158.out 4).trans rfl, (blk_cell BK158.out 5).trans rfl, (blk_cell BK159.out 0).trans rfl, (blk_cell BK159.out 1).trans rfl, (blk_cell BK159.out 2).trans rfl, (blk_cell BK159.out 3).trans rfl, (blk_cell BK159.out 4).trans rfl, (blk_cell BK159.out 5).trans rfl⟩ (fun hHeld => ?_); refine with_tabW arbiterref06_together.tab1 arbiterref06_together.bits1 (fun HT_ HW_ => ?_); generalize w12.drew = w13 at BK158 BK159 HB hHeld ⊢; refine pX HT_ 0 (some 5) ?_; refine pX HT_ 2 (some 7) ?_; refine tX HT_ HW_ hHeld 1 (some 6) ?_; refine tX HT_ HW_ hHeld 3 (some 8) ?_; refine pX HT_ 4 (some 9) ?_; refine pX HT_ 5 (some 10) ?_; refine uX HT_ 6 (some 11) ?_; refine uX HT_ 7 (some 12) ?_; refine uX HT_ 8 (some 13) ?_; refine uX HT_ 9 (some 14) ?_; refine uX HT_ 10 (some 15) ?_; refine uX HT_ 11 (some 16) ?_; refine uX HT_ 12 (some 17) ?_; refine pX HT_ 13 (some 18) ?_; refine pX HT_ 14 (some 4) ?_; refine done_ (done_of HT_.out (by kernel_rfl)) ?_
  try go_wp2
  go_ret
  exact ⟨by first | rfl | (simp [errW_none, errW_some] <;> rfl) | (simp [*, errW_none, errW_some] <;> rfl), bX2 HB GE158 GE159⟩
def arbiterref06_open.f (a0_0 : ByteArray) (a0_1 : ByteArray) (l0_2 : List ByteArray) (a0_3 : Int) (a0_4 : Int) (l0_5 : List (S105)) (a1_0 : ByteArray) (a1_1 : ByteArray) (l1_2 : List ByteArray) (a1_3 : Int) (a1_4 : Int) (l1_5 : List (S105)) : Option (Bool) := (arbiterref03_Has.f a1_3 1).bind fun t164 => (if t164 = true then (some true) else ((arbiterref06_together.f a0_0 a0_1 l0_2 a0_3 a0_4 l0_5 a1_0 a1_1 l1_2 a1_3 a1_4 l1_5).bind fun t165 => (some t165)))
set_option maxHeartbeats 8000000 in
set_option maxRecDepth 100000 in
theorem arbiterref06_open.calls (a0_0 : ByteArray) (a0_1 : ByteArray) (A0_2 : Option Addr) (c0_2 : Nat) (l0_2 : List ByteArray) (a0_3 : Int) (a0_4 : Int) (A0_5 : Option Addr) (c0_5 : Nat) (l0_5 : List (S105)) (a1_0 : ByteArray) (a1_1 : ByteArray) (A1_2 : Option Addr) (c1_2 : Nat) (l1_2 : List ByteArray) (a1_3 : Int) (a1_4 : Int) (A1_5 : Option Addr) (c1_5 : Nat) (l1_5 : List (S105)) (r : Bool) (w : World) (hr0_2 : Kd.C Kd.string w A0_2 l0_2.length l0_2) (hc0_2 : l0_2.length ≤ c0_2) (hr0_5 : Kd.C k105 w A0_5 l0_5.length l0_5) (hc0_5 : l0_5.length ≤ c0_5) (hr1_2 : Kd.C Kd.string w A1_2 l1_2.length l1_2) (hc1_2 : l1_2.length ≤ c1_2) (hr1_5 : Kd.C k105 w A1_5 l1_5.length l1_5) (hc1_5 : l1_5.length ≤ c1_5) (h : arbiterref06_open.f a0_0 a0_1 l0_2 a0_3 a0_4 l0_5 a1_0 a1_1 l1_2 a1_3 a1_4 l1_5 = some r) :
  Calls Tryz.prog 92 #[.agg #[.string a0_0, .string a0_1, .slice A0_2 l0_2.length c0_2, .int .i64 a0_3, .int .i64 a0_4, .slice A0_5 l0_5.length c0_5], .agg #[.string a1_0, .string a1_1, .slice A1_2 l1_2.length c1_2, .int .i64 a1_3, .int .i64 a1_4, .slice A1_5 l1_5.length c1_5]] w fun e w' => e = .returned (.bool r) ∧ Below w.heap.size w w' := by
 have hu85 := Tryz.underlying85; have HR0_2 := Aside0.mk hr0_2; have HC0_2 := Aside0.mk hc0_2; clear hr0_2 hc0_2; have HR0_5 := Aside0.mk hr0_5; have HC0_5 := Aside0.mk hc0_5; clear hr0_5 hc0_5; have HR1_2 := Aside0.mk hr1_2; have HC1_2 := Aside0.mk hc1_2; clear hr1_2 hc1_2; have HR1_5 := Aside0.mk hr1_5; have HC1_5 := Aside0.mk hc1_5; clear hr1_5 hc1_5; have HB := Aside0.mk (Below.refl w.heap.size w); have H : ((arbiterref03_Has.f a1_3 1).bind fun t164 => (if t164 = true then (some true) else ((arbiterref06_together.f a0_0 a0_1 l0_2 a0_3 a0_4 l0_5 a1_0 a1_1 l1_2 a1_3 a1_4 l1_5).bind fun t165 => (some t165)))) = some r := h; clear h; replace H := Option.bind_eq_some_iff.mp H; obtain ⟨t164, A30, H⟩ := H; replace H : (if t164 = true then (some true) else ((arbiterref06_together.f a0_0 a0_1 l0_2 a0_3 a0_4 l0_5 a1_0 a1_1 l1_2 a1_3 a1_4 l1_5).bind fun t165 => (some t165))) = some r := H; have A3 := Aside0.mk A30; clear A30
 by_cases c4 : t164 = true
 ·subst c4
  have H1 : (some true) = some r := by rw [if_pos rfl] at H; exact H
  clear H; have H := H1; clear H1; obtain rfl := Option.some.inj H; go_enter Tryz.func92, Tryz.ntmps92; go_wp2_with (first | ((with_reducible refine gate_dst (N := 2) rfl ?_); refine eX 2 #[.string a0_0, .string a0_1, .slice A0_2 l0_2.length c0_2, .int .i64 a0_3, .int .i64 a0_4, .slice A0_5 l0_5.length c0_5] 85 ?_; intro gb162 hg w5 hbox hb; have n0_ := Aside0.mk (below_step (bX HB) hb); have n1_ := Aside0.mk (hbox); have n2_ := Aside0.mk ((by rw [hg]; exact (below_size (bX HB)) : w.heap.size ≤ gb162)); have n3_ := Aside0.mk ((by rw [hg]; exact (below_size (bX HB)) : w.heap.size ≤ gb162)); clear HB; have HB := n0_; have BK162 := n1_; have GW162 := n2_; have GE162 := n3_; clear n0_ n1_ n2_ n3_; clear hb hbox hg) | ((with_reducible refine gate_dst (N := 3) rfl ?_); refine eX 3 #[.string a1_0, .string a1_1, .slice A1_2 l1_2.length c1_2, .int .i64 a1_3, .int .i64 a1_4, .slice A1_5 l1_5.length c1_5] 85 ?_; intro gb163 hg w6 hbox hb; have n0_ := Aside0.mk (blk_below (kX BK162) hb); have n1_ := Aside0.mk (below_step (bX1 HB GE162) hb); have n2_ := Aside0.mk (hbox); have n3_ := Aside0.mk ((by rw [hg]; exact (below_size (bX1 HB GE162)) : w.heap.size ≤ gb163)); have n4_ := Aside0.mk ((by rw [hg]; exact (below_size (bX1 HB GE162)) : w.heap.size ≤ gb163)); have n5_ := Aside0.mk ((by rw [hg]; exact Nat.ne_of_lt (blk_lt (kX BK162)) : gb162 ≠ gb163)); have n6_ := Aside0.mk ((by rw [hg]; exact Nat.ne_of_gt (blk_lt (kX BK162)) : gb163 ≠ gb162)); clear BK162; clear HB; have BK162 := n0_; have HB := n1_; have BK163 := n2_; have GW163 := n3_; have GE163 := n4_; have NB162_163 := n5_; have NB163_162 := n6_; clear n0_ n1_ n2_ n3_ n4_ n5_ n6_; clear hb hbox hg; have hnb7 := NB163_162.out; have hnc7 := NB162_163.out; obtain ⟨hcz8_0, hcz8_1, hcz8_2, hcz8_3, hcz8_4, hcz8_5, hfz8_0, hfz8_1, hfz8_2, hfz8_3, hfz8_4, hfz8_5⟩ := c6X BK163) | ((with_reducible refine gate_callee (f := 53) rfl ?_); refine gX (some 7) Tryz.func53 #[.int .i64 a1_3, .int .i64 1] ?_; (with_reducible refine (arbiterref03_Has.calls a1_3 1 true _ A3.out).mono ?_); rintro e w9 ⟨rfl, hb⟩; refine ⟨_, rfl, ?_⟩; have n0_ := Aside0.mk (blk_below (kX BK162) hb); have n1_ := Aside0.mk (blk_below (kX BK163) hb); have n2_ := Aside0.mk (below_step (bX2 HB GE162 GE163) hb); clear BK162; clear BK163; clear HB; have BK162 := n0_; have BK163 := n1_; have HB := n2_; clear n0_ n1_ n2_; (try clear hb); (try clear hb2); (try clear hk); (try clear hi))); go_ret
  exact ⟨by first | rfl | (simp [errW_none, errW_some] <;> rfl) | (simp [*, errW_none, errW_some] <;> rfl), bX2 HB GE162 GE163⟩
 ·replace c4 := Bool.eq_false_iff.mpr c4
  subst c4
  have H1 : ((arbiterref06_together.f a0_0 a0_1 l0_2 a0_3 a0_4 l0_5 a1_0 a1_1 l1_2 a1_3 a1_4 l1_5).bind fun t165 => (some t165)) = some r := by rw [if_neg (show ¬ (false = true) by decide)] at H; exact H
  clear H; have H := H1; clear H1; replace H := Option.bind_eq_some_iff.mp H; obtain ⟨t165, A100, H⟩ := H; replace H : (some t165) = some r := H; have A10 := Aside0.mk A100; clear A100; obtain rfl := Option.some.inj H; go_enter Tryz.func92, Tryz.ntmps92; go_wp2_with (first | ((with_reducible refine gate_dst (N := 2) rfl ?_); refine eX 2 #[.string a0_0, .string a0_1, .slice A0_2 l0_2.length c0_2, .int .i64 a0_3, .int .i64 a0_4, .slice A0_5 l0_5.length c0_5] 85 ?_; intro gb162 hg w11 hbox hb; have n0_ := Aside0.mk (below_step (bX HB) hb); have n1_ := Aside0.mk (hbox); have n2_ := Aside0.mk ((by rw [hg]; exact (below_size (bX HB)) : w.heap.size ≤ gb162)); have n3_ := Aside0.mk ((by rw [hg]; exact (below_size (bX HB)) : w.heap.size ≤ gb162)); clear HB; have HB := n0_; have BK162 := n1_; have GW162 := n2_; have GE162 := n3_; clear n0_ n1_ n2_ n3_; clear hb hbox hg) | ((with_reducible refine gate_dst (N := 3) rfl ?_); refine eX 3 #[.string a1_0, .string a1_1, .slice A1_2 l1_2.length c1_2, .int .i64 a1_3, .int .i64 a1_4, .slice A1_5 l1_5.length c1_5] 85 ?_; intro gb163 hg w12 hbox hb; have n0_ := Aside0.mk (blk_below (kX BK162) hb); have n1_ := Aside0.mk (below_step (bX1 HB GE162) hb); have n2_ := Aside0.mk (hbox); have n3_ := Aside0.mk ((by rw [hg]; exact (below_size (bX1 HB GE162)) : w.heap.size ≤ gb163)); have n4_ := Aside0.mk ((by rw [hg]; exact (below_size (bX1 HB GE162)) : w.heap.size ≤ gb163)); have n5_ := Aside0.mk ((by rw [hg]; exact Nat.ne_of_lt (blk_lt (kX BK162)) : gb162 ≠ gb163)); have n6_ := Aside0.mk ((by rw [hg]; exact Nat.ne_of_gt (blk_lt (kX BK162)) : gb163 ≠ gb162)); clear BK162; clear HB; have BK162 := n0_; have HB := n1_; have BK163 := n2_; have GW163 := n3_; have GE163 := n4_; have NB162_163 := n5_; have NB163_162 := n6_; clear n0_ n1_ n2_ n3_ n4_ n5_ n6_; clear hb hbox hg; have hnb13 := NB163_162.out; have hnc13 := NB162_163.out; obtain ⟨hcz14_0, hcz14_1, hcz14_2, hcz14_3, hcz14_4, hcz14_5, hfz14_0, hfz14_1, hfz14_2, hfz14_3, hfz14_4, hfz14_5⟩ := c6X BK163) | ((with_reducible refine gate_callee (f := 53) rfl ?_); refine gX (some 7) Tryz.func53 #[.int .i64 a1_3, .int .i64 1] ?_; (with_reducible refine (arbiterref03_Has.calls a1_3 1 false _ A3.out).mono ?_); rintro e w15 ⟨rfl, hb⟩; refine ⟨_, rfl, ?_⟩; have n0_ := Aside0.mk (blk_below (kX BK162) hb); have n1_ := Aside0.mk (blk_below (kX BK163) hb); have n2_ := Aside0.mk (below_step (bX2 HB GE162 GE163) hb); clear BK162; clear BK163; clear HB; have BK162 := n0_; have BK163 := n1_; have HB := n2_; clear n0_ n1_ n2_; (try clear hb); (try clear hb2); (try clear hk); (try clear hi); obtain ⟨hcz16_0, hcz16_1, hcz16_2, hcz16_3, hcz16_4, hcz16_5, hfz16_0, hfz16_1, hfz16_2, hfz16_3, hfz16_4, hfz16_5⟩ := c6X BK162; obtain ⟨hcz17_0, hcz17_1, hcz17_2, hcz17_3, hcz17_4, hcz17_5, hfz17_0, hfz17_1, hfz17_2, hfz17_3, hfz17_4, hfz17_5⟩ := c6X BK163) | (go_at_call 96; (with_reducible refine (arbiterref06_together.calls a0_0 a0_1 _ _ l0_2 a0_3 a0_4 _ _ l0_5 a1_0 a1_1 _ _ l1_2 a1_3 a1_4 _ _ l1_5 t165 _ ?side1 ?side2 ?side3 ?side4 ?side5 ?side6 ?side7 ?side8 A10.out).mono ?_); (case side1 => repeat (first | exact (Kd.C_below HR0_2.out HB.out) | (with_reducible refine Kd.C_alloc ?_ _) | (with_reducible refine Kd.C_drewN ?_ _) | (with_reducible refine Kd.C_drew ?_))); (case side2 => exact HC0_2.out); (case side3 => repeat (first | exact (Kd.C_below HR0_5.out HB.out) | (with_reducible refine Kd.C_alloc ?_ _) | (with_reducible refine Kd.C_drewN ?_ _) | (with_reducible refine Kd.C_drew ?_))); (case side4 => exact HC0_5.out); (case side5 => repeat (first | exact (Kd.C_below HR1_2.out HB.out) | (with_reducible refine Kd.C_alloc ?_ _) | (with_reducible refine Kd.C_drewN ?_ _) | (with_reducible refine Kd.C_drew ?_))); (case side6 => exact HC1_2.out); (case side7 => repeat (first | exact (Kd.C_below HR1_5.out HB.out) | (with_reducible refine Kd.C_alloc ?_ _) | (with_reducible refine Kd.C_drewN ?_ _) | (with_reducible refine Kd.C_drew ?_))); (case side8 => exact HC1_5.out); rintro e w18 ⟨rfl, hb⟩; have n0_ := Aside0.mk (blk_below (kX BK162) hb); have n1_ := Aside0.mk (blk_below (kX BK163) hb); have n2_ := Aside0.mk (below_step (bX2 HB GE162 GE163) hb); clear BK162; clear BK163; clear HB; have BK162 := n0_; have BK163 := n1_; have HB := n2_; clear n0_ n1_ n2_; (try clear hb); (try clear hb2); (try clear hk); (try clear hi))); go_ret
  exact ⟨by first | rfl | (simp [errW_none, errW_some] <;> rfl) | (simp [*, errW_none, errW_some] <;> rfl), bX2 HB GE162 GE163⟩
end Go.Proofs.YtaipkdglhfhhiaaGreatDoor.Pt

namespace Go.Proofs.YtaipkdglhfhhiaaGreatDoor.Pt
open Go Go.RowKit Go.Proofs.YtaipkdglhfhhiaaGreatDoor.Nm Go.Proofs.YtaipkdglhfhhiaaGreatDoor.Ty Go.Proofs.YtaipkdglhfhhiaaGreatDoor.Hi Go.Proofs.YtaipkdglhfhhiaaGreatDoorW.PrintWords
set_option linter.unusedVariables false
set_option linter.unusedSimpArgs false
def csOf (es : List Ent) : List S85 := es.map (·.c)
theorem cs_len (es : List Ent) : (csOf es).length = es.length := List.length_map _
theorem cs_rd {es : List Ent} {i : Int} (h0 : 0 ≤ i) (h1 : i < es.length) : rd_T85 (csOf es) i = (ent es i).c := by
 have hi : i.toNat < es.length := by omega
 simp [rd_T85, csOf, ent, List.getD_eq_getElem?_getD, List.getElem?_eq_getElem hi]
theorem num_wrap {j : Nat} (h : j ≤ 1000000) : wrap64 ((j : Int) + 1) = ((j + 1 : Nat) : Int) := by
 rw [wrap_small' (by omega) (by omega)]; push_cast
 rfl
def rnm (es : List Ent) (s : ByteArray) : Int := if (nameF es s).2 = 0 then (nameF es s).1 else -1
def idxR (L : List ByteArray) (s : ByteArray) (i : Nat) : Int := match (L.drop i).findIdx? (fun t => decide (t = s)) with | some j => ((i + j : Nat) : Int) | none => -1
theorem idxR_step {L : List ByteArray} {s : ByteArray} {i : Nat} (hi : i < L.length) : idxR L s i = if L[i] = s then (i : Int) else idxR L s (i + 1) := by
 unfold idxR; rw [List.drop_eq_getElem_cons hi, List.findIdx?_cons]
 by_cases h : L[i] = s
 ·rw [if_pos h, decide_eq_true h]
  simp
 ·rw [if_neg h, decide_eq_false h]
  cases (L.drop (i + 1)).findIdx? (fun t => decide (t = s)) with
  | none => simp
  | some j => simp; omega
theorem named_l0 (es : List Ent) (hl : es.length ≤ 1000) (s : ByteArray) : ∀ (d i k : Nat), i ≤ es.length → es.length - i ≤ d → d < k → arbiterref06_named.l0 k (csOf es) s i = some (idxR (es.map (·.c.f0)) s i) := by
 intro d
 induction d with
 | zero =>
  intro i k hi hd hk
  obtain ⟨k, rfl⟩ : ∃ m, k = m + 1 := ⟨k - 1, by omega⟩
  simp only [arbiterref06_named.l0]; rw [cs_len, if_neg (by omega)]; unfold idxR; rw [List.drop_eq_nil_of_le (by rw [List.length_map]; omega)]
  rfl
 | succ d ih =>
  intro i k hi hd hk
  obtain ⟨k, rfl⟩ : ∃ m, k = m + 1 := ⟨k - 1, by omega⟩
  by_cases hlt : i < es.length
  ·simp only [arbiterref06_named.l0]
   rw [cs_len, if_pos (by omega : (i : Int) < es.length), if_pos (by omega : 0 ≤ (i : Int)), cs_rd (by omega) (by omega)]
   have hm : i < (es.map (·.c.f0)).length := by rw [List.length_map]; exact hlt
   rw [idxR_step hm]
   have he : (es.map (·.c.f0))[i] = (ent es (i : Int)).c.f0 := by
    simp [ent, List.getD_eq_getElem?_getD, List.getElem?_eq_getElem hlt]
   rw [he]
   by_cases h : (ent es (i : Int)).c.f0 = s
   ·rw [if_pos h, if_pos (by rw [h])]
   ·rw [if_neg h, if_neg (fun e => h (ba_eq e)), num_wrap (by omega)]
    exact ih (i + 1) k (by omega) (by omega) (by omega)
  ·simp only [arbiterref06_named.l0]
   rw [cs_len, if_neg (by omega)]; unfold idxR; rw [List.drop_eq_nil_of_le (by rw [List.length_map]; omega)]
   rfl
theorem named_ok (es : List Ent) (hl : es.length ≤ 1000) (s : ByteArray) (k : Nat) (hk : es.length < k) : arbiterref06_named.f k (csOf es) s = some (rnm es s) := by
 unfold arbiterref06_named.f; have := named_l0 es hl s es.length 0 k (by omega) (by omega) hk; rw [show ((0 : Nat) : Int) = 0 from rfl] at this; rw [this]; unfold idxR rnm nameF; rw [List.drop_zero]
 cases (es.map (·.c.f0)).findIdx? (fun t => decide (t = s)) with
 | none => rfl
 | some j => simp
theorem in_ok (es : List Ent) (i : Int) : arbiterref06_In.f (csOf es) i = some (inB es i) := by
 unfold arbiterref06_In.f inB; rw [cs_len]
 by_cases h : i ≥ 0
 ·rw [if_pos h]
  congr 1
  simp
  omega
 ·rw [if_neg h, decide_eq_false (by omega)]
theorem isif_ok (es : List Ent) (i : Int) : arbiterref06_IsIface.f (csOf es) i = some (inB es i && isI (ent es i).c) := by
 unfold arbiterref06_IsIface.f; rw [in_ok, Option.bind_some]
 cases h : inB es i with
 | false => rfl
 | true =>
  have h2 : 0 ≤ i ∧ i < es.length := of_decide_eq_true h; rw [if_pos rfl, if_pos h2.1, cs_len, if_pos h2.2, cs_rd h2.1 h2.2]
  rfl
theorem open_ok (c p : S85) (h0 : c.f0.size < 4611686018427387904) (h1 : p.f0.size < 4611686018427387904) : arbiterref06_open.f c.f0 c.f1 c.f2 c.f3 c.f4 c.f5 p.f0 p.f1 p.f2 p.f3 p.f4 p.f5 = some (Go.bits .and .i64 p.f3 1 != 0 || tog c p) := by
 unfold arbiterref06_open.f arbiterref03_Has.f arbiterref06_together.f arbiterref01_Package.f tog; rw [Option.bind_some]; change (if (Go.bits .and .i64 p.f3 1 != 0) = true then _ else _) = _
 cases Go.bits .and .i64 p.f3 1 != 0 with
 | true => rfl
 | false =>
  rw [if_neg (by decide), if_pos h0, if_pos h1, Bool.false_or]
  by_cases h : c.f4 = p.f4
  ·rw [if_pos h, h]
   simp
  ·rw [if_neg h, beq_eq_false_iff_ne.2 h]
   rfl
def takeB (es : List Ent) (c : S85) : Bool :=
 chkC c == 0 && (!decide (es.length ≥ 300) && (decide (rnm es c.f0 < 0) && ((aboveF es c c.f1 false).2 == 0 && c.f2.all fun n => (aboveF es c n true).2 == 0)))
theorem ifsF_all (es : List Ent) (c : S85) : ∀ l : List ByteArray, ((ifsF es c l).1 == 0) = l.all fun n => (aboveF es c n true).2 == 0
 | [] => rfl
 | n :: l => by
  unfold ifsF; rw [List.all_cons]
  by_cases h : (aboveF es c n true).2 = 0
  ·rw [if_pos h, beq_iff_eq.2 h, Bool.true_and]
   exact ifsF_all es c l
  ·rw [if_neg h, beq_eq_false_iff_ne.2 h, Bool.false_and]
theorem rnm_neg (es : List Ent) (s : ByteArray) : rnm es s < 0 ↔ ¬ (nameF es s).2 = 0 := by
 unfold rnm
 by_cases h : (nameF es s).2 = 0
 ·rw [if_pos h]
  have := nameF_in h
  constructor
  ·intro h2; omega
  ·intro h2; exact absurd h h2
 ·rw [if_neg h]
  exact ⟨fun _ => h, fun _ => by omega⟩
theorem cs_step (es : List Ent) (c : S85) : csOf (stepF es c) = if takeB es c = true then csOf es ++ [c] else csOf es := by
 unfold stepF defF takeB
 by_cases h0 : chkC c = 0
 ·rw [if_neg (fun h => h h0), beq_iff_eq.2 h0, Bool.true_and]
  by_cases h1 : es.length ≥ 300
  ·rw [if_pos h1, decide_eq_true h1]; rfl
  ·rw [if_neg h1, decide_eq_false h1, Bool.not_false, Bool.true_and]
   by_cases h2 : (nameF es c.f0).2 = 0
   ·rw [if_pos h2, decide_eq_false (fun h => (rnm_neg es c.f0).1 h h2), Bool.false_and]; rfl
   ·rw [if_neg h2, decide_eq_true ((rnm_neg es c.f0).2 h2), Bool.true_and]
    by_cases h3 : (aboveF es c c.f1 false).2 = 0
    ·rw [if_neg (fun h => h h3), beq_iff_eq.2 h3, Bool.true_and, ← ifsF_all]
     by_cases h4 : (ifsF es c c.f2).1 = 0
     ·rw [if_neg (fun h => h h4), beq_iff_eq.2 h4, if_pos rfl]
      simp [csOf, putE]
     ·rw [if_pos h4, beq_eq_false_iff_ne.2 h4]; rfl
    ·rw [if_pos h3, beq_eq_false_iff_ne.2 h3, Bool.false_and]; rfl
 ·rw [if_pos h0, beq_eq_false_iff_ne.2 h0, Bool.false_and]; rfl
theorem sup_ok (es : List Ent) (c : S85) (n : ByteArray) : ((aboveF es c n false).2 == 0) = (!decide (rnm es n < 0) && (!(isI (ent es (rnm es n)).c || (isI c && rnm es n != 0)) && (Go.bits .and .i64 (ent es (rnm es n)).c.f3 1 != 0 || tog c (ent es (rnm es n)).c))) := by
 unfold aboveF
 by_cases h : (nameF es n).2 = 0
 ·have e : rnm es n = (nameF es n).1 := if_pos h
  rw [if_pos h, decide_eq_false (fun h2 => (rnm_neg es n).1 h2 h), Bool.not_false, Bool.true_and, e]; unfold fitF; generalize (nameF es n).1 = i; generalize isI (ent es i).c = a; generalize isI c = b; generalize hd : (i != 0) = d; generalize tog c (ent es i).c = t; rw [show (Go.bits .and .i64 (ent es i).c.f3 1 != 0) = !(Go.bits .and .i64 (ent es i).c.f3 1 == 0) from rfl]; generalize (Go.bits .and .i64 (ent es i).c.f3 1 == 0) = p
  cases a <;> cases b <;> cases d <;> cases t <;> cases p <;> rfl
 ·rw [if_neg h, decide_eq_true ((rnm_neg es n).2 h)]; rfl
theorem if_ok (es : List Ent) (c : S85) (n : ByteArray) : ((aboveF es c n true).2 == 0) = (!decide (rnm es n < 0) && (isI (ent es (rnm es n)).c && (Go.bits .and .i64 (ent es (rnm es n)).c.f3 1 != 0 || tog c (ent es (rnm es n)).c))) := by
 unfold aboveF
 by_cases h : (nameF es n).2 = 0
 ·have e : rnm es n = (nameF es n).1 := if_pos h
  rw [if_pos h, decide_eq_false (fun h2 => (rnm_neg es n).1 h2 h), Bool.not_false, Bool.true_and, e]; unfold fitF; generalize (nameF es n).1 = i; generalize isI (ent es i).c = a; generalize tog c (ent es i).c = t; rw [show (Go.bits .and .i64 (ent es i).c.f3 1 != 0) = !(Go.bits .and .i64 (ent es i).c.f3 1 == 0) from rfl]; generalize (Go.bits .and .i64 (ent es i).c.f3 1 == 0) = p
  cases a <;> cases t <;> cases p <;> rfl
 ·rw [if_neg h, decide_eq_true ((rnm_neg es n).2 h)]; rfl
theorem rnm_in {es : List Ent} {n : ByteArray} (h : ¬ rnm es n < 0) : 0 ≤ rnm es n ∧ rnm es n < es.length ∧ (ent es (rnm es n)).c.f0 = n := by
 have h2 : (nameF es n).2 = 0 := Classical.byContradiction fun h3 => h ((rnm_neg es n).2 h3); have e : rnm es n = (nameF es n).1 := if_pos h2; rw [e]
 exact nameF_in h2
end Go.Proofs.YtaipkdglhfhhiaaGreatDoor.Pt

namespace Go.Proofs.YtaipkdglhfhhiaaGreatDoor.Hi
open Go Go.RowKit Go.Proofs.YtaipkdglhfhhiaaGreatDoor.Nm Go.Proofs.YtaipkdglhfhhiaaGreatDoorW.PrintWords Go.Proofs.YtaipkdglhfhhiaaGreatDoorW.PrintLast Go.Proofs.YtaipkdglhfhhiaaGreatDoorW.PrintMore Go.Proofs.YtaipkdglhfhhiaaGreatDoor.Pt
set_option linter.unusedVariables false
set_option linter.unusedSimpArgs false
set_option maxRecDepth 100000
theorem ent_take {es : List Ent} {n : Nat} {k : Int} (h0 : 0 ≤ k) (h1 : k < n) : ent (es.take n) k = ent es k := by
 unfold ent; rw [List.getD_eq_getElem?_getD, List.getD_eq_getElem?_getD, List.getElem?_take_of_lt (by omega)]
structure Src (es : List Ent) (i : Int) : Prop where
 len : (ent es i).c.f2.length ≤ 20
 sup : 1 ≤ i → (ent es (ent es i).above).c.f0 = (ent es i).c.f1
 ifs : ∀ n ∈ (ent es i).c.f2, ∃ k, 0 ≤ k ∧ k < i ∧ (ent es k).c.f0 = n ∧ isI (ent es k).c = true ∧ k ∈ (ent es i).clo
 clo : 1 ≤ i → ∀ j ∈ (ent es i).clo, j ∈ (ent es (ent es i).above).clo ∨ ∃ n ∈ (ent es i).c.f2, ∃ k, 0 ≤ k ∧ k < i ∧ (ent es k).c.f0 = n ∧ (j = k ∨ j ∈ (ent es k).clo)
theorem Thy.src_ {es : List Ent} (h : Thy es) {i : Int} (h0 : 0 ≤ i) (h1 : i < es.length) : Src es i := by
 by_cases h3 : 3 ≤ i
 ·have hx := get_ent h0 h1
  have ht := h.src _ _ hx (by omega); obtain ⟨s0, s1, s2, s3, s5⟩ := sound_sizes ht.sound; have hsp := aboveF_in ht.sup
  have hl : (es.take i.toNat).length = i.toNat := by rw [List.length_take]; omega
  rw [hl] at hsp
  have ha : (ent es i).above = (aboveF (es.take i.toNat) (ent es i).c (ent es i).c.f1 false).1 := by
   have := ht.isx; rw [this]
   rfl
  have hclo : (ent es i).clo = closF (es.take i.toNat) (ent (es.take i.toNat) (ent es i).above).clo ((ent es i).c.f2.map fun n => (aboveF (es.take i.toNat) (ent es i).c n true).1) := by
   have := congrArg Ent.clo ht.isx; rw [this, ha]
   show closF _ _ _ = _
   rw [if_pos hsp.1]
  have hif : ∀ n ∈ (ent es i).c.f2, 0 ≤ (aboveF (es.take i.toNat) (ent es i).c n true).1 ∧ (aboveF (es.take i.toNat) (ent es i).c n true).1 < i ∧ (ent es (aboveF (es.take i.toNat) (ent es i).c n true).1).c.f0 = n ∧ isI (ent es (aboveF (es.take i.toNat) (ent es i).c n true).1).c = true := by
   intro n hn; have h4 := aboveF_in (ht.ifs n hn); have h5 := (aboveF_fit (ht.ifs n hn)).1; rw [hl] at h4; have h6 := (nameF_in h4.2.2.2).2.2; rw [← h4.2.2.1] at h6; rw [ent_take h4.1 h4.2.1] at h5 h6
   exact ⟨h4.1, by omega, h6, h5⟩
  refine ⟨s2, fun _ => ?_, fun n hn => ?_, fun _ j hj => ?_⟩
  ·rw [ha]
   have h6 := (nameF_in hsp.2.2.2).2.2; rw [← hsp.2.2.1, ent_take hsp.1 hsp.2.1] at h6
   exact h6
  ·obtain ⟨a1, a2, a3, a4⟩ := hif n hn
   refine ⟨_, a1, a2, a3, a4, ?_⟩; rw [hclo]
   exact mem_closF.2 (.inr ⟨_, List.mem_map_of_mem hn, .inl rfl⟩)
  ·rw [hclo] at hj
   rcases mem_closF.1 hj with hj | ⟨k, hk, hj⟩
   ·rw [ent_take (by rw [ha]; exact hsp.1) (by rw [ha]; exact hsp.2.1)] at hj
    exact .inl hj
   ·obtain ⟨n, hn, rfl⟩ := List.mem_map.1 hk
    obtain ⟨a1, a2, a3, a4⟩ := hif n hn; rw [ent_take a1 (by omega)] at hj
    exact .inr ⟨n, hn, _, a1, a2, a3, hj⟩
 ·obtain ⟨o0, o1, o2⟩ := h.obj
  have : i = 0 ∨ i = 1 ∨ i = 2 := by omega
  rcases this with rfl | rfl | rfl
  ·refine ⟨by rw [o0]; decide, fun h => absurd h (by omega), fun n hn => ?_, fun h => absurd h (by omega)⟩
   rw [o0] at hn
   cases hn
  ·refine ⟨by rw [o1]; decide, fun _ => by rw [o1]; show (ent es 0).c.f0 = _; rw [o0]; rfl, fun n hn => ?_, fun _ j hj => ?_⟩
   ·rw [o1] at hn
    cases hn
   ·rw [o1] at hj
    cases hj
  ·refine ⟨by rw [o2]; decide, fun _ => by rw [o2]; show (ent es 0).c.f0 = _; rw [o0]; rfl, fun n hn => ?_, fun _ j hj => ?_⟩
   ·rw [o2] at hn
    cases hn
   ·rw [o2] at hj
    cases hj
end Go.Proofs.YtaipkdglhfhhiaaGreatDoor.Hi

namespace Go.Proofs.YtaipkdglhfhhiaaGreatDoor.Pt
open Go.RowKit Go.Proofs.YtaipkdglhfhhiaaGreatDoorW.PrintWords Go.Proofs.YtaipkdglhfhhiaaGreatDoorW.PrintLast Go.Proofs.YtaipkdglhfhhiaaGreatDoorW.PrintMore
attribute [local go_sem] max2_int min2_int max_two min_two max_three min_three max_four min_four   -- for this text's walks alone
set_option linter.unusedVariables false
set_option linter.unusedSimpArgs false
theorem eqA24 (d : Nat) (w : World) (x0 y0 : Int) (x1 y1 : ByteArray) :
  (Op.equalIn (d + 2) 24 (.agg #[.int .i64 x0, .string x1]) (.agg #[.int .i64 y0, .string y1])).run Tryz.prog w = .ok (x0 == y0 && (x1.toList == y1.toList)) w := by
 refine eqA_of Tryz.underlying24 (by kernel_rfl) ?_; refine eqf_cons (by rfl) (by go_simp; rfl) (by go_simp; rfl) (by go_simp) ?_
 exact eqf_last (by rfl) (by go_simp; rfl) (by go_simp; rfl) (by go_simp)
end Go.Proofs.YtaipkdglhfhhiaaGreatDoor.Pt

namespace Go.Proofs.YtaipkdglhfhhiaaGreatDoor.Pt
open Go.RowKit Go.Proofs.YtaipkdglhfhhiaaGreatDoorW.PrintWords Go.Proofs.YtaipkdglhfhhiaaGreatDoorW.PrintLast Go.Proofs.YtaipkdglhfhhiaaGreatDoorW.PrintMore
attribute [local go_sem] max2_int min2_int max_two min_two max_three min_three max_four min_four   -- for this text's walks alone
set_option linter.unusedVariables false
set_option linter.unusedSimpArgs false
attribute [local go_sem high] eqA24
def arrays_Loaded.f (a0 : List Hi.Ent) (a1_0 : Int) (a1_1 : ByteArray) : Option (Int) := (types_Check.f a1_0 a1_1).bind fun t140 => (if t140 = 0 then ((hier_World_ByName.f a0 a1_1).bind fun bt141 => (if a1_1.toList = ([] : List UInt8) then (some 0) else (if bt141.2 = 0 then (some 0) else (some 20)))) else (some t140))
set_option maxHeartbeats 8000000 in
set_option maxRecDepth 100000 in
theorem arrays_Loaded.calls (G_ : Nat) (a0 : List Hi.Ent) (a1_0 : Int) (a1_1 : ByteArray) (r : Int) (w : World) (hq0 : WOK w G_ a0) (h : arrays_Loaded.f a0 a1_0 a1_1 = some r) :
  Calls Tryz.prog 42 #[.pointer (some ⟨G_, 0, none⟩), .agg #[.int .i64 a1_0, .string a1_1]] w fun e w' => e = .returned (.int .i64 r) ∧ Below w.heap.size w w' := by
 have hu24 := Tryz.underlying24; have HQa0 := Aside0.mk hq0; clear hq0; have HB := Aside0.mk (Below.refl w.heap.size w); have H : ((types_Check.f a1_0 a1_1).bind fun t140 => (if t140 = 0 then ((hier_World_ByName.f a0 a1_1).bind fun bt141 => (if a1_1.toList = ([] : List UInt8) then (some 0) else (if bt141.2 = 0 then (some 0) else (some 20)))) else (some t140))) = some r := h; clear h; replace H := Option.bind_eq_some_iff.mp H; obtain ⟨t140, A30, H⟩ := H; replace H : (if t140 = 0 then ((hier_World_ByName.f a0 a1_1).bind fun bt141 => (if a1_1.toList = ([] : List UInt8) then (some 0) else (if bt141.2 = 0 then (some 0) else (some 20)))) else (some t140)) = some r := H; have A3 := Aside0.mk A30; clear A30
 by_cases c4 : t140 = 0
 ·rw [if_pos c4] at H
  have c4b0 : (t140 == 0) = true := beq_iff_eq.mpr c4; have c4b1 : (t140 != 0) = false := bne_eq_false_iff_eq.mpr c4; clear c4; replace H := Option.bind_eq_some_iff.mp H; obtain ⟨⟨t141, t142⟩, A50, H⟩ := H; replace H : (if a1_1.toList = ([] : List UInt8) then (some 0) else (if t142 = 0 then (some 0) else (some 20))) = some r := H; have A5 := Aside0.mk A50; clear A50
  by_cases c6 : a1_1.toList = ([] : List UInt8)
  ·rw [if_pos c6] at H
   have c6b0 : (a1_1.toList == ([] : List UInt8)) = true := beq_iff_eq.mpr c6; have c6b1 : (a1_1.toList != ([] : List UInt8)) = false := bne_eq_false_iff_eq.mpr c6; clear c6; obtain rfl := Option.some.inj H; go_enter Tryz.func42, Tryz.ntmps42; go_wp2_with (first | ((with_reducible refine gate_dst (N := 3) rfl ?_); refine eX 3 #[.int .i64 a1_0, .string a1_1] 24 ?_; intro gb139 hg w7 hbox hb; have n0_ := Aside0.mk (below_step (bX HB) hb); have n1_ := Aside0.mk (hbox); have n2_ := Aside0.mk ((by rw [hg]; exact (below_size (bX HB)) : w.heap.size ≤ gb139)); have n3_ := Aside0.mk ((by rw [hg]; exact (below_size (bX HB)) : w.heap.size ≤ gb139)); clear HB; have HB := n0_; have BK139 := n1_; have GW139 := n2_; have GE139 := n3_; clear n0_ n1_ n2_ n3_; clear hb hbox hg; obtain ⟨hcz8_0, hcz8_1, hfz8_0, hfz8_1⟩ := c2X BK139) | ((with_reducible refine gate_callee (f := 83) rfl ?_); refine gX (some 11) Tryz.func83 #[.agg #[.int .i64 a1_0, .string a1_1]] ?_; (with_reducible refine (types_Check.calls a1_0 a1_1 t140 _ A3.out).mono ?_); rintro e w9 ⟨rfl, hb⟩; refine ⟨_, rfl, ?_⟩; have n0_ := Aside0.mk (blk_below (kX BK139) hb); have n1_ := Aside0.mk (below_step (bX1 HB GE139) hb); clear BK139; clear HB; have BK139 := n0_; have HB := n1_; clear n0_ n1_; (try clear hb); (try clear hb2); (try clear hk); (try clear hi); obtain ⟨hcz10_0, hcz10_1, hfz10_0, hfz10_1⟩ := c2X BK139) | ((with_reducible refine gate_callee (f := 55) rfl ?_); refine gX (some 19) Tryz.func55 #[.pointer (some ⟨G_, 0, none⟩), .string a1_1] ?_; (with_reducible refine (hier_World_ByName.calls G_ a0 a1_1 t141 t142 _ ?side1 A5.out).mono ?_); (case side1 => repeat (first | (with_reducible exact HQa0.out) | (with_reducible refine WOK.alloc ?_ _) | (with_reducible refine WOK.drewN ?_ _) | (with_reducible refine WOK.drew ?_) | exact WOK.below HQa0.out HB.out | exact WOK.below HQa0.out (bX1 HB GE139))); rintro e w11 ⟨rfl, hb⟩; refine ⟨_, rfl, ?_⟩; have n0_ := Aside0.mk (blk_below (kX BK139) hb); have n1_ := Aside0.mk (below_step (bX1 HB GE139) hb); clear BK139; clear HB; have BK139 := n0_; have HB := n1_; clear n0_ n1_; (try clear hb); (try clear hb2); (try clear hk); (try clear hi); obtain ⟨hcz12_0, hcz12_1, hfz12_0, hfz12_1⟩ := c2X BK139)); go_ret
   exact ⟨by first | rfl | (simp [errW_none, errW_some] <;> rfl) | (simp [*, errW_none, errW_some] <;> rfl), bX1 HB GE139⟩
  ·rw [if_neg c6] at H
   have c6b0 : (a1_1.toList == ([] : List UInt8)) = false := beq_eq_false_iff_ne.mpr c6; have c6b1 : (a1_1.toList != ([] : List UInt8)) = true := bne_iff_ne.mpr c6
   by_cases c13 : t142 = 0
   ·rw [if_pos c13] at H
    have c13b0 : (t142 == 0) = true := beq_iff_eq.mpr c13; have c13b1 : (t142 != 0) = false := bne_eq_false_iff_eq.mpr c13; clear c13; obtain rfl := Option.some.inj H; go_enter Tryz.func42, Tryz.ntmps42; go_wp2_with (first | ((with_reducible refine gate_dst (N := 3) rfl ?_); refine eX 3 #[.int .i64 a1_0, .string a1_1] 24 ?_; intro gb139 hg w14 hbox hb; have n0_ := Aside0.mk (below_step (bX HB) hb); have n1_ := Aside0.mk (hbox); have n2_ := Aside0.mk ((by rw [hg]; exact (below_size (bX HB)) : w.heap.size ≤ gb139)); have n3_ := Aside0.mk ((by rw [hg]; exact (below_size (bX HB)) : w.heap.size ≤ gb139)); clear HB; have HB := n0_; have BK139 := n1_; have GW139 := n2_; have GE139 := n3_; clear n0_ n1_ n2_ n3_; clear hb hbox hg; obtain ⟨hcz15_0, hcz15_1, hfz15_0, hfz15_1⟩ := c2X BK139) | ((with_reducible refine gate_callee (f := 83) rfl ?_); refine gX (some 11) Tryz.func83 #[.agg #[.int .i64 a1_0, .string a1_1]] ?_; (with_reducible refine (types_Check.calls a1_0 a1_1 t140 _ A3.out).mono ?_); rintro e w16 ⟨rfl, hb⟩; refine ⟨_, rfl, ?_⟩; have n0_ := Aside0.mk (blk_below (kX BK139) hb); have n1_ := Aside0.mk (below_step (bX1 HB GE139) hb); clear BK139; clear HB; have BK139 := n0_; have HB := n1_; clear n0_ n1_; (try clear hb); (try clear hb2); (try clear hk); (try clear hi); obtain ⟨hcz17_0, hcz17_1, hfz17_0, hfz17_1⟩ := c2X BK139) | ((with_reducible refine gate_callee (f := 55) rfl ?_); refine gX (some 19) Tryz.func55 #[.pointer (some ⟨G_, 0, none⟩), .string a1_1] ?_; (with_reducible refine (hier_World_ByName.calls G_ a0 a1_1 t141 t142 _ ?side1 A5.out).mono ?_); (case side1 => repeat (first | (with_reducible exact HQa0.out) | (with_reducible refine WOK.alloc ?_ _) | (with_reducible refine WOK.drewN ?_ _) | (with_reducible refine WOK.drew ?_) | exact WOK.below HQa0.out HB.out | exact WOK.below HQa0.out (bX1 HB GE139))); rintro e w18 ⟨rfl, hb⟩; refine ⟨_, rfl, ?_⟩; have n0_ := Aside0.mk (blk_below (kX BK139) hb); have n1_ := Aside0.mk (below_step (bX1 HB GE139) hb); clear BK139; clear HB; have BK139 := n0_; have HB := n1_; clear n0_ n1_; (try clear hb); (try clear hb2); (try clear hk); (try clear hi); obtain ⟨hcz19_0, hcz19_1, hfz19_0, hfz19_1⟩ := c2X BK139)); go_ret
    exact ⟨by first | rfl | (simp [errW_none, errW_some] <;> rfl) | (simp [*, errW_none, errW_some] <;> rfl), bX1 HB GE139⟩
   ·rw [if_neg c13] at H
    have c13b0 : (t142 == 0) = false := beq_eq_false_iff_ne.mpr c13; have c13b1 : (t142 != 0) = true := bne_iff_ne.mpr c13; obtain rfl := Option.some.inj H; go_enter Tryz.func42, Tryz.ntmps42; go_wp2_with (first | ((with_reducible refine gate_dst (N := 3) rfl ?_); refine eX 3 #[.int .i64 a1_0, .string a1_1] 24 ?_; intro gb139 hg w20 hbox hb; have n0_ := Aside0.mk (below_step (bX HB) hb); have n1_ := Aside0.mk (hbox); have n2_ := Aside0.mk ((by rw [hg]; exact (below_size (bX HB)) : w.heap.size ≤ gb139)); have n3_ := Aside0.mk ((by rw [hg]; exact (below_size (bX HB)) : w.heap.size ≤ gb139)); clear HB; have HB := n0_; have BK139 := n1_; have GW139 := n2_; have GE139 := n3_; clear n0_ n1_ n2_ n3_; clear hb hbox hg; obtain ⟨hcz21_0, hcz21_1, hfz21_0, hfz21_1⟩ := c2X BK139) | ((with_reducible refine gate_callee (f := 83) rfl ?_); refine gX (some 11) Tryz.func83 #[.agg #[.int .i64 a1_0, .string a1_1]] ?_; (with_reducible refine (types_Check.calls a1_0 a1_1 t140 _ A3.out).mono ?_); rintro e w22 ⟨rfl, hb⟩; refine ⟨_, rfl, ?_⟩; have n0_ := Aside0.mk (blk_below (kX BK139) hb); have n1_ := Aside0.mk (below_step (bX1 HB GE139) hb); clear BK139; clear HB; have BK139 := n0_; have HB := n1_; clear n0_ n1_; (try clear hb); (try clear hb2); (try clear hk); (try clear hi); obtain ⟨hcz23_0, hcz23_1, hfz23_0, hfz23_1⟩ := c2X BK139) | ((with_reducible refine gate_callee (f := 55) rfl ?_); refine gX (some 19) Tryz.func55 #[.pointer (some ⟨G_, 0, none⟩), .string a1_1] ?_; (with_reducible refine (hier_World_ByName.calls G_ a0 a1_1 t141 t142 _ ?side1 A5.out).mono ?_); (case side1 => repeat (first | (with_reducible exact HQa0.out) | (with_reducible refine WOK.alloc ?_ _) | (with_reducible refine WOK.drewN ?_ _) | (with_reducible refine WOK.drew ?_) | exact WOK.below HQa0.out HB.out | exact WOK.below HQa0.out (bX1 HB GE139))); rintro e w24 ⟨rfl, hb⟩; refine ⟨_, rfl, ?_⟩; have n0_ := Aside0.mk (blk_below (kX BK139) hb); have n1_ := Aside0.mk (below_step (bX1 HB GE139) hb); clear BK139; clear HB; have BK139 := n0_; have HB := n1_; clear n0_ n1_; (try clear hb); (try clear hb2); (try clear hk); (try clear hi); obtain ⟨hcz25_0, hcz25_1, hfz25_0, hfz25_1⟩ := c2X BK139)); go_ret
    exact ⟨by first | rfl | (simp [errW_none, errW_some] <;> rfl) | (simp [*, errW_none, errW_some] <;> rfl), bX1 HB GE139⟩
 ·rw [if_neg c4] at H
  have c4b0 : (t140 == 0) = false := beq_eq_false_iff_ne.mpr c4; have c4b1 : (t140 != 0) = true := bne_iff_ne.mpr c4; obtain rfl := Option.some.inj H; go_enter Tryz.func42, Tryz.ntmps42; go_wp2_with (first | ((with_reducible refine gate_dst (N := 3) rfl ?_); refine eX 3 #[.int .i64 a1_0, .string a1_1] 24 ?_; intro gb139 hg w26 hbox hb; have n0_ := Aside0.mk (below_step (bX HB) hb); have n1_ := Aside0.mk (hbox); have n2_ := Aside0.mk ((by rw [hg]; exact (below_size (bX HB)) : w.heap.size ≤ gb139)); have n3_ := Aside0.mk ((by rw [hg]; exact (below_size (bX HB)) : w.heap.size ≤ gb139)); clear HB; have HB := n0_; have BK139 := n1_; have GW139 := n2_; have GE139 := n3_; clear n0_ n1_ n2_ n3_; clear hb hbox hg; obtain ⟨hcz27_0, hcz27_1, hfz27_0, hfz27_1⟩ := c2X BK139) | ((with_reducible refine gate_callee (f := 83) rfl ?_); refine gX (some 11) Tryz.func83 #[.agg #[.int .i64 a1_0, .string a1_1]] ?_; (with_reducible refine (types_Check.calls a1_0 a1_1 t140 _ A3.out).mono ?_); rintro e w28 ⟨rfl, hb⟩; refine ⟨_, rfl, ?_⟩; have n0_ := Aside0.mk (blk_below (kX BK139) hb); have n1_ := Aside0.mk (below_step (bX1 HB GE139) hb); clear BK139; clear HB; have BK139 := n0_; have HB := n1_; clear n0_ n1_; (try clear hb); (try clear hb2); (try clear hk); (try clear hi))); go_ret
  exact ⟨by first | rfl | (simp [errW_none, errW_some] <;> rfl) | (simp [*, errW_none, errW_some] <;> rfl), bX1 HB GE139⟩
def arrays_isInt.f (a0_0 : Int) (a0_1 : ByteArray) : Option (Bool) := some (a0_0 == 0 && (a0_1.toList == ([] : List UInt8)))
set_option maxHeartbeats 8000000 in
set_option maxRecDepth 100000 in
theorem arrays_isInt.calls (a0_0 : Int) (a0_1 : ByteArray) (r : Bool) (w : World) (h : arrays_isInt.f a0_0 a0_1 = some r) :
  Calls Tryz.prog 78 #[.agg #[.int .i64 a0_0, .string a0_1]] w fun e w' => e = .returned (.bool r) ∧ Below w.heap.size w w' := by
 have hu24 := Tryz.underlying24; have HB := Aside0.mk (Below.refl w.heap.size w); have H : (some (a0_0 == 0 && (a0_1.toList == ([] : List UInt8)))) = some r := h; clear h; obtain rfl := Option.some.inj H; go_enter Tryz.func78, Tryz.ntmps78; go_wp2_with (first | ((with_reducible refine gate_dst (N := 1) rfl ?_); refine eX 1 #[.int .i64 a0_0, .string a0_1] 24 ?_; intro gb143 hg w2 hbox hb; have n0_ := Aside0.mk (below_step (bX HB) hb); have n1_ := Aside0.mk (hbox); have n2_ := Aside0.mk ((by rw [hg]; exact (below_size (bX HB)) : w.heap.size ≤ gb143)); have n3_ := Aside0.mk ((by rw [hg]; exact (below_size (bX HB)) : w.heap.size ≤ gb143)); clear HB; have HB := n0_; have BK143 := n1_; have GW143 := n2_; have GE143 := n3_; clear n0_ n1_ n2_ n3_; clear hb hbox hg; obtain ⟨hcz3_0, hcz3_1, hfz3_0, hfz3_1⟩ := c2X BK143)); go_ret
 exact ⟨by first | rfl | (simp [errW_none, errW_some] <;> rfl) | (simp [*, errW_none, errW_some] <;> rfl), bX1 HB GE143⟩
def arrays_top.f (a0 : ByteArray) : Option (Bool) := if a0.toList = ([79, 98, 106, 101, 99, 116] : List UInt8) then (some true) else (if a0.toList = ([67, 108, 111, 110, 101, 97, 98, 108, 101] : List UInt8) then (some true) else (some (a0.toList == ([83, 101, 114, 105, 97, 108, 105, 122, 97, 98, 108, 101] : List UInt8))))
set_option maxHeartbeats 8000000 in
set_option maxRecDepth 100000 in
theorem arrays_top.calls (a0 : ByteArray) (r : Bool) (w : World) (h : arrays_top.f a0 = some r) :
  Calls Tryz.prog 106 #[.string a0] w fun e w' => e = .returned (.bool r) ∧ Drawn0 w w' := by
 have H : (if a0.toList = ([79, 98, 106, 101, 99, 116] : List UInt8) then (some true) else (if a0.toList = ([67, 108, 111, 110, 101, 97, 98, 108, 101] : List UInt8) then (some true) else (some (a0.toList == ([83, 101, 114, 105, 97, 108, 105, 122, 97, 98, 108, 101] : List UInt8))))) = some r := h; clear h
 by_cases c2 : a0.toList = ([79, 98, 106, 101, 99, 116] : List UInt8)
 ·rw [if_pos c2] at H
  have c2b0 : (a0.toList == ([79, 98, 106, 101, 99, 116] : List UInt8)) = true := beq_iff_eq.mpr c2; have c2b1 : (a0.toList != ([79, 98, 106, 101, 99, 116] : List UInt8)) = false := bne_eq_false_iff_eq.mpr c2; clear c2; obtain rfl := Option.some.inj H; go_enter Tryz.func106, Tryz.ntmps106; go_wp2; go_ret
  exact ⟨by first | rfl | (simp; done) | (simp [*]; done), by repeat (first | exact Drawn0.refl _ | apply Drawn0.step)⟩
 ·rw [if_neg c2] at H
  have c2b0 : (a0.toList == ([79, 98, 106, 101, 99, 116] : List UInt8)) = false := beq_eq_false_iff_ne.mpr c2; have c2b1 : (a0.toList != ([79, 98, 106, 101, 99, 116] : List UInt8)) = true := bne_iff_ne.mpr c2
  by_cases c3 : a0.toList = ([67, 108, 111, 110, 101, 97, 98, 108, 101] : List UInt8)
  ·rw [if_pos c3] at H
   have c3b0 : (a0.toList == ([67, 108, 111, 110, 101, 97, 98, 108, 101] : List UInt8)) = true := beq_iff_eq.mpr c3; have c3b1 : (a0.toList != ([67, 108, 111, 110, 101, 97, 98, 108, 101] : List UInt8)) = false := bne_eq_false_iff_eq.mpr c3; clear c3; obtain rfl := Option.some.inj H; go_enter Tryz.func106, Tryz.ntmps106; go_wp2; go_ret
   exact ⟨by first | rfl | (simp; done) | (simp [*]; done), by repeat (first | exact Drawn0.refl _ | apply Drawn0.step)⟩
  ·rw [if_neg c3] at H
   have c3b0 : (a0.toList == ([67, 108, 111, 110, 101, 97, 98, 108, 101] : List UInt8)) = false := beq_eq_false_iff_ne.mpr c3; have c3b1 : (a0.toList != ([67, 108, 111, 110, 101, 97, 98, 108, 101] : List UInt8)) = true := bne_iff_ne.mpr c3; obtain rfl := Option.some.inj H; go_enter Tryz.func106, Tryz.ntmps106; go_wp2; go_ret
   exact ⟨by first | rfl | (simp; done) | (simp [*]; done), by repeat (first | exact Drawn0.refl _ | apply Drawn0.step)⟩
mutual
def arrays_below.j1 : Nat → List Hi.Ent → Int → ByteArray → Int → ByteArray → Option (Bool)
 | 0, _, _, _, _, _ => none
 | k + 1, x0, x145000, x145001, x146000, x146001 => (arrays_isInt.f x145000 x145001).bind fun t146 => (if t146 = true then (arrays_below.j2 k x0 true x145000 x145001 x146000 x146001) else ((arrays_isInt.f x146000 x146001).bind fun t147 => (arrays_below.j2 k x0 t147 x145000 x145001 x146000 x146001)))
def arrays_below.j2 : Nat → List Hi.Ent → Bool → Int → ByteArray → Int → ByteArray → Option (Bool)
 | 0, _, _, _, _, _, _ => none
 | k + 1, x0, x27, x145000, x145001, x146000, x146001 => if x27 = true then (some (x145000 == x146000 && (x145001.toList == x146001.toList))) else (if x145000 > 0 then ((arrays_top.f x146001).bind fun t148 => (some t148)) else (if x146000 > 0 then (some false) else ((hier_World_ByName.f x0 x145001).bind fun bt149 => ((hier_World_ByName.f x0 x146001).bind fun bt151 => ((hier_World_Extends.f x0 bt149.1 bt151.1).bind fun t153 => (some t153))))))
def arrays_below.l0 : Nat → List Hi.Ent → Int → ByteArray → Int → ByteArray → Option (Bool)
 | 0, _, _, _, _, _ => none
 | k + 1, x0, x145000, x145001, x146000, x146001 => if x145000 > 0 then (if x146000 > 0 then (arrays_below.l0 k x0 (wrap64 (x145000 - 1)) x145001 (wrap64 (x146000 - 1)) x146001) else (arrays_below.j1 k x0 x145000 x145001 x146000 x146001)) else (arrays_below.j1 k x0 x145000 x145001 x146000 x146001)
end
def arrays_below.f (k : Nat) (a0 : List Hi.Ent) (a1_0 : Int) (a1_1 : ByteArray) (a2_0 : Int) (a2_1 : ByteArray) : Option (Bool) := arrays_below.l0 k a0 a1_0 a1_1 a2_0 a2_1
set_option maxHeartbeats 8000000 in
set_option maxRecDepth 100000 in
theorem arrays_below.calls (k : Nat) (G_ : Nat) (a0 : List Hi.Ent) (a1_0 : Int) (a1_1 : ByteArray) (a2_0 : Int) (a2_1 : ByteArray) (r : Bool) (w : World) (hq0 : WOK w G_ a0) (h : arrays_below.f k a0 a1_0 a1_1 a2_0 a2_1 = some r) :
  Calls Tryz.prog 82 #[.pointer (some ⟨G_, 0, none⟩), .agg #[.int .i64 a1_0, .string a1_1], .agg #[.int .i64 a2_0, .string a2_1]] w fun e w' => e = .returned (.bool r) ∧ Below w.heap.size w w' := by
 have hu24 := Tryz.underlying24; have HQa0 := Aside0.mk hq0; clear hq0; have HB := Aside0.mk (Below.refl w.heap.size w); have H : (arrays_below.l0 k a0 a1_0 a1_1 a2_0 a2_1) = some r := h; clear h; have HC4 := Aside0.mk H; clear H; go_enter Tryz.func82, Tryz.ntmps82
 go_upto_block 0 with (first | ((with_reducible refine gate_dst (N := 4) rfl ?_); refine eX 4 #[.int .i64 a1_0, .string a1_1] 24 ?_; intro gb144 hg w5 hbox hb; have n0_ := Aside0.mk (below_step (bX HB) hb); have n1_ := Aside0.mk (hbox); have n2_ := Aside0.mk ((by rw [hg]; exact (below_size (bX HB)) : w.heap.size ≤ gb144)); have n3_ := Aside0.mk ((by rw [hg]; exact (below_size (bX HB)) : w.heap.size ≤ gb144)); clear HB; have HB := n0_; have BK144 := n1_; have GW144 := n2_; have GE144 := n3_; clear n0_ n1_ n2_ n3_; clear hb hbox hg) | ((with_reducible refine gate_dst (N := 5) rfl ?_); refine eX 5 #[.int .i64 a2_0, .string a2_1] 24 ?_; intro gb145 hg w6 hbox hb; have n0_ := Aside0.mk (blk_below (kX BK144) hb); have n1_ := Aside0.mk (below_step (bX1 HB GE144) hb); have n2_ := Aside0.mk (hbox); have n3_ := Aside0.mk ((by rw [hg]; exact (below_size (bX1 HB GE144)) : w.heap.size ≤ gb145)); have n4_ := Aside0.mk ((by rw [hg]; exact (below_size (bX1 HB GE144)) : w.heap.size ≤ gb145)); have n5_ := Aside0.mk ((by rw [hg]; exact Nat.ne_of_lt (blk_lt (kX BK144)) : gb144 ≠ gb145)); have n6_ := Aside0.mk ((by rw [hg]; exact Nat.ne_of_gt (blk_lt (kX BK144)) : gb145 ≠ gb144)); clear BK144; clear HB; have BK144 := n0_; have HB := n1_; have BK145 := n2_; have GW145 := n3_; have GE145 := n4_; have NB144_145 := n5_; have NB145_144 := n6_; clear n0_ n1_ n2_ n3_ n4_ n5_ n6_; clear hb hbox hg))
 (try simp only [Act.put, List.setIfInBounds_toArray, List.set_cons_zero, List.set_cons_succ])
 go_cut [] (fun wc => ∃ (kq : Nat) (x145000_3 : Int) (x146000_3 : Int), Aside0 (arrays_below.j1 kq a0 x145000_3 a1_1 x146000_3 a2_1 = some r) ∧ Aside0 (kq ≤ k) ∧ Aside0 (wc.heap[gb144]? = some (.cells #[.int .i64 x145000_3, .string a1_1] 24 (0, 0))) ∧ Aside0 (wc.heap[gb145]? = some (.cells #[.int .i64 x146000_3, .string a2_1] 24 (0, 0))) ∧ Aside0 (Below w.heap.size w wc))
 case first =>
  have H := HC4.out; clear HC4; have H' := Aside0.mk H; clear H; go_wp2
  go_loopg [] k (fun kq w' => ∃ (x145000_1 : Int) (x146000_1 : Int), Aside0 (arrays_below.l0 kq a0 x145000_1 a1_1 x146000_1 a2_1 = some r) ∧ Aside0 (kq ≤ k) ∧ Aside0 (w'.heap[gb144]? = some (.cells #[.int .i64 x145000_1, .string a1_1] 24 (0, 0))) ∧ Aside0 (w'.heap[gb145]? = some (.cells #[.int .i64 x146000_1, .string a2_1] 24 (0, 0))) ∧ Aside0 (Below w.heap.size w w'))
  case atStart => exact ⟨(a1_0), (a2_0), H', ⟨Nat.le_refl _⟩, ⟨by (with_reducible repeat (first | refine blk_drewN ?_ _ | refine blk_drew ?_ | refine blk_alloc ?_ _)); exact BK144.out⟩, ⟨by (with_reducible repeat (first | refine blk_drewN ?_ _ | refine blk_drew ?_ | refine blk_alloc ?_ _)); exact BK145.out⟩, ⟨bX2 HB GE144 GE145⟩⟩
  case round =>
   clear H'
   try clear p2
   obtain ⟨x145000_1, x146000_1, HA, HK1, BK144, BK145, HB⟩ := hrel
   cases gk with
   | zero => exact absurd HA.out (by simp [arrays_below.l0])
   | succ k1 =>
    have H := HA.out; clear HA; simp only [arrays_below.l0] at H
    by_cases c7 : x145000_1 > 0
    ·rw [if_pos c7] at H
     have c7b0 : decide (0 < x145000_1) = true := decide_eq_true c7; clear c7
     (first | rw [c7b0] | (simp only [i64_w, i32_w]; rw [c7b0]) | skip)
     by_cases c8 : x146000_1 > 0
     ·rw [if_pos c8] at H
      have c8b0 : decide (0 < x146000_1) = true := decide_eq_true c8; clear c8; have H' := Aside0.mk H; clear H; have hnb9 := NB144_145.out; have hnc9 := NB145_144.out; obtain ⟨hcz10_0, hcz10_1, hfz10_0, hfz10_1⟩ := c2X BK144; obtain ⟨hcz11_0, hcz11_1, hfz11_0, hfz11_1⟩ := c2X BK145; go_wp2
      go_roundg k1
      case measure => have := HK1.out; omega
      case rel => exact ⟨(wrap64 (x145000_1 - 1)), (wrap64 (x146000_1 - 1)), H', ⟨by have := HK1.out; omega⟩, ⟨by (with_reducible repeat (first | refine blk_drewN ?_ _ | refine blk_drew ?_ | refine blk_alloc ?_ _)); refine blk_far ?_ NB144_145.out _; (with_reducible repeat (first | refine blk_drewN ?_ _ | refine blk_drew ?_ | refine blk_alloc ?_ _)); refine blk_put (cs := #[.int .i64 x145000_1, .string a1_1]) ?_ 0 _ rfl; (with_reducible repeat (first | refine blk_drewN ?_ _ | refine blk_drew ?_ | refine blk_alloc ?_ _)); exact BK144.out⟩, ⟨by (with_reducible repeat (first | refine blk_drewN ?_ _ | refine blk_drew ?_ | refine blk_alloc ?_ _)); refine blk_put (cs := #[.int .i64 x146000_1, .string a2_1]) ?_ 0 _ rfl; (with_reducible repeat (first | refine blk_drewN ?_ _ | refine blk_drew ?_ | refine blk_alloc ?_ _)); refine blk_far ?_ NB145_144.out _; (with_reducible repeat (first | refine blk_drewN ?_ _ | refine blk_drew ?_ | refine blk_alloc ?_ _)); exact BK145.out⟩, ⟨bX2 HB GE144 GE145⟩⟩
     ·rw [if_neg c8] at H
      have c8b0 : decide (0 < x146000_1) = false := decide_eq_false c8; clear c8; have H' := Aside0.mk H; clear H; have hnb12 := NB144_145.out; have hnc12 := NB145_144.out; obtain ⟨hcz13_0, hcz13_1, hfz13_0, hfz13_1⟩ := c2X BK144; obtain ⟨hcz14_0, hcz14_1, hfz14_0, hfz14_1⟩ := c2X BK145; go_wp2; go_meet
      case rel => exact ⟨_, (x145000_1), (x146000_1), H', ⟨by have := HK1.out; first | omega | exact Nat.le_refl _⟩, ⟨by (with_reducible repeat (first | refine blk_drewN ?_ _ | refine blk_drew ?_ | refine blk_alloc ?_ _)); exact BK144.out⟩, ⟨by (with_reducible repeat (first | refine blk_drewN ?_ _ | refine blk_drew ?_ | refine blk_alloc ?_ _)); exact BK145.out⟩, ⟨bX2 HB GE144 GE145⟩⟩
    ·rw [if_neg c7] at H
     have c7b0 : decide (0 < x145000_1) = false := decide_eq_false c7; clear c7
     (first | rw [c7b0] | (simp only [i64_w, i32_w]; rw [c7b0]) | skip)
     have H' := Aside0.mk H; clear H; have hnb15 := NB144_145.out; have hnc15 := NB145_144.out; obtain ⟨hcz16_0, hcz16_1, hfz16_0, hfz16_1⟩ := c2X BK144; go_wp2; go_meet
     case rel => exact ⟨_, (x145000_1), (x146000_1), H', ⟨by have := HK1.out; first | omega | exact Nat.le_refl _⟩, ⟨by (with_reducible repeat (first | refine blk_drewN ?_ _ | refine blk_drew ?_ | refine blk_alloc ?_ _)); exact BK144.out⟩, ⟨by (with_reducible repeat (first | refine blk_drewN ?_ _ | refine blk_drew ?_ | refine blk_alloc ?_ _)); exact BK145.out⟩, ⟨bX2 HB GE144 GE145⟩⟩
 case rest =>
  clear HC4
  try clear c1
  try clear p2
  try clear p6
  try clear c7
  try clear c7b0
  try clear c8
  try clear c8b0
  try clear c9
  try clear c12
  try clear c15
  try clear hcz10_0 hcz10_1
  try clear hcz11_0 hcz11_1
  try clear hcz13_0 hcz13_1
  try clear hcz14_0 hcz14_1
  try clear hcz16_0 hcz16_1
  try clear hfz10_0 hfz10_1
  try clear hfz11_0 hfz11_1
  try clear hfz13_0 hfz13_1
  try clear hfz14_0 hfz14_1
  try clear hfz16_0 hfz16_1
  try clear p2
  obtain ⟨kq, x145000_3, x146000_3, HA, HJ3, BK144, BK145, HB⟩ := hcut
  cases kq with
  | zero => exact absurd HA.out (by simp [arrays_below.j1])
  | succ kj3 =>
   have H := HA.out; clear HA; simp only [arrays_below.j1] at H; have HC17 := Aside0.mk H; clear H
   go_upto_region 4 with (fail)
   go_cut [27] (fun v27 wc => ∃ (kq : Nat) (x27_16 : Bool), v27 = .bool x27_16 ∧ Aside0 (arrays_below.j2 kq a0 x27_16 x145000_3 a1_1 x146000_3 a2_1 = some r) ∧ Aside0 (kq ≤ kj3) ∧ Aside0 (wc.heap[gb144]? = some (.cells #[.int .i64 x145000_3, .string a1_1] 24 (0, 0))) ∧ Aside0 (wc.heap[gb145]? = some (.cells #[.int .i64 x146000_3, .string a2_1] 24 (0, 0))) ∧ Aside0 (Below w.heap.size w wc))
   case first =>
    have H := HC17.out; clear HC17; replace H := Option.bind_eq_some_iff.mp H; obtain ⟨t146, A180, H⟩ := H; replace H : (if t146 = true then (arrays_below.j2 kj3 a0 true x145000_3 a1_1 x146000_3 a2_1) else ((arrays_isInt.f x146000_3 a2_1).bind fun t147 => (arrays_below.j2 kj3 a0 t147 x145000_3 a1_1 x146000_3 a2_1))) = some r := H; have A18 := Aside0.mk A180; clear A180
    by_cases c19 : t146 = true
    ·subst c19
     have H1 : (arrays_below.j2 kj3 a0 true x145000_3 a1_1 x146000_3 a2_1) = some r := by rw [if_pos rfl] at H; exact H
     clear H; have H := H1; clear H1; have H' := Aside0.mk H; clear H; have hnb20 := NB144_145.out; have hnc20 := NB145_144.out; obtain ⟨hcz21_0, hcz21_1, hfz21_0, hfz21_1⟩ := c2X BK144; go_wp2_with (first | ((with_reducible refine gate_callee (f := 78) rfl ?_); refine gX (some 29) Tryz.func78 #[.agg #[.int .i64 x145000_3, .string a1_1]] ?_; (with_reducible refine (arrays_isInt.calls x145000_3 a1_1 true _ A18.out).mono ?_); rintro e w22 ⟨rfl, hb⟩; refine ⟨_, rfl, ?_⟩; have n0_ := Aside0.mk (blk_below (kX BK144) hb); have n1_ := Aside0.mk (blk_below (kX BK145) hb); have n2_ := Aside0.mk (below_step (bX2 HB GE144 GE145) hb); clear BK144; clear BK145; clear HB; have BK144 := n0_; have BK145 := n1_; have HB := n2_; clear n0_ n1_ n2_; (try clear hb); (try clear hb2); (try clear hk); (try clear hi))); go_meet
     case rel => exact ⟨_, (true), vX, H', ⟨by have := HJ3.out; first | omega | exact Nat.le_refl _⟩, ⟨by (with_reducible repeat (first | refine blk_drewN ?_ _ | refine blk_drew ?_ | refine blk_alloc ?_ _)); exact BK144.out⟩, ⟨by (with_reducible repeat (first | refine blk_drewN ?_ _ | refine blk_drew ?_ | refine blk_alloc ?_ _)); exact BK145.out⟩, ⟨bX2 HB GE144 GE145⟩⟩
    ·replace c19 := Bool.eq_false_iff.mpr c19
     subst c19
     have H1 : ((arrays_isInt.f x146000_3 a2_1).bind fun t147 => (arrays_below.j2 kj3 a0 t147 x145000_3 a1_1 x146000_3 a2_1)) = some r := by rw [if_neg (show ¬ (false = true) by decide)] at H; exact H
     clear H; have H := H1; clear H1; replace H := Option.bind_eq_some_iff.mp H; obtain ⟨t147, A230, H⟩ := H; replace H : (arrays_below.j2 kj3 a0 t147 x145000_3 a1_1 x146000_3 a2_1) = some r := H; have A23 := Aside0.mk A230; clear A230; have H' := Aside0.mk H; clear H; have hnb24 := NB144_145.out; have hnc24 := NB145_144.out; obtain ⟨hcz25_0, hcz25_1, hfz25_0, hfz25_1⟩ := c2X BK144; go_wp2_with (first | ((with_reducible refine gate_callee (f := 78) rfl ?_); refine gX (some 29) Tryz.func78 #[.agg #[.int .i64 x145000_3, .string a1_1]] ?_; (with_reducible refine (arrays_isInt.calls x145000_3 a1_1 false _ A18.out).mono ?_); rintro e w26 ⟨rfl, hb⟩; refine ⟨_, rfl, ?_⟩; have n0_ := Aside0.mk (blk_below (kX BK144) hb); have n1_ := Aside0.mk (blk_below (kX BK145) hb); have n2_ := Aside0.mk (below_step (bX2 HB GE144 GE145) hb); clear BK144; clear BK145; clear HB; have BK144 := n0_; have BK145 := n1_; have HB := n2_; clear n0_ n1_ n2_; (try clear hb); (try clear hb2); (try clear hk); (try clear hi); obtain ⟨hcz27_0, hcz27_1, hfz27_0, hfz27_1⟩ := c2X BK145) | (go_at_call 78; (with_reducible refine (arrays_isInt.calls x146000_3 a2_1 t147 _ A23.out).mono ?_); rintro e w28 ⟨rfl, hb⟩; have n0_ := Aside0.mk (blk_below (kX BK144) hb); have n1_ := Aside0.mk (blk_below (kX BK145) hb); have n2_ := Aside0.mk (below_step (bX2 HB GE144 GE145) hb); clear BK144; clear BK145; clear HB; have BK144 := n0_; have BK145 := n1_; have HB := n2_; clear n0_ n1_ n2_; (try clear hb); (try clear hb2); (try clear hk); (try clear hi))); go_meet
     case rel => exact ⟨_, (t147), vX, H', ⟨by have := HJ3.out; first | omega | exact Nat.le_refl _⟩, ⟨by (with_reducible repeat (first | refine blk_drewN ?_ _ | refine blk_drew ?_ | refine blk_alloc ?_ _)); exact BK144.out⟩, ⟨by (with_reducible repeat (first | refine blk_drewN ?_ _ | refine blk_drew ?_ | refine blk_alloc ?_ _)); exact BK145.out⟩, ⟨bX2 HB GE144 GE145⟩⟩
   case rest =>
    clear HC17
    try clear c1
    try clear c2
    try clear p2
    try clear p6
    try clear c7
    try clear c7b0
    try clear c8
    try clear c8b0
    try clear c9
    try clear c12
    try clear c15
    try clear c19
    try clear c20
    try clear c24
    try clear hcz10_0 hcz10_1
    try clear hcz11_0 hcz11_1
    try clear hcz13_0 hcz13_1
    try clear hcz14_0 hcz14_1
    try clear hcz16_0 hcz16_1
    try clear hcz21_0 hcz21_1
    try clear hcz25_0 hcz25_1
    try clear hcz27_0 hcz27_1
    try clear hfz10_0 hfz10_1
    try clear hfz11_0 hfz11_1
    try clear hfz13_0 hfz13_1
    try clear hfz14_0 hfz14_1
    try clear hfz16_0 hfz16_1
    try clear hfz21_0 hfz21_1
    try clear hfz25_0 hfz25_1
    try clear hfz27_0 hfz27_1
    try clear p2
    try clear p6
    obtain ⟨kq, x27_16, rfl, HA, HJ16, BK144, BK145, HB⟩ := hcut
    cases kq with
    | zero => exact absurd HA.out (by simp [arrays_below.j2])
    | succ kj16 =>
     have H := HA.out; clear HA; simp only [arrays_below.j2] at H
     by_cases c29 : x27_16 = true
     ·subst c29
      have H1 : (some (x145000_3 == x146000_3 && (a1_1.toList == a2_1.toList))) = some r := by rw [if_pos rfl] at H; exact H
      clear H; have H := H1; clear H1; obtain rfl := Option.some.inj H; have hnb30 := NB144_145.out; have hnc30 := NB145_144.out; obtain ⟨hcz31_0, hcz31_1, hfz31_0, hfz31_1⟩ := c2X BK144; obtain ⟨hcz32_0, hcz32_1, hfz32_0, hfz32_1⟩ := c2X BK145; go_wp2; go_ret
      exact ⟨by first | rfl | (simp [errW_none, errW_some] <;> rfl) | (simp [*, errW_none, errW_some] <;> rfl), bX2 HB GE144 GE145⟩
     ·replace c29 := Bool.eq_false_iff.mpr c29
      subst c29
      have H1 : (if x145000_3 > 0 then ((arrays_top.f a2_1).bind fun t148 => (some t148)) else (if x146000_3 > 0 then (some false) else ((hier_World_ByName.f a0 a1_1).bind fun bt149 => ((hier_World_ByName.f a0 a2_1).bind fun bt151 => ((hier_World_Extends.f a0 bt149.1 bt151.1).bind fun t153 => (some t153)))))) = some r := by rw [if_neg (show ¬ (false = true) by decide)] at H; exact H
      clear H; have H := H1; clear H1
      by_cases c33 : x145000_3 > 0
      ·rw [if_pos c33] at H
       have c33b0 : decide (0 < x145000_3) = true := decide_eq_true c33; clear c33; replace H := Option.bind_eq_some_iff.mp H; obtain ⟨t148, A340, H⟩ := H; replace H : (some t148) = some r := H; have A34 := Aside0.mk A340; clear A340; obtain rfl := Option.some.inj H; have hnb35 := NB144_145.out; have hnc35 := NB145_144.out; obtain ⟨hcz36_0, hcz36_1, hfz36_0, hfz36_1⟩ := c2X BK144; obtain ⟨hcz37_0, hcz37_1, hfz37_0, hfz37_1⟩ := c2X BK145; go_wp2_with (first | ((with_reducible refine gate_callee (f := 106) rfl ?_); refine gX (some 43) Tryz.func106 #[.string a2_1] ?_; (with_reducible refine (arrays_top.calls a2_1 t148 _ A34.out).mono ?_); rintro e w' ⟨rfl, ⟨nd, rfl⟩⟩; refine ⟨_, rfl, ?_⟩)); go_ret
       exact ⟨by first | rfl | (simp [errW_none, errW_some] <;> rfl) | (simp [*, errW_none, errW_some] <;> rfl), bX2 HB GE144 GE145⟩
      ·rw [if_neg c33] at H
       have c33b0 : decide (0 < x145000_3) = false := decide_eq_false c33; clear c33
       by_cases c38 : x146000_3 > 0
       ·rw [if_pos c38] at H
        have c38b0 : decide (0 < x146000_3) = true := decide_eq_true c38; clear c38; obtain rfl := Option.some.inj H; have hnb39 := NB144_145.out; have hnc39 := NB145_144.out; obtain ⟨hcz40_0, hcz40_1, hfz40_0, hfz40_1⟩ := c2X BK144; obtain ⟨hcz41_0, hcz41_1, hfz41_0, hfz41_1⟩ := c2X BK145; go_wp2; go_ret
        exact ⟨by first | rfl | (simp [errW_none, errW_some] <;> rfl) | (simp [*, errW_none, errW_some] <;> rfl), bX2 HB GE144 GE145⟩
       ·rw [if_neg c38] at H
        have c38b0 : decide (0 < x146000_3) = false := decide_eq_false c38; clear c38; replace H := Option.bind_eq_some_iff.mp H; obtain ⟨⟨t149, t150⟩, A420, H⟩ := H; replace H : ((hier_World_ByName.f a0 a2_1).bind fun bt151 => ((hier_World_Extends.f a0 t149 bt151.1).bind fun t153 => (some t153))) = some r := H; have A42 := Aside0.mk A420; clear A420; replace H := Option.bind_eq_some_iff.mp H; obtain ⟨⟨t151, t152⟩, A430, H⟩ := H; replace H : ((hier_World_Extends.f a0 t149 t151).bind fun t153 => (some t153)) = some r := H; have A43 := Aside0.mk A430; clear A430; replace H := Option.bind_eq_some_iff.mp H; obtain ⟨t153, A440, H⟩ := H; replace H : (some t153) = some r := H; have A44 := Aside0.mk A440; clear A440; obtain rfl := Option.some.inj H; have hnb45 := NB144_145.out; have hnc45 := NB145_144.out; obtain ⟨hcz46_0, hcz46_1, hfz46_0, hfz46_1⟩ := c2X BK144; obtain ⟨hcz47_0, hcz47_1, hfz47_0, hfz47_1⟩ := c2X BK145; go_wp2_with (first | ((with_reducible refine gate_callee (f := 55) rfl ?_); refine gX (some 52) Tryz.func55 #[.pointer (some ⟨G_, 0, none⟩), .string a1_1] ?_; (with_reducible refine (hier_World_ByName.calls G_ a0 a1_1 t149 t150 _ ?side1 A42.out).mono ?_); (case side1 => repeat (first | (with_reducible exact HQa0.out) | (with_reducible refine WOK.alloc ?_ _) | (with_reducible refine WOK.drewN ?_ _) | (with_reducible refine WOK.drew ?_) | exact WOK.below HQa0.out HB.out | exact WOK.below HQa0.out (bX2 HB GE144 GE145))); rintro e w48 ⟨rfl, hb⟩; refine ⟨_, rfl, ?_⟩; have n0_ := Aside0.mk (blk_below (kX BK144) hb); have n1_ := Aside0.mk (blk_below (kX BK145) hb); have n2_ := Aside0.mk (below_step (bX2 HB GE144 GE145) hb); clear BK144; clear BK145; clear HB; have BK144 := n0_; have BK145 := n1_; have HB := n2_; clear n0_ n1_ n2_; (try clear hb); (try clear hb2); (try clear hk); (try clear hi); obtain ⟨hcz49_0, hcz49_1, hfz49_0, hfz49_1⟩ := c2X BK145) | ((with_reducible refine gate_callee (f := 55) rfl ?_); refine gX (some 59) Tryz.func55 #[.pointer (some ⟨G_, 0, none⟩), .string a2_1] ?_; (with_reducible refine (hier_World_ByName.calls G_ a0 a2_1 t151 t152 _ ?side1 A43.out).mono ?_); (case side1 => repeat (first | (with_reducible exact HQa0.out) | (with_reducible refine WOK.alloc ?_ _) | (with_reducible refine WOK.drewN ?_ _) | (with_reducible refine WOK.drew ?_) | exact WOK.below HQa0.out HB.out | exact WOK.below HQa0.out (bX2 HB GE144 GE145))); rintro e w50 ⟨rfl, hb⟩; refine ⟨_, rfl, ?_⟩; have n0_ := Aside0.mk (blk_below (kX BK144) hb); have n1_ := Aside0.mk (blk_below (kX BK145) hb); have n2_ := Aside0.mk (below_step (bX2 HB GE144 GE145) hb); clear BK144; clear BK145; clear HB; have BK144 := n0_; have BK145 := n1_; have HB := n2_; clear n0_ n1_ n2_; (try clear hb); (try clear hb2); (try clear hk); (try clear hi)) | ((with_reducible refine gate_callee (f := 62) rfl ?_); refine gX (some 65) Tryz.func62 #[.pointer (some ⟨G_, 0, none⟩), .int .i64 t149, .int .i64 t151] ?_; (with_reducible refine (hier_World_Extends.calls G_ a0 t149 t151 t153 _ ?side1 A44.out).mono ?_); (case side1 => repeat (first | (with_reducible exact HQa0.out) | (with_reducible refine WOK.alloc ?_ _) | (with_reducible refine WOK.drewN ?_ _) | (with_reducible refine WOK.drew ?_) | exact WOK.below HQa0.out HB.out | exact WOK.below HQa0.out (bX2 HB GE144 GE145))); rintro e w51 ⟨rfl, hb⟩; refine ⟨_, rfl, ?_⟩; have n0_ := Aside0.mk (blk_below (kX BK144) hb); have n1_ := Aside0.mk (blk_below (kX BK145) hb); have n2_ := Aside0.mk (below_step (bX2 HB GE144 GE145) hb); clear BK144; clear BK145; clear HB; have BK144 := n0_; have BK145 := n1_; have HB := n2_; clear n0_ n1_ n2_; (try clear hb); (try clear hb2); (try clear hk); (try clear hi))); go_ret
        exact ⟨by first | rfl | (simp [errW_none, errW_some] <;> rfl) | (simp [*, errW_none, errW_some] <;> rfl), bX2 HB GE144 GE145⟩
end Go.Proofs.YtaipkdglhfhhiaaGreatDoor.Pt

namespace Go.Proofs.YtaipkdglhfhhiaaGreatDoor.Pt
open Go Go.RowKit Go.Proofs.YtaipkdglhfhhiaaGreatDoor.Nm Go.Proofs.YtaipkdglhfhhiaaGreatDoor.Ty Go.Proofs.YtaipkdglhfhhiaaGreatDoor.Hi Go.Proofs.YtaipkdglhfhhiaaGreatDoorW.PrintWords Go.Proofs.YtaipkdglhfhhiaaGreatDoorW.PrintLast Go.Proofs.YtaipkdglhfhhiaaGreatDoorW.PrintMore
set_option linter.unusedVariables false
set_option linter.unusedSimpArgs false
set_option maxHeartbeats 1000000
set_option maxRecDepth 100000
def loadF (es : List Ent) (d : Int) (s : ByteArray) : Int :=
 if chk d s.data.toList = 0 then (if s.toList = [] then 0 else if (nameF es s).2 = 0 then 0 else 20) else chk d s.data.toList
def intT (d : Int) (s : ByteArray) : Bool := d == 0 && (s.toList == ([] : List UInt8))
def topB (t : ByteArray) : Bool := if t.toList = ([79, 98, 106, 101, 99, 116] : List UInt8) then true else if t.toList = ([67, 108, 111, 110, 101, 97, 98, 108, 101] : List UInt8) then true else t.toList == ([83, 101, 114, 105, 97, 108, 105, 122, 97, 98, 108, 101] : List UInt8)
def redF (es : List Ent) (a : Int) (s : ByteArray) (b : Int) (t : ByteArray) : Bool :=
 if (intT a s || intT b t) = true then (a == b && (s.toList == t.toList)) else if a > 0 then topB t else if b > 0 then false else extF es (nameF es s).1 (nameF es t).1
def belowF (es : List Ent) (a : Int) (s : ByteArray) (b : Int) (t : ByteArray) : Bool := redF es (a - min a b) s (b - min a b) t
def subF (es : List Ent) (a : Int) (s : ByteArray) (b : Int) (t : ByteArray) : Bool × Int :=
 if loadF es a s ≠ 0 then (false, loadF es a s) else if loadF es b t ≠ 0 then (false, loadF es b t) else (belowF es a s b t, 0)
theorem ck_size (d : Int) (nm : ByteArray) (h : chk d nm.data.toList = 0) : nm.size ≤ 60 ∧ 0 ≤ d ∧ d ≤ 255 := by
 unfold chk at h
 split at h
 ·cases h
 ·rename_i hd
  split at h
  ·cases h
  ·rename_i hn
   refine ⟨?_, by omega, by omega⟩
   by_cases he : nm.data.toList = []
   ·have := congrArg List.length he
    simp at this; have h2 : nm.size = nm.data.size := rfl; rw [h2, this]; simp
   ·have hv : validB (bs nm.data.toList) = true := by
     cases hb : validB (bs nm.data.toList) with
     | true => rfl
     | false => exact absurd ⟨he, hb⟩ hn
    rw [mk_data] at hv
    exact valid_size hv
theorem load_size {es : List Ent} {d : Int} {s : ByteArray} (h : loadF es d s = 0) : s.size ≤ 60 ∧ 0 ≤ d ∧ d ≤ 255 := by
 unfold loadF at h
 by_cases hc : chk d s.data.toList = 0
 ·exact ck_size d s hc
 ·rw [if_neg hc] at h
  exact absurd h hc
theorem byName_tot (es : List Ent) (s : ByteArray) (hs : s.size ≤ 60) : hier_World_ByName.f es s = some (nameF es s) := by
 unfold hier_World_ByName.f; rw [if_pos (by omega)]
theorem load_tot (es : List Ent) (d : Int) (s : ByteArray) : arrays_Loaded.f es d s = some (loadF es d s) := by
 unfold arrays_Loaded.f loadF; rw [show types_Check.f d s = some (chk d s.data.toList) from rfl, Option.bind_some]
 by_cases hc : chk d s.data.toList = 0
 ·rw [if_pos hc, if_pos hc, byName_tot es s (ck_size d s hc).1, Option.bind_some]
  by_cases h1 : s.toList = []
  ·rw [if_pos h1, if_pos h1]
  ·rw [if_neg h1, if_neg h1]
   by_cases h2 : (nameF es s).2 = 0
   ·rw [if_pos h2, if_pos h2]
   ·rw [if_neg h2, if_neg h2]
 ·rw [if_neg hc, if_neg hc]
theorem red_tot (k : Nat) (es : List Ent) (a : Int) (s : ByteArray) (b : Int) (t : ByteArray) (hs : s.size ≤ 60) (ht : t.size ≤ 60) : arrays_below.j1 (k + 2) es a s b t = some (redF es a s b t) := by
 rw [arrays_below.j1]
 have h2 : ∀ x : Bool, arrays_below.j2 (k + 1) es x a s b t = some (if x = true then (a == b && (s.toList == t.toList)) else if a > 0 then topB t else if b > 0 then false else extF es (nameF es s).1 (nameF es t).1) := by
  intro x; rw [arrays_below.j2, byName_tot es s hs, byName_tot es t ht, Option.bind_some, Option.bind_some]
  cases x
  ·rw [if_neg (show ¬ (false = true) by simp), if_neg (show ¬ (false = true) by simp)]
   by_cases h1 : a > 0
   ·rw [if_pos h1, if_pos h1]
    unfold arrays_top.f topB
    by_cases c1 : t.toList = ([79, 98, 106, 101, 99, 116] : List UInt8)
    ·rw [if_pos c1, if_pos c1]; rfl
    ·rw [if_neg c1, if_neg c1]
     by_cases c2 : t.toList = ([67, 108, 111, 110, 101, 97, 98, 108, 101] : List UInt8)
     ·rw [if_pos c2, if_pos c2]; rfl
     ·rw [if_neg c2, if_neg c2]; rfl
   ·rw [if_neg h1, if_neg h1]
    by_cases h2 : b > 0
    ·rw [if_pos h2, if_pos h2]
    ·rw [if_neg h2, if_neg h2]
     rfl
  ·rfl
 rw [show arrays_isInt.f a s = some (intT a s) from rfl, Option.bind_some, show arrays_isInt.f b t = some (intT b t) from rfl, Option.bind_some, h2, h2]; unfold redF
 cases intT a s <;> cases intT b t <;> rfl
theorem below_tot (es : List Ent) (s t : ByteArray) (hs : s.size ≤ 60) (ht : t.size ≤ 60) : ∀ (n : Nat) (a b : Int) (k : Nat), 0 ≤ a → 0 ≤ b → a ≤ 255 → b ≤ 255 → min a b ≤ n → n + 3 ≤ k → arrays_below.l0 k es a s b t = some (belowF es a s b t)
 | 0, a, b, k, ha, hb, ha2, hb2, hm, hk => by
  obtain ⟨k, rfl⟩ : ∃ m, k = m + 3 := ⟨k - 3, by omega⟩
  have h0 : min a b = 0 := by omega
  rw [arrays_below.l0, red_tot k es a s b t hs ht]; unfold belowF; rw [h0, Int.sub_zero, Int.sub_zero]
  by_cases h1 : a > 0
  ·rw [if_pos h1, if_neg (by omega)]
  ·rw [if_neg h1]
 | n + 1, a, b, k, ha, hb, ha2, hb2, hm, hk => by
  obtain ⟨k, rfl⟩ : ∃ m, k = m + 3 := ⟨k - 3, by omega⟩
  rw [arrays_below.l0]
  by_cases h1 : a > 0
  ·rw [if_pos h1]
   by_cases h2 : b > 0
   ·rw [if_pos h2, show wrap64 (a - 1) = a - 1 by unfold wrap64; omega, show wrap64 (b - 1) = b - 1 by unfold wrap64; omega]
    rw [below_tot es s t hs ht n (a - 1) (b - 1) (k + 2) (by omega) (by omega) (by omega) (by omega) (by omega) (by omega)]; unfold belowF; rw [show a - 1 - min (a - 1) (b - 1) = a - min a b by omega, show b - 1 - min (a - 1) (b - 1) = b - min a b by omega]
   ·rw [if_neg h2, red_tot k es a s b t hs ht]
    unfold belowF; rw [show min a b = 0 by omega, Int.sub_zero, Int.sub_zero]
  ·rw [if_neg h1, red_tot k es a s b t hs ht]
   unfold belowF; rw [show min a b = 0 by omega, Int.sub_zero, Int.sub_zero]
theorem below_all {es : List Ent} {a b : Int} {s t : ByteArray} (h1 : loadF es a s = 0) (h2 : loadF es b t = 0) : arrays_below.f 300 es a s b t = some (belowF es a s b t) := by
 obtain ⟨s1, s2, s3⟩ := load_size h1; obtain ⟨t1, t2, t3⟩ := load_size h2
 exact below_tot es s t s1 t1 255 a b 300 s2 t2 s3 t3 (by omega) (by omega)
end Go.Proofs.YtaipkdglhfhhiaaGreatDoor.Pt

namespace Go.Proofs.YtaipkdglhfhhiaaGreatDoor.Pt
open Go Go.RowKit Go.Proofs.YtaipkdglhfhhiaaGreatDoor.Nm Go.Proofs.YtaipkdglhfhhiaaGreatDoor.Ty Go.Proofs.YtaipkdglhfhhiaaGreatDoor.Hi Go.Proofs.YtaipkdglhfhhiaaGreatDoorW.PrintWords Go.Proofs.YtaipkdglhfhhiaaGreatDoorW.PrintLast Go.Proofs.YtaipkdglhfhhiaaGreatDoorW.PrintMore
set_option linter.unusedVariables false
set_option linter.unusedSimpArgs false
set_option maxRecDepth 100000
theorem name_at {es : List Ent} {d : Int} {s : ByteArray} (h : loadF es d s = 0) (hs : s.toList ≠ []) : 0 ≤ (nameF es s).1 ∧ (nameF es s).1 < es.length ∧ (ent es (nameF es s).1).c.f0 = s := by
 unfold loadF at h
 by_cases hc : chk d s.data.toList = 0
 ·rw [if_pos hc, if_neg hs] at h
  by_cases h2 : (nameF es s).2 = 0
  ·exact nameF_in h2
  ·rw [if_neg h2] at h
   cases h
 ·rw [if_neg hc] at h
  exact absurd h hc
end Go.Proofs.YtaipkdglhfhhiaaGreatDoor.Pt

namespace Go.Proofs.YtaipkdglhfhhiaaGreatDoor.Pt
open Go.RowKit Go.Proofs.YtaipkdglhfhhiaaGreatDoorW.PrintWords Go.Proofs.YtaipkdglhfhhiaaGreatDoorW.PrintLast Go.Proofs.YtaipkdglhfhhiaaGreatDoorW.PrintMore
attribute [local go_sem] max2_int min2_int max_two min_two max_three min_three max_four min_four   -- for this text's walks alone
set_option linter.unusedVariables false
set_option linter.unusedSimpArgs false
def arbiterref06_SamePackage.f (a0 : List S85) (a1 : Int) (a2 : Int) : Option (Bool) := (arbiterref06_In.f a0 a1).bind fun t166 => (if t166 = true then ((arbiterref06_In.f a0 a2).bind fun t167 => (if t167 = true then (if 0 ≤ a1 then (if a1 < (a0.length : Int) then (if 0 ≤ a2 then (if a2 < (a0.length : Int) then ((arbiterref06_together.f ((rd_T85 a0 a1).f0) ((rd_T85 a0 a1).f1) ((rd_T85 a0 a1).f2) ((rd_T85 a0 a1).f3) ((rd_T85 a0 a1).f4) ((rd_T85 a0 a1).f5) ((rd_T85 a0 a2).f0) ((rd_T85 a0 a2).f1) ((rd_T85 a0 a2).f2) ((rd_T85 a0 a2).f3) ((rd_T85 a0 a2).f4) ((rd_T85 a0 a2).f5)).bind fun t170 => (some t170)) else (none)) else (none)) else (none)) else (none)) else (some false))) else (some false))
def arbiterref06_Chain.l0 : Nat → List S85 → Int → List Int → Option (List Int × Int)
 | 0, _, _, _ => none
 | k + 1, x0, x1, x6 => if x1 = 0 then (some (x6, 0)) else (if 0 ≤ x1 then (if x1 < (x0.length : Int) then ((arbiterref06_named.f k x0 ((rd_T85 x0 x1).f1)).bind fun t176 => (if x6.length < 17592186044416 then (arbiterref06_Chain.l0 k x0 t176 (x6 ++ [t176])) else (none))) else (none)) else (none))
def arbiterref06_Chain.f (k : Nat) (a0 : List S85) (a1 : Int) : Option (List Int × Int) := (arbiterref06_In.f a0 a1).bind fun t171 => (if t171 = true then (arbiterref06_Chain.l0 k a0 a1 (([a1] : List Int))) else (some (([] : List Int), 3)))
end Go.Proofs.YtaipkdglhfhhiaaGreatDoor.Pt

namespace Go.Proofs.YtaipkdglhfhhiaaGreatDoor.Pt
open Go.RowKit Go.Proofs.YtaipkdglhfhhiaaGreatDoorW.PrintWords Go.Proofs.YtaipkdglhfhhiaaGreatDoorW.PrintLast Go.Proofs.YtaipkdglhfhhiaaGreatDoorW.PrintMore
attribute [local go_sem] max2_int min2_int max_two min_two max_three min_three max_four min_four   -- for this text's walks alone
set_option linter.unusedVariables false
set_option linter.unusedSimpArgs false
def arbiterref06_Has.l0 : Nat → List Int → Int → Int → Option (Bool)
 | 0, _, _, _ => none
 | k + 1, x0, x1, x5 => if x5 < (x0.length : Int) then (if 0 ≤ x5 then (if (rd x0 x5) = x1 then (some true) else (arbiterref06_Has.l0 k x0 x1 (wrap64 (x5 + 1)))) else (none)) else (some false)
def arbiterref06_Has.f (k : Nat) (l0 : List Int) (a1 : Int) : Option (Bool) := arbiterref06_Has.l0 k l0 a1 0
end Go.Proofs.YtaipkdglhfhhiaaGreatDoor.Pt

namespace Go.Proofs.YtaipkdglhfhhiaaGreatDoor.Pt
open Go.RowKit Go.Proofs.YtaipkdglhfhhiaaGreatDoorW.PrintWords Go.Proofs.YtaipkdglhfhhiaaGreatDoorW.PrintLast Go.Proofs.YtaipkdglhfhhiaaGreatDoorW.PrintMore
attribute [local go_sem] max2_int min2_int max_two min_two max_three min_three max_four min_four   -- for this text's walks alone
set_option linter.unusedVariables false
set_option linter.unusedSimpArgs false
mutual
def arbiterref06_gather.j0 : Nat → List S85 → Int → List Int → Option (List Int)
 | 0, _, _, _ => none
 | k + 1, x0, x1, x2 => arbiterref06_gather.l0 k x0 x1 x2 0
def arbiterref06_gather.l0 : Nat → List S85 → Int → List Int → Int → Option (List Int)
 | 0, _, _, _, _ => none
 | k + 1, x0, x1, x2, x7 => if 0 ≤ x1 then (if x1 < (x0.length : Int) then (if x7 < (((rd_T85 x0 x1).f2).length : Int) then (if 0 ≤ x7 then ((arbiterref06_named.f k x0 (rdOf ByteArray.empty ((rd_T85 x0 x1).f2) x7)).bind fun t189 => ((arbiterref06_Has.f k x2 t189).bind fun t190 => (if t190 = true then (arbiterref06_gather.l0 k x0 x1 x2 (wrap64 (x7 + 1))) else ((arbiterref06_gather.f k x0 t189 x2).bind fun t191 => (if t191.length < 17592186044416 then (arbiterref06_gather.l0 k x0 x1 (t191 ++ [t189]) (wrap64 (x7 + 1))) else (none)))))) else (none)) else (some x2)) else (none)) else (none)
def arbiterref06_gather.f : Nat → List S85 → Int → List Int → Option (List Int)
 | 0, _, _, _ => none
 | k + 1, a0, a1, l2 => if a1 = 0 then (arbiterref06_gather.j0 k a0 a1 l2) else (if 0 ≤ a1 then (if a1 < (a0.length : Int) then ((arbiterref06_named.f k a0 ((rd_T85 a0 a1).f1)).bind fun t182 => ((arbiterref06_gather.f k a0 t182 l2).bind fun t183 => (arbiterref06_gather.j0 k a0 a1 t183))) else (none)) else (none))
end
def arbiterref06_Extends.j0 : Nat → List S85 → Int → Int → Bool → Option (Bool)
 | 0, _, _, _, _ => none
 | k + 1, x0, x1, x2, x18 => if x18 = true then (some false) else ((arbiterref06_Chain.f k x0 x1).bind fun bt199 => ((arbiterref06_Has.f k bt199.1 x2).bind fun t203 => (if t203 = true then (some true) else ((arbiterref06_gather.f k x0 x1 ([] : List Int)).bind fun t204 => ((arbiterref06_Has.f k t204 x2).bind fun t207 => (some t207))))))
def arbiterref06_Extends.f (k : Nat) (a0 : List S85) (a1 : Int) (a2 : Int) : Option (Bool) := (arbiterref06_In.f a0 a1).bind fun t197 => (if t197 = true then ((arbiterref06_In.f a0 a2).bind fun t198 => (arbiterref06_Extends.j0 k a0 a1 a2 (!t198))) else (arbiterref06_Extends.j0 k a0 a1 a2 true))
def access_Package.f (a0 : List Hi.Ent) (a1 : Int) : Option (Int × ByteArray × Int) := (access_homeOf.f a0 a1).bind fun bt208 => (some (bt208.1, bt208.2.1, bt208.2.2.2.2.2.2.2.2))
end Go.Proofs.YtaipkdglhfhhiaaGreatDoor.Pt

namespace Go.Proofs.YtaipkdglhfhhiaaGreatDoor.Pt
open Go.RowKit Go.Proofs.YtaipkdglhfhhiaaGreatDoorW.PrintWords Go.Proofs.YtaipkdglhfhhiaaGreatDoorW.PrintLast Go.Proofs.YtaipkdglhfhhiaaGreatDoorW.PrintMore
attribute [local go_sem] max2_int min2_int max_two min_two max_three min_three max_four min_four   -- for this text's walks alone
set_option linter.unusedVariables false
set_option linter.unusedSimpArgs false
def arbiterref08_Package.f (a0 : List S85) (a1 : Int) : Option (Int × ByteArray × Int) := (arbiterref06_In.f a0 a1).bind fun t223 => (if t223 = true then (if 0 ≤ a1 then (if a1 < (a0.length : Int) then ((arbiterref01_Package.f ((rd_T85 a0 a1).f0)).bind fun t226 => (some ((rd_T85 a0 a1).f4, t226, 0))) else (none)) else (none)) else (some (0, (⟨#[]⟩ : ByteArray), 3)))
def arbiterref08_ClassOpen.j0 : Nat → List S85 → Int → Int → Bool → Option (Bool × Int)
 | 0, _, _, _, _ => none
 | k + 1, x0, x1, x2, x17 => if x17 = true then (some (false, 3)) else (if 0 ≤ x2 then (if x2 < (x0.length : Int) then ((arbiterref03_Has.f ((rd_T85 x0 x2).f3) 1).bind fun t230 => (if t230 = true then (some (true, 0)) else ((arbiterref06_SamePackage.f x0 x1 x2).bind fun t231 => (some (t231, 0))))) else (none)) else (none))
def arbiterref08_ClassOpen.f (k : Nat) (a0 : List S85) (a1 : Int) (a2 : Int) : Option (Bool × Int) := (arbiterref06_In.f a0 a1).bind fun t227 => (if t227 = true then ((arbiterref06_In.f a0 a2).bind fun t228 => (arbiterref08_ClassOpen.j0 k a0 a1 a2 (!t228))) else (arbiterref08_ClassOpen.j0 k a0 a1 a2 true))
def arbiterref06_ByName.f (k : Nat) (a0 : List S85) (a1 : ByteArray) : Option (Int × Int) := (arbiterref06_named.f k a0 a1).bind fun t232 => (if t232 < 0 then (some (0, 6)) else (some (t232, 0)))
set_option maxHeartbeats 8000000 in
set_option maxRecDepth 100000 in
theorem arbiterref06_ByName.calls (k : Nat) (G_ : Nat) (a0 : List S85) (a1 : ByteArray) (r1 : Int) (r2 : Int) (w : World) (hq0 : ROK w G_ a0) (h : arbiterref06_ByName.f k a0 a1 = some (r1, r2)) :
  Calls Tryz.prog 57 #[.pointer (some ⟨G_, 0, none⟩), .string a1] w fun e w' => e = .returned (.tuple #[.int .i64 r1, .int .i64 r2]) ∧ Drawn0 w w' := by
 obtain ⟨AQa0, cQa0, hp0, hrq0, hcq0⟩ := ROK.open hq0; have HPa0 := Aside0.mk hp0; have HRqa0 := Aside0.mk hrq0; have HCqa0 := Aside0.mk hcq0; clear hp0 hrq0 hcq0; have HQa0 := Aside0.mk hq0; clear hq0; have H : ((arbiterref06_named.f k a0 a1).bind fun t232 => (if t232 < 0 then (some (0, 6)) else (some (t232, 0)))) = some (r1, r2) := h; clear h; replace H := Option.bind_eq_some_iff.mp H; obtain ⟨t232, A30, H⟩ := H; replace H : (if t232 < 0 then (some (0, 6)) else (some (t232, 0))) = some (r1, r2) := H; have A3 := Aside0.mk A30; clear A30
 by_cases c4 : t232 < 0
 ·rw [if_pos c4] at H
  have c4b0 : decide (t232 < 0) = true := decide_eq_true c4; clear c4; simp only [Option.some.injEq, Prod.mk.injEq] at H; obtain ⟨rfl, rfl⟩ := H; go_enter Tryz.func57, Tryz.ntmps57; go_wp2_with (first | ((with_reducible refine gate_callee (f := 91) rfl ?_); refine gX (some 9) Tryz.func91 #[.pointer (some ⟨G_, 0, none⟩), .string a1] ?_; (with_reducible refine (arbiterref06_named.calls k G_ a0 a1 t232 _ ?side1 A3.out).mono ?_); (case side1 => repeat (first | (with_reducible exact HQa0.out) | (with_reducible refine ROK.alloc ?_ _) | (with_reducible refine ROK.drewN ?_ _) | (with_reducible refine ROK.drew ?_) | exact ROK.below HQa0.out HB.out | exact ROK.below HQa0.out (bX HB))); rintro e w' ⟨rfl, ⟨nd, rfl⟩⟩; refine ⟨_, rfl, ?_⟩)); go_ret2
  exact ⟨by first | rfl | (simp; done) | (simp [*]; done), by repeat (first | exact Drawn0.refl _ | apply Drawn0.step)⟩
 ·rw [if_neg c4] at H
  have c4b0 : decide (t232 < 0) = false := decide_eq_false c4; clear c4; simp only [Option.some.injEq, Prod.mk.injEq] at H; obtain ⟨rfl, rfl⟩ := H; go_enter Tryz.func57, Tryz.ntmps57; go_wp2_with (first | ((with_reducible refine gate_callee (f := 91) rfl ?_); refine gX (some 9) Tryz.func91 #[.pointer (some ⟨G_, 0, none⟩), .string a1] ?_; (with_reducible refine (arbiterref06_named.calls k G_ a0 a1 t232 _ ?side1 A3.out).mono ?_); (case side1 => repeat (first | (with_reducible exact HQa0.out) | (with_reducible refine ROK.alloc ?_ _) | (with_reducible refine ROK.drewN ?_ _) | (with_reducible refine ROK.drew ?_) | exact ROK.below HQa0.out HB.out | exact ROK.below HQa0.out (bX HB))); rintro e w' ⟨rfl, ⟨nd, rfl⟩⟩; refine ⟨_, rfl, ?_⟩)); go_ret2
  exact ⟨by first | rfl | (simp; done) | (simp [*]; done), by repeat (first | exact Drawn0.refl _ | apply Drawn0.step)⟩
end Go.Proofs.YtaipkdglhfhhiaaGreatDoor.Pt

namespace Go.Proofs.YtaipkdglhfhhiaaGreatDoor.Pt
open Go Go.RowKit Go.Proofs.YtaipkdglhfhhiaaGreatDoor.Nm Go.Proofs.YtaipkdglhfhhiaaGreatDoor.Ty Go.Proofs.YtaipkdglhfhhiaaGreatDoor.Hi Go.Proofs.YtaipkdglhfhhiaaGreatDoorW.PrintWords
set_option linter.unusedVariables false
set_option linter.unusedSimpArgs false
theorem byname_ok (es : List Ent) (hl : es.length ≤ 1000) (s : ByteArray) (k : Nat) (hk : es.length < k) : arbiterref06_ByName.f k (csOf es) s = some (nameF es s) := by
 unfold arbiterref06_ByName.f; rw [named_ok es hl s k hk, Option.bind_some]
 by_cases h : (nameF es s).2 = 0
 ·rw [if_neg (fun h2 => (rnm_neg es s).1 h2 h)]
  have e : rnm es s = (nameF es s).1 := if_pos h; rw [e, ← h]
 ·rw [if_pos ((rnm_neg es s).2 h), (nameF_not h).1]
structure Shut (es : List Ent) (l : List Int) : Prop where
 rng : Rng es.length l
 up : ∀ j ∈ l, ∀ k ∈ (ent es j).clo, k ∈ l
end Go.Proofs.YtaipkdglhfhhiaaGreatDoor.Pt

namespace Go.Proofs.YtaipkdglhfhhiaaGreatDoor.Pt
open Go.RowKit Go.Proofs.YtaipkdglhfhhiaaGreatDoorW.PrintWords Go.Proofs.YtaipkdglhfhhiaaGreatDoorW.PrintLast Go.Proofs.YtaipkdglhfhhiaaGreatDoorW.PrintMore
attribute [local go_sem] max2_int min2_int max_two min_two max_three min_three max_four min_four   -- for this text's walks alone
set_option linter.unusedVariables false
set_option linter.unusedSimpArgs false
def arbiterref07_Loaded.f (k : Nat) (a0 : List S85) (a1_0 : Int) (a1_1 : ByteArray) : Option (Int) := (arbiterref02_Check.f a1_0 a1_1).bind fun t234 => (if t234 = 0 then (if a1_1.toList = ([] : List UInt8) then (some 0) else ((arbiterref06_ByName.f k a0 a1_1).bind fun bt235 => (if bt235.2 = 0 then (some 0) else (some 20)))) else (some 1))
set_option maxHeartbeats 8000000 in
set_option maxRecDepth 100000 in
theorem arbiterref07_Loaded.calls (k : Nat) (G_ : Nat) (a0 : List S85) (a1_0 : Int) (a1_1 : ByteArray) (r : Int) (w : World) (hq0 : ROK w G_ a0) (h : arbiterref07_Loaded.f k a0 a1_0 a1_1 = some r) :
  Calls Tryz.prog 56 #[.pointer (some ⟨G_, 0, none⟩), .agg #[.int .i64 a1_0, .string a1_1]] w fun e w' => e = .returned (.int .i64 r) ∧ Below w.heap.size w w' := by
 have hu24 := Tryz.underlying24; obtain ⟨AQa0, cQa0, hp0, hrq0, hcq0⟩ := ROK.open hq0; have HPa0 := Aside0.mk hp0; have HRqa0 := Aside0.mk hrq0; have HCqa0 := Aside0.mk hcq0; clear hp0 hrq0 hcq0; have HQa0 := Aside0.mk hq0; clear hq0; have HB := Aside0.mk (Below.refl w.heap.size w); have H : ((arbiterref02_Check.f a1_0 a1_1).bind fun t234 => (if t234 = 0 then (if a1_1.toList = ([] : List UInt8) then (some 0) else ((arbiterref06_ByName.f k a0 a1_1).bind fun bt235 => (if bt235.2 = 0 then (some 0) else (some 20)))) else (some 1))) = some r := h; clear h; replace H := Option.bind_eq_some_iff.mp H; obtain ⟨t234, A30, H⟩ := H; replace H : (if t234 = 0 then (if a1_1.toList = ([] : List UInt8) then (some 0) else ((arbiterref06_ByName.f k a0 a1_1).bind fun bt235 => (if bt235.2 = 0 then (some 0) else (some 20)))) else (some 1)) = some r := H; have A3 := Aside0.mk A30; clear A30
 by_cases c4 : t234 = 0
 ·rw [if_pos c4] at H
  have c4b0 : (t234 == 0) = true := beq_iff_eq.mpr c4; have c4b1 : (t234 != 0) = false := bne_eq_false_iff_eq.mpr c4; clear c4
  by_cases c5 : a1_1.toList = ([] : List UInt8)
  ·rw [if_pos c5] at H
   have c5b0 : (a1_1.toList == ([] : List UInt8)) = true := beq_iff_eq.mpr c5; have c5b1 : (a1_1.toList != ([] : List UInt8)) = false := bne_eq_false_iff_eq.mpr c5; clear c5; obtain rfl := Option.some.inj H; go_enter Tryz.func56, Tryz.ntmps56; go_wp2_with (first | ((with_reducible refine gate_dst (N := 3) rfl ?_); refine eX 3 #[.int .i64 a1_0, .string a1_1] 24 ?_; intro gb233 hg w6 hbox hb; have n0_ := Aside0.mk (below_step (bX HB) hb); have n1_ := Aside0.mk (hbox); have n2_ := Aside0.mk ((by rw [hg]; exact (below_size (bX HB)) : w.heap.size ≤ gb233)); have n3_ := Aside0.mk ((by rw [hg]; exact (below_size (bX HB)) : w.heap.size ≤ gb233)); clear HB; have HB := n0_; have BK233 := n1_; have GW233 := n2_; have GE233 := n3_; clear n0_ n1_ n2_ n3_; clear hb hbox hg; obtain ⟨hcz7_0, hcz7_1, hfz7_0, hfz7_1⟩ := c2X BK233) | ((with_reducible refine gate_callee (f := 97) rfl ?_); refine gX (some 8) Tryz.func97 #[.agg #[.int .i64 a1_0, .string a1_1]] ?_; (with_reducible refine (arbiterref02_Check.calls a1_0 a1_1 t234 _ A3.out).mono ?_); rintro e w8 ⟨rfl, hb⟩; refine ⟨_, rfl, ?_⟩; have n0_ := Aside0.mk (blk_below (kX BK233) hb); have n1_ := Aside0.mk (below_step (bX1 HB GE233) hb); clear BK233; clear HB; have BK233 := n0_; have HB := n1_; clear n0_ n1_; (try clear hb); (try clear hb2); (try clear hk); (try clear hi); obtain ⟨hcz9_0, hcz9_1, hfz9_0, hfz9_1⟩ := c2X BK233)); go_ret
   exact ⟨by first | rfl | (simp [errW_none, errW_some] <;> rfl) | (simp [*, errW_none, errW_some] <;> rfl), bX1 HB GE233⟩
  ·rw [if_neg c5] at H
   have c5b0 : (a1_1.toList == ([] : List UInt8)) = false := beq_eq_false_iff_ne.mpr c5; have c5b1 : (a1_1.toList != ([] : List UInt8)) = true := bne_iff_ne.mpr c5; replace H := Option.bind_eq_some_iff.mp H; obtain ⟨⟨t235, t236⟩, A100, H⟩ := H; replace H : (if t236 = 0 then (some 0) else (some 20)) = some r := H; have A10 := Aside0.mk A100; clear A100
   by_cases c11 : t236 = 0
   ·rw [if_pos c11] at H
    have c11b0 : (t236 == 0) = true := beq_iff_eq.mpr c11; have c11b1 : (t236 != 0) = false := bne_eq_false_iff_eq.mpr c11; clear c11; obtain rfl := Option.some.inj H; go_enter Tryz.func56, Tryz.ntmps56; go_wp2_with (first | ((with_reducible refine gate_dst (N := 3) rfl ?_); refine eX 3 #[.int .i64 a1_0, .string a1_1] 24 ?_; intro gb233 hg w12 hbox hb; have n0_ := Aside0.mk (below_step (bX HB) hb); have n1_ := Aside0.mk (hbox); have n2_ := Aside0.mk ((by rw [hg]; exact (below_size (bX HB)) : w.heap.size ≤ gb233)); have n3_ := Aside0.mk ((by rw [hg]; exact (below_size (bX HB)) : w.heap.size ≤ gb233)); clear HB; have HB := n0_; have BK233 := n1_; have GW233 := n2_; have GE233 := n3_; clear n0_ n1_ n2_ n3_; clear hb hbox hg; obtain ⟨hcz13_0, hcz13_1, hfz13_0, hfz13_1⟩ := c2X BK233) | ((with_reducible refine gate_callee (f := 97) rfl ?_); refine gX (some 8) Tryz.func97 #[.agg #[.int .i64 a1_0, .string a1_1]] ?_; (with_reducible refine (arbiterref02_Check.calls a1_0 a1_1 t234 _ A3.out).mono ?_); rintro e w14 ⟨rfl, hb⟩; refine ⟨_, rfl, ?_⟩; have n0_ := Aside0.mk (blk_below (kX BK233) hb); have n1_ := Aside0.mk (below_step (bX1 HB GE233) hb); clear BK233; clear HB; have BK233 := n0_; have HB := n1_; clear n0_ n1_; (try clear hb); (try clear hb2); (try clear hk); (try clear hi); obtain ⟨hcz15_0, hcz15_1, hfz15_0, hfz15_1⟩ := c2X BK233) | ((with_reducible refine gate_callee (f := 57) rfl ?_); refine gX (some 17) Tryz.func57 #[.pointer (some ⟨G_, 0, none⟩), .string a1_1] ?_; (with_reducible refine (arbiterref06_ByName.calls k G_ a0 a1_1 t235 t236 _ ?side1 A10.out).mono ?_); (case side1 => repeat (first | (with_reducible exact HQa0.out) | (with_reducible refine ROK.alloc ?_ _) | (with_reducible refine ROK.drewN ?_ _) | (with_reducible refine ROK.drew ?_) | exact ROK.below HQa0.out HB.out | exact ROK.below HQa0.out (bX1 HB GE233))); rintro e w' ⟨rfl, ⟨nd, rfl⟩⟩; refine ⟨_, rfl, ?_⟩)); go_ret
    exact ⟨by first | rfl | (simp [errW_none, errW_some] <;> rfl) | (simp [*, errW_none, errW_some] <;> rfl), bX1 HB GE233⟩
   ·rw [if_neg c11] at H
    have c11b0 : (t236 == 0) = false := beq_eq_false_iff_ne.mpr c11; have c11b1 : (t236 != 0) = true := bne_iff_ne.mpr c11; obtain rfl := Option.some.inj H; go_enter Tryz.func56, Tryz.ntmps56; go_wp2_with (first | ((with_reducible refine gate_dst (N := 3) rfl ?_); refine eX 3 #[.int .i64 a1_0, .string a1_1] 24 ?_; intro gb233 hg w16 hbox hb; have n0_ := Aside0.mk (below_step (bX HB) hb); have n1_ := Aside0.mk (hbox); have n2_ := Aside0.mk ((by rw [hg]; exact (below_size (bX HB)) : w.heap.size ≤ gb233)); have n3_ := Aside0.mk ((by rw [hg]; exact (below_size (bX HB)) : w.heap.size ≤ gb233)); clear HB; have HB := n0_; have BK233 := n1_; have GW233 := n2_; have GE233 := n3_; clear n0_ n1_ n2_ n3_; clear hb hbox hg; obtain ⟨hcz17_0, hcz17_1, hfz17_0, hfz17_1⟩ := c2X BK233) | ((with_reducible refine gate_callee (f := 97) rfl ?_); refine gX (some 8) Tryz.func97 #[.agg #[.int .i64 a1_0, .string a1_1]] ?_; (with_reducible refine (arbiterref02_Check.calls a1_0 a1_1 t234 _ A3.out).mono ?_); rintro e w18 ⟨rfl, hb⟩; refine ⟨_, rfl, ?_⟩; have n0_ := Aside0.mk (blk_below (kX BK233) hb); have n1_ := Aside0.mk (below_step (bX1 HB GE233) hb); clear BK233; clear HB; have BK233 := n0_; have HB := n1_; clear n0_ n1_; (try clear hb); (try clear hb2); (try clear hk); (try clear hi); obtain ⟨hcz19_0, hcz19_1, hfz19_0, hfz19_1⟩ := c2X BK233) | ((with_reducible refine gate_callee (f := 57) rfl ?_); refine gX (some 17) Tryz.func57 #[.pointer (some ⟨G_, 0, none⟩), .string a1_1] ?_; (with_reducible refine (arbiterref06_ByName.calls k G_ a0 a1_1 t235 t236 _ ?side1 A10.out).mono ?_); (case side1 => repeat (first | (with_reducible exact HQa0.out) | (with_reducible refine ROK.alloc ?_ _) | (with_reducible refine ROK.drewN ?_ _) | (with_reducible refine ROK.drew ?_) | exact ROK.below HQa0.out HB.out | exact ROK.below HQa0.out (bX1 HB GE233))); rintro e w' ⟨rfl, ⟨nd, rfl⟩⟩; refine ⟨_, rfl, ?_⟩)); go_ret
    exact ⟨by first | rfl | (simp [errW_none, errW_some] <;> rfl) | (simp [*, errW_none, errW_some] <;> rfl), bX1 HB GE233⟩
 ·rw [if_neg c4] at H
  have c4b0 : (t234 == 0) = false := beq_eq_false_iff_ne.mpr c4; have c4b1 : (t234 != 0) = true := bne_iff_ne.mpr c4; obtain rfl := Option.some.inj H; go_enter Tryz.func56, Tryz.ntmps56; go_wp2_with (first | ((with_reducible refine gate_dst (N := 3) rfl ?_); refine eX 3 #[.int .i64 a1_0, .string a1_1] 24 ?_; intro gb233 hg w20 hbox hb; have n0_ := Aside0.mk (below_step (bX HB) hb); have n1_ := Aside0.mk (hbox); have n2_ := Aside0.mk ((by rw [hg]; exact (below_size (bX HB)) : w.heap.size ≤ gb233)); have n3_ := Aside0.mk ((by rw [hg]; exact (below_size (bX HB)) : w.heap.size ≤ gb233)); clear HB; have HB := n0_; have BK233 := n1_; have GW233 := n2_; have GE233 := n3_; clear n0_ n1_ n2_ n3_; clear hb hbox hg; obtain ⟨hcz21_0, hcz21_1, hfz21_0, hfz21_1⟩ := c2X BK233) | ((with_reducible refine gate_callee (f := 97) rfl ?_); refine gX (some 8) Tryz.func97 #[.agg #[.int .i64 a1_0, .string a1_1]] ?_; (with_reducible refine (arbiterref02_Check.calls a1_0 a1_1 t234 _ A3.out).mono ?_); rintro e w22 ⟨rfl, hb⟩; refine ⟨_, rfl, ?_⟩; have n0_ := Aside0.mk (blk_below (kX BK233) hb); have n1_ := Aside0.mk (below_step (bX1 HB GE233) hb); clear BK233; clear HB; have BK233 := n0_; have HB := n1_; clear n0_ n1_; (try clear hb); (try clear hb2); (try clear hk); (try clear hi))); go_ret
  exact ⟨by first | rfl | (simp [errW_none, errW_some] <;> rfl) | (simp [*, errW_none, errW_some] <;> rfl), bX1 HB GE233⟩
def arbiterref08_TypeOpen.f (k : Nat) (a0 : List S85) (a1 : Int) (a2_0 : Int) (a2_1 : ByteArray) : Option (Bool × Int) := (arbiterref06_In.f a0 a1).bind fun t238 => (if t238 = true then ((arbiterref07_Loaded.f k a0 a2_0 a2_1).bind fun t239 => (if t239 = 0 then (if a2_1.toList = ([] : List UInt8) then (some (true, 0)) else ((arbiterref06_ByName.f k a0 a2_1).bind fun bt240 => ((arbiterref08_ClassOpen.f k a0 a1 bt240.1).bind fun bt242 => (some (bt242.1, bt242.2))))) else (some (false, t239)))) else (some (false, 3)))
end Go.Proofs.YtaipkdglhfhhiaaGreatDoor.Pt

namespace Go.Proofs.YtaipkdglhfhhiaaGreatDoor.Pt
open Go.RowKit Go.Proofs.YtaipkdglhfhhiaaGreatDoorW.PrintWords Go.Proofs.YtaipkdglhfhhiaaGreatDoorW.PrintLast Go.Proofs.YtaipkdglhfhhiaaGreatDoorW.PrintMore
attribute [local go_sem] max2_int min2_int max_two min_two max_three min_three max_four min_four   -- for this text's walks alone
set_option linter.unusedVariables false
set_option linter.unusedSimpArgs false
def arbiterref06_Closure.f (k : Nat) (a0 : List S85) (a1 : Int) : Option (List Int × Int) := (arbiterref06_In.f a0 a1).bind fun t470 => (if t470 = true then ((arbiterref06_gather.f k a0 a1 ([] : List Int)).bind fun t471 => (some (t471, 0))) else (some (([] : List Int), 3)))
end Go.Proofs.YtaipkdglhfhhiaaGreatDoor.Pt

namespace Go.Proofs.YtaipkdglhfhhiaaGreatDoor.Pt
open Go.RowKit Go.Proofs.YtaipkdglhfhhiaaGreatDoorW.PrintWords Go.Proofs.YtaipkdglhfhhiaaGreatDoorW.PrintLast Go.Proofs.YtaipkdglhfhhiaaGreatDoorW.PrintMore
attribute [local go_sem] max2_int min2_int max_two min_two max_three min_three max_four min_four   -- for this text's walks alone
set_option linter.unusedVariables false
set_option linter.unusedSimpArgs false
mutual
def arbiterref15_Test.j0 : Nat → List S85 → Int → Int → Bool → Option (Bool × Int × Int)
 | 0, _, _, _, _ => none
 | k + 1, x0, x1, x2, x21 => if x21 = true then (some (false, 0, 3)) else ((arbiterref06_Extends.f k x0 x1 x2).bind fun t494 => ((arbiterref06_IsIface.f x0 x2).bind fun t495 => (if t495 = true then (arbiterref15_Test.j1 k x0 x1 x2 t494 (x1 == x2)) else (arbiterref15_Test.j1 k x0 x1 x2 t494 true))))
def arbiterref15_Test.j1 : Nat → List S85 → Int → Int → Bool → Bool → Option (Bool × Int × Int)
 | 0, _, _, _, _, _ => none
 | k + 1, x0, x1, x2, x6, x34 => if x34 = true then (some (x6, 1, 0)) else ((arbiterref06_Closure.f k x0 x1).bind fun bt496 => (arbiterref15_Test.l0 k x2 x6 1 bt496.1 0))
def arbiterref15_Test.l0 : Nat → Int → Bool → Int → List Int → Int → Option (Bool × Int × Int)
 | 0, _, _, _, _, _ => none
 | k + 1, x2, x6, x7, x9, x11 => if x11 < (x9.length : Int) then (if 0 ≤ x11 then (if (rd x9 x11) = x2 then (some (x6, wrap64 (x7 + 1), 0)) else (arbiterref15_Test.l0 k x2 x6 (wrap64 (x7 + 1)) x9 (wrap64 (x11 + 1)))) else (none)) else (some (x6, x7, 0))
end
def arbiterref15_Test.f (k : Nat) (a0 : List S85) (a1 : Int) (a2 : Int) : Option (Bool × Int × Int) := (arbiterref06_In.f a0 a1).bind fun t492 => (if t492 = true then ((arbiterref06_In.f a0 a2).bind fun t493 => (arbiterref15_Test.j0 k a0 a1 a2 (!t493))) else (arbiterref15_Test.j0 k a0 a1 a2 true))
end Go.Proofs.YtaipkdglhfhhiaaGreatDoor.Pt

namespace Go.Proofs.YtaipkdglhfhhiaaGreatDoor.Pt
open Go.RowKit Go.Proofs.YtaipkdglhfhhiaaGreatDoorW.PrintWords Go.Proofs.YtaipkdglhfhhiaaGreatDoorW.PrintLast Go.Proofs.YtaipkdglhfhhiaaGreatDoorW.PrintMore
attribute [local go_sem] max2_int min2_int max_two min_two max_three min_three max_four min_four   -- for this text's walks alone
set_option linter.unusedVariables false
set_option linter.unusedSimpArgs false
def arbiterref07_IsInt.f (a0_0 : Int) (a0_1 : ByteArray) : Option (Bool) := if a0_0 = 0 then (some (a0_1.toList == ([] : List UInt8))) else (some false)
set_option maxHeartbeats 8000000 in
set_option maxRecDepth 100000 in
theorem arbiterref07_IsInt.calls (a0_0 : Int) (a0_1 : ByteArray) (r : Bool) (w : World) (h : arbiterref07_IsInt.f a0_0 a0_1 = some r) :
  Calls Tryz.prog 79 #[.agg #[.int .i64 a0_0, .string a0_1]] w fun e w' => e = .returned (.bool r) ∧ Below w.heap.size w w' := by
 have hu24 := Tryz.underlying24; have HB := Aside0.mk (Below.refl w.heap.size w); have H : (if a0_0 = 0 then (some (a0_1.toList == ([] : List UInt8))) else (some false)) = some r := h; clear h
 by_cases c2 : a0_0 = 0
 ·rw [if_pos c2] at H
  have c2b0 : (a0_0 == 0) = true := beq_iff_eq.mpr c2; have c2b1 : (a0_0 != 0) = false := bne_eq_false_iff_eq.mpr c2; clear c2; obtain rfl := Option.some.inj H; go_enter Tryz.func79, Tryz.ntmps79; go_wp2_with (first | ((with_reducible refine gate_dst (N := 1) rfl ?_); refine eX 1 #[.int .i64 a0_0, .string a0_1] 24 ?_; intro gb311 hg w3 hbox hb; have n0_ := Aside0.mk (below_step (bX HB) hb); have n1_ := Aside0.mk (hbox); have n2_ := Aside0.mk ((by rw [hg]; exact (below_size (bX HB)) : w.heap.size ≤ gb311)); have n3_ := Aside0.mk ((by rw [hg]; exact (below_size (bX HB)) : w.heap.size ≤ gb311)); clear HB; have HB := n0_; have BK311 := n1_; have GW311 := n2_; have GE311 := n3_; clear n0_ n1_ n2_ n3_; clear hb hbox hg; obtain ⟨hcz4_0, hcz4_1, hfz4_0, hfz4_1⟩ := c2X BK311)); go_ret
  exact ⟨by first | rfl | (simp [errW_none, errW_some] <;> rfl) | (simp [*, errW_none, errW_some] <;> rfl), bX1 HB GE311⟩
 ·rw [if_neg c2] at H
  have c2b0 : (a0_0 == 0) = false := beq_eq_false_iff_ne.mpr c2; have c2b1 : (a0_0 != 0) = true := bne_iff_ne.mpr c2; obtain rfl := Option.some.inj H; go_enter Tryz.func79, Tryz.ntmps79; go_wp2_with (first | ((with_reducible refine gate_dst (N := 1) rfl ?_); refine eX 1 #[.int .i64 a0_0, .string a0_1] 24 ?_; intro gb311 hg w5 hbox hb; have n0_ := Aside0.mk (below_step (bX HB) hb); have n1_ := Aside0.mk (hbox); have n2_ := Aside0.mk ((by rw [hg]; exact (below_size (bX HB)) : w.heap.size ≤ gb311)); have n3_ := Aside0.mk ((by rw [hg]; exact (below_size (bX HB)) : w.heap.size ≤ gb311)); clear HB; have HB := n0_; have BK311 := n1_; have GW311 := n2_; have GE311 := n3_; clear n0_ n1_ n2_ n3_; clear hb hbox hg; obtain ⟨hcz6_0, hcz6_1, hfz6_0, hfz6_1⟩ := c2X BK311)); go_ret
  exact ⟨by first | rfl | (simp [errW_none, errW_some] <;> rfl) | (simp [*, errW_none, errW_some] <;> rfl), bX1 HB GE311⟩
def arbiterref07_Holder.f (k : Nat) (a0 : List S85) (a1_0 : Int) (a1_1 : ByteArray) : Option (Int × Int) := (arbiterref07_Loaded.f k a0 a1_0 a1_1).bind fun t313 => (if t313 = 0 then ((arbiterref07_IsInt.f a1_0 a1_1).bind fun t314 => (if t314 = true then (some (0, 2)) else (if a1_0 > 0 then (some (0, 0)) else ((arbiterref06_ByName.f k a0 a1_1).bind fun bt315 => (some (bt315.1, 0)))))) else (some (0, t313)))
def arbiterref07_lower.f (a0_0 : Int) (a0_1 : ByteArray) : Option (Int × ByteArray) := some (wrap64 (a0_0 - 1), a0_1)
set_option maxHeartbeats 8000000 in
set_option maxRecDepth 100000 in
theorem arbiterref07_lower.calls (a0_0 : Int) (a0_1 : ByteArray) (r1 : Int) (r2 : ByteArray) (w : World) (h : arbiterref07_lower.f a0_0 a0_1 = some (r1, r2)) :
  Calls Tryz.prog 105 #[.agg #[.int .i64 a0_0, .string a0_1]] w fun e w' => e = .returned (.agg #[.int .i64 r1, .string r2]) ∧ Below w.heap.size w w' := by
 have hu24 := Tryz.underlying24; have HB := Aside0.mk (Below.refl w.heap.size w); have H : (some (wrap64 (a0_0 - 1), a0_1)) = some (r1, r2) := h; clear h; simp only [Option.some.injEq, Prod.mk.injEq] at H; obtain ⟨rfl, rfl⟩ := H; go_enter Tryz.func105, Tryz.ntmps105; go_wp2_with (first | ((with_reducible refine gate_dst (N := 1) rfl ?_); refine eX 1 #[.int .i64 a0_0, .string a0_1] 24 ?_; intro gb317 hg w2 hbox hb; have n0_ := Aside0.mk (below_step (bX HB) hb); have n1_ := Aside0.mk (hbox); have n2_ := Aside0.mk ((by rw [hg]; exact (below_size (bX HB)) : w.heap.size ≤ gb317)); have n3_ := Aside0.mk ((by rw [hg]; exact (below_size (bX HB)) : w.heap.size ≤ gb317)); clear HB; have HB := n0_; have BK317 := n1_; have GW317 := n2_; have GE317 := n3_; clear n0_ n1_ n2_ n3_; clear hb hbox hg) | ((with_reducible refine gate_dst (N := 2) rfl ?_); refine eX 2 #[.int .i64 0, .string (⟨#[]⟩ : ByteArray)] 24 ?_; intro gb318 hg w3 hbox hb; have n0_ := Aside0.mk (blk_below (kX BK317) hb); have n1_ := Aside0.mk (below_step (bX1 HB GE317) hb); have n2_ := Aside0.mk (hbox); have n3_ := Aside0.mk ((by rw [hg]; exact (below_size (bX1 HB GE317)) : w.heap.size ≤ gb318)); have n4_ := Aside0.mk ((by rw [hg]; exact (below_size (bX1 HB GE317)) : w.heap.size ≤ gb318)); have n5_ := Aside0.mk ((by rw [hg]; exact Nat.ne_of_lt (blk_lt (kX BK317)) : gb317 ≠ gb318)); have n6_ := Aside0.mk ((by rw [hg]; exact Nat.ne_of_gt (blk_lt (kX BK317)) : gb318 ≠ gb317)); clear BK317; clear HB; have BK317 := n0_; have HB := n1_; have BK318 := n2_; have GW318 := n3_; have GE318 := n4_; have NB317_318 := n5_; have NB318_317 := n6_; clear n0_ n1_ n2_ n3_ n4_ n5_ n6_; clear hb hbox hg; have hnb4 := NB317_318.out; have hnc4 := NB318_317.out; obtain ⟨hcz5_0, hcz5_1, hfz5_0, hfz5_1⟩ := c2X BK317; obtain ⟨hcz6_0, hcz6_1, hfz6_0, hfz6_1⟩ := c2X BK318)); refine bodyPost_ret (results_cell_row rfl _ _ gb318 24 #[.int .i64 (wrap64 (a0_0 - 1)), .string a0_1] (0, 0) _ rfl (by (with_reducible repeat (first | refine blk_drewN ?_ _ | refine blk_drew ?_ | refine blk_alloc ?_ _)); refine blk_put (cs := #[.int .i64 (wrap64 (a0_0 - 1)), .string (⟨#[]⟩ : ByteArray)]) ?_ 1 _ rfl; (with_reducible repeat (first | refine blk_drewN ?_ _ | refine blk_drew ?_ | refine blk_alloc ?_ _)); refine blk_put (cs := #[.int .i64 0, .string (⟨#[]⟩ : ByteArray)]) ?_ 0 _ rfl; (with_reducible repeat (first | refine blk_drewN ?_ _ | refine blk_drew ?_ | refine blk_alloc ?_ _)); exact BK318.out) Tryz.underlying24 rfl (by kernel_rfl)) rfl ?_
 exact ⟨by first | rfl | (simp [errW_none, errW_some] <;> rfl) | (simp [*, errW_none, errW_some] <;> rfl), bX2 HB GE317 GE318⟩
end Go.Proofs.YtaipkdglhfhhiaaGreatDoor.Pt

namespace Go.Proofs.YtaipkdglhfhhiaaGreatDoor.Pt
open Go.RowKit Go.Proofs.YtaipkdglhfhhiaaGreatDoorW.PrintWords Go.Proofs.YtaipkdglhfhhiaaGreatDoorW.PrintLast Go.Proofs.YtaipkdglhfhhiaaGreatDoorW.PrintMore
attribute [local go_sem] max2_int min2_int max_two min_two max_three min_three max_four min_four   -- for this text's walks alone
set_option linter.unusedVariables false
set_option linter.unusedSimpArgs false
mutual
def arbiterref07_below.j0 : Nat → List S85 → Bool → Int → ByteArray → Int → ByteArray → Option (Bool)
 | 0, _, _, _, _, _, _ => none
 | k + 1, x0, x16, x502000, x502001, x503000, x503001 => if x16 = true then ((arbiterref07_IsInt.f x502000 x502001).bind fun t505 => (if t505 = true then ((arbiterref07_IsInt.f x503000 x503001).bind fun t506 => (some t506)) else (some false))) else (if x502000 = 0 then (arbiterref07_below.j1 k x0 (x503000 == 0) x502000 x502001 x503000 x503001) else (arbiterref07_below.j1 k x0 false x502000 x502001 x503000 x503001))
def arbiterref07_below.j1 : Nat → List S85 → Bool → Int → ByteArray → Int → ByteArray → Option (Bool)
 | 0, _, _, _, _, _, _ => none
 | k + 1, x0, x30, x502000, x502001, x503000, x503001 => if x30 = true then ((arbiterref06_ByName.f k x0 x502001).bind fun bt507 => ((arbiterref06_ByName.f k x0 x503001).bind fun bt509 => ((arbiterref06_Extends.f k x0 bt507.1 bt509.1).bind fun t511 => (some t511)))) else (if x502000 = 0 then (some false) else (if x503000 = 0 then (if x503001.toList = ([79, 98, 106, 101, 99, 116] : List UInt8) then (some true) else (if x503001.toList = ([67, 108, 111, 110, 101, 97, 98, 108, 101] : List UInt8) then (some true) else (some (x503001.toList == ([83, 101, 114, 105, 97, 108, 105, 122, 97, 98, 108, 101] : List UInt8))))) else ((arbiterref07_lower.f x502000 x502001).bind fun bt512 => ((arbiterref07_lower.f x503000 x503001).bind fun bt514 => ((arbiterref07_below.f k x0 bt512.1 bt512.2 bt514.1 bt514.2).bind fun t516 => (some t516))))))
def arbiterref07_below.f : Nat → List S85 → Int → ByteArray → Int → ByteArray → Option (Bool)
 | 0, _, _, _, _, _ => none
 | k + 1, a0, a1_0, a1_1, a2_0, a2_1 => (arbiterref07_IsInt.f a1_0 a1_1).bind fun t503 => (if t503 = true then (arbiterref07_below.j0 k a0 true a1_0 a1_1 a2_0 a2_1) else ((arbiterref07_IsInt.f a2_0 a2_1).bind fun t504 => (arbiterref07_below.j0 k a0 t504 a1_0 a1_1 a2_0 a2_1)))
end
end Go.Proofs.YtaipkdglhfhhiaaGreatDoor.Pt

namespace Go.Proofs.YtaipkdglhfhhiaaGreatDoor.Pt
open Go.RowKit Go.Proofs.YtaipkdglhfhhiaaGreatDoorW.PrintWords Go.Proofs.YtaipkdglhfhhiaaGreatDoorW.PrintLast Go.Proofs.YtaipkdglhfhhiaaGreatDoorW.PrintMore
attribute [local go_sem] max2_int min2_int max_two min_two max_three min_three max_four min_four   -- for this text's walks alone
set_option linter.unusedVariables false
set_option linter.unusedSimpArgs false
def arbiterref07_Sub.f (k : Nat) (a0 : List S85) (a1_0 : Int) (a1_1 : ByteArray) (a2_0 : Int) (a2_1 : ByteArray) : Option (Bool × Int) := (arbiterref07_Loaded.f k a0 a1_0 a1_1).bind fun t519 => (if t519 = 0 then ((arbiterref07_Loaded.f k a0 a2_0 a2_1).bind fun t520 => (if t520 = 0 then ((arbiterref07_below.f k a0 a1_0 a1_1 a2_0 a2_1).bind fun t521 => (some (t521, 0))) else (some (false, t520)))) else (some (false, t519)))
def arbiterref15_TestTypes.j0 : Nat → List S85 → Bool → Bool → Int → ByteArray → Int → ByteArray → Option (Bool × Int × Int)
 | 0, _, _, _, _, _, _, _ => none
 | k + 1, x0, x6, x37, x523000, x523001, x524000, x524001 => if x37 = true then ((arbiterref06_ByName.f k x0 x523001).bind fun bt526 => ((arbiterref06_ByName.f k x0 x524001).bind fun bt528 => ((arbiterref15_Test.f k x0 bt526.1 bt528.1).bind fun bt530 => (some (x6, bt530.2.1, 0))))) else (some (x6, 1, 0))
def arbiterref15_TestTypes.f (k : Nat) (a0 : List S85) (a1_0 : Int) (a1_1 : ByteArray) (a2_0 : Int) (a2_1 : ByteArray) : Option (Bool × Int × Int) := (arbiterref07_Sub.f k a0 a1_0 a1_1 a2_0 a2_1).bind fun bt524 => (if bt524.2 = 0 then (if a1_0 = a2_0 then (if a1_1.toList = ([] : List UInt8) then (arbiterref15_TestTypes.j0 k a0 bt524.1 false a1_0 a1_1 a2_0 a2_1) else (arbiterref15_TestTypes.j0 k a0 bt524.1 (a2_1.toList != ([] : List UInt8)) a1_0 a1_1 a2_0 a2_1)) else (arbiterref15_TestTypes.j0 k a0 bt524.1 false a1_0 a1_1 a2_0 a2_1)) else (some (false, 0, bt524.2)))
def arbiterref06_Depth.f (k : Nat) (a0 : List S85) (a1 : Int) : Option (Int × Int) := (arbiterref06_Chain.f k a0 a1).bind fun bt533 => (if bt533.2 = 0 then (some (wrap64 ((bt533.1.length : Int) - 1), 0)) else (some (0, bt533.2)))
def arbiterref15_Deepest.l0 : Nat → List S85 → Int → Int → Option (Int)
 | 0, _, _, _ => none
 | k + 1, x0, x3, x4 => if x4 < (x0.length : Int) then ((arbiterref06_Depth.f k x0 x4).bind fun bt537 => (if bt537.1 > x3 then (arbiterref15_Deepest.l0 k x0 bt537.1 (wrap64 (x4 + 1))) else (arbiterref15_Deepest.l0 k x0 x3 (wrap64 (x4 + 1))))) else (some x3)
def arbiterref15_Deepest.f (k : Nat) (a0 : List S85) : Option (Int) := arbiterref15_Deepest.l0 k a0 0 0
def arbiterref06_SameNums.l0 : Nat → List Int → List Int → Int → Option (Bool)
 | 0, _, _, _ => none
 | k + 1, x0, x1, x5 => if x5 < (x0.length : Int) then (if 0 ≤ x5 then (if x5 < (x1.length : Int) then (if (rd x0 x5) = (rd x1 x5) then (arbiterref06_SameNums.l0 k x0 x1 (wrap64 (x5 + 1))) else (some false)) else (none)) else (none)) else (some true)
def arbiterref06_SameNums.f (k : Nat) (l0 : List Int) (l1 : List Int) : Option (Bool) := if (l0.length : Int) = (l1.length : Int) then (arbiterref06_SameNums.l0 k l0 l1 0) else (some false)
def arbiterref15_Same.f (k : Nat) (l0_0 : List Int) (l0_1 : List Int) (l0_2 : List Int) (l1_0 : List Int) (l1_1 : List Int) (l1_2 : List Int) : Option (Bool) := (arbiterref06_SameNums.f k l0_0 l1_0).bind fun t543 => (if t543 = true then ((arbiterref06_SameNums.f k l0_1 l1_1).bind fun t544 => (if t544 = true then ((arbiterref06_SameNums.f k l0_2 l1_2).bind fun t545 => (some t545)) else (some false))) else (some false))
end Go.Proofs.YtaipkdglhfhhiaaGreatDoor.Pt

namespace Go.Proofs.YtaipkdglhfhhiaaGreatDoor.Pt
open Go Go.RowKit Go.Proofs.YtaipkdglhfhhiaaGreatDoor.Nm Go.Proofs.YtaipkdglhfhhiaaGreatDoor.Ty Go.Proofs.YtaipkdglhfhhiaaGreatDoor.Hi Go.Proofs.YtaipkdglhfhhiaaGreatDoorW.PrintWords
set_option linter.unusedVariables false
set_option linter.unusedSimpArgs false
theorem chk_two (d : Int) (s : ByteArray) : chk d s.data.toList = 0 ∨ chk d s.data.toList = 1 := by
 unfold chk
 by_cases h1 : d < 0 ∨ 255 < d
 ·exact .inr (if_pos h1)
 ·rw [if_neg h1]
  by_cases h2 : s.data.toList ≠ [] ∧ validB (bs s.data.toList) = false
  ·exact .inr (if_pos h2)
  ·exact .inl (if_neg h2)
theorem rload_ok (es : List Ent) (hl : es.length ≤ 1000) (d : Int) (s : ByteArray) (k : Nat) (hk : es.length < k) : arbiterref07_Loaded.f k (csOf es) d s = some (loadF es d s) := by
 unfold arbiterref07_Loaded.f loadF; rw [show arbiterref02_Check.f d s = some (chk d s.data.toList) from rfl, Option.bind_some, byname_ok es hl s k hk, Option.bind_some]
 by_cases h0 : chk d s.data.toList = 0
 ·rw [if_pos h0, if_pos h0]
  by_cases h1 : s.toList = []
  ·rw [if_pos h1, if_pos h1]
  ·rw [if_neg h1, if_neg h1]
   by_cases h2 : (nameF es s).2 = 0
   ·rw [if_pos h2, if_pos h2]
   ·rw [if_neg h2, if_neg h2]
 ·rw [if_neg h0, if_neg h0, (chk_two d s).resolve_left h0]
theorem isint_ok (d : Int) (s : ByteArray) : arbiterref07_IsInt.f d s = some (intT d s) := by
 unfold arbiterref07_IsInt.f intT
 by_cases h : d = 0
 ·rw [if_pos h, beq_iff_eq.2 h, Bool.true_and]
 ·rw [if_neg h, beq_eq_false_iff_ne.2 h, Bool.false_and]
end Go.Proofs.YtaipkdglhfhhiaaGreatDoor.Pt

namespace Go.Proofs.YtaipkdglhfhhiaaGreatDoor.Hi
open Go Go.RowKit Go.Proofs.YtaipkdglhfhhiaaGreatDoor.Nm Go.Proofs.YtaipkdglhfhhiaaGreatDoorW.PrintWords Go.Proofs.YtaipkdglhfhhiaaGreatDoorW.PrintLast Go.Proofs.YtaipkdglhfhhiaaGreatDoorW.PrintMore Go.Proofs.YtaipkdglhfhhiaaGreatDoor.Pt
theorem len_made {es : List Ent} (h : Made es) : es.length ≤ 300 := by
 induction h with
 | new => decide
 | step es c _ ih =>
  rcases stepF_cases es c with h | ⟨x, h, ht⟩
  ·rw [h]; exact ih
  ·rw [h, List.length_append]
   have := ht.len; simp
   omega
end Go.Proofs.YtaipkdglhfhhiaaGreatDoor.Hi

namespace Go.Proofs.YtaipkdglhfhhiaaGreatDoor.Pt
open Go Go.RowKit Go.Proofs.YtaipkdglhfhhiaaGreatDoor.Nm Go.Proofs.YtaipkdglhfhhiaaGreatDoor.Hi Go.Proofs.YtaipkdglhfhhiaaGreatDoorW.PrintWords Go.Proofs.YtaipkdglhfhhiaaGreatDoorW.PrintLast Go.Proofs.YtaipkdglhfhhiaaGreatDoorW.PrintMore
set_option linter.unusedVariables false
set_option linter.unusedSimpArgs false
set_option maxHeartbeats 2000000
set_option maxRecDepth 100000
theorem tl_eq {a b : ByteArray} (h : a.toList = b.toList) : a = b := by
 rw [ByteArray.toList_eq, ByteArray.toList_eq] at h
 exact ByteArray.ext (Array.toList_inj.1 h)
theorem two_new (w : World) (o1 o2 : Obj) : ((w.alloc o1).alloc o2).heap[w.heap.size]? = some o1 ∧ ((w.alloc o1).alloc o2).heap[w.heap.size + 1]? = some o2 ∧ Below w.heap.size w ((w.alloc o1).alloc o2) :=
 ⟨heap_alloc2_old w o1 o2, heap_alloc2_new w o1 o2, ((Below.refl _ _).alloc (Nat.le_refl _) o1).alloc (by simp) o2⟩
def nearF (h1 h2 : Int × ByteArray × S85 × Int) : Bool := decide (h1.1 = h2.1) && decide (h1.2.1 = h2.2.1)
def copenF (es : List Ent) (d c : Int) : Bool × Int :=
 if (homeF es d).2.2.2 ≠ 0 then (false, (homeF es d).2.2.2) else if (homeF es c).2.2.2 ≠ 0 then (false, (homeF es c).2.2.2) else
 ((Go.bits .and .i64 (homeF es c).2.2.1.f3 1 != 0) || nearF (homeF es d) (homeF es c), 0)
def access_ClassOpen.f (a0 : List Hi.Ent) (a1 : Int) (a2 : Int) : Option (Bool × Int) := some (copenF a0 a1 a2)
end Go.Proofs.YtaipkdglhfhhiaaGreatDoor.Pt

namespace Go.Proofs.YtaipkdglhfhhiaaGreatDoor.Pt
open Go Go.RowKit Go.Proofs.YtaipkdglhfhhiaaGreatDoor.Nm Go.Proofs.YtaipkdglhfhhiaaGreatDoor.Hi Go.Proofs.YtaipkdglhfhhiaaGreatDoorW.PrintWords Go.Proofs.YtaipkdglhfhhiaaGreatDoorW.PrintLast Go.Proofs.YtaipkdglhfhhiaaGreatDoorW.PrintMore
set_option linter.unusedVariables false
set_option linter.unusedSimpArgs false
set_option maxHeartbeats 2000000
set_option maxRecDepth 100000
def topenF (es : List Ent) (d a : Int) (s : ByteArray) : Bool × Int :=
 if (homeF es d).2.2.2 ≠ 0 then (false, (homeF es d).2.2.2) else if loadF es a s ≠ 0 then (false, loadF es a s) else if s.toList = [] then (true, 0) else copenF es d (nameF es s).1
def access_TypeOpen.f (a0 : List Hi.Ent) (a1 : Int) (a2_0 : Int) (a2_1 : ByteArray) : Option (Bool × Int) := some (topenF a0 a1 a2_0 a2_1)
end Go.Proofs.YtaipkdglhfhhiaaGreatDoor.Pt

namespace Go.Proofs.YtaipkdglhfhhiaaGreatDoor.Pt
open Go Go.RowKit Go.Proofs.YtaipkdglhfhhiaaGreatDoor.Nm Go.Proofs.YtaipkdglhfhhiaaGreatDoor.Ty Go.Proofs.YtaipkdglhfhhiaaGreatDoor.Hi Go.Proofs.YtaipkdglhfhhiaaGreatDoorW.PrintWords Go.Proofs.YtaipkdglhfhhiaaGreatDoorW.PrintLast Go.Proofs.YtaipkdglhfhhiaaGreatDoorW.PrintMore
set_option linter.unusedVariables false
set_option linter.unusedSimpArgs false
set_option maxRecDepth 100000
theorem classF_in {es : List Ent} {i : Int} (h : 0 ≤ i ∧ i < es.length) : classF es i = ((ent es i).c, 0) := if_pos h
theorem classF_out {es : List Ent} {i : Int} (h : ¬ (0 ≤ i ∧ i < es.length)) : classF es i = (z85, 3) := if_neg h
theorem _root_.Go.Proofs.YtaipkdglhfhhiaaGreatDoor.Hi.Thy.valid {es : List Ent} (h : Thy es) {i : Int} (hi : 0 ≤ i ∧ i < es.length) : validB (ent es i).c.f0 = true := by
 by_cases h3 : 3 ≤ i
 ·have ht := h.src _ _ (get_ent hi.1 hi.2) (by omega)
  have hs : soundB (ent es i).c = true := by
   cases hb : soundB (ent es i).c with
   | true => rfl
   | false =>
    have := ht.sound; unfold chkC at this; rw [hb] at this
    cases this
  unfold soundB headB at hs; simp only [Bool.and_eq_true] at hs
  exact hs.2.2.1.1
 ·obtain ⟨o0, o1, o2⟩ := h.obj
  have : i = 0 ∨ i = 1 ∨ i = 2 := by omega
  rcases this with rfl | rfl | rfl
  ·rw [o0]; decide +kernel
  ·rw [o1]; decide +kernel
  ·rw [o2]; decide +kernel
theorem valid_ne {s : ByteArray} (h : validB s = true) : s.toList ≠ [] := by
 intro e; have : s = ⟨#[]⟩ := tl_eq (e.trans (by decide +kernel)); subst this
 revert h
 decide +kernel
end Go.Proofs.YtaipkdglhfhhiaaGreatDoor.Pt

namespace Go.Proofs.YtaipkdglhfhhiaaGreatDoor.Pt
open Go Go.RowKit Go.Proofs.YtaipkdglhfhhiaaGreatDoor.Nm Go.Proofs.YtaipkdglhfhhiaaGreatDoor.Hi Go.Proofs.YtaipkdglhfhhiaaGreatDoorW.PrintWords Go.Proofs.YtaipkdglhfhhiaaGreatDoorW.PrintLast Go.Proofs.YtaipkdglhfhhiaaGreatDoorW.PrintMore
set_option linter.unusedVariables false
set_option linter.unusedSimpArgs false
set_option maxHeartbeats 2000000
set_option maxRecDepth 100000
theorem info_T : (Tryz.prog.info? 24).map (fun i => (i.zero, i.size, i.bytes)) = some (some (.agg #[.int .i64 0, .string ⟨#[]⟩]), k24.sz, 24) := by kernel_rfl
def KeptL (w w' : World) : Prop := ∀ (k : Nat) (cells : Array Value) (t : Nat), w.heap[k]? = some (.cells cells t (0, 0)) → t ≠ 66 → t ≠ 24 → w'.heap[k]? = some (.cells cells t (0, 0))
theorem KeptL.trans {w w1 w2 : World} (h : KeptL w w1) (h2 : KeptL w1 w2) : KeptL w w2 := fun k cells t hk h3 h4 => h2 k cells t (h k cells t hk h3 h4) h3 h4
theorem KeptL.refl (w : World) : KeptL w w := fun _ _ _ h _ _ => h
theorem KeptL.str {w w' : World} (h : KeptL w w') {b : Nat} {v : Value} {xs : List ByteArray} (hr : Kd.R Kd.string 9 w b (fun _ => True) v xs) : Kd.R Kd.string 9 w' b (fun _ => True) v xs := by
 refine Kd.R_mono (Kd.R_move (Kd.R_bound hr) (fun k hk => ?_)) (fun _ _ => trivial); obtain ⟨_, _, _, q, hq, cells, hc⟩ := hk
 have hq : q = 9 := by
  rcases List.mem_cons.1 hq with rfl | hq
  ·rfl
  ·cases hq
 subst hq; rw [hc]
 exact h k cells _ hc (by decide) (by decide)
structure Stp (w wr : World) (gl gd : Nat) (dims : Int) (ts : List S24) : Prop where
 bl : ∃ v, wr.heap[gl]? = some (.cells #[v] 66 (0, 0)) ∧ Kd.R k24 24 wr w.heap.size (fun _ => True) v ts
 bd : wr.heap[gd]? = some (.cells #[.int .i64 dims] 3 (0, 0))
 hb : Below w.heap.size w wr
 le : w.heap.size ≤ gl
theorem step_any {w wr : World} {gl gd : Nat} {dims : Int} {ts : List S24} (h : Stp w wr gl gd dims ts) (name : ByteArray) (hl : ts.length ≤ 1000) :
  Calls Tryz.prog 80 #[.string name, .pointer (some ⟨gl, 0, none⟩), .pointer (some ⟨gd, 0, none⟩)] wr fun e w' => e = .returned (.tuple #[]) ∧ Stp w w' gl gd dims (ts ++ [⟨dims, name⟩]) ∧ KeptL wr w' := by
 obtain ⟨⟨v, hg, hR⟩, hd, hb, hle⟩ := h; obtain ⟨A, c, rfl⟩ := Kd.R_slice hR; have q0 : wr.cell? ⟨gl, 0, none⟩ = some (.slice A ts.length c) := (blk_cell hg 0).trans rfl; have q1 : wr.cell? ⟨gd, 0, none⟩ = some (.int .i64 dims) := (blk_cell hd 0).trans rfl; have k0 := blk_frozen hg 0; have HG := Lib.hid hg; have HD := Lib.hid hd; have HR := Lib.hid hR; have HB := Lib.hid hb; have hng := Lib.hid (Kd.R_ne hR hg (by decide)); have hnd := Lib.hid (Kd.R_ne hR hd (by decide)); have hne : gd ≠ gl := blk_ne hd hg (by decide); have hgl := blk_lt hg; have hgdl := blk_lt hd; clear hg hd hR hb; go_enter Tryz.func80, Tryz.ntmps80; go_wp2_with (at_builtin; refine Kd.R_append k24 (w0 := w) (W := wr) w.heap.size rfl (.tmp 4) (.tmp 8) 66 24 (.agg #[.int .i64 0, .string ⟨#[]⟩]) 24 rfl Tryz.underlying66 info_T rfl (by decide) (by omega) _ ts ⟨dims, name⟩ [.int .i64 dims, .string name] (fun _ => True) (fun _ => False) rfl rfl (k24_mkM _ _ _ ⟨dims, name⟩) (fun _ h => h.elim) (fun _ _ => trivial) HR.out HB.out HB.out.size (by omega) ?_; intro v1 w2 h1 h2 h3 h4; obtain ⟨A9, c9, rfl⟩ := Kd.R_slice h1; rw [show (ts ++ [(⟨dims, name⟩ : S24)]).length = ts.length + 1 by simp] at h1; replace h1 := Lib.hid h1; replace h2 := Lib.hid h2; replace h3 := Lib.hid h3; have kx := (h3.out.frozen_far ⟨gl, 0, none⟩ hgl hng.out).trans k0; have qg := (h3.out.cell_far ⟨gl, 0, none⟩ hgl hng.out).trans q0; clear h4)
 go_end0
 refine ⟨rfl, ⟨⟨_, blk_put (blk_grown (w := wr) HG.out h3.out hng.out) 0 _ rfl, Kd.R_set h1.out (blk_grown (w := wr) HG.out h3.out hng.out) (by decide) 0 _⟩, blk_far (p := ⟨gl, 0, none⟩) (blk_grown (w := wr) HD.out h3.out hnd.out) hne _, h2.out.setCell (p := ⟨gl, 0, none⟩) hle _, hle⟩, fun k cells t hk ht1 ht2 => ?_⟩
 exact blk_far (p := ⟨gl, 0, none⟩) (blk_grown (w := wr) hk h3.out (Kd.R_ne HR.out hk (Ne.symm ht2))) (blk_ne hk HG.out ht1) _
theorem Stp.below {w wr w1 : World} {gl gd : Nat} {dims : Int} {ts : List S24} (h : Stp w wr gl gd dims ts) (hb : Below wr.heap.size wr w1) : Stp w w1 gl gd dims ts := by
 obtain ⟨⟨v, h1, h2⟩, h3, h4, h5⟩ := h
 exact ⟨⟨v, blk_below h1 hb, Kd.R_below h2 hb⟩, blk_below h3 hb, h4.trans (hb.mono h4.size), h5⟩
def aCond (d : Int) (s : ByteArray) : Bool := decide (d > 0) && ((s.toList == ([] : List UInt8)) || (s.toList == ([79, 98, 106, 101, 99, 116] : List UInt8)))
def aboveTF (es : List Ent) (d : Int) (s : ByteArray) : List S24 × Int :=
 if loadF es d s ≠ 0 then ([], loadF es d s) else if aCond d s = true then ([⟨d - 1, sObject⟩, ⟨d - 1, sCloneable⟩, ⟨d - 1, sSerializable⟩], 0) else if s.toList = [] then ([], 0) else
 ((if (classF es (nameF es s).1).1.f1.toList = [] then [] else [⟨d, (classF es (nameF es s).1).1.f1⟩]) ++ (classF es (nameF es s).1).1.f2.map (fun n => ⟨d, n⟩), 0)
def arrays_Above.f (a0 : List Hi.Ent) (a1_0 : Int) (a1_1 : ByteArray) : Option (List S24 × Int) := if (classF a0 (nameF a0 a1_1).1).1.f2.length ≤ 900 then some (aboveTF a0 a1_0 a1_1) else none
theorem arrays_Above.calls (G_ : Nat) (a0 : List Hi.Ent) (a1_0 : Int) (a1_1 : ByteArray) (r1 : List S24) (r2 : Int) (w : World) (hq0 : WOK w G_ a0) (h : arrays_Above.f a0 a1_0 a1_1 = some (r1, r2)) :
  Calls Tryz.prog 38 #[.pointer (some ⟨G_, 0, none⟩), .agg #[.int .i64 a1_0, .string a1_1]] w fun e w' => ∃ v0_ : Value, e = .returned (.tuple #[v0_, .int .i64 r2]) ∧ Kd.R k24 24 w' w.heap.size (fun _ => True) v0_ r1 ∧ Below w.heap.size w w' := by
 unfold arrays_Above.f at h; obtain ⟨hlen, h⟩ := if_some h; have hF := Lib.hid (Option.some.inj h); have B0 := Lib.hid (blk_new w (.cells #[.int .i64 a1_0, .string a1_1] 24)); have AB := Lib.hid ((Below.refl w.heap.size w).alloc (Nat.le_refl _) (.cells #[.int .i64 a1_0, .string a1_1] 24)); have C1 := Lib.hid (arrays_Loaded.calls G_ a0 a1_0 a1_1 _ _ (hq0.below AB.out) (load_tot a0 a1_0 a1_1)); have HN := Lib.hid (fun (W : World) (hb : Below w.heap.size w W) (hl : loadF a0 a1_0 a1_1 = 0) => hier_World_ByName.calls G_ a0 a1_1 (nameF a0 a1_1).1 (nameF a0 a1_1).2 W (hq0.below hb) (byName_tot a0 a1_1 (load_size hl).1)); have HC := Lib.hid (fun (W : World) (hb : Below w.heap.size w W) => hier_World_Class.calls G_ a0 (nameF a0 a1_1).1 _ _ _ _ _ _ _ W (hq0.below hb) rfl); have HS := Lib.hid (fun h : loadF a0 a1_0 a1_1 = 0 => load_size h); clear h hq0; unfold aboveTF at hF; generalize loadF a0 a1_0 a1_1 = e1 at *; generalize nameF a0 a1_1 = nf at *; generalize classF a0 nf.1 = cf at *; obtain ⟨x, xe⟩ := cf; obtain ⟨x0, x1, x2, x3, x4, x5⟩ := x; simp only at hF HC hlen; go_enter Tryz.func38, Tryz.ntmps38; go_wp2_with fail; refine C1.out.mono ?_; rintro e w1 ⟨rfl, hb1⟩; have B1 := Lib.hid (blk_below B0.out hb1); have H1 := Lib.hid (AB.out.trans (hb1.mono AB.out.size)); clear C1 B0 AB hb1
 by_cases h1 : e1 = 0
 ·subst h1
  rw [if_neg (fun h => h rfl)] at hF; obtain ⟨ss, d0, d1⟩ := HS.out rfl; have q0 : w1.cell? ⟨w.heap.size, 0, none⟩ = some (.int .i64 a1_0) := (blk_cell B1.out 0).trans rfl; have q0a := cell_allocs q0
  go_upto_region 7 with (fail)
  change Code.wp _ _ _ _ ((w1.alloc (.cells #[.slice none 0 0] 66)).alloc (.cells #[.int .i64 a1_0] 3)); have t3 := two_new w1 (.cells #[.slice none 0 0] 66) (.cells #[.int .i64 a1_0] 3); generalize (w1.alloc (.cells #[.slice none 0 0] 66)).alloc (.cells #[.int .i64 a1_0] 3) = W at *; have ST : Hid (Stp w W w1.heap.size (w1.heap.size + 1) a1_0 []) := Lib.hid ⟨⟨_, t3.1, Kd.R_nil _ _ _ _ _⟩, t3.2.1, H1.out.trans (t3.2.2.mono H1.out.size), H1.out.size⟩; have B2 := Lib.hid (blk_below B1.out t3.2.2); clear t3 q0 q0a B1 H1; have q0 : W.cell? ⟨w.heap.size, 0, none⟩ = some (.int .i64 a1_0) := (blk_cell B2.out 0).trans rfl; have q1 : W.cell? ⟨w.heap.size, 1, none⟩ = some (.string a1_1) := (blk_cell B2.out 1).trans rfl; generalize hgl : w1.heap.size = gl at *; clear hgl
  go_cut [0, 3, 7, 8, 9, 37] (fun v0 v3 v7 v8 v9 v37 wr => v0 = .pointer (some ⟨G_, 0, none⟩) ∧ v3 = .pointer (some ⟨w.heap.size, 0, none⟩) ∧ v7 = .pointer (some ⟨gl, 0, none⟩) ∧ v8 = .pointer (some ⟨gl + 1, 0, none⟩) ∧ v9 = .func (.func 80) #[] #[.pointer (some ⟨gl, 0, none⟩), .pointer (some ⟨gl + 1, 0, none⟩)] ∧ v37 = .bool (aCond a1_0 a1_1) ∧
   Hid (wr.heap[w.heap.size]? = some (.cells #[.int .i64 a1_0, .string a1_1] 24 (0, 0))) ∧ Hid (Stp w wr gl (gl + 1) a1_0 []))
  case first =>
   cases hd : decide (a1_0 > 0) with
   | false =>
    have hc : Hid (aCond a1_0 a1_1 = false) := Lib.hid (by unfold aCond; rw [hd]; rfl); go_wp2; go_meet
    case rel => exact ⟨rfl, rfl, rfl, rfl, rfl, by rw [hc.out], B2, ST⟩
   | true =>
    cases hs : (a1_1.toList == ([] : List UInt8)) with
    | true =>
     have hc : Hid (aCond a1_0 a1_1 = true) := Lib.hid (by unfold aCond; rw [hd, hs]; rfl); go_wp2; go_meet
     case rel => exact ⟨rfl, rfl, rfl, rfl, rfl, by rw [hc.out], B2, ST⟩
    | false =>
     cases ho : (a1_1.toList == ([79, 98, 106, 101, 99, 116] : List UInt8)) with
     | true =>
      have hc : Hid (aCond a1_0 a1_1 = true) := Lib.hid (by unfold aCond; rw [hd, hs, ho]; rfl); go_wp2; go_meet
      case rel => exact ⟨rfl, rfl, rfl, rfl, rfl, by rw [hc.out], B2, ST⟩
     | false =>
      have hc : Hid (aCond a1_0 a1_1 = false) := Lib.hid (by unfold aCond; rw [hd, hs, ho]; rfl); go_wp2; go_meet
      case rel => exact ⟨rfl, rfl, rfl, rfl, rfl, by rw [hc.out], B2, ST⟩
  case rest =>
   clear q0 q1 B2 ST; obtain ⟨rfl, rfl, rfl, rfl, rfl, rfl, B2, ST⟩ := hcut
   cases hA : aCond a1_0 a1_1 with
   | true =>
    rw [hA, if_pos rfl] at hF
    have hd : 0 < a1_0 := by
     unfold aCond at hA; rw [Bool.and_eq_true, decide_eq_true_eq] at hA
     exact hA.1
    have qd : wc.cell? ⟨gl + 1, 0, none⟩ = some (.int .i64 a1_0) := (blk_cell ST.out.bd 0).trans rfl; have kd := blk_frozen ST.out.bd 0; clear HN HC hA
    go_upto_region 9 with (fail)
    have S1 : Hid (Stp w (wc.setCell ⟨gl + 1, 0, none⟩ (.int .i64 (a1_0 - 1))) gl (gl + 1) (a1_0 - 1) []) := by
     obtain ⟨⟨v, s1, s2⟩, s3, s4, s5⟩ := ST.out
     exact Lib.hid ⟨⟨v, blk_far (p := ⟨gl + 1, 0, none⟩) s1 (by simp) _, Kd.R_set s2 s3 (by decide) 0 _⟩, blk_put s3 0 _ rfl, s4.setCell (p := ⟨gl + 1, 0, none⟩) (Nat.le_succ_of_le s5) _, s5⟩
    clear qd kd ST B2; generalize wc.setCell ⟨gl + 1, 0, none⟩ (.int .i64 (a1_0 - 1)) = W1 at *; have P1 := Lib.hid (step_any S1.out sObject (by simp)); clear S1; go_wp2_with fail; refine P1.out.mono ?_; rintro e w2 ⟨rfl, S2, _⟩; have P2 := Lib.hid (step_any S2 sCloneable (by simp)); clear P1 S2; go_wp2_with fail; refine P2.out.mono ?_; rintro e w3 ⟨rfl, S3, _⟩; have P3 := Lib.hid (step_any S3 sSerializable (by simp)); clear P2 S3; go_wp2_with fail; refine P3.out.mono ?_; rintro e w4 ⟨rfl, S4, _⟩; obtain ⟨⟨v, s1, s2⟩, _, s4, _⟩ := S4; obtain ⟨A9, c9, rfl⟩ := Kd.R_slice s2; have q9 : w4.cell? ⟨gl, 0, none⟩ = some (.slice A9 _ c9) := (blk_cell s1 0).trans rfl; replace s2 := Lib.hid s2; replace s4 := Lib.hid s4; clear P3 s1; go_wp2; go_ret2; have := hF.out
    cases this
    exact ⟨_, rfl, s2.out, s4.out⟩
   | false =>
    rw [hA, if_neg (by simp)] at hF; have q1 : wc.cell? ⟨w.heap.size, 1, none⟩ = some (.string a1_1) := (blk_cell B2.out 1).trans rfl; clear hA
    by_cases hs : a1_1.toList = []
    ·rw [if_pos hs] at hF
     have hs2 : (a1_1.toList == ([] : List UInt8)) = true := beq_iff_eq.2 hs; clear HN HC hs; go_wp2; go_ret2; have := hF.out
     cases this
     exact ⟨_, rfl, Kd.R_nil _ _ _ _ _, ST.out.hb⟩
    ·rw [if_neg hs] at hF
     have hs2 : (a1_1.toList == ([] : List UInt8)) = false := beq_eq_false_iff_ne.2 hs; have C3 := Lib.hid (HN.out wc ST.out.hb trivial); clear HN hs; go_wp2_with fail; refine C3.out.mono ?_; rintro e w2 ⟨rfl, hb2⟩; have ST2 := Lib.hid (ST.out.below hb2); clear C3 hb2 ST B2 q1; have C4 := Lib.hid (HC.out w2 ST2.out.hb); clear HC
     go_upto_region 16 with (fail)
     go_cut [0, 7, 8, 9, 12] (fun v0 v7 v8 v9 v12 wr => v7 = .pointer (some ⟨gl, 0, none⟩) ∧ v8 = .pointer (some ⟨gl + 1, 0, none⟩) ∧ v9 = .func (.func 80) #[] #[.pointer (some ⟨gl, 0, none⟩), .pointer (some ⟨gl + 1, 0, none⟩)] ∧ ∃ gc A2 c2 y0 y3 y4 y5, v12 = .pointer (some ⟨gc, 0, none⟩) ∧ Hid (wr.heap[gc]? = some (.cells #[y0, .string x1, .slice A2 x2.length c2, y3, y4, y5] 85 (0, 0))) ∧ Hid (Kd.R Kd.string 9 wr w.heap.size (fun _ => True) (.slice A2 x2.length c2) x2) ∧ Hid (Stp w wr gl (gl + 1) a1_0 []))
     case first =>
      go_wp2_with fail; refine C4.out.mono ?_; rintro e w3 ⟨v2, v5, rfl, R2, R5, hb3⟩; obtain ⟨A2, c2, rfl⟩ := Kd.R_slice R2; obtain ⟨A5, c5, rfl⟩ := Kd.R_slice R5; clear C4; go_wp2; go_meet
      case rel =>
       have hal := (Below.refl w3.heap.size w3).alloc (Nat.le_refl _) (.cells #[.string x0, .string x1, .slice A2 x2.length c2, .int .i64 x3, .int .i64 x4, .slice A5 x5.length c5] 85)
       exact ⟨rfl, rfl, rfl, _, _, _, _, _, _, _, rfl, Lib.hid (blk_new _ _), Lib.hid (Kd.R_below (Kd.R_lower R2 ST2.out.hb.size) hal), Lib.hid ((ST2.out.below hb3).below hal)⟩
     case rest =>
      clear C4 ST2; obtain ⟨rfl, rfl, rfl, gc, A2, c2, y0, y3, y4, y5, rfl, BC, R2, ST⟩ := hcut; have p1 : wc.cell? ⟨gc, 1, none⟩ = some (.string x1) := (blk_cell BC.out 1).trans rfl
      go_upto_region 17 with (fail)
      go_cut [0, 7, 8, 9, 12, 65] (fun v0 v7 v8 v9 v12 v65 wr => v7 = .pointer (some ⟨gl, 0, none⟩) ∧ v9 = .func (.func 80) #[] #[.pointer (some ⟨gl, 0, none⟩), .pointer (some ⟨gl + 1, 0, none⟩)] ∧ v12 = .pointer (some ⟨gc, 0, none⟩) ∧ v65 = .bool (!x1.toList.isEmpty) ∧ Hid (wr.heap[gc]? = some (.cells #[y0, .string x1, .slice A2 x2.length c2, y3, y4, y5] 85 (0, 0))) ∧ Hid (Kd.R Kd.string 9 wr w.heap.size (fun _ => True) (.slice A2 x2.length c2) x2) ∧ Hid (Stp w wr gl (gl + 1) a1_0 []))
      case first =>
       go_wp2
       all_goals
        go_meet
        case rel => exact ⟨rfl, rfl, rfl, by simp [*], BC, R2, ST⟩
      case rest =>
      clear p1 BC R2 ST; obtain ⟨rfl, rfl, rfl, rfl, BC, R2, ST⟩ := hcut; generalize hbb : (!x1.toList.isEmpty) = bb at *; have p1 : wc.cell? ⟨gc, 1, none⟩ = some (.string x1) := (blk_cell BC.out 1).trans rfl
      go_upto_if 65 with (fail)
      go_cut [7, 8, 9, 12] (fun v7 v8 v9 v12 wr => v7 = .pointer (some ⟨gl, 0, none⟩) ∧ v9 = .func (.func 80) #[] #[.pointer (some ⟨gl, 0, none⟩), .pointer (some ⟨gl + 1, 0, none⟩)] ∧ v12 = .pointer (some ⟨gc, 0, none⟩) ∧ Hid (wr.heap[gc]? = some (.cells #[y0, .string x1, .slice A2 x2.length c2, y3, y4, y5] 85 (0, 0))) ∧ Hid (Kd.R Kd.string 9 wr w.heap.size (fun _ => True) (.slice A2 x2.length c2) x2) ∧ Hid (Stp w wr gl (gl + 1) a1_0 (if x1.toList = [] then [] else [⟨a1_0, x1⟩])))
      case first =>
       cases bb with
       | false =>
        have he : x1.toList = [] := by simpa using hbb
        clear hbb p1; go_wp2; go_meet
        case rel => exact ⟨rfl, rfl, rfl, BC, R2, by rw [if_pos he]; exact ST⟩
       | true =>
        have he : ¬ x1.toList = [] := by simpa using hbb
        clear hbb; have P1 := Lib.hid (step_any ST.out x1 (by simp)); go_wp2_with fail; refine P1.out.mono ?_; rintro e w2 ⟨rfl, S2, K2⟩; have hk2 := K2 _ _ _ BC.out (by decide) (by decide); have hr2 := K2.str R2.out; go_wp2; go_meet
        case rel => exact ⟨rfl, rfl, rfl, Lib.hid hk2, Lib.hid hr2, by rw [if_neg he]; exact Lib.hid S2⟩
      case rest =>
       clear BC R2 ST p1 hbb; obtain ⟨rfl, rfl, rfl, BC, R2, ST⟩ := hcut
       have hpre : (if x1.toList = [] then ([] : List S24) else [⟨a1_0, x1⟩]).length ≤ 1 := by split <;> simp
       generalize (if x1.toList = [] then ([] : List S24) else [⟨a1_0, x1⟩]) = pre at *; have p2 : wc.cell? ⟨gc, 2, none⟩ = some (.slice A2 x2.length c2) := (blk_cell BC.out 2).trans rfl; have hpre := Lib.hid hpre; go_wp2_with fail
       go_loopw [73] (fun v73 wr => ∃ j : Nat, j ≤ x2.length ∧ v73 = .int .i64 j ∧ Hid (Kd.R Kd.string 9 wr w.heap.size (fun _ => True) (.slice A2 x2.length c2) x2) ∧ Hid (Stp w wr gl (gl + 1) a1_0 (pre ++ (x2.take j).map (fun n => (⟨a1_0, n⟩ : S24))))) (fun v73 _ => x2.length - (intOf v73).toNat)
       case atStart => exact ⟨0, Nat.zero_le _, rfl, R2, by simpa using ST⟩
       case round =>
        clear R2 ST BC p2; obtain ⟨j, hj, rfl, R2, ST⟩ := hrel
        by_cases hlt : j < x2.length
        ·have hjd : decide (j < x2.length) = true := decide_eq_true hlt
         obtain ⟨ad0, cc, rfl, hcl, hKK, hic⟩ := Kd.C_get (Kd.R_reads' R2.out).2.2 ⟨#[]⟩ (j : Int) (by omega) (by omega); obtain rfl : cc = [.string (x2.getD j ⟨#[]⟩)] := hKK; have hic := hic 0 _ rfl; rw [show Kd.string.sz = 1 from rfl, Nat.mul_one, Nat.add_zero, Int.toNat_natCast] at hic
         have hx2 : x2[j]? = some (x2.getD j ⟨#[]⟩) := by rw [List.getD_eq_getElem?_getD, List.getElem?_eq_getElem hlt]; rfl
         generalize x2.getD j ⟨#[]⟩ = n at *
         have hst : Hid (pre ++ (x2.take (j + 1)).map (fun n => (⟨a1_0, n⟩ : S24)) = (pre ++ (x2.take j).map (fun n => (⟨a1_0, n⟩ : S24))) ++ [⟨a1_0, n⟩]) := Lib.hid (by
          rw [List.take_add_one, hx2, List.map_append, List.append_assoc]; rfl)
         have P1 := Lib.hid (step_any ST.out n (by
          have := hpre.out
          rw [List.length_append, List.length_map, List.length_take]; omega))
         clear ST hx2 hcl; go_wp2_with fail; refine P1.out.mono ?_; rintro e w2 ⟨rfl, S2, K2⟩; have hr2 := Lib.hid (K2.str R2.out); replace S2 := Lib.hid S2; clear P1 K2 R2 hic; go_wp2
         exact ⟨⟨j + 1, by omega, by push_cast; rfl, hr2, Lib.hid (by rw [hst.out]; exact S2.out)⟩, by simp [intOf]; omega⟩
        ·have hjd : decide (j < x2.length) = false := decide_eq_false hlt
         have e1 : j = x2.length := by omega
         subst e1; have S4 := ST.out; rw [List.take_length] at S4; generalize pre ++ x2.map (fun n => (⟨a1_0, n⟩ : S24)) = ts at *; obtain ⟨⟨v, s1, s2⟩, _, s4, _⟩ := S4; obtain ⟨A9, c9, rfl⟩ := Kd.R_slice s2; have q9 : wr.cell? ⟨gl, 0, none⟩ = some (.slice A9 _ c9) := (blk_cell s1 0).trans rfl; replace s2 := Lib.hid s2; replace s4 := Lib.hid s4; clear s1 ST R2; go_wp2; go_ret2; have hz := hF.out
         cases hz
         exact ⟨_, rfl, s2.out, s4.out⟩
 ·have hne : (e1 != 0) = true := bne_iff_ne.2 h1
  rw [if_pos h1] at hF; have := hF.out
  cases this
  clear h1 HC HN HS; go_wp2; go_ret2
  exact ⟨_, rfl, Kd.R_nil _ _ _ _ _, H1.out⟩
end Go.Proofs.YtaipkdglhfhhiaaGreatDoor.Pt

namespace Go.Proofs.YtaipkdglhfhhiaaGreatDoor.Pt
open Go Go.RowKit Go.Proofs.YtaipkdglhfhhiaaGreatDoor.Nm Go.Proofs.YtaipkdglhfhhiaaGreatDoor.Hi Go.Proofs.YtaipkdglhfhhiaaGreatDoorW.PrintWords Go.Proofs.YtaipkdglhfhhiaaGreatDoorW.PrintLast Go.Proofs.YtaipkdglhfhhiaaGreatDoorW.PrintMore
set_option linter.unusedVariables false
set_option linter.unusedSimpArgs false
set_option maxHeartbeats 2000000
set_option maxRecDepth 100000
def arrays_TypeOf.f (a0 : List Hi.Ent) (a1 : Int) : Option (Int × ByteArray × Int) := some (0, (classF a0 a1).1.f0, (classF a0 a1).2)
end Go.Proofs.YtaipkdglhfhhiaaGreatDoor.Pt

namespace Go.Proofs.YtaipkdglhfhhiaaGreatDoor.Pt
open Go Go.RowKit Go.Proofs.YtaipkdglhfhhiaaGreatDoor.Nm Go.Proofs.YtaipkdglhfhhiaaGreatDoor.Ty Go.Proofs.YtaipkdglhfhhiaaGreatDoor.Cd Go.Proofs.YtaipkdglhfhhiaaGreatDoorW.PrintWords Go.Proofs.YtaipkdglhfhhiaaGreatDoorW.PrintLast Go.Proofs.YtaipkdglhfhhiaaGreatDoorW.PrintMore
set_option linter.unusedVariables false
set_option linter.unusedSimpArgs false
set_option maxHeartbeats 2000000
set_option maxRecDepth 100000
theorem rpdesc_any (a0 : ByteArray) (w : World) : Calls Tryz.prog 141 #[.string a0] w fun e w' => ∃ v0_ : Value, e = .returned (.tuple #[.agg #[v0_, .bool (parseD a0.data.toList).1.void, .int .i64 (parseD a0.data.toList).1.rdims, .string (bs (parseD a0.data.toList).1.rname)], .int .i64 (parseD a0.data.toList).2]) ∧
  Kd.R k24 24 w' w.heap.size (fun _ => True) v0_ ((parseD a0.data.toList).1.args.map toS) ∧ Below w.heap.size w w' :=
 arbiterref02_ParseDesc.calls 5000 a0 _ _ _ _ _ w (pdesc_f a0 5000 (Nat.le_refl _))
theorem roper_any (op : Int) (w : World) : Calls Tryz.prog 160 #[.int .i64 op] w fun e w' => e = .returned (.int .i64 (Cd.opnd op)) ∧ w' = w := by
 have ht : ∀ k : Nat, k < 41 → k = 0 ∨ k = 1 ∨ k = 2 ∨ k = 3 ∨ k = 4 ∨ k = 5 ∨ k = 11 ∨ k = 12 ∨ k = 13 ∨ k = 14 ∨ k = 15 ∨ k = 16 ∨ k = 17 ∨ k = 18 ∨ k = 22 ∨ k = 23 ∨ k = 24 ∨ k = 30 ∨ k = 31 ∨ k = 32 ∨ k = 33 ∨ k = 34 ∨ k = 35 ∨ Cd.opTab.getD k 0 = 0 := by decide
 replace ht := Lib.hid ht; go_enter Tryz.func160, Tryz.ntmps160; go_wp2
 all_goals
  go_ret; refine ⟨ret_eq ?_, rfl⟩; simp only [beq_iff_eq, beq_eq_false_iff_ne, ne_eq, decide_eq_true_eq, decide_eq_false_iff_not, Bool.or_eq_true, Bool.or_eq_false_iff] at *
 all_goals first
  | (subst_vars; rfl)
  | (unfold Cd.opnd; rw [if_pos (by omega)])
  | (unfold Cd.opnd; rw [if_neg (by omega)]; have := ht.out op.toNat (by omega); omega)
def noRefB (ri : Bool) (rc rn rd : ByteArray) : Bool := !ri && (rc.toList == [] && (rn.toList == [] && rd.toList == []))
theorem noref_any (ri : Bool) (rc rn rd : ByteArray) (w : World) : Calls Tryz.prog 167 #[.agg #[.bool ri, .string rc, .string rn, .string rd]] w fun e w' => e = .returned (.bool (noRefB ri rc rn rd)) ∧ Below w.heap.size w w' := by
 have AB := Lib.hid ((Below.refl w.heap.size w).alloc (Nat.le_refl _) (.cells #[.bool ri, .string rc, .string rn, .string rd] 141)); generalize hr : noRefB ri rc rn rd = r; replace hr := Lib.hid hr; unfold noRefB at hr
 cases ri
 all_goals
  go_enter Tryz.func167, Tryz.ntmps167; go_wp2
  all_goals
   go_ret; refine ⟨?_, AB.out⟩; rw [← hr.out]
   simp_all
theorem rrefck_any (ri : Bool) (rc rn rd : ByteArray) (w : World) : Calls Tryz.prog 170 #[.agg #[.bool ri, .string rc, .string rn, .string rd]] w fun e w' => e = .returned (.int .i64 (refV rc rn rd)) ∧ Below w.heap.size w w' := by
 have B0 := Lib.hid (blk_new w (.cells #[.bool ri, .string rc, .string rn, .string rd] 141)); have AB := Lib.hid ((Below.refl w.heap.size w).alloc (Nat.le_refl _) (.cells #[.bool ri, .string rc, .string rn, .string rd] 141)); have C1 := Lib.hid (arbiterref02_ParseRef.calls rc _ _ _ (w.alloc (.cells #[.bool ri, .string rc, .string rn, .string rd] 141)) rfl); have C2 := Lib.hid (fun W => rpdesc_any rd W); have C3 := Lib.hid (fun W => arbiterref01_Member.calls rn _ W rfl); generalize hr : refV rc rn rd = r at *; replace hr := Lib.hid hr; unfold refV at hr; generalize parseR rc.data.toList = p1 at *; generalize parseD rd.data.toList = p2 at *; generalize memberB rn = mb at *; obtain ⟨d1, s1, e1⟩ := p1; obtain ⟨d2, e2⟩ := p2; go_enter Tryz.func170, Tryz.ntmps170; go_wp2_with fail; refine C1.out.mono ?_; rintro e w1 ⟨rfl, hb1⟩; have B1 := blk_below B0.out hb1; have q2 : w1.cell? ⟨w.heap.size, 2, none⟩ = some (.string rn) := (blk_cell B1 2).trans rfl; have q2 := cell_allocs q2; have H1 := Lib.hid (AB.out.trans (hb1.mono AB.out.size)); replace B1 := Lib.hid B1; clear B0 AB C1 hb1
 by_cases h1 : e1 = 0
 ·subst h1
  go_wp2_with fail; refine (C3.out _).mono ?_; rintro e w2 ⟨rfl, hb2⟩; have q3 : w2.cell? ⟨w.heap.size, 3, none⟩ = some (.string rd) := pw_cell_below hb2 (cell_allocs ((blk_cell B1.out 3).trans rfl) _); have H2 := Lib.hid ((H1.out.alloc H1.out.size _).trans (hb2.mono (H1.out.alloc H1.out.size _).size)); clear hb2 C3 H1 B1 q2
  cases mb with
  | false =>
   go_wp2; go_ret; have := hr.out; simp at this; subst this
   exact ⟨rfl, H2.out⟩
  | true =>
   go_wp2_with fail; refine (C2.out _).mono ?_; rintro e w3 ⟨v0, rfl, R0, hb3⟩; obtain ⟨A0, c0, rfl⟩ := Kd.R_slice R0; have H3 := Lib.hid (H2.out.trans (hb3.mono H2.out.size)); clear hb3 H2 C2 q3 R0
   by_cases h2 : e2 = 0
   ·subst h2
    go_wp2; go_ret; have := hr.out; simp at this; subst this
    exact ⟨rfl, H3.out.alloc H3.out.size _⟩
   ·have hne : (e2 != 0) = true := bne_iff_ne.2 h2
    go_wp2; go_ret; have := hr.out; simp [h2] at this; subst this
    exact ⟨rfl, H3.out.alloc H3.out.size _⟩
 ·have hne : (e1 != 0) = true := bne_iff_ne.2 h1
  go_wp2; go_ret; have := hr.out; simp [h1] at this; subst this
  exact ⟨rfl, H1.out.alloc H1.out.size _⟩
def rbare (k n : Int) (ty : ByteArray) (nr : Bool) : Bool := decide (0 ≤ k) && ((k == 8 || nr) && ((!(k == 0 || k == 4 || k == 5 || k == 6 || k == 8) || n == 0) && (!(decide (k < 4) || k == 8) || ty.toList == [])))
theorem toList_nil (s : ByteArray) : ((⟨#[]⟩ : ByteArray).toList == s.toList) = (s.toList == []) := by
 rw [show (⟨#[]⟩ : ByteArray).toList = [] from by rw [ByteArray.toList_eq]]
 cases s.toList <;> rfl
theorem rins_eq (op n : Int) (ty : ByteArray) (ri : Bool) (rc rn rd : ByteArray) : insV ⟨op, n, ty, ⟨ri, rc, rn, rd⟩⟩ = if (rbare (Cd.opnd op) n ty (noRefB ri rc rn rd) && opB op n ty rc rn rd) = true then 0 else 1 := by
 have hs : ∀ s : ByteArray, (s.toList == s.toList) = true := fun s => beq_self_eq_true _
 have hb : (bareOk op n ty ri rc rn rd && opB op n ty rc rn rd) = (rbare (Cd.opnd op) n ty (noRefB ri rc rn rd) && opB op n ty rc rn rd) := by
  unfold bareOk rbare sameI noRefB opB; have hn : (0 == n) = (n == 0) := Bool.beq_comm
  rcases opnd_cases op with h | h | h | h | h | h | h | h | h | h
  all_goals
   rw [h]; simp only [bareN, bareT, bareS, bareB]; simp [hs, toList_nil, hn, Bool.and_assoc, Bool.and_left_comm, Bool.and_comm]
 unfold insV; simp only; rw [← hb]
 cases bareOk op n ty ri rc rn rd <;> cases opB op n ty rc rn rd <;> rfl
theorem rcdck_any (op n : Int) (ty : ByteArray) (ri : Bool) (rc rn rd : ByteArray) (w : World) :
  Calls Tryz.prog 161 #[.agg #[.int .i64 op, .int .i64 n, .string ty, .bool ri, .string rc, .string rn, .string rd]] w fun e w' => e = .returned (.int .i64 (insV ⟨op, n, ty, ⟨ri, rc, rn, rd⟩⟩)) ∧ Below w.heap.size w w' := by
 have B0 := Lib.hid (blk_new w (.cells #[.int .i64 op, .int .i64 n, .string ty, .bool ri, .string rc, .string rn, .string rd] 143)); have AB := Lib.hid ((Below.refl w.heap.size w).alloc (Nat.le_refl _) (.cells #[.int .i64 op, .int .i64 n, .string ty, .bool ri, .string rc, .string rn, .string rd] 143)); have OP := Lib.hid (fun W => roper_any op W); have CN := Lib.hid (fun W => noref_any ri rc rn rd W); have CV := Lib.hid (fun W => arbiterref01_Valid.calls ty _ W rfl); have CR := Lib.hid (fun W => arbiterref02_ParseRef.calls ty _ _ _ W rfl); have CP := Lib.hid (fun W => arbiterref02_Parse.calls ty _ _ _ W rfl); have CF := Lib.hid (fun W => rrefck_any ri rc rn rd W); have K := opnd_cases op; generalize hr : insV ⟨op, n, ty, ⟨ri, rc, rn, rd⟩⟩ = r; rw [rins_eq] at hr; unfold opB rbare wthB at hr; generalize noRefB ri rc rn rd = nr at *; generalize Cd.opnd op = k at *; generalize parseR ty.data.toList = p1 at *; generalize parseT ty.data.toList = p2 at *; generalize refV rc rn rd = fv at *; generalize validB ty = vb at *; obtain ⟨d1, s1, e1⟩ := p1; obtain ⟨d2, s2, e2⟩ := p2; replace hr := Lib.hid hr; go_enter Tryz.func161, Tryz.ntmps161; go_wp2_with fail; refine (OP.out _).mono ?_; rintro e w1 ⟨rfl, rfl⟩
 by_cases h8 : k = 8
 ·subst h8
  clear CN CV CR CP K; go_wp2_with (go_at_call 170; refine (CF.out _).mono ?_; rintro e w2 ⟨rfl, hb2⟩; replace hb2 := Lib.hid (AB.out.trans (hb2.mono AB.out.size)))
  all_goals
   go_ret
  all_goals first
   | exact ⟨by rw [← hr.out]; first | (simp_all; done) | (simp_all; omega), hb2.out⟩
   | exact ⟨by rw [← hr.out]; first | (simp_all; done) | (simp_all; omega), AB.out⟩
 ·have h8b : (k != 8) = true := bne_iff_ne.2 h8
  go_wp2_with fail; refine (CN.out _).mono ?_; rintro e w2 ⟨rfl, hb2⟩; have B2 := Lib.hid (blk_below B0.out hb2); have H2 := Lib.hid (AB.out.trans (hb2.mono AB.out.size)); have q1 : w2.cell? ⟨w.heap.size, 1, none⟩ = some (.int .i64 n) := (blk_cell B2.out 1).trans rfl; have q2 : w2.cell? ⟨w.heap.size, 2, none⟩ = some (.string ty) := (blk_cell B2.out 2).trans rfl; clear CN AB hb2 OP CF
  rcases K with rfl | rfl | rfl | rfl | rfl | rfl | rfl | rfl | rfl | rfl
  case inr.inr.inr.inr.inr.inr.inr.inr.inr => exact absurd rfl h8
  case inr.inr.inr.inr.inr.inl =>
   go_wp2_with (go_at_call 116; refine (CV.out _).mono ?_; rintro e w3 ⟨rfl, hb3⟩; replace hb3 := Lib.hid (H2.out.trans (hb3.mono H2.out.size)))
   all_goals
    go_ret
   all_goals first
    | exact ⟨by rw [← hr.out]; first | (simp_all; done) | (simp_all; omega), hb3.out⟩
    | exact ⟨by rw [← hr.out]; first | (simp_all; done) | (simp_all; omega), H2.out⟩
  case inr.inr.inr.inr.inr.inr.inl =>
   go_wp2_with (go_at_call 168; refine (CR.out _).mono ?_; rintro e w3 ⟨rfl, hb3⟩; replace hb3 := Lib.hid (H2.out.trans (hb3.mono H2.out.size)))
   all_goals
    go_ret
   all_goals first
    | exact ⟨by rw [← hr.out]; first | (simp_all; done) | (simp_all; omega), hb3.out.alloc hb3.out.size _⟩
    | exact ⟨by rw [← hr.out]; first | (simp_all; done) | (simp_all; omega), H2.out⟩
  case inr.inr.inr.inr.inr.inr.inr.inl =>
   go_wp2_with (go_at_call 169; refine (CP.out _).mono ?_; rintro e w3 ⟨rfl, hb3⟩; replace hb3 := Lib.hid (H2.out.trans (hb3.mono H2.out.size)))
   all_goals
    go_ret
   all_goals first
    | exact ⟨by rw [← hr.out]; first | (simp_all; done) | (simp_all; omega), hb3.out.alloc hb3.out.size _⟩
    | exact ⟨by rw [← hr.out]; first | (simp_all; done) | (simp_all; omega), H2.out⟩
  case inr.inr.inr.inr.inr.inr.inr.inr.inl =>
   go_wp2_with (go_at_call 168; refine (CR.out _).mono ?_; rintro e w3 ⟨rfl, hb3⟩; have r1 := cell_allocs (pw_cell_below hb3 q1); replace hb3 := Lib.hid (H2.out.trans (hb3.mono H2.out.size)))
   all_goals
    go_ret
   all_goals first
    | exact ⟨by rw [← hr.out]; first | (simp_all; done) | (simp_all; omega), hb3.out.alloc hb3.out.size _⟩
    | exact ⟨by rw [← hr.out]; first | (simp_all; done) | (simp_all; omega), H2.out⟩
  all_goals
   go_wp2
   all_goals
    go_ret
    exact ⟨by rw [← hr.out]; first | (simp_all; done) | (simp_all; omega), H2.out⟩
end Go.Proofs.YtaipkdglhfhhiaaGreatDoor.Pt

namespace Go.Proofs.YtaipkdglhfhhiaaGreatDoor.Pt
open Go.RowKit Go.Proofs.YtaipkdglhfhhiaaGreatDoorW.PrintWords Go.Proofs.YtaipkdglhfhhiaaGreatDoorW.PrintLast Go.Proofs.YtaipkdglhfhhiaaGreatDoorW.PrintMore
attribute [local go_sem] max2_int min2_int max_two min_two max_three min_three max_four min_four   -- for this text's walks alone
set_option linter.unusedVariables false
set_option linter.unusedSimpArgs false
def arbiterref02_Args.f (k : Nat) (a0 : ByteArray) : Option (Int × Int) := (arbiterref02_ParseDesc.f k a0).bind fun bt117 => (some ((bt117.1.length : Int), bt117.2.2.2.2))
set_option maxHeartbeats 8000000 in
set_option maxRecDepth 100000 in
theorem arbiterref02_Args.calls (k : Nat) (a0 : ByteArray) (r1 : Int) (r2 : Int) (w : World) (h : arbiterref02_Args.f k a0 = some (r1, r2)) :
  Calls Tryz.prog 159 #[.string a0] w fun e w' => e = .returned (.tuple #[.int .i64 r1, .int .i64 r2]) ∧ Below w.heap.size w w' := by
 have hu172 := Tryz.underlying172; have HB := Aside0.mk (Below.refl w.heap.size w); have H : ((arbiterref02_ParseDesc.f k a0).bind fun bt117 => (some ((bt117.1.length : Int), bt117.2.2.2.2))) = some (r1, r2) := h; clear h; replace H := Option.bind_eq_some_iff.mp H; obtain ⟨⟨t117, t120, t121, t122, t123⟩, A20, H⟩ := H; replace H : (some ((t117.length : Int), t123)) = some (r1, r2) := H; have A2 := Aside0.mk A20; clear A20; simp only [Option.some.injEq, Prod.mk.injEq] at H; obtain ⟨rfl, rfl⟩ := H; go_enter Tryz.func159, Tryz.ntmps159; go_wp2_with (first | ((with_reducible refine gate_callee (f := 141) rfl ?_); refine gX (some 8) Tryz.func141 #[.string a0] ?_; (with_reducible refine (arbiterref02_ParseDesc.calls k a0 t117 t120 t121 t122 t123 _ A2.out).mono ?_); rintro e w3 ⟨v118, rfl, ho0, hb⟩; refine ⟨_, rfl, ?_⟩; have n0_ := Aside0.mk (Kd.R_lower ho0 (below_size (bX HB))); have n1_ := Aside0.mk (below_step (bX HB) hb); clear HB; have HO119 := n0_; have HB := n1_; clear n0_ n1_; (try clear hb); (try clear hb2); (try clear hk); (try clear hi); (try clear ho0)) | ((with_reducible refine gate_dst (N := 4) rfl ?_); refine eX 4 #[.slice none 0 0, .bool false, .int .i64 0, .string (⟨#[]⟩ : ByteArray)] 172 ?_; intro gb124 hg w4 hbox hb; have n0_ := Aside0.mk (Kd.R_below (rX HO119) hb); have n1_ := Aside0.mk (below_step (bX HB) hb); have n2_ := Aside0.mk (hbox); have n3_ := Aside0.mk ((by rw [hg]; exact (below_size (bX HB)) : w.heap.size ≤ gb124)); have n4_ := Aside0.mk ((by rw [hg]; exact (below_size (bX HB)) : w.heap.size ≤ gb124)); clear HO119; clear HB; have HO119 := n0_; have HB := n1_; have BK124 := n2_; have GW124 := n3_; have GE124 := n4_; clear n0_ n1_ n2_ n3_ n4_; clear hb hbox hg; obtain ⟨Ao5, co5, eo5⟩ := Kd.R_slice HO119.out; subst eo5; obtain ⟨hcz6_0, hcz6_1, hcz6_2, hcz6_3, hfz6_0, hfz6_1, hfz6_2, hfz6_3⟩ := c4X BK124)); go_ret2
 exact ⟨by first | rfl | (simp [errW_none, errW_some] <;> rfl) | (simp [*, errW_none, errW_some] <;> rfl), bX1 HB GE124⟩
end Go.Proofs.YtaipkdglhfhhiaaGreatDoor.Pt
