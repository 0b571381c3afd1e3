/- Lemmas and contracts for the statement of PwAccessMethods: joined by program out of this session's texts. -/
import Derived.Test.YtaipkdglhfhhiaaGreatDoorBdPwAccessMethods3
import Derived.Outline
namespace Go.Proofs.YtaipkdglhfhhiaaGreatDoor.Pt
open Go.RowKit Go.Proofs.YtaipkdglhfhhiaaGreatDoorW.PrintWords Go.Proofs.YtaipkdglhfhhiaaGreatDoorW.PrintLast Go.Proofs.YtaipkdglhfhhiaaGreatDoorW.PrintMore
attribute [local go_sem] max2_int min2_int max_two min_two max_three min_three max_four min_four   -- for this text's walks alone
set_option linter.unusedVariables false
set_option linter.unusedSimpArgs false
mutual
def arbiterref02_ParseDesc.j0 : Nat → ByteArray → Bool → Bool → Bool → Int → ByteArray → Option ((List (S24)) × Bool × Int × ByteArray × Int)
 | 0, _, _, _, _, _, _ => none
 | k + 1, x0, x5, x23, x103001, x103002, x103003 => if x23 = true then (some (([] : List (S24)), x103001, x103002, x103003, 4)) else (arbiterref02_ParseDesc.l0 k x0 x5 1 ([] : List (S24)) x103001 x103002 x103003)
def arbiterref02_ParseDesc.l0 : Nat → ByteArray → Bool → Int → List (S24) → Bool → Int → ByteArray → Option ((List (S24)) × Bool × Int × ByteArray × Int)
 | 0, _, _, _, _, _, _, _ => none
 | k + 1, x0, x5, x6, x103000, x103001, x103002, x103003 => if x6 < (x0.size : Int) then (if 0 ≤ x6 then (arbiterref02_ParseDesc.j2 k x0 x5 x6 ((bt x0 x6) != 41) x103000 x103001 x103002 x103003) else (none)) else (arbiterref02_ParseDesc.j2 k x0 x5 x6 false x103000 x103001 x103002 x103003)
def arbiterref02_ParseDesc.j2 : Nat → ByteArray → Bool → Int → Bool → List (S24) → Bool → Int → ByteArray → Option ((List (S24)) × Bool × Int × ByteArray × Int)
 | 0, _, _, _, _, _, _, _, _ => none
 | k + 1, x0, x5, x6, x34, x103000, x103001, x103002, x103003 => if x34 = true then ((arbiterref02_read.f x0 x6).bind fun bt103 => (if bt103.2.2 < 0 then (some (([] : List (S24)), false, 0, (⟨#[]⟩ : ByteArray), 4)) else (if x5 = true then (if x103000.length < 5864062014805 then (arbiterref02_ParseDesc.l0 k x0 true bt103.2.2 (x103000 ++ [(⟨bt103.1, bt103.2.1⟩ : S24)]) x103001 x103002 x103003) else (none)) else (if x103000.length < 5864062014805 then (arbiterref02_ParseDesc.l0 k x0 (decide (bt103.1 > 255)) bt103.2.2 (x103000 ++ [(⟨bt103.1, bt103.2.1⟩ : S24)]) x103001 x103002 x103003) else (none))))) else (if x6 ≥ (x0.size : Int) then (some (([] : List (S24)), false, 0, (⟨#[]⟩ : ByteArray), 4)) else (if (wrap64 (x6 + 1)) < (x0.size : Int) then (if 0 ≤ (wrap64 (x6 + 1)) then (arbiterref02_ParseDesc.j3 k x0 x5 (wrap64 (x6 + 1)) ((bt x0 (wrap64 (x6 + 1))) == 86) x103000 x103001 x103002 x103003) else (none)) else (arbiterref02_ParseDesc.j3 k x0 x5 (wrap64 (x6 + 1)) false x103000 x103001 x103002 x103003)))
def arbiterref02_ParseDesc.j3 : Nat → ByteArray → Bool → Int → Bool → List (S24) → Bool → Int → ByteArray → Option ((List (S24)) × Bool × Int × ByteArray × Int)
 | 0, _, _, _, _, _, _, _, _ => none
 | k + 1, x0, x5, x6, x73, x103000, x103001, x103002, x103003 => if x73 = true then (arbiterref02_ParseDesc.j4 k x0 x5 (wrap64 (x6 + 1)) x103000 true x103002 x103003) else ((arbiterref02_read.f x0 x6).bind fun bt113 => (if x5 = true then (arbiterref02_ParseDesc.j4 k x0 true bt113.2.2 x103000 x103001 bt113.1 bt113.2.1) else (arbiterref02_ParseDesc.j4 k x0 (decide (bt113.1 > 255)) bt113.2.2 x103000 x103001 bt113.1 bt113.2.1)))
def arbiterref02_ParseDesc.j4 : Nat → ByteArray → Bool → Int → List (S24) → Bool → Int → ByteArray → Option ((List (S24)) × Bool × Int × ByteArray × Int)
 | 0, _, _, _, _, _, _, _ => none
 | k + 1, x0, x5, x6, x103000, x103001, x103002, x103003 => if x6 = (x0.size : Int) then (if x5 = true then (some (([] : List (S24)), false, 0, (⟨#[]⟩ : ByteArray), 5)) else (if (x103000.length : Int) > 20 then (some (([] : List (S24)), false, 0, (⟨#[]⟩ : ByteArray), 5)) else (some (x103000, x103001, x103002, x103003, 0)))) else (some (([] : List (S24)), false, 0, (⟨#[]⟩ : ByteArray), 4))
end
def arbiterref02_ParseDesc.f (k : Nat) (a0 : ByteArray) : Option ((List (S24)) × Bool × Int × ByteArray × Int) := if (a0.size : Int) > 2000 then (some (([] : List (S24)), false, 0, (⟨#[]⟩ : ByteArray), 5)) else (if (a0.size : Int) = 0 then (arbiterref02_ParseDesc.j0 k a0 false true false 0 (⟨#[]⟩ : ByteArray)) else (if 0 < (a0.size : Int) then (arbiterref02_ParseDesc.j0 k a0 false ((bt a0 0) != 40) false 0 (⟨#[]⟩ : ByteArray)) else (none)))
set_option maxHeartbeats 8000000 in
set_option maxRecDepth 100000 in
theorem arbiterref02_ParseDesc.calls (k : Nat) (a0 : ByteArray) (r1 : List (S24)) (r2 : Bool) (r3 : Int) (r4 : ByteArray) (r5 : Int) (w : World) (h : arbiterref02_ParseDesc.f k a0 = some (r1, r2, r3, r4, r5)) :
  Calls Tryz.prog 141 #[.string a0] w fun e w' => ∃ v0_ : Value, e = .returned (.tuple #[.agg #[v0_, .bool r2, .int .i64 r3, .string r4], .int .i64 r5]) ∧ Kd.R k24 24 w' w.heap.size (fun _ => True) v0_ r1 ∧ Below w.heap.size w w' := by
 have hu172 := Tryz.underlying172; have hu24 := Tryz.underlying24; have HB := Aside0.mk (Below.refl w.heap.size w); have H : (if (a0.size : Int) > 2000 then (some (([] : List (S24)), false, 0, (⟨#[]⟩ : ByteArray), 5)) else (if (a0.size : Int) = 0 then (arbiterref02_ParseDesc.j0 k a0 false true false 0 (⟨#[]⟩ : ByteArray)) else (if 0 < (a0.size : Int) then (arbiterref02_ParseDesc.j0 k a0 false ((bt a0 0) != 40) false 0 (⟨#[]⟩ : ByteArray)) else (none)))) = some (r1, r2, r3, r4, r5) := h; clear h
 by_cases c2 : (a0.size : Int) > 2000
 ·rw [if_pos c2] at H
  have c2b0 : decide (2000 < (a0.size : Int)) = true := decide_eq_true c2; have c2b1 : decide (2000 < a0.size) = true := decide_eq_true (by omega); clear c2; simp only [Option.some.injEq, Prod.mk.injEq] at H; obtain ⟨rfl, rfl, rfl, rfl, rfl⟩ := H; go_enter Tryz.func141, Tryz.ntmps141; go_wp2_with (first | ((with_reducible refine gate_dst (N := 2) rfl ?_); (try (refine gate_guard (by rfl) ?_; dsimp only)); refine eX 2 #[.slice none 0 0, .bool false, .int .i64 0, .string (⟨#[]⟩ : ByteArray)] 172 ?_; intro gb101 hg w3 hbox hb; have n0_ := Aside0.mk (below_step (bX HB) hb); have n1_ := Aside0.mk (hbox); have n2_ := Aside0.mk ((by rw [hg]; exact (below_size (bX HB)) : w.heap.size ≤ gb101)); have n3_ := Aside0.mk ((by rw [hg]; exact (below_size (bX HB)) : w.heap.size ≤ gb101)); clear HB; have HB := n0_; have BK101 := n1_; have GW101 := n2_; have GE101 := n3_; clear n0_ n1_ n2_ n3_; clear hb hbox hg; obtain ⟨hcz4_0, hcz4_1, hcz4_2, hcz4_3, hfz4_0, hfz4_1, hfz4_2, hfz4_3⟩ := c4X BK101)); refine bodyPost_ret (results_ct rfl _ _ gb101 172 #[.slice none 0 0, .bool false, .int .i64 0, .string (⟨#[]⟩ : ByteArray)] (0, 0) _ rfl (by (with_reducible repeat (first | refine blk_drewN ?_ _ | refine blk_drew ?_ | refine blk_alloc ?_ _)); refine blk_put (cs := #[.slice none 0 0, .bool false, .int .i64 0, .string (⟨#[]⟩ : ByteArray)]) ?_ 3 _ rfl; (with_reducible repeat (first | refine blk_drewN ?_ _ | refine blk_drew ?_ | refine blk_alloc ?_ _)); refine blk_put (cs := #[.slice none 0 0, .bool false, .int .i64 0, .string (⟨#[]⟩ : ByteArray)]) ?_ 2 _ rfl; (with_reducible repeat (first | refine blk_drewN ?_ _ | refine blk_drew ?_ | refine blk_alloc ?_ _)); refine blk_put (cs := #[.slice none 0 0, .bool false, .int .i64 0, .string (⟨#[]⟩ : ByteArray)]) ?_ 1 _ rfl; (with_reducible repeat (first | refine blk_drewN ?_ _ | refine blk_drew ?_ | refine blk_alloc ?_ _)); refine blk_put (cs := #[.slice none 0 0, .bool false, .int .i64 0, .string (⟨#[]⟩ : ByteArray)]) ?_ 0 _ rfl; (with_reducible repeat (first | refine blk_drewN ?_ _ | refine blk_drew ?_ | refine blk_alloc ?_ _)); exact BK101.out) Tryz.underlying172 rfl (by kernel_rfl)) rfl ?_
  exact ⟨_, by first | rfl | (simp [errW_none, errW_some] <;> rfl) | (simp [*, errW_none, errW_some] <;> rfl), by first | exact Kd.R_nil _ _ _ _ _ | exact Kd.N_nil _ _ _ _ _ | exact Kd.V_nil _ _ _ _ _ | exact Kd.Q_nil _ _ _ _ _ | exact Kd.S_nil _ _ _ _ _, bX1 HB GE101⟩
 ·rw [if_neg c2] at H
  have c2b0 : decide (2000 < (a0.size : Int)) = false := decide_eq_false c2; have c2b1 : decide (2000 < a0.size) = false := decide_eq_false (by omega); clear c2; have HC5 := Aside0.mk H; clear H; go_enter Tryz.func141, Tryz.ntmps141
  go_upto_region 5 with (first | ((with_reducible refine gate_dst (N := 2) rfl ?_); (try (refine gate_guard (by rfl) ?_; dsimp only)); refine eX 2 #[.slice none 0 0, .bool false, .int .i64 0, .string (⟨#[]⟩ : ByteArray)] 172 ?_; intro gb101 hg w6 hbox hb; have n0_ := Aside0.mk (below_step (bX HB) hb); have n1_ := Aside0.mk (hbox); have n2_ := Aside0.mk ((by rw [hg]; exact (below_size (bX HB)) : w.heap.size ≤ gb101)); have n3_ := Aside0.mk ((by rw [hg]; exact (below_size (bX HB)) : w.heap.size ≤ gb101)); clear HB; have HB := n0_; have BK101 := n1_; have GW101 := n2_; have GE101 := n3_; clear n0_ n1_ n2_ n3_; clear hb hbox hg) | ((with_reducible refine gate_dst (N := 4) rfl ?_); (try (refine gate_guard (by rfl) ?_; dsimp only)); refine eX 4 #[.slice none 0 0, .bool false, .int .i64 0, .string (⟨#[]⟩ : ByteArray)] 172 ?_; intro gb102 hg w7 hbox hb; have n0_ := Aside0.mk (blk_below (kX BK101) hb); have n1_ := Aside0.mk (below_step (bX1 HB GE101) hb); have n2_ := Aside0.mk (hbox); have n3_ := Aside0.mk ((by rw [hg]; exact (below_size (bX1 HB GE101)) : w.heap.size ≤ gb102)); have n4_ := Aside0.mk ((by rw [hg]; exact (below_size (bX1 HB GE101)) : w.heap.size ≤ gb102)); have n5_ := Aside0.mk ((by rw [hg]; exact Nat.ne_of_lt (blk_lt (kX BK101)) : gb101 ≠ gb102)); have n6_ := Aside0.mk ((by rw [hg]; exact Nat.ne_of_gt (blk_lt (kX BK101)) : gb102 ≠ gb101)); clear BK101; clear HB; have BK101 := n0_; have HB := n1_; have BK102 := n2_; have GW102 := n3_; have GE102 := n4_; have NB101_102 := n5_; have NB102_101 := n6_; clear n0_ n1_ n2_ n3_ n4_ n5_ n6_; clear hb hbox hg; have hnb8 := NB102_101.out; have hnc8 := NB101_102.out; obtain ⟨hcz9_0, hcz9_1, hcz9_2, hcz9_3, hfz9_0, hfz9_1, hfz9_2, hfz9_3⟩ := c4X BK102))
  (try simp only [Act.put, List.setIfInBounds_toArray, List.set_cons_zero, List.set_cons_succ])
  go_cut [23] (fun v23 wc => ∃ (kq : Nat) (x23_4 : Bool), v23 = .bool x23_4 ∧ Aside0 (arbiterref02_ParseDesc.j0 kq a0 false x23_4 false 0 (⟨#[]⟩ : ByteArray) = some (r1, r2, r3, r4, r5)) ∧ Aside0 (kq ≤ k) ∧ Aside0 (wc.heap[gb101]? = some (.cells #[(.slice none 0 0), .bool false, .int .i64 0, .string (⟨#[]⟩ : ByteArray)] 172 (0, 0))) ∧ Aside0 (wc.heap[gb102]? = some (.cells #[(.slice none 0 0), .bool false, .int .i64 0, .string (⟨#[]⟩ : ByteArray)] 172 (0, 0))) ∧ Aside0 (Below w.heap.size w wc))
  case first =>
   have H := HC5.out; clear HC5
   by_cases c10 : (a0.size : Int) = 0
   ·rw [if_pos c10] at H
    have c10b0 : ((a0.size : Int) == 0) = true := beq_iff_eq.mpr c10; have c10b1 : ((a0.size : Int) != 0) = false := bne_eq_false_iff_eq.mpr c10; clear c10
    (first | rw [c10b0] | (simp only [i64_w, i32_w]; rw [c10b0]) | skip)
    have H' := Aside0.mk H; clear H; go_wp2; go_meet
    case rel => exact ⟨_, (true), vX, H', ⟨by first | omega | exact Nat.le_refl _⟩, ⟨fX BK101 NB101_102⟩, ⟨by (with_reducible repeat (first | refine blk_drewN ?_ _ | refine blk_drew ?_ | refine blk_alloc ?_ _)); refine blk_put (cs := #[.slice none 0 0, .bool false, .int .i64 0, .string (⟨#[]⟩ : ByteArray)]) ?_ 3 _ rfl; (with_reducible repeat (first | refine blk_drewN ?_ _ | refine blk_drew ?_ | refine blk_alloc ?_ _)); refine blk_put (cs := #[.slice none 0 0, .bool false, .int .i64 0, .string (⟨#[]⟩ : ByteArray)]) ?_ 2 _ rfl; (with_reducible repeat (first | refine blk_drewN ?_ _ | refine blk_drew ?_ | refine blk_alloc ?_ _)); refine blk_put (cs := #[.slice none 0 0, .bool false, .int .i64 0, .string (⟨#[]⟩ : ByteArray)]) ?_ 1 _ rfl; (with_reducible repeat (first | refine blk_drewN ?_ _ | refine blk_drew ?_ | refine blk_alloc ?_ _)); refine blk_put (cs := #[.slice none 0 0, .bool false, .int .i64 0, .string (⟨#[]⟩ : ByteArray)]) ?_ 0 _ rfl; (with_reducible repeat (first | refine blk_drewN ?_ _ | refine blk_drew ?_ | refine blk_alloc ?_ _)); exact BK102.out⟩, ⟨bX2 HB GE101 GE102⟩⟩
   ·rw [if_neg c10] at H
    have c10b0 : ((a0.size : Int) == 0) = false := beq_eq_false_iff_ne.mpr c10; have c10b1 : ((a0.size : Int) != 0) = true := bne_iff_ne.mpr c10
    (first | rw [c10b0] | (simp only [i64_w, i32_w]; rw [c10b0]) | skip)
    by_cases c11 : 0 < (a0.size : Int)
    ·rw [if_pos c11] at H
     have c11b0 : decide (0 < (a0.size : Int)) = true := decide_eq_true c11; have c11b1 : decide (0 < a0.size) = true := decide_eq_true (by omega); clear c11; have H' := Aside0.mk H; clear H
     have p12 : 0 ≤ (0 : Int) := (by omega)
     have q12 : 0 < a0.size := (by have : (0 : Int) < (a0.size : Int) := qX; omega)
     have hx12 : ∀ h : 0 < a0.size, ((a0[0]'h).toNat : Int) = bt a0 0 := bt_at a0 0; clear p12; have qi12 : (0 < (a0.size : Int)) = True := eq_true (qX); replace q12 := eq_true q12; go_wp2; go_meet
     case rel => exact ⟨_, (((bt a0 0) != 40)), vX, H', ⟨by first | omega | exact Nat.le_refl _⟩, ⟨fX BK101 NB101_102⟩, ⟨by (with_reducible repeat (first | refine blk_drewN ?_ _ | refine blk_drew ?_ | refine blk_alloc ?_ _)); refine blk_put (cs := #[.slice none 0 0, .bool false, .int .i64 0, .string (⟨#[]⟩ : ByteArray)]) ?_ 3 _ rfl; (with_reducible repeat (first | refine blk_drewN ?_ _ | refine blk_drew ?_ | refine blk_alloc ?_ _)); refine blk_put (cs := #[.slice none 0 0, .bool false, .int .i64 0, .string (⟨#[]⟩ : ByteArray)]) ?_ 2 _ rfl; (with_reducible repeat (first | refine blk_drewN ?_ _ | refine blk_drew ?_ | refine blk_alloc ?_ _)); refine blk_put (cs := #[.slice none 0 0, .bool false, .int .i64 0, .string (⟨#[]⟩ : ByteArray)]) ?_ 1 _ rfl; (with_reducible repeat (first | refine blk_drewN ?_ _ | refine blk_drew ?_ | refine blk_alloc ?_ _)); refine blk_put (cs := #[.slice none 0 0, .bool false, .int .i64 0, .string (⟨#[]⟩ : ByteArray)]) ?_ 0 _ rfl; (with_reducible repeat (first | refine blk_drewN ?_ _ | refine blk_drew ?_ | refine blk_alloc ?_ _)); exact BK102.out⟩, ⟨bX2 HB GE101 GE102⟩⟩
    ·rw [if_neg c11] at H
     exact absurd H (by simp)
  case rest =>
   clear HC5
   try clear c1
   try clear p1
   try clear q1
   try clear hx1
   try clear qi1
   try clear c2
   try clear c2b0
   try clear c2b1
   try clear p2
   try clear c8
   try clear c10
   try clear c10b0
   try clear c10b1
   try clear c11
   try clear c11b0
   try clear c11b1
   try clear p12
   try clear q12
   try clear hx12
   try clear qi12
   try clear hcz4_0 hcz4_1 hcz4_2 hcz4_3
   try clear hcz9_0 hcz9_1 hcz9_2 hcz9_3
   try clear hfz4_0 hfz4_1 hfz4_2 hfz4_3
   try clear hfz9_0 hfz9_1 hfz9_2 hfz9_3
   try clear p12
   try clear q12
   obtain ⟨kq, x23_4, rfl, HA, HJ4, BK101, BK102, HB⟩ := hcut
   cases kq with
   | zero => exact absurd HA.out (by simp [arbiterref02_ParseDesc.j0])
   | succ kj4 =>
    have H := HA.out; clear HA; simp only [arbiterref02_ParseDesc.j0] at H
    by_cases c13 : x23_4 = true
    ·subst c13
     have H1 : (some (([] : List (S24)), false, 0, (⟨#[]⟩ : ByteArray), 4)) = some (r1, r2, r3, r4, r5) := by rw [if_pos rfl] at H; exact H
     clear H; have H := H1; clear H1; simp only [Option.some.injEq, Prod.mk.injEq] at H; obtain ⟨rfl, rfl, rfl, rfl, rfl⟩ := H; have hnb14 := NB102_101.out; have hnc14 := NB101_102.out; obtain ⟨hcz15_0, hcz15_1, hcz15_2, hcz15_3, hfz15_0, hfz15_1, hfz15_2, hfz15_3⟩ := c4X BK102; obtain ⟨hcz16_0, hcz16_1, hcz16_2, hcz16_3, hfz16_0, hfz16_1, hfz16_2, hfz16_3⟩ := c4X BK101; go_wp2; refine bodyPost_ret (results_ct rfl _ _ gb101 172 #[.slice none 0 0, .bool false, .int .i64 0, .string (⟨#[]⟩ : ByteArray)] (0, 0) _ rfl (by (with_reducible repeat (first | refine blk_drewN ?_ _ | refine blk_drew ?_ | refine blk_alloc ?_ _)); refine blk_put (cs := #[.slice none 0 0, .bool false, .int .i64 0, .string (⟨#[]⟩ : ByteArray)]) ?_ 3 _ rfl; (with_reducible repeat (first | refine blk_drewN ?_ _ | refine blk_drew ?_ | refine blk_alloc ?_ _)); refine blk_put (cs := #[.slice none 0 0, .bool false, .int .i64 0, .string (⟨#[]⟩ : ByteArray)]) ?_ 2 _ rfl; (with_reducible repeat (first | refine blk_drewN ?_ _ | refine blk_drew ?_ | refine blk_alloc ?_ _)); refine blk_put (cs := #[.slice none 0 0, .bool false, .int .i64 0, .string (⟨#[]⟩ : ByteArray)]) ?_ 1 _ rfl; (with_reducible repeat (first | refine blk_drewN ?_ _ | refine blk_drew ?_ | refine blk_alloc ?_ _)); refine blk_put (cs := #[.slice none 0 0, .bool false, .int .i64 0, .string (⟨#[]⟩ : ByteArray)]) ?_ 0 _ rfl; (with_reducible repeat (first | refine blk_drewN ?_ _ | refine blk_drew ?_ | refine blk_alloc ?_ _)); exact BK101.out) Tryz.underlying172 rfl (by kernel_rfl)) rfl ?_
     exact ⟨_, by first | rfl | (simp [errW_none, errW_some] <;> rfl) | (simp [*, errW_none, errW_some] <;> rfl), by first | exact Kd.R_nil _ _ _ _ _ | exact Kd.N_nil _ _ _ _ _ | exact Kd.V_nil _ _ _ _ _ | exact Kd.Q_nil _ _ _ _ _ | exact Kd.S_nil _ _ _ _ _, bX2 HB GE101 GE102⟩
    ·replace c13 := Bool.eq_false_iff.mpr c13
     subst c13
     have H1 : (arbiterref02_ParseDesc.l0 kj4 a0 false 1 ([] : List (S24)) false 0 (⟨#[]⟩ : ByteArray)) = some (r1, r2, r3, r4, r5) := by rw [if_neg (show ¬ (false = true) by decide)] at H; exact H
     clear H; have H := H1; clear H1; have H' := Aside0.mk H; clear H; go_wp2
     go_loopg [5, 6] kj4 (fun kq v5 v6 w' => ∃ (x5_2 : Bool) (x6_2 : Int) (x102001_2 : Bool) (x102002_2 : Int) (x102003_2 : ByteArray) (x103000_2 : List (S24)) (u103000 : Value), v5 = .bool x5_2 ∧ v6 = .int .i64 x6_2 ∧ Aside0 (arbiterref02_ParseDesc.l0 kq a0 x5_2 x6_2 x103000_2 false 0 (⟨#[]⟩ : ByteArray) = some (r1, r2, r3, r4, r5)) ∧ Aside0 (kq ≤ kj4) ∧ Aside0 (Kd.R k24 24 w' w.heap.size (fun _ => True) u103000 x103000_2) ∧ Aside0 (w'.heap[gb101]? = some (.cells #[(.slice none 0 0), .bool x102001_2, .int .i64 x102002_2, .string x102003_2] 172 (0, 0))) ∧ Aside0 (w'.heap[gb102]? = some (.cells #[u103000, .bool false, .int .i64 0, .string (⟨#[]⟩ : ByteArray)] 172 (0, 0))) ∧ Aside0 (Below w.heap.size w w'))
     case atStart => exact ⟨(false), (1), (false), (0), ((⟨#[]⟩ : ByteArray)), (([] : List (S24))), (.slice none 0 0), vX, vX, H', ⟨Nat.le_refl _⟩, ⟨by first | exact Kd.R_nil _ _ _ _ _ | exact Kd.N_nil _ _ _ _ _ | exact Kd.V_nil _ _ _ _ _ | exact Kd.Q_nil _ _ _ _ _ | exact Kd.S_nil _ _ _ _ _⟩, ⟨by (with_reducible repeat (first | refine blk_drewN ?_ _ | refine blk_drew ?_ | refine blk_alloc ?_ _)); exact BK101.out⟩, ⟨by (with_reducible repeat (first | refine blk_drewN ?_ _ | refine blk_drew ?_ | refine blk_alloc ?_ _)); exact BK102.out⟩, ⟨bX2 HB GE101 GE102⟩⟩
     case round =>
      clear H'
      try clear c1
      try clear p1
      try clear q1
      try clear hx1
      try clear qi1
      try clear c2
      try clear c2b0
      try clear c2b1
      try clear p2
      try clear c8
      try clear c10
      try clear c10b0
      try clear c10b1
      try clear c11
      try clear c11b0
      try clear c11b1
      try clear p12
      try clear q12
      try clear hx12
      try clear qi12
      try clear c13
      try clear c14
      try clear hcz15_0 hcz15_1 hcz15_2 hcz15_3
      try clear hcz16_0 hcz16_1 hcz16_2 hcz16_3
      try clear hcz4_0 hcz4_1 hcz4_2 hcz4_3
      try clear hcz9_0 hcz9_1 hcz9_2 hcz9_3
      try clear hfz15_0 hfz15_1 hfz15_2 hfz15_3
      try clear hfz16_0 hfz16_1 hfz16_2 hfz16_3
      try clear hfz4_0 hfz4_1 hfz4_2 hfz4_3
      try clear hfz9_0 hfz9_1 hfz9_2 hfz9_3
      try clear p1
      try clear p12
      try clear p2
      try clear q1
      try clear q12
      obtain ⟨x5_2, x6_2, x102001_2, x102002_2, x102003_2, x103000_2, u103000, rfl, rfl, HA, HK2, HO_103000, BK101, BK102, HB⟩ := hrel
      cases gk with
      | zero => exact absurd HA.out (by simp [arbiterref02_ParseDesc.l0])
      | succ k2 =>
       have H := HA.out; clear HA; simp only [arbiterref02_ParseDesc.l0] at H; have HC17 := Aside0.mk H; clear H
       go_upto_region 8 with (fail)
       go_cut [34] (fun v34 wc => ∃ (kq : Nat) (x34_16 : Bool), v34 = .bool x34_16 ∧ Aside0 (arbiterref02_ParseDesc.j2 kq a0 x5_2 x6_2 x34_16 x103000_2 false 0 (⟨#[]⟩ : ByteArray) = some (r1, r2, r3, r4, r5)) ∧ Aside0 (kq ≤ k2) ∧ Aside0 (Kd.R k24 24 wc w.heap.size (fun _ => True) u103000 x103000_2) ∧ Aside0 (wc.heap[gb101]? = some (.cells #[(.slice none 0 0), .bool x102001_2, .int .i64 x102002_2, .string x102003_2] 172 (0, 0))) ∧ Aside0 (wc.heap[gb102]? = some (.cells #[u103000, .bool false, .int .i64 0, .string (⟨#[]⟩ : ByteArray)] 172 (0, 0))) ∧ Aside0 (Below w.heap.size w wc))
       case first =>
        have H := HC17.out; clear HC17
        by_cases c18 : x6_2 < (a0.size : Int)
        ·rw [if_pos c18] at H
         have c18b0 : decide (x6_2 < (a0.size : Int)) = true := decide_eq_true c18; clear c18
         (first | rw [c18b0] | (simp only [i64_w, i32_w]; rw [c18b0]) | skip)
         by_cases c19 : 0 ≤ x6_2
         ·rw [if_pos c19] at H
          have c19b0 : decide (0 ≤ x6_2) = true := decide_eq_true c19; clear c19; have H' := Aside0.mk H; clear H; have p20 : 0 ≤ (x6_2 : Int) := qX; have q20 : x6_2 < (a0.size : Int) := qX; have hx20 := bt_at a0 x6_2; replace p20 := eq_true p20; replace q20 := eq_true q20; go_wp2; go_meet
          case rel => exact ⟨_, (((bt a0 x6_2) != 41)), vX, H', ⟨by have := HJ4.out; have := HK2.out; first | omega | exact Nat.le_refl _⟩, ⟨rX HO_103000⟩, ⟨by (with_reducible repeat (first | refine blk_drewN ?_ _ | refine blk_drew ?_ | refine blk_alloc ?_ _)); exact BK101.out⟩, ⟨by (with_reducible repeat (first | refine blk_drewN ?_ _ | refine blk_drew ?_ | refine blk_alloc ?_ _)); exact BK102.out⟩, ⟨bX2 HB GE101 GE102⟩⟩
         ·rw [if_neg c19] at H
          exact absurd H (by simp)
        ·rw [if_neg c18] at H
         have c18b0 : decide (x6_2 < (a0.size : Int)) = false := decide_eq_false c18; clear c18
         (first | rw [c18b0] | (simp only [i64_w, i32_w]; rw [c18b0]) | skip)
         have H' := Aside0.mk H; clear H; go_wp2; go_meet
         case rel => exact ⟨_, (false), vX, H', ⟨by have := HJ4.out; have := HK2.out; first | omega | exact Nat.le_refl _⟩, ⟨rX HO_103000⟩, ⟨by (with_reducible repeat (first | refine blk_drewN ?_ _ | refine blk_drew ?_ | refine blk_alloc ?_ _)); exact BK101.out⟩, ⟨by (with_reducible repeat (first | refine blk_drewN ?_ _ | refine blk_drew ?_ | refine blk_alloc ?_ _)); exact BK102.out⟩, ⟨bX2 HB GE101 GE102⟩⟩
       case rest =>
        clear HC17
        try clear c1
        try clear p1
        try clear q1
        try clear hx1
        try clear qi1
        try clear c2
        try clear c2b0
        try clear c2b1
        try clear p2
        try clear q2
        try clear hx2
        try clear c8
        try clear c10
        try clear c10b0
        try clear c10b1
        try clear c11
        try clear c11b0
        try clear c11b1
        try clear p12
        try clear q12
        try clear hx12
        try clear qi12
        try clear c13
        try clear c14
        try clear c18
        try clear c18b0
        try clear c19
        try clear c19b0
        try clear p20
        try clear q20
        try clear hx20
        try clear hcz15_0 hcz15_1 hcz15_2 hcz15_3
        try clear hcz16_0 hcz16_1 hcz16_2 hcz16_3
        try clear hcz4_0 hcz4_1 hcz4_2 hcz4_3
        try clear hcz9_0 hcz9_1 hcz9_2 hcz9_3
        try clear hfz15_0 hfz15_1 hfz15_2 hfz15_3
        try clear hfz16_0 hfz16_1 hfz16_2 hfz16_3
        try clear hfz4_0 hfz4_1 hfz4_2 hfz4_3
        try clear hfz9_0 hfz9_1 hfz9_2 hfz9_3
        try clear p1
        try clear p12
        try clear p2
        try clear p20
        try clear q1
        try clear q12
        try clear q20
        obtain ⟨kq, x34_16, rfl, HA, HJ16, HO_103000, BK101, BK102, HB⟩ := hcut
        cases kq with
        | zero => exact absurd HA.out (by simp [arbiterref02_ParseDesc.j2])
        | succ kj16 =>
         have H := HA.out; clear HA; simp only [arbiterref02_ParseDesc.j2] at H
         by_cases c21 : x34_16 = true
         ·subst c21
          have H1 : ((arbiterref02_read.f a0 x6_2).bind fun bt103 => (if bt103.2.2 < 0 then (some (([] : List (S24)), false, 0, (⟨#[]⟩ : ByteArray), 4)) else (if x5_2 = true then (if x103000_2.length < 5864062014805 then (arbiterref02_ParseDesc.l0 kj16 a0 true bt103.2.2 (x103000_2 ++ [(⟨bt103.1, bt103.2.1⟩ : S24)]) false 0 (⟨#[]⟩ : ByteArray)) else (none)) else (if x103000_2.length < 5864062014805 then (arbiterref02_ParseDesc.l0 kj16 a0 (decide (bt103.1 > 255)) bt103.2.2 (x103000_2 ++ [(⟨bt103.1, bt103.2.1⟩ : S24)]) false 0 (⟨#[]⟩ : ByteArray)) else (none))))) = some (r1, r2, r3, r4, r5) := by rw [if_pos rfl] at H; exact H
          clear H; have H := H1; clear H1; replace H := Option.bind_eq_some_iff.mp H; obtain ⟨⟨t103, t104, t105⟩, A220, H⟩ := H; replace H : (if t105 < 0 then (some (([] : List (S24)), false, 0, (⟨#[]⟩ : ByteArray), 4)) else (if x5_2 = true then (if x103000_2.length < 5864062014805 then (arbiterref02_ParseDesc.l0 kj16 a0 true t105 (x103000_2 ++ [(⟨t103, t104⟩ : S24)]) false 0 (⟨#[]⟩ : ByteArray)) else (none)) else (if x103000_2.length < 5864062014805 then (arbiterref02_ParseDesc.l0 kj16 a0 (decide (t103 > 255)) t105 (x103000_2 ++ [(⟨t103, t104⟩ : S24)]) false 0 (⟨#[]⟩ : ByteArray)) else (none)))) = some (r1, r2, r3, r4, r5) := H; have A22 := Aside0.mk A220; clear A220
          by_cases c23 : t105 < 0
          ·rw [if_pos c23] at H
           have c23b0 : decide (t105 < 0) = true := decide_eq_true c23; clear c23; simp only [Option.some.injEq, Prod.mk.injEq] at H; obtain ⟨rfl, rfl, rfl, rfl, rfl⟩ := H; go_wp2_with (first | ((with_reducible refine gate_callee (f := 158) rfl ?_); refine gX (some 38) Tryz.func158 #[.string a0, .int .i64 x6_2] ?_; (with_reducible refine (arbiterref02_read.calls a0 x6_2 t103 t104 t105 _ A22.out).mono ?_); rintro e w24 ⟨rfl, hb⟩; refine ⟨_, rfl, ?_⟩; have n0_ := Aside0.mk (Kd.R_below (rX HO_103000) hb); have n1_ := Aside0.mk (blk_below (kX BK101) hb); have n2_ := Aside0.mk (blk_below (kX BK102) hb); have n3_ := Aside0.mk (below_step (bX2 HB GE101 GE102) hb); clear HO_103000; clear BK101; clear BK102; clear HB; have HO_103000 := n0_; have BK101 := n1_; have BK102 := n2_; have HB := n3_; clear n0_ n1_ n2_ n3_; (try clear hb); (try clear hb2); (try clear hk); (try clear hi)) | ((with_reducible refine gate_dst (N := 7) rfl ?_); (try (refine gate_guard (by rfl) ?_; dsimp only)); refine eX 7 #[.int .i64 0, .string (⟨#[]⟩ : ByteArray)] 24 ?_; intro gb106 hg w25 hbox hb; have n0_ := Aside0.mk (Kd.R_below (Kd.R_elderB (rX HO_103000) gb106 (Nat.le_of_eq hg.symm)) hb); have n1_ := Aside0.mk (blk_below (kX BK101) hb); have n2_ := Aside0.mk (blk_below (kX BK102) hb); have n3_ := Aside0.mk (below_step (bX2 HB GE101 GE102) hb); have n4_ := Aside0.mk (hbox); have n5_ := Aside0.mk ((by rw [hg]; exact (below_size (bX2 HB GE101 GE102)) : w.heap.size ≤ gb106)); have n6_ := Aside0.mk ((by rw [hg]; exact (below_size (bX2 HB GE101 GE102)) : w.heap.size ≤ gb106)); have n7_ := Aside0.mk ((by rw [hg]; exact Nat.ne_of_lt (blk_lt (kX BK101)) : gb101 ≠ gb106)); have n8_ := Aside0.mk ((by rw [hg]; exact Nat.ne_of_gt (blk_lt (kX BK101)) : gb106 ≠ gb101)); have n9_ := Aside0.mk ((by rw [hg]; exact Nat.ne_of_lt (blk_lt (kX BK102)) : gb102 ≠ gb106)); have n10_ := Aside0.mk ((by rw [hg]; exact Nat.ne_of_gt (blk_lt (kX BK102)) : gb106 ≠ gb102)); clear HO_103000; clear BK101; clear BK102; clear HB; have HO_103000 := n0_; have BK101 := n1_; have BK102 := n2_; have HB := n3_; have BK106 := n4_; have GW106 := n5_; have GE106 := n6_; have NB101_106 := n7_; have NB106_101 := n8_; have NB102_106 := n9_; have NB106_102 := n10_; clear n0_ n1_ n2_ n3_ n4_ n5_ n6_ n7_ n8_ n9_ n10_; clear hb hbox hg; have hnb26 := NB106_101.out; have hnc26 := NB101_106.out; have hnb27 := NB106_102.out; have hnc27 := NB102_106.out; obtain ⟨hcz28_0, hcz28_1, hfz28_0, hfz28_1⟩ := c2X BK106; have hnb29 := NB101_102.out; have hnc29 := NB102_101.out; obtain ⟨hcz30_0, hcz30_1, hcz30_2, hcz30_3, hfz30_0, hfz30_1, hfz30_2, hfz30_3⟩ := c4X BK101)); refine bodyPost_ret (results_ct rfl _ _ gb101 172 #[.slice none 0 0, .bool false, .int .i64 0, .string (⟨#[]⟩ : ByteArray)] (0, 0) _ rfl (by (with_reducible repeat (first | refine blk_drewN ?_ _ | refine blk_drew ?_ | refine blk_alloc ?_ _)); refine blk_put (cs := #[.slice none 0 0, .bool false, .int .i64 0, .string x102003_2]) ?_ 3 _ rfl; (with_reducible repeat (first | refine blk_drewN ?_ _ | refine blk_drew ?_ | refine blk_alloc ?_ _)); refine blk_put (cs := #[.slice none 0 0, .bool false, .int .i64 x102002_2, .string x102003_2]) ?_ 2 _ rfl; (with_reducible repeat (first | refine blk_drewN ?_ _ | refine blk_drew ?_ | refine blk_alloc ?_ _)); refine blk_put (cs := #[.slice none 0 0, .bool x102001_2, .int .i64 x102002_2, .string x102003_2]) ?_ 1 _ rfl; (with_reducible repeat (first | refine blk_drewN ?_ _ | refine blk_drew ?_ | refine blk_alloc ?_ _)); refine blk_put (cs := #[.slice none 0 0, .bool x102001_2, .int .i64 x102002_2, .string x102003_2]) ?_ 0 _ rfl; (with_reducible repeat (first | refine blk_drewN ?_ _ | refine blk_drew ?_ | refine blk_alloc ?_ _)); refine blk_far ?_ NB101_106.out _; (with_reducible repeat (first | refine blk_drewN ?_ _ | refine blk_drew ?_ | refine blk_alloc ?_ _)); refine blk_far ?_ NB101_106.out _; (with_reducible repeat (first | refine blk_drewN ?_ _ | refine blk_drew ?_ | refine blk_alloc ?_ _)); exact BK101.out) Tryz.underlying172 rfl (by kernel_rfl)) rfl ?_
           exact ⟨_, by first | rfl | (simp [errW_none, errW_some] <;> rfl) | (simp [*, errW_none, errW_some] <;> rfl), by first | exact Kd.R_nil _ _ _ _ _ | exact Kd.N_nil _ _ _ _ _ | exact Kd.V_nil _ _ _ _ _ | exact Kd.Q_nil _ _ _ _ _ | exact Kd.S_nil _ _ _ _ _, bX3 HB GE101 GE102 GE106⟩
          ·rw [if_neg c23] at H
           have c23b0 : decide (t105 < 0) = false := decide_eq_false c23; clear c23
           by_cases c31 : x5_2 = true
           ·subst c31
            have H1 : (if x103000_2.length < 5864062014805 then (arbiterref02_ParseDesc.l0 kj16 a0 true t105 (x103000_2 ++ [(⟨t103, t104⟩ : S24)]) false 0 (⟨#[]⟩ : ByteArray)) else (none)) = some (r1, r2, r3, r4, r5) := by rw [if_pos rfl] at H; exact H
            clear H; have H := H1; clear H1
            by_cases c32 : x103000_2.length < 5864062014805
            ·rw [if_pos c32] at H
             have LMc32 := Aside0.mk c32; clear c32
             obtain ⟨y107, hy107⟩ : ∃ y_ : List (S24), y_ = (x103000_2 ++ [(⟨t103, t104⟩ : S24)]) := ⟨_, rfl⟩
             replace H : (arbiterref02_ParseDesc.l0 kj16 a0 true t105 y107 false 0 (⟨#[]⟩ : ByteArray)) = some (r1, r2, r3, r4, r5) := by first | (rw [hy107]; with_reducible exact H) | (have H2_ := (Option.bind_some _ _).symm.trans H; rw [hy107]; with_reducible exact H2_) | (have H2_ := (Option.bind_some _ _).symm.trans H; with_reducible exact H2_) | with_reducible exact H | (rw [hy107]; exact H) | exact H
             have Ny107 := Aside0.mk hy107; clear hy107; have H' := Aside0.mk H; clear H; go_wp2_with (first | ((with_reducible refine gate_callee (f := 158) rfl ?_); refine gX (some 38) Tryz.func158 #[.string a0, .int .i64 x6_2] ?_; (with_reducible refine (arbiterref02_read.calls a0 x6_2 t103 t104 t105 _ A22.out).mono ?_); rintro e w33 ⟨rfl, hb⟩; refine ⟨_, rfl, ?_⟩; have n0_ := Aside0.mk (Kd.R_below (rX HO_103000) hb); have n1_ := Aside0.mk (blk_below (kX BK101) hb); have n2_ := Aside0.mk (blk_below (kX BK102) hb); have n3_ := Aside0.mk (below_step (bX2 HB GE101 GE102) hb); clear HO_103000; clear BK101; clear BK102; clear HB; have HO_103000 := n0_; have BK101 := n1_; have BK102 := n2_; have HB := n3_; clear n0_ n1_ n2_ n3_; (try clear hb); (try clear hb2); (try clear hk); (try clear hi)) | ((with_reducible refine gate_dst (N := 7) rfl ?_); (try (refine gate_guard (by rfl) ?_; dsimp only)); refine eX 7 #[.int .i64 0, .string (⟨#[]⟩ : ByteArray)] 24 ?_; intro gb106 hg w34 hbox hb; have n0_ := Aside0.mk (Kd.R_below (Kd.R_elderB (rX HO_103000) gb106 (Nat.le_of_eq hg.symm)) hb); have n1_ := Aside0.mk (blk_below (kX BK101) hb); have n2_ := Aside0.mk (blk_below (kX BK102) hb); have n3_ := Aside0.mk (below_step (bX2 HB GE101 GE102) hb); have n4_ := Aside0.mk (hbox); have n5_ := Aside0.mk ((by rw [hg]; exact (below_size (bX2 HB GE101 GE102)) : w.heap.size ≤ gb106)); have n6_ := Aside0.mk ((by rw [hg]; exact (below_size (bX2 HB GE101 GE102)) : w.heap.size ≤ gb106)); have n7_ := Aside0.mk ((by rw [hg]; exact Nat.ne_of_lt (blk_lt (kX BK101)) : gb101 ≠ gb106)); have n8_ := Aside0.mk ((by rw [hg]; exact Nat.ne_of_gt (blk_lt (kX BK101)) : gb106 ≠ gb101)); have n9_ := Aside0.mk ((by rw [hg]; exact Nat.ne_of_lt (blk_lt (kX BK102)) : gb102 ≠ gb106)); have n10_ := Aside0.mk ((by rw [hg]; exact Nat.ne_of_gt (blk_lt (kX BK102)) : gb106 ≠ gb102)); clear HO_103000; clear BK101; clear BK102; clear HB; have HO_103000 := n0_; have BK101 := n1_; have BK102 := n2_; have HB := n3_; have BK106 := n4_; have GW106 := n5_; have GE106 := n6_; have NB101_106 := n7_; have NB106_101 := n8_; have NB102_106 := n9_; have NB106_102 := n10_; clear n0_ n1_ n2_ n3_ n4_ n5_ n6_ n7_ n8_ n9_ n10_; clear hb hbox hg; have hnb35 := NB106_101.out; have hnc35 := NB101_106.out; have hnb36 := NB106_102.out; have hnc36 := NB102_106.out; obtain ⟨hcz37_0, hcz37_1, hfz37_0, hfz37_1⟩ := c2X BK106; have hnb38 := NB102_101.out; have hnc38 := NB101_102.out; obtain ⟨hcz39_0, hcz39_1, hcz39_2, hcz39_3, hfz39_0, hfz39_1, hfz39_2, hfz39_3⟩ := c4X BK102) | ((with_reducible refine gate_builtin (b := .append) (xs := #[.tmp 51, .tmp 53]) rfl ?_); (try (refine gate_guard (by rfl) ?_; dsimp only)); at_builtin; refine Kd.R_append k24 (w0 := w) w.heap.size rfl (.tmp 51) (.tmp 53) 66 24 (.agg #[(.int .i64 0), (.string ⟨#[]⟩)]) 24 rfl Tryz.underlying66 info24 rfl (by decide) (by omega) u103000 x103000_2 (⟨t103, t104⟩ : S24) [.int .i64 t103, .string t104] (fun k_ => k_ ≠ gb106) (fun _ => False) rfl (by first | (go_simp; done) | (go_simp; rfl)) ?aP (fun _ hk => hk.elim) ?aF ?aO ?aB ?aS ?aL ?_; (case aP => exact k24_mkM _ _ _ (⟨t103, t104⟩ : S24)); (case aB => exact (bX3 HB GE101 GE102 GE106)); (case aF => exact (fun k_ hk => Kd.freshB (g := gb106) (o := .cells #[.int .i64 t103, .string t104] 24 (0, 0)) (by (with_reducible repeat (first | refine blk_drewN ?_ _ | refine blk_drew ?_ | refine blk_alloc ?_ _)); refine blk_put (cs := #[.int .i64 t103, .string (⟨#[]⟩ : ByteArray)]) ?_ 1 _ rfl; (with_reducible repeat (first | refine blk_drewN ?_ _ | refine blk_drew ?_ | refine blk_alloc ?_ _)); refine blk_put (cs := #[.int .i64 0, .string (⟨#[]⟩ : ByteArray)]) ?_ 0 _ rfl; (with_reducible repeat (first | refine blk_drewN ?_ _ | refine blk_drew ?_ | refine blk_alloc ?_ _)); exact BK106.out) k_ hk)); (case aO => exact (by (with_reducible repeat (first | apply Kd.R_alloc | apply Kd.R_drewN | apply Kd.R_drew)); exact Kd.R_mono (Kd.R_far (p := ⟨gb106, 1, none⟩) (Kd.R_far (p := ⟨gb106, 0, none⟩) (Kd.R_mono HO_103000.out (fun k_ hk => (⟨hk, hk.2⟩ : _ ∧ k_ ≠ gb106))) (fun _ hk => hk.2) (.int .i64 t103)) (fun _ hk => hk.2) (.string t104)) (fun _ hk => hk.1.2))); (case aS => exact (below_size (bX3 HB GE101 GE102 GE106))); (case aL => have := LMc32.out; omega); intro v108 w40 ho hb hg hat; rw [← Ny107.out] at ho; have n0_ := Aside0.mk (blk_grown (g := gb101) (o := .cells #[.slice none 0 0, .bool x102001_2, .int .i64 x102002_2, .string x102003_2] 172 (0, 0)) (fX BK101 NB101_106) hg (Kd.R_ne HO_103000.out BK101.out (by decide))); have n1_ := Aside0.mk (blk_grown (g := gb102) (o := .cells #[u103000, .bool false, .int .i64 0, .string (⟨#[]⟩ : ByteArray)] 172 (0, 0)) (fX BK102 NB102_106) hg (Kd.R_ne HO_103000.out BK102.out (by decide))); have n2_ := Aside0.mk (blk_grown (g := gb106) (o := .cells #[.int .i64 t103, .string t104] 24 (0, 0)) (by (with_reducible repeat (first | refine blk_drewN ?_ _ | refine blk_drew ?_ | refine blk_alloc ?_ _)); refine blk_put (cs := #[.int .i64 t103, .string (⟨#[]⟩ : ByteArray)]) ?_ 1 _ rfl; (with_reducible repeat (first | refine blk_drewN ?_ _ | refine blk_drew ?_ | refine blk_alloc ?_ _)); refine blk_put (cs := #[.int .i64 0, .string (⟨#[]⟩ : ByteArray)]) ?_ 0 _ rfl; (with_reducible repeat (first | refine blk_drewN ?_ _ | refine blk_drew ?_ | refine blk_alloc ?_ _)); exact BK106.out) hg (Kd.R_away HO_103000.out (fun _ hk => hk.2))); have n3_ := Aside0.mk (hb); have n4_ := Aside0.mk (ho); clear BK101; clear BK102; clear BK106; clear HB; clear HO_103000; have BK101 := n0_; have BK102 := n1_; have BK106 := n2_; have HB := n3_; have HO109 := n4_; clear n0_ n1_ n2_ n3_ n4_; clear ho hb hg hat; obtain ⟨Ao41, co41, eo41⟩ := Kd.R_slice HO109.out; subst eo41; obtain ⟨hcz42_0, hcz42_1, hcz42_2, hcz42_3, hfz42_0, hfz42_1, hfz42_2, hfz42_3⟩ := c4X BK102))
             go_roundg kj16
             case measure => have := HJ4.out; have := HK2.out; have := HJ16.out; omega
             case rel => exact ⟨(true), (t105), (x102001_2), (x102002_2), (x102003_2), (y107), (.slice Ao41 y107.length co41), vX, vX, H', ⟨by have := HJ4.out; have := HK2.out; have := HJ16.out; omega⟩, ⟨by (with_reducible repeat (first | apply Kd.R_alloc | apply Kd.R_drewN | apply Kd.R_drew)); exact Kd.R_mono (Kd.R_far (p := ⟨gb102, 0, none⟩) (Kd.R_types HO109.out BK102.out (by decide)) (fun _ hk => hk.2) (.slice Ao41 y107.length co41)) (fun _ hk => trivial)⟩, ⟨fX BK101 NB101_102⟩, ⟨by (with_reducible repeat (first | refine blk_drewN ?_ _ | refine blk_drew ?_ | refine blk_alloc ?_ _)); refine blk_put (cs := #[u103000, .bool false, .int .i64 0, .string (⟨#[]⟩ : ByteArray)]) ?_ 0 _ rfl; (with_reducible repeat (first | refine blk_drewN ?_ _ | refine blk_drew ?_ | refine blk_alloc ?_ _)); exact BK102.out⟩, ⟨bX3 HB GE101 GE102 GE106⟩⟩
            ·rw [if_neg c32] at H
             exact absurd H (by simp)
           ·replace c31 := Bool.eq_false_iff.mpr c31
            subst c31
            have H1 : (if x103000_2.length < 5864062014805 then (arbiterref02_ParseDesc.l0 kj16 a0 (decide (t103 > 255)) t105 (x103000_2 ++ [(⟨t103, t104⟩ : S24)]) false 0 (⟨#[]⟩ : ByteArray)) else (none)) = some (r1, r2, r3, r4, r5) := by rw [if_neg (show ¬ (false = true) by decide)] at H; exact H
            clear H; have H := H1; clear H1
            by_cases c43 : x103000_2.length < 5864062014805
            ·rw [if_pos c43] at H
             have LMc43 := Aside0.mk c43; clear c43
             obtain ⟨y110, hy110⟩ : ∃ y_ : List (S24), y_ = (x103000_2 ++ [(⟨t103, t104⟩ : S24)]) := ⟨_, rfl⟩
             replace H : (arbiterref02_ParseDesc.l0 kj16 a0 (decide (t103 > 255)) t105 y110 false 0 (⟨#[]⟩ : ByteArray)) = some (r1, r2, r3, r4, r5) := by first | (rw [hy110]; with_reducible exact H) | (have H2_ := (Option.bind_some _ _).symm.trans H; rw [hy110]; with_reducible exact H2_) | (have H2_ := (Option.bind_some _ _).symm.trans H; with_reducible exact H2_) | with_reducible exact H | (rw [hy110]; exact H) | exact H
             have Ny110 := Aside0.mk hy110; clear hy110; have H' := Aside0.mk H; clear H; go_wp2_with (first | ((with_reducible refine gate_callee (f := 158) rfl ?_); refine gX (some 38) Tryz.func158 #[.string a0, .int .i64 x6_2] ?_; (with_reducible refine (arbiterref02_read.calls a0 x6_2 t103 t104 t105 _ A22.out).mono ?_); rintro e w44 ⟨rfl, hb⟩; refine ⟨_, rfl, ?_⟩; have n0_ := Aside0.mk (Kd.R_below (rX HO_103000) hb); have n1_ := Aside0.mk (blk_below (kX BK101) hb); have n2_ := Aside0.mk (blk_below (kX BK102) hb); have n3_ := Aside0.mk (below_step (bX2 HB GE101 GE102) hb); clear HO_103000; clear BK101; clear BK102; clear HB; have HO_103000 := n0_; have BK101 := n1_; have BK102 := n2_; have HB := n3_; clear n0_ n1_ n2_ n3_; (try clear hb); (try clear hb2); (try clear hk); (try clear hi)) | ((with_reducible refine gate_dst (N := 7) rfl ?_); (try (refine gate_guard (by rfl) ?_; dsimp only)); refine eX 7 #[.int .i64 0, .string (⟨#[]⟩ : ByteArray)] 24 ?_; intro gb106 hg w45 hbox hb; have n0_ := Aside0.mk (Kd.R_below (Kd.R_elderB (rX HO_103000) gb106 (Nat.le_of_eq hg.symm)) hb); have n1_ := Aside0.mk (blk_below (kX BK101) hb); have n2_ := Aside0.mk (blk_below (kX BK102) hb); have n3_ := Aside0.mk (below_step (bX2 HB GE101 GE102) hb); have n4_ := Aside0.mk (hbox); have n5_ := Aside0.mk ((by rw [hg]; exact (below_size (bX2 HB GE101 GE102)) : w.heap.size ≤ gb106)); have n6_ := Aside0.mk ((by rw [hg]; exact (below_size (bX2 HB GE101 GE102)) : w.heap.size ≤ gb106)); have n7_ := Aside0.mk ((by rw [hg]; exact Nat.ne_of_lt (blk_lt (kX BK101)) : gb101 ≠ gb106)); have n8_ := Aside0.mk ((by rw [hg]; exact Nat.ne_of_gt (blk_lt (kX BK101)) : gb106 ≠ gb101)); have n9_ := Aside0.mk ((by rw [hg]; exact Nat.ne_of_lt (blk_lt (kX BK102)) : gb102 ≠ gb106)); have n10_ := Aside0.mk ((by rw [hg]; exact Nat.ne_of_gt (blk_lt (kX BK102)) : gb106 ≠ gb102)); clear HO_103000; clear BK101; clear BK102; clear HB; have HO_103000 := n0_; have BK101 := n1_; have BK102 := n2_; have HB := n3_; have BK106 := n4_; have GW106 := n5_; have GE106 := n6_; have NB101_106 := n7_; have NB106_101 := n8_; have NB102_106 := n9_; have NB106_102 := n10_; clear n0_ n1_ n2_ n3_ n4_ n5_ n6_ n7_ n8_ n9_ n10_; clear hb hbox hg; have hnb46 := NB106_101.out; have hnc46 := NB101_106.out; have hnb47 := NB106_102.out; have hnc47 := NB102_106.out; obtain ⟨hcz48_0, hcz48_1, hfz48_0, hfz48_1⟩ := c2X BK106; have hnb49 := NB102_101.out; have hnc49 := NB101_102.out; obtain ⟨hcz50_0, hcz50_1, hcz50_2, hcz50_3, hfz50_0, hfz50_1, hfz50_2, hfz50_3⟩ := c4X BK102) | ((with_reducible refine gate_builtin (b := .append) (xs := #[.tmp 51, .tmp 53]) rfl ?_); (try (refine gate_guard (by rfl) ?_; dsimp only)); at_builtin; refine Kd.R_append k24 (w0 := w) w.heap.size rfl (.tmp 51) (.tmp 53) 66 24 (.agg #[(.int .i64 0), (.string ⟨#[]⟩)]) 24 rfl Tryz.underlying66 info24 rfl (by decide) (by omega) u103000 x103000_2 (⟨t103, t104⟩ : S24) [.int .i64 t103, .string t104] (fun k_ => k_ ≠ gb106) (fun _ => False) rfl (by first | (go_simp; done) | (go_simp; rfl)) ?aP (fun _ hk => hk.elim) ?aF ?aO ?aB ?aS ?aL ?_; (case aP => exact k24_mkM _ _ _ (⟨t103, t104⟩ : S24)); (case aB => exact (bX3 HB GE101 GE102 GE106)); (case aF => exact (fun k_ hk => Kd.freshB (g := gb106) (o := .cells #[.int .i64 t103, .string t104] 24 (0, 0)) (by (with_reducible repeat (first | refine blk_drewN ?_ _ | refine blk_drew ?_ | refine blk_alloc ?_ _)); refine blk_put (cs := #[.int .i64 t103, .string (⟨#[]⟩ : ByteArray)]) ?_ 1 _ rfl; (with_reducible repeat (first | refine blk_drewN ?_ _ | refine blk_drew ?_ | refine blk_alloc ?_ _)); refine blk_put (cs := #[.int .i64 0, .string (⟨#[]⟩ : ByteArray)]) ?_ 0 _ rfl; (with_reducible repeat (first | refine blk_drewN ?_ _ | refine blk_drew ?_ | refine blk_alloc ?_ _)); exact BK106.out) k_ hk)); (case aO => exact (by (with_reducible repeat (first | apply Kd.R_alloc | apply Kd.R_drewN | apply Kd.R_drew)); exact Kd.R_mono (Kd.R_far (p := ⟨gb106, 1, none⟩) (Kd.R_far (p := ⟨gb106, 0, none⟩) (Kd.R_mono HO_103000.out (fun k_ hk => (⟨hk, hk.2⟩ : _ ∧ k_ ≠ gb106))) (fun _ hk => hk.2) (.int .i64 t103)) (fun _ hk => hk.2) (.string t104)) (fun _ hk => hk.1.2))); (case aS => exact (below_size (bX3 HB GE101 GE102 GE106))); (case aL => have := LMc43.out; omega); intro v111 w51 ho hb hg hat; rw [← Ny110.out] at ho; have n0_ := Aside0.mk (blk_grown (g := gb101) (o := .cells #[.slice none 0 0, .bool x102001_2, .int .i64 x102002_2, .string x102003_2] 172 (0, 0)) (fX BK101 NB101_106) hg (Kd.R_ne HO_103000.out BK101.out (by decide))); have n1_ := Aside0.mk (blk_grown (g := gb102) (o := .cells #[u103000, .bool false, .int .i64 0, .string (⟨#[]⟩ : ByteArray)] 172 (0, 0)) (fX BK102 NB102_106) hg (Kd.R_ne HO_103000.out BK102.out (by decide))); have n2_ := Aside0.mk (blk_grown (g := gb106) (o := .cells #[.int .i64 t103, .string t104] 24 (0, 0)) (by (with_reducible repeat (first | refine blk_drewN ?_ _ | refine blk_drew ?_ | refine blk_alloc ?_ _)); refine blk_put (cs := #[.int .i64 t103, .string (⟨#[]⟩ : ByteArray)]) ?_ 1 _ rfl; (with_reducible repeat (first | refine blk_drewN ?_ _ | refine blk_drew ?_ | refine blk_alloc ?_ _)); refine blk_put (cs := #[.int .i64 0, .string (⟨#[]⟩ : ByteArray)]) ?_ 0 _ rfl; (with_reducible repeat (first | refine blk_drewN ?_ _ | refine blk_drew ?_ | refine blk_alloc ?_ _)); exact BK106.out) hg (Kd.R_away HO_103000.out (fun _ hk => hk.2))); have n3_ := Aside0.mk (hb); have n4_ := Aside0.mk (ho); clear BK101; clear BK102; clear BK106; clear HB; clear HO_103000; have BK101 := n0_; have BK102 := n1_; have BK106 := n2_; have HB := n3_; have HO112 := n4_; clear n0_ n1_ n2_ n3_ n4_; clear ho hb hg hat; obtain ⟨Ao52, co52, eo52⟩ := Kd.R_slice HO112.out; subst eo52; obtain ⟨hcz53_0, hcz53_1, hcz53_2, hcz53_3, hfz53_0, hfz53_1, hfz53_2, hfz53_3⟩ := c4X BK102))
             go_roundg kj16
             case measure => have := HJ4.out; have := HK2.out; have := HJ16.out; omega
             case rel => exact ⟨(decide (t103 > 255)), (t105), (x102001_2), (x102002_2), (x102003_2), (y110), (.slice Ao52 y110.length co52), vX, vX, H', ⟨by have := HJ4.out; have := HK2.out; have := HJ16.out; omega⟩, ⟨by (with_reducible repeat (first | apply Kd.R_alloc | apply Kd.R_drewN | apply Kd.R_drew)); exact Kd.R_mono (Kd.R_far (p := ⟨gb102, 0, none⟩) (Kd.R_types HO112.out BK102.out (by decide)) (fun _ hk => hk.2) (.slice Ao52 y110.length co52)) (fun _ hk => trivial)⟩, ⟨fX BK101 NB101_102⟩, ⟨by (with_reducible repeat (first | refine blk_drewN ?_ _ | refine blk_drew ?_ | refine blk_alloc ?_ _)); refine blk_put (cs := #[u103000, .bool false, .int .i64 0, .string (⟨#[]⟩ : ByteArray)]) ?_ 0 _ rfl; (with_reducible repeat (first | refine blk_drewN ?_ _ | refine blk_drew ?_ | refine blk_alloc ?_ _)); exact BK102.out⟩, ⟨bX3 HB GE101 GE102 GE106⟩⟩
            ·rw [if_neg c43] at H
             exact absurd H (by simp)
         ·replace c21 := Bool.eq_false_iff.mpr c21
          subst c21
          have H1 : (if x6_2 ≥ (a0.size : Int) then (some (([] : List (S24)), false, 0, (⟨#[]⟩ : ByteArray), 4)) else (if (wrap64 (x6_2 + 1)) < (a0.size : Int) then (if 0 ≤ (wrap64 (x6_2 + 1)) then (arbiterref02_ParseDesc.j3 kj16 a0 x5_2 (wrap64 (x6_2 + 1)) ((bt a0 (wrap64 (x6_2 + 1))) == 86) x103000_2 false 0 (⟨#[]⟩ : ByteArray)) else (none)) else (arbiterref02_ParseDesc.j3 kj16 a0 x5_2 (wrap64 (x6_2 + 1)) false x103000_2 false 0 (⟨#[]⟩ : ByteArray)))) = some (r1, r2, r3, r4, r5) := by rw [if_neg (show ¬ (false = true) by decide)] at H; exact H
          clear H; have H := H1; clear H1
          by_cases c54 : x6_2 ≥ (a0.size : Int)
          ·rw [if_pos c54] at H
           have c54b0 : decide ((a0.size : Int) ≤ x6_2) = true := decide_eq_true c54; clear c54; simp only [Option.some.injEq, Prod.mk.injEq] at H; obtain ⟨rfl, rfl, rfl, rfl, rfl⟩ := H; have hnb55 := NB101_102.out; have hnc55 := NB102_101.out; obtain ⟨hcz56_0, hcz56_1, hcz56_2, hcz56_3, hfz56_0, hfz56_1, hfz56_2, hfz56_3⟩ := c4X BK101; go_wp2; refine bodyPost_ret (results_ct rfl _ _ gb101 172 #[.slice none 0 0, .bool false, .int .i64 0, .string (⟨#[]⟩ : ByteArray)] (0, 0) _ rfl (by (with_reducible repeat (first | refine blk_drewN ?_ _ | refine blk_drew ?_ | refine blk_alloc ?_ _)); refine blk_put (cs := #[.slice none 0 0, .bool false, .int .i64 0, .string x102003_2]) ?_ 3 _ rfl; (with_reducible repeat (first | refine blk_drewN ?_ _ | refine blk_drew ?_ | refine blk_alloc ?_ _)); refine blk_put (cs := #[.slice none 0 0, .bool false, .int .i64 x102002_2, .string x102003_2]) ?_ 2 _ rfl; (with_reducible repeat (first | refine blk_drewN ?_ _ | refine blk_drew ?_ | refine blk_alloc ?_ _)); refine blk_put (cs := #[.slice none 0 0, .bool x102001_2, .int .i64 x102002_2, .string x102003_2]) ?_ 1 _ rfl; (with_reducible repeat (first | refine blk_drewN ?_ _ | refine blk_drew ?_ | refine blk_alloc ?_ _)); refine blk_put (cs := #[.slice none 0 0, .bool x102001_2, .int .i64 x102002_2, .string x102003_2]) ?_ 0 _ rfl; (with_reducible repeat (first | refine blk_drewN ?_ _ | refine blk_drew ?_ | refine blk_alloc ?_ _)); exact BK101.out) Tryz.underlying172 rfl (by kernel_rfl)) rfl ?_
           exact ⟨_, by first | rfl | (simp [errW_none, errW_some] <;> rfl) | (simp [*, errW_none, errW_some] <;> rfl), by first | exact Kd.R_nil _ _ _ _ _ | exact Kd.N_nil _ _ _ _ _ | exact Kd.V_nil _ _ _ _ _ | exact Kd.Q_nil _ _ _ _ _ | exact Kd.S_nil _ _ _ _ _, bX2 HB GE101 GE102⟩
          ·rw [if_neg c54] at H
           have c54b0 : decide ((a0.size : Int) ≤ x6_2) = false := decide_eq_false c54; clear c54; have HC57 := Aside0.mk H; clear H
           go_upto_region 18 with (fail)
           go_cut [73] (fun v73 wc => ∃ (kq : Nat) (x73_56 : Bool), v73 = .bool x73_56 ∧ Aside0 (arbiterref02_ParseDesc.j3 kq a0 x5_2 (wrap64 (x6_2 + 1)) x73_56 x103000_2 false 0 (⟨#[]⟩ : ByteArray) = some (r1, r2, r3, r4, r5)) ∧ Aside0 (kq ≤ kj16) ∧ Aside0 (Kd.R k24 24 wc w.heap.size (fun _ => True) u103000 x103000_2) ∧ Aside0 (wc.heap[gb101]? = some (.cells #[(.slice none 0 0), .bool x102001_2, .int .i64 x102002_2, .string x102003_2] 172 (0, 0))) ∧ Aside0 (wc.heap[gb102]? = some (.cells #[u103000, .bool false, .int .i64 0, .string (⟨#[]⟩ : ByteArray)] 172 (0, 0))) ∧ Aside0 (Below w.heap.size w wc))
           case first =>
            have H := HC57.out; clear HC57
            by_cases c58 : (wrap64 (x6_2 + 1)) < (a0.size : Int)
            ·rw [if_pos c58] at H
             have c58b0 : decide ((wrap64 (x6_2 + 1)) < (a0.size : Int)) = true := decide_eq_true c58; clear c58
             (first | rw [c58b0] | (simp only [i64_w, i32_w]; rw [c58b0]) | skip)
             obtain ⟨ji59, hji59⟩ : ∃ j_ : Int, (wrap64 (x6_2 + 1)) = j_ := ⟨_, rfl⟩
             replace H : (if 0 ≤ (ji59) then (arbiterref02_ParseDesc.j3 kj16 a0 x5_2 ji59 ((bt a0 (ji59)) == 86) x103000_2 false 0 (⟨#[]⟩ : ByteArray)) else (none)) = some (r1, r2, r3, r4, r5) := by first | (rw [hji59] at H; exact H) | (simp only [hji59] at H ⊢; exact H)
             (try rw [hji59] at c58b0)
             have hji59w : (IntKind.i64.wrap (x6_2 + 1)) = ji59 := (i64_w _).trans hji59
             by_cases c60 : 0 ≤ (ji59)
             ·rw [if_pos c60] at H
              have c60b0 : decide (0 ≤ (ji59)) = true := decide_eq_true c60; clear c60; have H' := Aside0.mk H; clear H; have p61 : 0 ≤ ((ji59) : Int) := qX; have q61 : (ji59) < (a0.size : Int) := qX; have hx61 := bt_at a0 (ji59); replace p61 := eq_true p61; replace q61 := eq_true q61; go_wp2; go_meet
              case rel => exact ⟨_, (((bt a0 (ji59)) == 86)), (by first | rfl | (simp; done) | (simp only [← hji59] <;> (first | rfl | simp)) | (simp [*]; done)), (by first | (with_reducible exact H') | exact H' | (rw [hji59]; exact H') | (rw [← hji59]; exact H')), ⟨by have := HJ4.out; have := HK2.out; have := HJ16.out; first | omega | exact Nat.le_refl _⟩, ⟨rX HO_103000⟩, ⟨by (with_reducible repeat (first | refine blk_drewN ?_ _ | refine blk_drew ?_ | refine blk_alloc ?_ _)); exact BK101.out⟩, ⟨by (with_reducible repeat (first | refine blk_drewN ?_ _ | refine blk_drew ?_ | refine blk_alloc ?_ _)); exact BK102.out⟩, ⟨bX2 HB GE101 GE102⟩⟩
             ·rw [if_neg c60] at H
              exact absurd H (by simp)
            ·rw [if_neg c58] at H
             have c58b0 : decide ((wrap64 (x6_2 + 1)) < (a0.size : Int)) = false := decide_eq_false c58; clear c58
             (first | rw [c58b0] | (simp only [i64_w, i32_w]; rw [c58b0]) | skip)
             have H' := Aside0.mk H; clear H; go_wp2; go_meet
             case rel => exact ⟨_, (false), vX, (by first | (with_reducible exact H') | exact H' | (rw [hji59]; exact H') | (rw [← hji59]; exact H')), ⟨by have := HJ4.out; have := HK2.out; have := HJ16.out; first | omega | exact Nat.le_refl _⟩, ⟨rX HO_103000⟩, ⟨by (with_reducible repeat (first | refine blk_drewN ?_ _ | refine blk_drew ?_ | refine blk_alloc ?_ _)); exact BK101.out⟩, ⟨by (with_reducible repeat (first | refine blk_drewN ?_ _ | refine blk_drew ?_ | refine blk_alloc ?_ _)); exact BK102.out⟩, ⟨bX2 HB GE101 GE102⟩⟩
           case rest =>
            clear HC57
            try clear c1
            try clear p1
            try clear q1
            try clear hx1
            try clear qi1
            try clear c2
            try clear c2b0
            try clear c2b1
            try clear p2
            try clear q2
            try clear hx2
            try clear c3
            try clear c4
            try clear c5
            try clear c6
            try clear p6
            try clear q6
            try clear hx6
            try clear c8
            try clear c10
            try clear c10b0
            try clear c10b1
            try clear c11
            try clear c11b0
            try clear c11b1
            try clear p12
            try clear q12
            try clear hx12
            try clear qi12
            try clear c13
            try clear c14
            try clear c15
            try clear c18
            try clear c18b0
            try clear c19
            try clear c19b0
            try clear p20
            try clear q20
            try clear hx20
            try clear c21
            try clear c23
            try clear c23b0
            try clear c26
            try clear c27
            try clear c29
            try clear c31
            try clear c32
            try clear c35
            try clear c36
            try clear c38
            try clear c43
            try clear c46
            try clear c47
            try clear c49
            try clear c54
            try clear c54b0
            try clear c55
            try clear c58
            try clear c58b0
            try clear c60
            try clear c60b0
            try clear p61
            try clear q61
            try clear hx61
            try clear hcz15_0 hcz15_1 hcz15_2 hcz15_3
            try clear hcz16_0 hcz16_1 hcz16_2 hcz16_3
            try clear hcz28_0 hcz28_1
            try clear hcz30_0 hcz30_1 hcz30_2 hcz30_3
            try clear hcz37_0 hcz37_1
            try clear hcz39_0 hcz39_1 hcz39_2 hcz39_3
            try clear hcz42_0 hcz42_1 hcz42_2 hcz42_3
            try clear hcz48_0 hcz48_1
            try clear hcz4_0 hcz4_1 hcz4_2 hcz4_3
            try clear hcz50_0 hcz50_1 hcz50_2 hcz50_3
            try clear hcz53_0 hcz53_1 hcz53_2 hcz53_3
            try clear hcz56_0 hcz56_1 hcz56_2 hcz56_3
            try clear hcz9_0 hcz9_1 hcz9_2 hcz9_3
            try clear hfz15_0 hfz15_1 hfz15_2 hfz15_3
            try clear hfz16_0 hfz16_1 hfz16_2 hfz16_3
            try clear hfz28_0 hfz28_1
            try clear hfz30_0 hfz30_1 hfz30_2 hfz30_3
            try clear hfz37_0 hfz37_1
            try clear hfz39_0 hfz39_1 hfz39_2 hfz39_3
            try clear hfz42_0 hfz42_1 hfz42_2 hfz42_3
            try clear hfz48_0 hfz48_1
            try clear hfz4_0 hfz4_1 hfz4_2 hfz4_3
            try clear hfz50_0 hfz50_1 hfz50_2 hfz50_3
            try clear hfz53_0 hfz53_1 hfz53_2 hfz53_3
            try clear hfz56_0 hfz56_1 hfz56_2 hfz56_3
            try clear hfz9_0 hfz9_1 hfz9_2 hfz9_3
            try clear p1
            try clear p12
            try clear p2
            try clear p20
            try clear p61
            try clear q1
            try clear q12
            try clear q2
            try clear q20
            try clear q61
            obtain ⟨kq, x73_56, rfl, HA, HJ56, HO_103000, BK101, BK102, HB⟩ := hcut
            cases kq with
            | zero => exact absurd HA.out (by simp [arbiterref02_ParseDesc.j3])
            | succ kj56 =>
             have H := HA.out; clear HA; simp only [arbiterref02_ParseDesc.j3] at H; have HC62 := Aside0.mk H; clear H
             go_upto_if 73 with (fail)
             go_cut [5, 6] (fun v5 v6 wc => ∃ (kq : Nat) (x5_61 : Bool) (x6_61 : Int) (x103001_61 : Bool) (x103002_61 : Int) (x103003_61 : ByteArray), v5 = .bool x5_61 ∧ v6 = .int .i64 x6_61 ∧ Aside0 (arbiterref02_ParseDesc.j4 kq a0 x5_61 x6_61 x103000_2 x103001_61 x103002_61 x103003_61 = some (r1, r2, r3, r4, r5)) ∧ Aside0 (kq ≤ kj56) ∧ Aside0 (Kd.R k24 24 wc w.heap.size (fun _ => True) u103000 x103000_2) ∧ Aside0 (wc.heap[gb101]? = some (.cells #[(.slice none 0 0), .bool x102001_2, .int .i64 x102002_2, .string x102003_2] 172 (0, 0))) ∧ Aside0 (wc.heap[gb102]? = some (.cells #[u103000, .bool x103001_61, .int .i64 x103002_61, .string x103003_61] 172 (0, 0))) ∧ Aside0 (Below w.heap.size w wc))
             case first =>
              have H := HC62.out; clear HC62
              by_cases c63 : x73_56 = true
              ·subst c63
               have H1 : (arbiterref02_ParseDesc.j4 kj56 a0 x5_2 (wrap64 ((wrap64 (x6_2 + 1)) + 1)) x103000_2 true 0 (⟨#[]⟩ : ByteArray)) = some (r1, r2, r3, r4, r5) := by rw [if_pos rfl] at H; exact H
               clear H; have H := H1; clear H1; have H' := Aside0.mk H; clear H; have hnb64 := NB102_101.out; have hnc64 := NB101_102.out; obtain ⟨hcz65_0, hcz65_1, hcz65_2, hcz65_3, hfz65_0, hfz65_1, hfz65_2, hfz65_3⟩ := c4X BK102; go_wp2; go_meet
               case rel => exact ⟨_, (x5_2), (wrap64 ((wrap64 (x6_2 + 1)) + 1)), (true), (0), ((⟨#[]⟩ : ByteArray)), vX, vX, H', ⟨by have := HJ4.out; have := HK2.out; have := HJ16.out; have := HJ56.out; first | omega | exact Nat.le_refl _⟩, ⟨by (with_reducible repeat (first | apply Kd.R_alloc | apply Kd.R_drewN | apply Kd.R_drew)); exact Kd.R_mono (Kd.R_far (p := ⟨gb102, 1, none⟩) (Kd.R_types HO_103000.out BK102.out (by decide)) (fun _ hk => hk.2) (.bool true)) (fun _ hk => trivial)⟩, ⟨fX BK101 NB101_102⟩, ⟨by (with_reducible repeat (first | refine blk_drewN ?_ _ | refine blk_drew ?_ | refine blk_alloc ?_ _)); refine blk_put (cs := #[u103000, .bool false, .int .i64 0, .string (⟨#[]⟩ : ByteArray)]) ?_ 1 _ rfl; (with_reducible repeat (first | refine blk_drewN ?_ _ | refine blk_drew ?_ | refine blk_alloc ?_ _)); exact BK102.out⟩, ⟨bX2 HB GE101 GE102⟩⟩
              ·replace c63 := Bool.eq_false_iff.mpr c63
               subst c63
               have H1 : ((arbiterref02_read.f a0 (wrap64 (x6_2 + 1))).bind fun bt113 => (if x5_2 = true then (arbiterref02_ParseDesc.j4 kj56 a0 true bt113.2.2 x103000_2 false bt113.1 bt113.2.1) else (arbiterref02_ParseDesc.j4 kj56 a0 (decide (bt113.1 > 255)) bt113.2.2 x103000_2 false bt113.1 bt113.2.1))) = some (r1, r2, r3, r4, r5) := by rw [if_neg (show ¬ (false = true) by decide)] at H; exact H
               clear H; have H := H1; clear H1; replace H := Option.bind_eq_some_iff.mp H; obtain ⟨⟨t113, t114, t115⟩, A660, H⟩ := H; replace H : (if x5_2 = true then (arbiterref02_ParseDesc.j4 kj56 a0 true t115 x103000_2 false t113 t114) else (arbiterref02_ParseDesc.j4 kj56 a0 (decide (t113 > 255)) t115 x103000_2 false t113 t114)) = some (r1, r2, r3, r4, r5) := H; have A66 := Aside0.mk A660; clear A660
               by_cases c67 : x5_2 = true
               ·subst c67
                have H1 : (arbiterref02_ParseDesc.j4 kj56 a0 true t115 x103000_2 false t113 t114) = some (r1, r2, r3, r4, r5) := by rw [if_pos rfl] at H; exact H
                clear H; have H := H1; clear H1; have H' := Aside0.mk H; clear H; go_wp2_with (first | ((with_reducible refine gate_callee (f := 158) rfl ?_); refine gX (some 80) Tryz.func158 #[.string a0, .int .i64 (wrap64 (x6_2 + 1))] ?_; (with_reducible refine (arbiterref02_read.calls a0 (wrap64 (x6_2 + 1)) t113 t114 t115 _ A66.out).mono ?_); rintro e w68 ⟨rfl, hb⟩; refine ⟨_, rfl, ?_⟩; have n0_ := Aside0.mk (Kd.R_below (rX HO_103000) hb); have n1_ := Aside0.mk (blk_below (kX BK101) hb); have n2_ := Aside0.mk (blk_below (kX BK102) hb); have n3_ := Aside0.mk (below_step (bX2 HB GE101 GE102) hb); clear HO_103000; clear BK101; clear BK102; clear HB; have HO_103000 := n0_; have BK101 := n1_; have BK102 := n2_; have HB := n3_; clear n0_ n1_ n2_ n3_; (try clear hb); (try clear hb2); (try clear hk); (try clear hi)) | ((with_reducible refine gate_dst (N := 9) rfl ?_); (try (refine gate_guard (by rfl) ?_; dsimp only)); refine eX 9 #[.int .i64 0, .string (⟨#[]⟩ : ByteArray)] 24 ?_; intro gb116 hg w69 hbox hb; have n0_ := Aside0.mk (Kd.R_below (Kd.R_elderB (rX HO_103000) gb116 (Nat.le_of_eq hg.symm)) hb); have n1_ := Aside0.mk (blk_below (kX BK101) hb); have n2_ := Aside0.mk (blk_below (kX BK102) hb); have n3_ := Aside0.mk (below_step (bX2 HB GE101 GE102) hb); have n4_ := Aside0.mk (hbox); have n5_ := Aside0.mk ((by rw [hg]; exact (below_size (bX2 HB GE101 GE102)) : w.heap.size ≤ gb116)); have n6_ := Aside0.mk ((by rw [hg]; exact (below_size (bX2 HB GE101 GE102)) : w.heap.size ≤ gb116)); have n7_ := Aside0.mk ((by rw [hg]; exact Nat.ne_of_lt (blk_lt (kX BK101)) : gb101 ≠ gb116)); have n8_ := Aside0.mk ((by rw [hg]; exact Nat.ne_of_gt (blk_lt (kX BK101)) : gb116 ≠ gb101)); have n9_ := Aside0.mk ((by rw [hg]; exact Nat.ne_of_lt (blk_lt (kX BK102)) : gb102 ≠ gb116)); have n10_ := Aside0.mk ((by rw [hg]; exact Nat.ne_of_gt (blk_lt (kX BK102)) : gb116 ≠ gb102)); clear HO_103000; clear BK101; clear BK102; clear HB; have HO_103000 := n0_; have BK101 := n1_; have BK102 := n2_; have HB := n3_; have BK116 := n4_; have GW116 := n5_; have GE116 := n6_; have NB101_116 := n7_; have NB116_101 := n8_; have NB102_116 := n9_; have NB116_102 := n10_; clear n0_ n1_ n2_ n3_ n4_ n5_ n6_ n7_ n8_ n9_ n10_; clear hb hbox hg; have hnb70 := NB116_101.out; have hnc70 := NB101_116.out; have hnb71 := NB116_102.out; have hnc71 := NB102_116.out; obtain ⟨hcz72_0, hcz72_1, hfz72_0, hfz72_1⟩ := c2X BK116; have hnb73 := NB102_101.out; have hnc73 := NB101_102.out; obtain ⟨hcz74_0, hcz74_1, hcz74_2, hcz74_3, hfz74_0, hfz74_1, hfz74_2, hfz74_3⟩ := c4X BK102)); go_meet
                case rel => exact ⟨_, (true), (t115), (false), (t113), (t114), vX, vX, H', ⟨by have := HJ4.out; have := HK2.out; have := HJ16.out; have := HJ56.out; first | omega | exact Nat.le_refl _⟩, ⟨by (with_reducible repeat (first | apply Kd.R_alloc | apply Kd.R_drewN | apply Kd.R_drew)); exact Kd.R_mono (Kd.R_far (p := ⟨gb102, 3, none⟩) (Kd.R_far (p := ⟨gb102, 2, none⟩) (Kd.R_far (p := ⟨gb116, 1, none⟩) (Kd.R_far (p := ⟨gb116, 0, none⟩) (Kd.R_types (Kd.R_mono HO_103000.out (fun k_ hk => (⟨hk, hk.2⟩ : _ ∧ k_ ≠ gb116))) BK102.out (by decide)) (fun _ hk => hk.1.2) (.int .i64 t113)) (fun _ hk => hk.1.2) (.string t114)) (fun _ hk => hk.2) (.int .i64 t113)) (fun _ hk => hk.2) (.string t114)) (fun _ hk => trivial)⟩, ⟨by (with_reducible repeat (first | refine blk_drewN ?_ _ | refine blk_drew ?_ | refine blk_alloc ?_ _)); refine blk_far ?_ NB101_102.out _; (with_reducible repeat (first | refine blk_drewN ?_ _ | refine blk_drew ?_ | refine blk_alloc ?_ _)); refine blk_far ?_ NB101_102.out _; (with_reducible repeat (first | refine blk_drewN ?_ _ | refine blk_drew ?_ | refine blk_alloc ?_ _)); refine blk_far ?_ NB101_116.out _; (with_reducible repeat (first | refine blk_drewN ?_ _ | refine blk_drew ?_ | refine blk_alloc ?_ _)); refine blk_far ?_ NB101_116.out _; (with_reducible repeat (first | refine blk_drewN ?_ _ | refine blk_drew ?_ | refine blk_alloc ?_ _)); exact BK101.out⟩, ⟨by (with_reducible repeat (first | refine blk_drewN ?_ _ | refine blk_drew ?_ | refine blk_alloc ?_ _)); refine blk_put (cs := #[u103000, .bool false, .int .i64 t113, .string (⟨#[]⟩ : ByteArray)]) ?_ 3 _ rfl; (with_reducible repeat (first | refine blk_drewN ?_ _ | refine blk_drew ?_ | refine blk_alloc ?_ _)); refine blk_put (cs := #[u103000, .bool false, .int .i64 0, .string (⟨#[]⟩ : ByteArray)]) ?_ 2 _ rfl; (with_reducible repeat (first | refine blk_drewN ?_ _ | refine blk_drew ?_ | refine blk_alloc ?_ _)); refine blk_far ?_ NB102_116.out _; (with_reducible repeat (first | refine blk_drewN ?_ _ | refine blk_drew ?_ | refine blk_alloc ?_ _)); refine blk_far ?_ NB102_116.out _; (with_reducible repeat (first | refine blk_drewN ?_ _ | refine blk_drew ?_ | refine blk_alloc ?_ _)); exact BK102.out⟩, ⟨bX3 HB GE101 GE102 GE116⟩⟩
               ·replace c67 := Bool.eq_false_iff.mpr c67
                subst c67
                have H1 : (arbiterref02_ParseDesc.j4 kj56 a0 (decide (t113 > 255)) t115 x103000_2 false t113 t114) = some (r1, r2, r3, r4, r5) := by rw [if_neg (show ¬ (false = true) by decide)] at H; exact H
                clear H; have H := H1; clear H1; have H' := Aside0.mk H; clear H; go_wp2_with (first | ((with_reducible refine gate_callee (f := 158) rfl ?_); refine gX (some 80) Tryz.func158 #[.string a0, .int .i64 (wrap64 (x6_2 + 1))] ?_; (with_reducible refine (arbiterref02_read.calls a0 (wrap64 (x6_2 + 1)) t113 t114 t115 _ A66.out).mono ?_); rintro e w75 ⟨rfl, hb⟩; refine ⟨_, rfl, ?_⟩; have n0_ := Aside0.mk (Kd.R_below (rX HO_103000) hb); have n1_ := Aside0.mk (blk_below (kX BK101) hb); have n2_ := Aside0.mk (blk_below (kX BK102) hb); have n3_ := Aside0.mk (below_step (bX2 HB GE101 GE102) hb); clear HO_103000; clear BK101; clear BK102; clear HB; have HO_103000 := n0_; have BK101 := n1_; have BK102 := n2_; have HB := n3_; clear n0_ n1_ n2_ n3_; (try clear hb); (try clear hb2); (try clear hk); (try clear hi)) | ((with_reducible refine gate_dst (N := 9) rfl ?_); (try (refine gate_guard (by rfl) ?_; dsimp only)); refine eX 9 #[.int .i64 0, .string (⟨#[]⟩ : ByteArray)] 24 ?_; intro gb116 hg w76 hbox hb; have n0_ := Aside0.mk (Kd.R_below (Kd.R_elderB (rX HO_103000) gb116 (Nat.le_of_eq hg.symm)) hb); have n1_ := Aside0.mk (blk_below (kX BK101) hb); have n2_ := Aside0.mk (blk_below (kX BK102) hb); have n3_ := Aside0.mk (below_step (bX2 HB GE101 GE102) hb); have n4_ := Aside0.mk (hbox); have n5_ := Aside0.mk ((by rw [hg]; exact (below_size (bX2 HB GE101 GE102)) : w.heap.size ≤ gb116)); have n6_ := Aside0.mk ((by rw [hg]; exact (below_size (bX2 HB GE101 GE102)) : w.heap.size ≤ gb116)); have n7_ := Aside0.mk ((by rw [hg]; exact Nat.ne_of_lt (blk_lt (kX BK101)) : gb101 ≠ gb116)); have n8_ := Aside0.mk ((by rw [hg]; exact Nat.ne_of_gt (blk_lt (kX BK101)) : gb116 ≠ gb101)); have n9_ := Aside0.mk ((by rw [hg]; exact Nat.ne_of_lt (blk_lt (kX BK102)) : gb102 ≠ gb116)); have n10_ := Aside0.mk ((by rw [hg]; exact Nat.ne_of_gt (blk_lt (kX BK102)) : gb116 ≠ gb102)); clear HO_103000; clear BK101; clear BK102; clear HB; have HO_103000 := n0_; have BK101 := n1_; have BK102 := n2_; have HB := n3_; have BK116 := n4_; have GW116 := n5_; have GE116 := n6_; have NB101_116 := n7_; have NB116_101 := n8_; have NB102_116 := n9_; have NB116_102 := n10_; clear n0_ n1_ n2_ n3_ n4_ n5_ n6_ n7_ n8_ n9_ n10_; clear hb hbox hg; have hnb77 := NB116_101.out; have hnc77 := NB101_116.out; have hnb78 := NB116_102.out; have hnc78 := NB102_116.out; obtain ⟨hcz79_0, hcz79_1, hfz79_0, hfz79_1⟩ := c2X BK116; have hnb80 := NB102_101.out; have hnc80 := NB101_102.out; obtain ⟨hcz81_0, hcz81_1, hcz81_2, hcz81_3, hfz81_0, hfz81_1, hfz81_2, hfz81_3⟩ := c4X BK102)); go_meet
                case rel => exact ⟨_, (decide (t113 > 255)), (t115), (false), (t113), (t114), vX, vX, H', ⟨by have := HJ4.out; have := HK2.out; have := HJ16.out; have := HJ56.out; first | omega | exact Nat.le_refl _⟩, ⟨by (with_reducible repeat (first | apply Kd.R_alloc | apply Kd.R_drewN | apply Kd.R_drew)); exact Kd.R_mono (Kd.R_far (p := ⟨gb102, 3, none⟩) (Kd.R_far (p := ⟨gb102, 2, none⟩) (Kd.R_far (p := ⟨gb116, 1, none⟩) (Kd.R_far (p := ⟨gb116, 0, none⟩) (Kd.R_types (Kd.R_mono HO_103000.out (fun k_ hk => (⟨hk, hk.2⟩ : _ ∧ k_ ≠ gb116))) BK102.out (by decide)) (fun _ hk => hk.1.2) (.int .i64 t113)) (fun _ hk => hk.1.2) (.string t114)) (fun _ hk => hk.2) (.int .i64 t113)) (fun _ hk => hk.2) (.string t114)) (fun _ hk => trivial)⟩, ⟨by (with_reducible repeat (first | refine blk_drewN ?_ _ | refine blk_drew ?_ | refine blk_alloc ?_ _)); refine blk_far ?_ NB101_102.out _; (with_reducible repeat (first | refine blk_drewN ?_ _ | refine blk_drew ?_ | refine blk_alloc ?_ _)); refine blk_far ?_ NB101_102.out _; (with_reducible repeat (first | refine blk_drewN ?_ _ | refine blk_drew ?_ | refine blk_alloc ?_ _)); refine blk_far ?_ NB101_116.out _; (with_reducible repeat (first | refine blk_drewN ?_ _ | refine blk_drew ?_ | refine blk_alloc ?_ _)); refine blk_far ?_ NB101_116.out _; (with_reducible repeat (first | refine blk_drewN ?_ _ | refine blk_drew ?_ | refine blk_alloc ?_ _)); exact BK101.out⟩, ⟨by (with_reducible repeat (first | refine blk_drewN ?_ _ | refine blk_drew ?_ | refine blk_alloc ?_ _)); refine blk_put (cs := #[u103000, .bool false, .int .i64 t113, .string (⟨#[]⟩ : ByteArray)]) ?_ 3 _ rfl; (with_reducible repeat (first | refine blk_drewN ?_ _ | refine blk_drew ?_ | refine blk_alloc ?_ _)); refine blk_put (cs := #[u103000, .bool false, .int .i64 0, .string (⟨#[]⟩ : ByteArray)]) ?_ 2 _ rfl; (with_reducible repeat (first | refine blk_drewN ?_ _ | refine blk_drew ?_ | refine blk_alloc ?_ _)); refine blk_far ?_ NB102_116.out _; (with_reducible repeat (first | refine blk_drewN ?_ _ | refine blk_drew ?_ | refine blk_alloc ?_ _)); refine blk_far ?_ NB102_116.out _; (with_reducible repeat (first | refine blk_drewN ?_ _ | refine blk_drew ?_ | refine blk_alloc ?_ _)); exact BK102.out⟩, ⟨bX3 HB GE101 GE102 GE116⟩⟩
             case rest =>
              clear HC62
              try clear c1
              try clear p1
              try clear q1
              try clear hx1
              try clear qi1
              try clear c2
              try clear c2b0
              try clear c2b1
              try clear p2
              try clear q2
              try clear hx2
              try clear c3
              try clear c4
              try clear c5
              try clear c6
              try clear p6
              try clear q6
              try clear hx6
              try clear c7
              try clear c8
              try clear c10
              try clear c10b0
              try clear c10b1
              try clear c11
              try clear c11b0
              try clear c11b1
              try clear p12
              try clear q12
              try clear hx12
              try clear qi12
              try clear c13
              try clear c14
              try clear c15
              try clear c18
              try clear c18b0
              try clear c19
              try clear c19b0
              try clear p20
              try clear q20
              try clear hx20
              try clear c21
              try clear c23
              try clear c23b0
              try clear c26
              try clear c27
              try clear c29
              try clear c31
              try clear c32
              try clear c35
              try clear c36
              try clear c38
              try clear c43
              try clear c46
              try clear c47
              try clear c49
              try clear c54
              try clear c54b0
              try clear c55
              try clear c58
              try clear c58b0
              try clear c60
              try clear c60b0
              try clear p61
              try clear q61
              try clear hx61
              try clear c63
              try clear c64
              try clear p64
              try clear c67
              try clear c70
              try clear c71
              try clear c73
              try clear c77
              try clear c78
              try clear c80
              try clear hcz15_0 hcz15_1 hcz15_2 hcz15_3
              try clear hcz16_0 hcz16_1 hcz16_2 hcz16_3
              try clear hcz28_0 hcz28_1
              try clear hcz30_0 hcz30_1 hcz30_2 hcz30_3
              try clear hcz37_0 hcz37_1
              try clear hcz39_0 hcz39_1 hcz39_2 hcz39_3
              try clear hcz42_0 hcz42_1 hcz42_2 hcz42_3
              try clear hcz48_0 hcz48_1
              try clear hcz4_0 hcz4_1 hcz4_2 hcz4_3
              try clear hcz50_0 hcz50_1 hcz50_2 hcz50_3
              try clear hcz53_0 hcz53_1 hcz53_2 hcz53_3
              try clear hcz56_0 hcz56_1 hcz56_2 hcz56_3
              try clear hcz65_0 hcz65_1 hcz65_2 hcz65_3
              try clear hcz72_0 hcz72_1
              try clear hcz74_0 hcz74_1 hcz74_2 hcz74_3
              try clear hcz79_0 hcz79_1
              try clear hcz81_0 hcz81_1 hcz81_2 hcz81_3
              try clear hcz9_0 hcz9_1 hcz9_2 hcz9_3
              try clear hfz15_0 hfz15_1 hfz15_2 hfz15_3
              try clear hfz16_0 hfz16_1 hfz16_2 hfz16_3
              try clear hfz28_0 hfz28_1
              try clear hfz30_0 hfz30_1 hfz30_2 hfz30_3
              try clear hfz37_0 hfz37_1
              try clear hfz39_0 hfz39_1 hfz39_2 hfz39_3
              try clear hfz42_0 hfz42_1 hfz42_2 hfz42_3
              try clear hfz48_0 hfz48_1
              try clear hfz4_0 hfz4_1 hfz4_2 hfz4_3
              try clear hfz50_0 hfz50_1 hfz50_2 hfz50_3
              try clear hfz53_0 hfz53_1 hfz53_2 hfz53_3
              try clear hfz56_0 hfz56_1 hfz56_2 hfz56_3
              try clear hfz65_0 hfz65_1 hfz65_2 hfz65_3
              try clear hfz72_0 hfz72_1
              try clear hfz74_0 hfz74_1 hfz74_2 hfz74_3
              try clear hfz79_0 hfz79_1
              try clear hfz81_0 hfz81_1 hfz81_2 hfz81_3
              try clear hfz9_0 hfz9_1 hfz9_2 hfz9_3
              try clear p1
              try clear p12
              try clear p2
              try clear p20
              try clear p6
              try clear p61
              try clear q1
              try clear q12
              try clear q2
              try clear q20
              try clear q6
              try clear q61
              obtain ⟨kq, x5_61, x6_61, x103001_61, x103002_61, x103003_61, rfl, rfl, HA, HJ61, HO_103000, BK101, BK102, HB⟩ := hcut
              cases kq with
              | zero => exact absurd HA.out (by simp [arbiterref02_ParseDesc.j4])
              | succ kj61 =>
               have H := HA.out; clear HA; simp only [arbiterref02_ParseDesc.j4] at H
               by_cases c82 : x6_61 = (a0.size : Int)
               ·rw [if_pos c82] at H
                have c82b0 : (x6_61 == (a0.size : Int)) = true := beq_iff_eq.mpr c82; have c82b1 : (x6_61 != (a0.size : Int)) = false := bne_eq_false_iff_eq.mpr c82; clear c82
                by_cases c83 : x5_61 = true
                ·subst c83
                 have H1 : (some (([] : List (S24)), false, 0, (⟨#[]⟩ : ByteArray), 5)) = some (r1, r2, r3, r4, r5) := by rw [if_pos rfl] at H; exact H
                 clear H; have H := H1; clear H1; simp only [Option.some.injEq, Prod.mk.injEq] at H; obtain ⟨rfl, rfl, rfl, rfl, rfl⟩ := H; have hnb84 := NB101_102.out; have hnc84 := NB102_101.out; obtain ⟨hcz85_0, hcz85_1, hcz85_2, hcz85_3, hfz85_0, hfz85_1, hfz85_2, hfz85_3⟩ := c4X BK101; go_wp2; refine bodyPost_ret (results_ct rfl _ _ gb101 172 #[.slice none 0 0, .bool false, .int .i64 0, .string (⟨#[]⟩ : ByteArray)] (0, 0) _ rfl (by (with_reducible repeat (first | refine blk_drewN ?_ _ | refine blk_drew ?_ | refine blk_alloc ?_ _)); refine blk_put (cs := #[.slice none 0 0, .bool false, .int .i64 0, .string x102003_2]) ?_ 3 _ rfl; (with_reducible repeat (first | refine blk_drewN ?_ _ | refine blk_drew ?_ | refine blk_alloc ?_ _)); refine blk_put (cs := #[.slice none 0 0, .bool false, .int .i64 x102002_2, .string x102003_2]) ?_ 2 _ rfl; (with_reducible repeat (first | refine blk_drewN ?_ _ | refine blk_drew ?_ | refine blk_alloc ?_ _)); refine blk_put (cs := #[.slice none 0 0, .bool x102001_2, .int .i64 x102002_2, .string x102003_2]) ?_ 1 _ rfl; (with_reducible repeat (first | refine blk_drewN ?_ _ | refine blk_drew ?_ | refine blk_alloc ?_ _)); refine blk_put (cs := #[.slice none 0 0, .bool x102001_2, .int .i64 x102002_2, .string x102003_2]) ?_ 0 _ rfl; (with_reducible repeat (first | refine blk_drewN ?_ _ | refine blk_drew ?_ | refine blk_alloc ?_ _)); exact BK101.out) Tryz.underlying172 rfl (by kernel_rfl)) rfl ?_
                 exact ⟨_, by first | rfl | (simp [errW_none, errW_some] <;> rfl) | (simp [*, errW_none, errW_some] <;> rfl), by first | exact Kd.R_nil _ _ _ _ _ | exact Kd.N_nil _ _ _ _ _ | exact Kd.V_nil _ _ _ _ _ | exact Kd.Q_nil _ _ _ _ _ | exact Kd.S_nil _ _ _ _ _, bX2 HB GE101 GE102⟩
                ·replace c83 := Bool.eq_false_iff.mpr c83
                 subst c83
                 have H1 : (if (x103000_2.length : Int) > 20 then (some (([] : List (S24)), false, 0, (⟨#[]⟩ : ByteArray), 5)) else (some (x103000_2, x103001_61, x103002_61, x103003_61, 0))) = some (r1, r2, r3, r4, r5) := by rw [if_neg (show ¬ (false = true) by decide)] at H; exact H
                 clear H; have H := H1; clear H1
                 by_cases c86 : (x103000_2.length : Int) > 20
                 ·rw [if_pos c86] at H
                  have c86b0 : decide (20 < (x103000_2.length : Int)) = true := decide_eq_true c86; have c86b1 : decide (20 < x103000_2.length) = true := decide_eq_true (by omega); clear c86; simp only [Option.some.injEq, Prod.mk.injEq] at H; obtain ⟨rfl, rfl, rfl, rfl, rfl⟩ := H; have hnb87 := NB102_101.out; have hnc87 := NB101_102.out; obtain ⟨hcz88_0, hcz88_1, hcz88_2, hcz88_3, hfz88_0, hfz88_1, hfz88_2, hfz88_3⟩ := c4X BK102; obtain ⟨Ao89, co89, eo89⟩ := Kd.R_slice HO_103000.out; subst eo89; obtain ⟨hcz90_0, hcz90_1, hcz90_2, hcz90_3, hfz90_0, hfz90_1, hfz90_2, hfz90_3⟩ := c4X BK101; go_wp2; refine bodyPost_ret (results_ct rfl _ _ gb101 172 #[.slice none 0 0, .bool false, .int .i64 0, .string (⟨#[]⟩ : ByteArray)] (0, 0) _ rfl (by (with_reducible repeat (first | refine blk_drewN ?_ _ | refine blk_drew ?_ | refine blk_alloc ?_ _)); refine blk_put (cs := #[.slice none 0 0, .bool false, .int .i64 0, .string x102003_2]) ?_ 3 _ rfl; (with_reducible repeat (first | refine blk_drewN ?_ _ | refine blk_drew ?_ | refine blk_alloc ?_ _)); refine blk_put (cs := #[.slice none 0 0, .bool false, .int .i64 x102002_2, .string x102003_2]) ?_ 2 _ rfl; (with_reducible repeat (first | refine blk_drewN ?_ _ | refine blk_drew ?_ | refine blk_alloc ?_ _)); refine blk_put (cs := #[.slice none 0 0, .bool x102001_2, .int .i64 x102002_2, .string x102003_2]) ?_ 1 _ rfl; (with_reducible repeat (first | refine blk_drewN ?_ _ | refine blk_drew ?_ | refine blk_alloc ?_ _)); refine blk_put (cs := #[.slice none 0 0, .bool x102001_2, .int .i64 x102002_2, .string x102003_2]) ?_ 0 _ rfl; (with_reducible repeat (first | refine blk_drewN ?_ _ | refine blk_drew ?_ | refine blk_alloc ?_ _)); exact BK101.out) Tryz.underlying172 rfl (by kernel_rfl)) rfl ?_
                  exact ⟨_, by first | rfl | (simp [errW_none, errW_some] <;> rfl) | (simp [*, errW_none, errW_some] <;> rfl), by first | exact Kd.R_nil _ _ _ _ _ | exact Kd.N_nil _ _ _ _ _ | exact Kd.V_nil _ _ _ _ _ | exact Kd.Q_nil _ _ _ _ _ | exact Kd.S_nil _ _ _ _ _, bX2 HB GE101 GE102⟩
                 ·rw [if_neg c86] at H
                  have c86b0 : decide (20 < (x103000_2.length : Int)) = false := decide_eq_false c86; have c86b1 : decide (20 < x103000_2.length) = false := decide_eq_false (by omega); clear c86; simp only [Option.some.injEq, Prod.mk.injEq] at H; obtain ⟨rfl, rfl, rfl, rfl, rfl⟩ := H; have hnb91 := NB102_101.out; have hnc91 := NB101_102.out; obtain ⟨hcz92_0, hcz92_1, hcz92_2, hcz92_3, hfz92_0, hfz92_1, hfz92_2, hfz92_3⟩ := c4X BK102; obtain ⟨Ao93, co93, eo93⟩ := Kd.R_slice HO_103000.out; subst eo93; obtain ⟨hcz94_0, hcz94_1, hcz94_2, hcz94_3, hfz94_0, hfz94_1, hfz94_2, hfz94_3⟩ := c4X BK101; go_wp2; refine bodyPost_ret (results_ct rfl _ _ gb101 172 #[.slice Ao93 x103000_2.length co93, .bool x103001_61, .int .i64 x103002_61, .string x103003_61] (0, 0) _ rfl (by (with_reducible repeat (first | refine blk_drewN ?_ _ | refine blk_drew ?_ | refine blk_alloc ?_ _)); refine blk_put (cs := #[.slice Ao93 x103000_2.length co93, .bool x103001_61, .int .i64 x103002_61, .string x102003_2]) ?_ 3 _ rfl; (with_reducible repeat (first | refine blk_drewN ?_ _ | refine blk_drew ?_ | refine blk_alloc ?_ _)); refine blk_put (cs := #[.slice Ao93 x103000_2.length co93, .bool x103001_61, .int .i64 x102002_2, .string x102003_2]) ?_ 2 _ rfl; (with_reducible repeat (first | refine blk_drewN ?_ _ | refine blk_drew ?_ | refine blk_alloc ?_ _)); refine blk_put (cs := #[.slice Ao93 x103000_2.length co93, .bool x102001_2, .int .i64 x102002_2, .string x102003_2]) ?_ 1 _ rfl; (with_reducible repeat (first | refine blk_drewN ?_ _ | refine blk_drew ?_ | refine blk_alloc ?_ _)); refine blk_put (cs := #[.slice none 0 0, .bool x102001_2, .int .i64 x102002_2, .string x102003_2]) ?_ 0 _ rfl; (with_reducible repeat (first | refine blk_drewN ?_ _ | refine blk_drew ?_ | refine blk_alloc ?_ _)); exact BK101.out) Tryz.underlying172 rfl (by kernel_rfl)) rfl ?_
                  exact ⟨_, by first | rfl | (simp [errW_none, errW_some] <;> rfl) | (simp [*, errW_none, errW_some] <;> rfl), by (with_reducible repeat (first | apply Kd.R_alloc | apply Kd.R_drewN | apply Kd.R_drew)); exact Kd.R_mono (Kd.R_far (p := ⟨gb101, 3, none⟩) (Kd.R_far (p := ⟨gb101, 2, none⟩) (Kd.R_far (p := ⟨gb101, 1, none⟩) (Kd.R_far (p := ⟨gb101, 0, none⟩) (Kd.R_types HO_103000.out BK101.out (by decide)) (fun _ hk => hk.2) (.slice Ao93 x103000_2.length co93)) (fun _ hk => hk.2) (.bool x103001_61)) (fun _ hk => hk.2) (.int .i64 x103002_61)) (fun _ hk => hk.2) (.string x103003_61)) (fun _ hk => trivial), bX2 HB GE101 GE102⟩
               ·rw [if_neg c82] at H
                have c82b0 : (x6_61 == (a0.size : Int)) = false := beq_eq_false_iff_ne.mpr c82; have c82b1 : (x6_61 != (a0.size : Int)) = true := bne_iff_ne.mpr c82; simp only [Option.some.injEq, Prod.mk.injEq] at H; obtain ⟨rfl, rfl, rfl, rfl, rfl⟩ := H; have hnb95 := NB101_102.out; have hnc95 := NB102_101.out; obtain ⟨hcz96_0, hcz96_1, hcz96_2, hcz96_3, hfz96_0, hfz96_1, hfz96_2, hfz96_3⟩ := c4X BK101; go_wp2; refine bodyPost_ret (results_ct rfl _ _ gb101 172 #[.slice none 0 0, .bool false, .int .i64 0, .string (⟨#[]⟩ : ByteArray)] (0, 0) _ rfl (by (with_reducible repeat (first | refine blk_drewN ?_ _ | refine blk_drew ?_ | refine blk_alloc ?_ _)); refine blk_put (cs := #[.slice none 0 0, .bool false, .int .i64 0, .string x102003_2]) ?_ 3 _ rfl; (with_reducible repeat (first | refine blk_drewN ?_ _ | refine blk_drew ?_ | refine blk_alloc ?_ _)); refine blk_put (cs := #[.slice none 0 0, .bool false, .int .i64 x102002_2, .string x102003_2]) ?_ 2 _ rfl; (with_reducible repeat (first | refine blk_drewN ?_ _ | refine blk_drew ?_ | refine blk_alloc ?_ _)); refine blk_put (cs := #[.slice none 0 0, .bool x102001_2, .int .i64 x102002_2, .string x102003_2]) ?_ 1 _ rfl; (with_reducible repeat (first | refine blk_drewN ?_ _ | refine blk_drew ?_ | refine blk_alloc ?_ _)); refine blk_put (cs := #[.slice none 0 0, .bool x102001_2, .int .i64 x102002_2, .string x102003_2]) ?_ 0 _ rfl; (with_reducible repeat (first | refine blk_drewN ?_ _ | refine blk_drew ?_ | refine blk_alloc ?_ _)); exact BK101.out) Tryz.underlying172 rfl (by kernel_rfl)) rfl ?_
                exact ⟨_, by first | rfl | (simp [errW_none, errW_some] <;> rfl) | (simp [*, errW_none, errW_some] <;> rfl), by first | exact Kd.R_nil _ _ _ _ _ | exact Kd.N_nil _ _ _ _ _ | exact Kd.V_nil _ _ _ _ _ | exact Kd.Q_nil _ _ _ _ _ | exact Kd.S_nil _ _ _ _ _, bX2 HB GE101 GE102⟩
end Go.Proofs.YtaipkdglhfhhiaaGreatDoor.Pt

namespace Go.Proofs.YtaipkdglhfhhiaaGreatDoor.Pt
open Go Go.RowKit Go.Proofs.YtaipkdglhfhhiaaGreatDoor.Nm Go.Proofs.YtaipkdglhfhhiaaGreatDoor.Ty Go.Proofs.YtaipkdglhfhhiaaGreatDoorW.PrintWords
set_option linter.unusedVariables false
set_option linter.unusedSimpArgs false
theorem wrap_small' {i : Int} (h0 : -9223372036854775808 ≤ i) (h : i ≤ 9223372036854775807) : wrap64 i = i := by
 unfold wrap64
 omega
theorem bs_at (L : List UInt8) (n : Nat) (h : n < L.length) : ∃ x, L.drop n = x :: L.drop (n + 1) ∧ Go.Proofs.YtaipkdglhfhhiaaGreatDoorW.PrintWords.bt (bs L) (n : Int) = (x.toNat : Int) := by
 obtain ⟨x, hx, hb⟩ := drop_at L n h; refine ⟨x, hx, ?_⟩
 have h' : n < (bs L).size := by rw [mk_size]; exact h
 have e := Go.Proofs.YtaipkdglhfhhiaaGreatDoor.Nm.bt_at (bs L) n h'; unfold Go.Proofs.YtaipkdglhfhhiaaGreatDoorW.PrintWords.bt; simp only [Int.toNat_natCast]; rw [dif_pos h', e]
 exact hb
theorem u8_iff (x : UInt8) (n : Nat) (hn : n < 256) : ((x.toNat : Int) = n) ↔ x = UInt8.ofNat n := by
 constructor
 ·exact u8_ne hn
 ·rintro rfl
  simp
  omega
theorem j4_ok (L : List UInt8) (k : Nat) (wide : Bool) (p : Int) (ts : List (Nat × List UInt8)) (vo : Bool) (d : Int) (nm : ByteArray) (r : List UInt8) (hp : p = (L.length : Int) ↔ r = []) :
  arbiterref02_ParseDesc.j4 (k + 1) (bs L) wide p (ts.map toS) vo d nm = some (tup5 (descEnd ⟨ts, vo, d, nm.data.toList⟩ wide r)) := by
 simp only [arbiterref02_ParseDesc.j4]; rw [mk_size]
 by_cases hr : r = []
 ·rw [if_pos (hp.2 hr)]
  have e : descEnd ⟨ts, vo, d, nm.data.toList⟩ wide r = if wide || decide (20 < ts.length) then (.zero, 5) else (⟨ts, vo, d, nm.data.toList⟩, 0) := by
   unfold descEnd; rw [if_neg (fun h => h hr)]
  rw [e, List.length_map]
  cases wide
  ·rw [if_neg (show ¬ false = true by decide), Bool.false_or]
   by_cases h20 : 20 < ts.length
   ·rw [if_pos (show (ts.length : Int) > 20 by omega), if_pos (show decide (20 < ts.length) = true from decide_eq_true h20)]; rfl
   ·rw [if_neg (show ¬ (ts.length : Int) > 20 by omega), if_neg (show ¬ decide (20 < ts.length) = true by simp [h20])]
    simp only [tup5, mk_data]
  ·rw [if_pos rfl, Bool.true_or, if_pos rfl]; rfl
 ·have e : descEnd ⟨ts, vo, d, nm.data.toList⟩ wide r = (.zero, 4) := by
   unfold descEnd; rw [if_pos hr]
  rw [if_neg (fun h => hr (hp.1 h)), e]; rfl
theorem read_f (L : List UInt8) (hL : L.length ≤ 2000) (n : Nat) (hn : n ≤ L.length) : arbiterref02_read.f (bs L) n = some (tup3 (readF L n)) := by
 unfold arbiterref02_read.f; rw [mk_size, Int.toNat_natCast, mk_toList, if_pos ⟨by omega, hn, by omega⟩]
theorem j3_ok (L : List UInt8) (hL : L.length ≤ 2000) (k n : Nat) (hn : n ≤ L.length) (ts : List (Nat × List UInt8)) :
  arbiterref02_ParseDesc.j3 (k + 2) (bs L) (wideL ts) n (took (L.drop n) 86) (ts.map toS) false 0 ⟨#[]⟩ = some (tup5 (descRet ts (L.drop n))) := by
 rw [show k + 2 = (k + 1) + 1 from rfl]; simp only [arbiterref02_ParseDesc.j3]; unfold descRet
 cases h86 : took (L.drop n) 86
 ·rw [if_neg (by decide), if_neg (by decide), read_f L hL n hn, Option.bind_some]
  cases hr : (rd (L.drop n)).rest with
  | none =>
   have hp : (readF L n).2.2 = -1 := by unfold readF; rw [hr]
   simp only [tup3, hp]
   have E : ∀ (wd : Bool) (d : Int) (nm : ByteArray), arbiterref02_ParseDesc.j4 (k + 1) (bs L) wd (-1) (ts.map toS) false d nm = some (tup5 (.zero, 4)) := by
    intro wd d nm; rw [j4_ok L k wd (-1) ts false d nm [0] (by constructor <;> intro h <;> first | omega | cases h)]
    rfl
   split <;> exact E _ _ _
  | some r =>
   obtain ⟨m, hm, h1, h2, h3⟩ := place_drop L n hn r hr
   have hp : (readF L n).2.2 = m := by unfold readF; rw [hr]; exact hm
   have hn2 : (readF L n).2.1 = (rd (L.drop n)).name := by unfold readF; exact rdNm_name _ _ hr
   have hn1 : (readF L n).1 = (rd (L.drop n)).dims := by unfold readF; rw [rd_dims]
   simp only [tup3, hp, hn1, hn2]
   have hrr : ((m : Int) = (L.length : Int)) ↔ r = [] := by
    rw [← h3, List.drop_eq_nil_iff]
    omega
   have E : ∀ wd : Bool, arbiterref02_ParseDesc.j4 (k + 1) (bs L) wd m (ts.map toS) false (rd (L.drop n)).dims (bs (rd (L.drop n)).name) = some (tup5 (descEnd ⟨ts, false, (rd (L.drop n)).dims, (rd (L.drop n)).name⟩ wd r)) := by
    intro wd; rw [j4_ok L k wd m ts false _ _ r hrr, mk_toList]
   rw [E, E]
   cases wideL ts
   ·rw [if_neg (by decide)]
    simp only [Bool.false_or]; rw [show decide (((rd (L.drop n)).dims : Int) > 255) = decide (255 < (rd (L.drop n)).dims) from by by_cases h : 255 < (rd (L.drop n)).dims <;> simp [h] <;> omega]
   ·rw [if_pos rfl, Bool.true_or]
 ·rw [if_pos rfl, if_pos rfl]
  have hne : L.drop n ≠ [] := by intro h; rw [h] at h86; cases h86
  have hlt : n < L.length := by
   rw [ne_eq, List.drop_eq_nil_iff] at hne
   omega
  rw [wrap_small' (by omega) (by omega)]; refine j4_ok L k (wideL ts) _ ts true 0 ⟨#[]⟩ _ ?_; rw [List.tail_drop, List.drop_eq_nil_iff]
  omega
theorem l0_ok (L : List UInt8) (hL : L.length ≤ 2000) (m : Nat) : ∀ (n : Nat) (ts : List (Nat × List UInt8)) (k : Nat), n ≤ L.length → L.length - n < m → ts.length + (L.length - n) ≤ 2000 → 2 * m + 4 ≤ k →
  arbiterref02_ParseDesc.l0 k (bs L) (wideL ts) n (ts.map toS) false 0 ⟨#[]⟩ = some (tup5 (descOf (prep ts (rdArgs m (L.drop n))))) := by
 induction m with
 | zero => intro n ts k _ h; omega
 | succ m ih =>
  intro n ts k hn hm hts hk
  obtain ⟨k, rfl⟩ : ∃ j, k = j + 1 + 1 + 2 := ⟨k - 4, by omega⟩
  rw [show k + 1 + 1 + 2 = (k + 1 + 2) + 1 from rfl]; simp only [arbiterref02_ParseDesc.l0]; rw [mk_size]
  by_cases hlt : n < L.length
  ·obtain ⟨x, hx, hb⟩ := bs_at L n hlt
   rw [if_pos (by omega), if_pos (by omega), hb]; rw [show k + 1 + 2 = (k + 2) + 1 from rfl]; simp only [arbiterref02_ParseDesc.j2]
   by_cases h41 : x = 41
   ·have ht : took (L.drop n) 41 = true := by rw [hx, took_cons]; simp [h41]
    rw [rdArgs_close m _ ts ht]; rw [if_neg (by rw [h41]; decide), mk_size, if_neg (by omega)]; rw [wrap_small' (by omega) (by omega)]
    show _ = some (tup5 (descRet ts (L.drop n).tail))
    rw [List.tail_drop]; rw [← j3_ok L hL k (n + 1) (by omega) ts]
    by_cases h2 : n + 1 < L.length
    ·obtain ⟨y, hy, hby⟩ := bs_at L (n + 1) h2
     rw [if_pos (by omega), if_pos (by omega)]
     have e : (Go.Proofs.YtaipkdglhfhhiaaGreatDoorW.PrintWords.bt (bs L) ((n : Int) + 1) == 86) = took (L.drop (n + 1)) 86 := by
      rw [show (n : Int) + 1 = ((n + 1 : Nat) : Int) from by omega, hby, hy, took_cons]; rw [Bool.eq_iff_iff, beq_iff_eq, decide_eq_true_iff]
      exact u8_iff y 86 (by decide)
     rw [e]; rfl
    ·rw [if_neg (by omega)]
     have e : took (L.drop (n + 1)) 86 = false := by rw [List.drop_eq_nil_of_le (by omega)]; rfl
     rw [e]; rfl
   ·have ht : took (L.drop n) 41 = false := by rw [hx, took_cons]; simp [h41]
    have hne : ((x.toNat : Int) != 41) = true := by
     rw [bne_iff_ne]
     exact fun h => h41 (u8_ne (n := 41) (by decide) h)
    rw [if_pos hne, read_f L hL n hn, Option.bind_some]
    cases hr : (rd (L.drop n)).rest with
    | none =>
     have hp : (readF L n).2.2 = -1 := by unfold readF; rw [hr]
     simp only [tup3, hp]; rw [if_pos (by decide), rdArgs_fail m _ ts ht hr]
     rfl
    | some r =>
     obtain ⟨p, hp0, h1, h2, h3⟩ := place_drop L n hn r hr
     have hp : (readF L n).2.2 = p := by unfold readF; rw [hr]; exact hp0
     have hn2 : (readF L n).2.1 = (rd (L.drop n)).name := by unfold readF; exact rdNm_name _ _ hr
     have hn1 : (readF L n).1 = (rd (L.drop n)).dims := by unfold readF; rw [rd_dims]
     simp only [tup3, hp, hn1, hn2]; rw [if_neg (show ¬ (p : Int) < 0 by omega), List.length_map]; rw [rdArgs_step m _ r ts ht hr, ← h3]; have I := ih p (ts ++ [((rd (L.drop n)).dims, (rd (L.drop n)).name)]) (k + 2) h2 (by omega) (by simp; omega) (by omega); rw [wideL_snoc, List.map_append, List.map_cons, List.map_nil, toS] at I; rw [← I]
     have hlen : ts.length < 5864062014805 := by omega
     cases wideL ts
     ·rw [if_neg (show ¬ false = true by decide), if_pos hlen]
      simp only [Bool.false_or]; rw [show decide (((rd (L.drop n)).dims : Int) > 255) = decide (255 < (rd (L.drop n)).dims) from by by_cases h : 255 < (rd (L.drop n)).dims <;> simp [h] <;> omega]
     ·rw [if_pos rfl, if_pos hlen, Bool.true_or]
  ·obtain rfl : n = L.length := by omega
   rw [if_neg (by omega), List.drop_length]; rw [show k + 1 + 2 = (k + 2) + 1 from rfl]; simp only [arbiterref02_ParseDesc.j2]; rw [if_neg (by decide), mk_size, if_pos (by omega)]; have : prep ts (rdArgs (m + 1) []) = none := rdArgs_fail m [] ts rfl rfl; rw [this]
   rfl
theorem pdesc_f (a0 : ByteArray) (k : Nat) (hk : 5000 ≤ k) : arbiterref02_ParseDesc.f k a0 = some (tup5 (parseD a0.data.toList)) := by
 obtain ⟨L, rfl⟩ : ∃ L, a0 = bs L := ⟨a0.data.toList, (mk_data a0).symm⟩
 rw [mk_toList]; unfold arbiterref02_ParseDesc.f; rw [mk_size]
 by_cases hbig : 2000 < L.length
 ·rw [if_pos (by omega), parseD_big L hbig]; rfl
 ·rw [if_neg (by omega)]
  obtain ⟨k, rfl⟩ : ∃ j, k = j + 1 := ⟨k - 1, by omega⟩
  cases L with
  | nil =>
   rw [if_pos (show (([] : List UInt8).length : Int) = 0 from rfl), parseD_not [] hbig rfl]; simp only [arbiterref02_ParseDesc.j0]; rw [if_pos trivial]; rfl
  | cons x l =>
   obtain ⟨y, hy, hby⟩ := bs_at (x :: l) 0 (by simp); rw [if_neg (show ¬ (((x :: l).length : Int) = 0) by simp only [List.length_cons]; omega), if_pos (show 0 < ((x :: l).length : Int) by simp only [List.length_cons]; omega)]; have hby' : Go.Proofs.YtaipkdglhfhhiaaGreatDoorW.PrintWords.bt (bs (x :: l)) 0 = (y.toNat : Int) := hby
   obtain rfl : x = y := by simp at hy; exact hy
   rw [hby']; simp only [arbiterref02_ParseDesc.j0]
   by_cases h40 : x = 40
   ·have ht : took (x :: l) 40 = true := by rw [took_cons]; simp [h40]
    rw [if_neg (by rw [h40]; decide), parseD_args _ hbig ht]; simp only [List.length_cons] at hbig ⊢; have I := l0_ok (x :: l) (by simp; omega) ((x :: l).length + 1) 1 [] k (by simp) (by simp only [List.length_cons]; omega) (by simp; omega) (by simp only [List.length_cons]; omega); rw [prep_nil] at I
    exact I
   ·have ht : took (x :: l) 40 = false := by rw [took_cons]; simp [h40]
    have hne : ((x.toNat : Int) != 40) = true := by
     rw [bne_iff_ne]
     exact fun h => h40 (u8_ne (n := 40) (by decide) h)
    rw [if_pos hne, parseD_not _ hbig ht]; rfl
end Go.Proofs.YtaipkdglhfhhiaaGreatDoor.Pt

namespace Go.Proofs.YtaipkdglhfhhiaaGreatDoor.Pt
open Go.RowKit Go.Proofs.YtaipkdglhfhhiaaGreatDoorW.PrintWords Go.Proofs.YtaipkdglhfhhiaaGreatDoorW.PrintLast Go.Proofs.YtaipkdglhfhhiaaGreatDoorW.PrintMore
attribute [local go_sem] max2_int min2_int max_two min_two max_three min_three max_four min_four   -- for this text's walks alone
set_option linter.unusedVariables false
set_option linter.unusedSimpArgs false
def arbiterref06_named.l0 : Nat → List S85 → ByteArray → Int → Option (Int)
 | 0, _, _, _ => none
 | k + 1, x0, x1, x5 => if x5 < (x0.length : Int) then (if 0 ≤ x5 then (if ((rd_T85 x0 x5).f0).toList = x1.toList then (some x5) else (arbiterref06_named.l0 k x0 x1 (wrap64 (x5 + 1)))) else (none)) else (some (-1))
def arbiterref06_named.f (k : Nat) (a0 : List S85) (a1 : ByteArray) : Option (Int) := arbiterref06_named.l0 k a0 a1 0
set_option maxHeartbeats 8000000 in
set_option maxRecDepth 100000 in
theorem arbiterref06_named.calls (k : Nat) (G_ : Nat) (a0 : List S85) (a1 : ByteArray) (r : Int) (w : World) (hq0 : ROK w G_ a0) (h : arbiterref06_named.f k a0 a1 = some r) :
  Calls Tryz.prog 91 #[.pointer (some ⟨G_, 0, none⟩), .string a1] w fun e w' => e = .returned (.int .i64 r) ∧ Drawn0 w w' := by
 obtain ⟨AQa0, cQa0, hp0, hrq0, hcq0⟩ := ROK.open hq0; have HPa0 := Aside0.mk hp0; have HRqa0 := Aside0.mk hrq0; have HCqa0 := Aside0.mk hcq0; clear hp0 hrq0 hcq0; have HQa0 := Aside0.mk hq0; clear hq0; have H : (arbiterref06_named.l0 k a0 a1 0) = some r := h; clear h; have H' := Aside0.mk H; clear H; go_enter Tryz.func91, Tryz.ntmps91; go_wp2
 go_loopg [5] k (fun kq v5 w' => ∃ (x5_1 : Int), v5 = .int .i64 x5_1 ∧ Aside0 (arbiterref06_named.l0 kq a0 a1 x5_1 = some r) ∧ Aside0 (kq ≤ k) ∧ Drawn0 w w')
 case atStart => exact ⟨(0), vX, H', ⟨Nat.le_refl _⟩, by repeat (first | exact Drawn0.refl _ | apply Drawn0.step)⟩
 case round =>
  clear H'
  try clear p2
  obtain ⟨x5_1, rfl, HA, HK1, ⟨m1, rfl⟩⟩ := hrel
  cases gk with
  | zero => exact absurd HA.out (by simp [arbiterref06_named.l0])
  | succ k1 =>
   have H := HA.out; clear HA; simp only [arbiterref06_named.l0] at H
   by_cases c3 : x5_1 < (a0.length : Int)
   ·rw [if_pos c3] at H
    have c3b0 : decide (x5_1 < (a0.length : Int)) = true := decide_eq_true c3; clear c3
    by_cases c4 : 0 ≤ x5_1
    ·rw [if_pos c4] at H
     have c4b0 : decide (0 ≤ x5_1) = true := decide_eq_true c4; clear c4
     by_cases c5 : ((rd_T85 a0 x5_1).f0).toList = a1.toList
     ·rw [if_pos c5] at H
      have c5b0 : (((rd_T85 a0 x5_1).f0).toList == a1.toList) = true := beq_iff_eq.mpr c5; have c5b1 : (((rd_T85 a0 x5_1).f0).toList != a1.toList) = false := bne_eq_false_iff_eq.mpr c5; clear c5; obtain rfl := Option.some.inj H; have hcpq6 := HPa0.out; have hcpq7 := HPa0.out; have p154 : 0 ≤ (x5_1 : Int) := qX; have q154 : x5_1 < (a0.length : Int) := qX; obtain ⟨ad154, A154_2, c154_2, A154_5, c154_5, e154, hx154_0, hx154_1, hx154_2, hx154_3, hx154_4, hx154_5, hl154_2, hi154_2, hl154_5, hi154_5⟩ := at_T85 HRqa0.out x5_1 p154 q154
      cases e154
      have HR154_2 := Aside0.mk hi154_2; have HC154_2 := Aside0.mk hl154_2; clear hi154_2 hl154_2; have HR154_5 := Aside0.mk hi154_5; have HC154_5 := Aside0.mk hl154_5; clear hi154_5 hl154_5; replace p154 := eq_true p154; replace q154 := eq_true q154; go_wp2; go_ret
      exact ⟨by first | rfl | (simp; done) | (simp [*]; done), by repeat (first | exact Drawn0.refl _ | apply Drawn0.step)⟩
     ·rw [if_neg c5] at H
      have c5b0 : (((rd_T85 a0 x5_1).f0).toList == a1.toList) = false := beq_eq_false_iff_ne.mpr c5; have c5b1 : (((rd_T85 a0 x5_1).f0).toList != a1.toList) = true := bne_iff_ne.mpr c5; have H' := Aside0.mk H; clear H; have hcpq8 := HPa0.out; have hcpq9 := HPa0.out; have p154 : 0 ≤ (x5_1 : Int) := qX; have q154 : x5_1 < (a0.length : Int) := qX; obtain ⟨ad154, A154_2, c154_2, A154_5, c154_5, e154, hx154_0, hx154_1, hx154_2, hx154_3, hx154_4, hx154_5, hl154_2, hi154_2, hl154_5, hi154_5⟩ := at_T85 HRqa0.out x5_1 p154 q154
      cases e154
      have HR154_2 := Aside0.mk hi154_2; have HC154_2 := Aside0.mk hl154_2; clear hi154_2 hl154_2; have HR154_5 := Aside0.mk hi154_5; have HC154_5 := Aside0.mk hl154_5; clear hi154_5 hl154_5; replace p154 := eq_true p154; replace q154 := eq_true q154; go_wp2
      go_roundg k1
      case measure => have := HK1.out; omega
      case rel => exact ⟨(wrap64 (x5_1 + 1)), vX, H', ⟨by have := HK1.out; omega⟩, by repeat (first | exact Drawn0.refl _ | apply Drawn0.step)⟩
    ·rw [if_neg c4] at H
     exact absurd H (by simp)
   ·rw [if_neg c3] at H
    have c3b0 : decide (x5_1 < (a0.length : Int)) = false := decide_eq_false c3; clear c3; obtain rfl := Option.some.inj H; have hcpq10 := HPa0.out; go_wp2; go_ret
    exact ⟨by first | rfl | (simp; done) | (simp [*]; done), by repeat (first | exact Drawn0.refl _ | apply Drawn0.step)⟩
end Go.Proofs.YtaipkdglhfhhiaaGreatDoor.Pt

namespace Go.Proofs.YtaipkdglhfhhiaaGreatDoor.Pt
open Go.RowKit Go.Proofs.YtaipkdglhfhhiaaGreatDoorW.PrintWords Go.Proofs.YtaipkdglhfhhiaaGreatDoorW.PrintLast Go.Proofs.YtaipkdglhfhhiaaGreatDoorW.PrintMore
attribute [local go_sem] max2_int min2_int max_two min_two max_three min_three max_four min_four   -- for this text's walks alone
set_option linter.unusedVariables false
set_option linter.unusedSimpArgs false
def arbiterref06_In.f (a0 : List S85) (a1 : Int) : Option (Bool) := if a1 ≥ 0 then (some (decide (a1 < (a0.length : Int)))) else (some false)
set_option maxHeartbeats 8000000 in
set_option maxRecDepth 100000 in
theorem arbiterref06_In.calls (G_ : Nat) (a0 : List S85) (a1 : Int) (r : Bool) (w : World) (hq0 : ROK w G_ a0) (h : arbiterref06_In.f a0 a1 = some r) :
  Calls Tryz.prog 51 #[.pointer (some ⟨G_, 0, none⟩), .int .i64 a1] w fun e w' => e = .returned (.bool r) ∧ Drawn0 w w' := by
 obtain ⟨AQa0, cQa0, hp0, hrq0, hcq0⟩ := ROK.open hq0; have HPa0 := Aside0.mk hp0; have HRqa0 := Aside0.mk hrq0; have HCqa0 := Aside0.mk hcq0; clear hp0 hrq0 hcq0; have HQa0 := Aside0.mk hq0; clear hq0; have H : (if a1 ≥ 0 then (some (decide (a1 < (a0.length : Int)))) else (some false)) = some r := h; clear h
 by_cases c3 : a1 ≥ 0
 ·rw [if_pos c3] at H
  have c3b0 : decide (0 ≤ a1) = true := decide_eq_true c3; clear c3; obtain rfl := Option.some.inj H; have hcpq4 := HPa0.out; go_enter Tryz.func51, Tryz.ntmps51; go_wp2; go_ret
  exact ⟨by first | rfl | (simp; done) | (simp [*]; done), by repeat (first | exact Drawn0.refl _ | apply Drawn0.step)⟩
 ·rw [if_neg c3] at H
  have c3b0 : decide (0 ≤ a1) = false := decide_eq_false c3; clear c3; obtain rfl := Option.some.inj H; go_enter Tryz.func51, Tryz.ntmps51; go_wp2; go_ret
  exact ⟨by first | rfl | (simp; done) | (simp [*]; done), by repeat (first | exact Drawn0.refl _ | apply Drawn0.step)⟩
def arbiterref06_IsIface.f (a0 : List S85) (a1 : Int) : Option (Bool) := (arbiterref06_In.f a0 a1).bind fun t155 => (if t155 = true then (if 0 ≤ a1 then (if a1 < (a0.length : Int) then ((arbiterref03_Has.f ((rd_T85 a0 a1).f3) 512).bind fun t157 => (some t157)) else (none)) else (none)) else (some false))
set_option maxHeartbeats 8000000 in
set_option maxRecDepth 100000 in
theorem arbiterref06_IsIface.calls (G_ : Nat) (a0 : List S85) (a1 : Int) (r : Bool) (w : World) (hq0 : ROK w G_ a0) (h : arbiterref06_IsIface.f a0 a1 = some r) :
  Calls Tryz.prog 65 #[.pointer (some ⟨G_, 0, none⟩), .int .i64 a1] w fun e w' => e = .returned (.bool r) ∧ Below w.heap.size w w' := by
 obtain ⟨AQa0, cQa0, hp0, hrq0, hcq0⟩ := ROK.open hq0; have HPa0 := Aside0.mk hp0; have HRqa0 := Aside0.mk hrq0; have HCqa0 := Aside0.mk hcq0; clear hp0 hrq0 hcq0; have HQa0 := Aside0.mk hq0; clear hq0; have HB := Aside0.mk (Below.refl w.heap.size w); have H : ((arbiterref06_In.f a0 a1).bind fun t155 => (if t155 = true then (if 0 ≤ a1 then (if a1 < (a0.length : Int) then ((arbiterref03_Has.f ((rd_T85 a0 a1).f3) 512).bind fun t157 => (some t157)) else (none)) else (none)) else (some false))) = some r := h; clear h; replace H := Option.bind_eq_some_iff.mp H; obtain ⟨t155, A30, H⟩ := H; replace H : (if t155 = true then (if 0 ≤ a1 then (if a1 < (a0.length : Int) then ((arbiterref03_Has.f ((rd_T85 a0 a1).f3) 512).bind fun t157 => (some t157)) else (none)) else (none)) else (some false)) = some r := H; have A3 := Aside0.mk A30; clear A30
 by_cases c4 : t155 = true
 ·subst c4
  have H1 : (if 0 ≤ a1 then (if a1 < (a0.length : Int) then ((arbiterref03_Has.f ((rd_T85 a0 a1).f3) 512).bind fun t157 => (some t157)) else (none)) else (none)) = some r := by rw [if_pos rfl] at H; exact H
  clear H; have H := H1; clear H1
  by_cases c5 : 0 ≤ a1
  ·rw [if_pos c5] at H
   have c5b0 : decide (0 ≤ a1) = true := decide_eq_true c5; clear c5
   by_cases c6 : a1 < (a0.length : Int)
   ·rw [if_pos c6] at H
    have c6b0 : decide (a1 < (a0.length : Int)) = true := decide_eq_true c6; clear c6; replace H := Option.bind_eq_some_iff.mp H; obtain ⟨t157, A70, H⟩ := H; replace H : (some t157) = some r := H; have A7 := Aside0.mk A70; clear A70; obtain rfl := Option.some.inj H; go_enter Tryz.func65, Tryz.ntmps65; go_wp2_with (first | ((with_reducible refine gate_callee (f := 51) rfl ?_); refine gX (some 7) Tryz.func51 #[.pointer (some ⟨G_, 0, none⟩), .int .i64 a1] ?_; (with_reducible refine (arbiterref06_In.calls G_ a0 a1 true _ ?side1 A3.out).mono ?_); (case side1 => repeat (first | (with_reducible exact HQa0.out) | (with_reducible refine ROK.alloc ?_ _) | (with_reducible refine ROK.drewN ?_ _) | (with_reducible refine ROK.drew ?_) | exact ROK.below HQa0.out HB.out | exact ROK.below HQa0.out (bX HB))); rintro e w' ⟨rfl, ⟨nd, rfl⟩⟩; refine ⟨_, rfl, ?_⟩; have hcpq8 := HPa0.out; have p156 : 0 ≤ (a1 : Int) := qX; have q156 : a1 < (a0.length : Int) := qX; obtain ⟨ad156, A156_2, c156_2, A156_5, c156_5, e156, hx156_0, hx156_1, hx156_2, hx156_3, hx156_4, hx156_5, hl156_2, hi156_2, hl156_5, hi156_5⟩ := at_T85 HRqa0.out a1 p156 q156; cases e156; have HR156_2 := Aside0.mk hi156_2; have HC156_2 := Aside0.mk hl156_2; clear hi156_2 hl156_2; have HR156_5 := Aside0.mk hi156_5; have HC156_5 := Aside0.mk hl156_5; clear hi156_5 hl156_5; replace p156 := eq_true p156; replace q156 := eq_true q156) | (go_at_call 53; (with_reducible refine (arbiterref03_Has.calls ((rd_T85 a0 a1).f3) 512 t157 _ A7.out).mono ?_); rintro e w9 ⟨rfl, hb⟩; have n0_ := Aside0.mk (below_step (bX HB) hb); clear HB; have HB := n0_; clear n0_; (try clear hb); (try clear hb2); (try clear hk); (try clear hi))); go_ret
    exact ⟨by first | rfl | (simp [errW_none, errW_some] <;> rfl) | (simp [*, errW_none, errW_some] <;> rfl), bX HB⟩
   ·rw [if_neg c6] at H
    exact absurd H (by simp)
  ·rw [if_neg c5] at H
   exact absurd H (by simp)
 ·replace c4 := Bool.eq_false_iff.mpr c4
  subst c4
  have H1 : (some false) = some r := by rw [if_neg (show ¬ (false = true) by decide)] at H; exact H
  clear H; have H := H1; clear H1; obtain rfl := Option.some.inj H; go_enter Tryz.func65, Tryz.ntmps65; go_wp2_with (first | ((with_reducible refine gate_callee (f := 51) rfl ?_); refine gX (some 7) Tryz.func51 #[.pointer (some ⟨G_, 0, none⟩), .int .i64 a1] ?_; (with_reducible refine (arbiterref06_In.calls G_ a0 a1 false _ ?side1 A3.out).mono ?_); (case side1 => repeat (first | (with_reducible exact HQa0.out) | (with_reducible refine ROK.alloc ?_ _) | (with_reducible refine ROK.drewN ?_ _) | (with_reducible refine ROK.drew ?_) | exact ROK.below HQa0.out HB.out | exact ROK.below HQa0.out (bX HB))); rintro e w' ⟨rfl, ⟨nd, rfl⟩⟩; refine ⟨_, rfl, ?_⟩)); go_ret
  exact ⟨by first | rfl | (simp [errW_none, errW_some] <;> rfl) | (simp [*, errW_none, errW_some] <;> rfl), bX HB⟩
def arbiterref06_together.f (a0_0 : ByteArray) (a0_1 : ByteArray) (l0_2 : List ByteArray) (a0_3 : Int) (a0_4 : Int) (l0_5 : List (S105)) (a1_0 : ByteArray) (a1_1 : ByteArray) (l1_2 : List ByteArray) (a1_3 : Int) (a1_4 : Int) (l1_5 : List (S105)) : Option (Bool) := if a0_4 = a1_4 then ((arbiterref01_Package.f a0_0).bind fun t160 => ((arbiterref01_Package.f a1_0).bind fun t161 => (some (t160.toList == t161.toList)))) else (some false)
def arbiterref06_together.T1 : Bool × List (List Nat × List Nat) := (true, [([], []), ([0], [0]), ([], []), ([2], [2]), ([1, 3], [1, 3]), ([4], [4]), ([5], [5]), ([6, 5], [5, 6]), ([7, 5, 5], [5, 7]), ([5], [5]), ([9, 5], [5, 9]), ([10, 8, 5], [5, 10]), ([8, 11, 5], [5, 8, 11]), ([5, 12], [5, 12]), ([13, 11, 0, 1, 2, 3, 4, 5, 6, 7, 8, 9, 10, 11, 12, 13], [13])])
def arbiterref06_together.B1 : List Nat := [0, 1, 0, 4, 15, 31, 63, 127, 255, 63, 575, 2047, 4095, 8191, 16383]
theorem arbiterref06_together.tab1 : rtab .any (opsOf Tryz.f96 1) = arbiterref06_together.T1 := by kernel_rfl
theorem arbiterref06_together.bits1 : waitsOk arbiterref06_together.T1.2 arbiterref06_together.B1 = true := by kernel_rfl
set_option maxHeartbeats 8000000 in
set_option maxRecDepth 100000 in
theorem arbiterref06_together.calls (a0_0 : ByteArray) (a0_1 : ByteArray) (A0_2 : Option Addr) (c0_2 : Nat) (l0_2 : List ByteArray) (a0_3 : Int) (a0_4 : Int) (A0_5 : Option Addr) (c0_5 : Nat) (l0_5 : List (S105)) (a1_0 : ByteArray) (a1_1 : ByteArray) (A1_2 : Option Addr) (c1_2 : Nat) (l1_2 : List ByteArray) (a1_3 : Int) (a1_4 : Int) (A1_5 : Option Addr) (c1_5 : Nat) (l1_5 : List (S105)) (r : Bool) (w : World) (hr0_2 : Kd.C Kd.string w A0_2 l0_2.length l0_2) (hc0_2 : l0_2.length ≤ c0_2) (hr0_5 : Kd.C k105 w A0_5 l0_5.length l0_5) (hc0_5 : l0_5.length ≤ c0_5) (hr1_2 : Kd.C Kd.string w A1_2 l1_2.length l1_2) (hc1_2 : l1_2.length ≤ c1_2) (hr1_5 : Kd.C k105 w A1_5 l1_5.length l1_5) (hc1_5 : l1_5.length ≤ c1_5) (h : arbiterref06_together.f a0_0 a0_1 l0_2 a0_3 a0_4 l0_5 a1_0 a1_1 l1_2 a1_3 a1_4 l1_5 = some r) :
  Calls Tryz.prog 96 #[.agg #[.string a0_0, .string a0_1, .slice A0_2 l0_2.length c0_2, .int .i64 a0_3, .int .i64 a0_4, .slice A0_5 l0_5.length c0_5], .agg #[.string a1_0, .string a1_1, .slice A1_2 l1_2.length c1_2, .int .i64 a1_3, .int .i64 a1_4, .slice A1_5 l1_5.length c1_5]] w fun e w' => e = .returned (.bool r) ∧ Below w.heap.size w w' := by
 have hu85 := Tryz.underlying85; have HR0_2 := Aside0.mk hr0_2; have HC0_2 := Aside0.mk hc0_2; clear hr0_2 hc0_2; have HR0_5 := Aside0.mk hr0_5; have HC0_5 := Aside0.mk hc0_5; clear hr0_5 hc0_5; have HR1_2 := Aside0.mk hr1_2; have HC1_2 := Aside0.mk hc1_2; clear hr1_2 hc1_2; have HR1_5 := Aside0.mk hr1_5; have HC1_5 := Aside0.mk hc1_5; clear hr1_5 hc1_5; have HB := Aside0.mk (Below.refl w.heap.size w); have H : (if a0_4 = a1_4 then ((arbiterref01_Package.f a0_0).bind fun t160 => ((arbiterref01_Package.f a1_0).bind fun t161 => (some (t160.toList == t161.toList)))) else (some false)) = some r := h; clear h
 by_cases c3 : a0_4 = a1_4
 ·rw [if_pos c3] at H
  have c3b0 : (a0_4 == a1_4) = true := beq_iff_eq.mpr c3; have c3b1 : (a0_4 != a1_4) = false := bne_eq_false_iff_eq.mpr c3; clear c3; replace H := Option.bind_eq_some_iff.mp H; obtain ⟨t160, A40, H⟩ := H; replace H : ((arbiterref01_Package.f a1_0).bind fun t161 => (some (t160.toList == t161.toList))) = some r := H; have A4 := Aside0.mk A40; clear A40; replace H := Option.bind_eq_some_iff.mp H; obtain ⟨t161, A50, H⟩ := H; replace H : (some (t160.toList == t161.toList)) = some r := H; have A5 := Aside0.mk A50; clear A50; obtain rfl := Option.some.inj H; go_enter Tryz.func96, Tryz.ntmps96
  try go_wp2_with (first | ((with_reducible refine gate_dst (N := 2) rfl ?_); refine eX 2 #[.string a0_0, .string a0_1, .slice A0_2 l0_2.length c0_2, .int .i64 a0_3, .int .i64 a0_4, .slice A0_5 l0_5.length c0_5] 85 ?_; intro gb158 hg w6 hbox hb; have n0_ := Aside0.mk (below_step (bX HB) hb); have n1_ := Aside0.mk (hbox); have n2_ := Aside0.mk ((by rw [hg]; exact (below_size (bX HB)) : w.heap.size ≤ gb158)); have n3_ := Aside0.mk ((by rw [hg]; exact (below_size (bX HB)) : w.heap.size ≤ gb158)); clear HB; have HB := n0_; have BK158 := n1_; have GW158 := n2_; have GE158 := n3_; clear n0_ n1_ n2_ n3_; clear hb hbox hg) | ((with_reducible refine gate_dst (N := 3) rfl ?_); refine eX 3 #[.string a1_0, .string a1_1, .slice A1_2 l1_2.length c1_2, .int .i64 a1_3, .int .i64 a1_4, .slice A1_5 l1_5.length c1_5] 85 ?_; intro gb159 hg w7 hbox hb; have n0_ := Aside0.mk (blk_below (kX BK158) hb); have n1_ := Aside0.mk (below_step (bX1 HB GE158) hb); have n2_ := Aside0.mk (hbox); have n3_ := Aside0.mk ((by rw [hg]; exact (below_size (bX1 HB GE158)) : w.heap.size ≤ gb159)); have n4_ := Aside0.mk ((by rw [hg]; exact (below_size (bX1 HB GE158)) : w.heap.size ≤ gb159)); have n5_ := Aside0.mk ((by rw [hg]; exact Nat.ne_of_lt (blk_lt (kX BK158)) : gb158 ≠ gb159)); have n6_ := Aside0.mk ((by rw [hg]; exact Nat.ne_of_gt (blk_lt (kX BK158)) : gb159 ≠ gb158)); clear BK158; clear HB; have BK158 := n0_; have HB := n1_; have BK159 := n2_; have GW159 := n3_; have GE159 := n4_; have NB158_159 := n5_; have NB159_158 := n6_; clear n0_ n1_ n2_ n3_ n4_ n5_ n6_; clear hb hbox hg))
  have n0_ := Aside0.mk (blk_drew BK158.out); have n1_ := Aside0.mk (blk_drew BK159.out); have n2_ := Aside0.mk (below_drew1 HB.out); clear BK158; clear BK159; clear HB; have BK158 := n0_; have BK159 := n1_; have HB := n2_; clear n0_ n1_ n2_; refine start_ (n := 15) (S := fun w' => w'.cell? ⟨gb158, 0, none⟩ = some (.string a0_0) ∧ w'.cell? ⟨gb158, 1, none⟩ = some (.string a0_1) ∧ w'.cell? ⟨gb158, 2, none⟩ = some (.slice A0_2 l0_2.length c0_2) ∧ w'.cell? ⟨gb158, 3, none⟩ = some (.int .i64 a0_3) ∧ w'.cell? ⟨gb158, 4, none⟩ = some (.int .i64 a0_4) ∧ w'.cell? ⟨gb158, 5, none⟩ = some (.slice A0_5 l0_5.length c0_5) ∧ w'.cell? ⟨gb159, 0, none⟩ = some (.string a1_0) ∧ w'.cell? ⟨gb159, 1, none⟩ = some (.string a1_1) ∧ w'.cell? ⟨gb159, 2, none⟩ = some (.slice A1_2 l1_2.length c1_2) ∧ w'.cell? ⟨gb159, 3, none⟩ = some (.int .i64 a1_3) ∧ w'.cell? ⟨gb159, 4, none⟩ = some (.int .i64 a1_4) ∧ w'.cell? ⟨gb159, 5, none⟩ = some (.slice A1_5 l1_5.length c1_5)) (ds := []) #[false, false, false, false, false, false, false, false, false, false, false, false, false, false, false] (by kernel_rfl) rfl rfl ⟨(blk_cell BK158.out 0).trans rfl, (blk_cell BK158.out 1).trans rfl, (blk_cell BK158.out 2).trans rfl, (blk_cell BK158.out 3).trans rfl, (blk_cell BK158.out 4).trans rfl, (blk_cell BK158.out 5).trans rfl, (blk_cell BK159.out 0).trans rfl, (blk_cell BK159.out 1).trans rfl, (blk_cell BK159.out 2).trans rfl, (blk_cell BK159.out 3).trans rfl, (blk_cell BK159.out 4).trans rfl, (blk_cell BK159.out 5).trans rfl⟩ (fun hHeld => ?_); refine with_tabW arbiterref06_together.tab1 arbiterref06_together.bits1 (fun HT_ HW_ => ?_); generalize w7.drew = w8 at BK158 BK159 HB hHeld ⊢; refine pX HT_ 0 (some 5) ?_; refine pX HT_ 2 (some 7) ?_; refine tX HT_ HW_ hHeld 1 (some 6) ?_; refine tX HT_ HW_ hHeld 3 (some 8) ?_; refine pX HT_ 4 (some 9) ?_; refine pX HT_ 5 (some 10) ?_; refine pX HT_ 6 (some 11) ?_; refine pX HT_ 9 (some 14) ?_; refine tX HT_ HW_ hHeld 7 (some 12) ?_; refine tX HT_ HW_ hHeld 10 (some 15) ?_; refine oX HT_ 8 (some 13) (fun K hK => ?_); refine hX Tryz.func52 #[.string a0_0] ?_
  with_reducible refine (arbiterref01_Package.calls a0_0 t160 _ A4.out).mono ?_
  rintro e w9 ⟨rfl, hb⟩; refine ⟨_, rfl, ?_⟩; have n0_ := Aside0.mk (blk_below (kX BK158) hb); have n1_ := Aside0.mk (blk_below (kX BK159) hb); have n2_ := Aside0.mk (below_step (bX2 HB GE158 GE159) hb); clear BK158; clear BK159; clear HB; have BK158 := n0_; have BK159 := n1_; have HB := n2_; clear n0_ n1_ n2_
  (try clear hb)
  (try clear hb2)
  (try clear hk)
  (try clear hi)
  refine hK.out _ _ ⟨(blk_cell BK158.out 0).trans rfl, (blk_cell BK158.out 1).trans rfl, (blk_cell BK158.out 2).trans rfl, (blk_cell BK158.out 3).trans rfl, (blk_cell BK158.out 4).trans rfl, (blk_cell BK158.out 5).trans rfl, (blk_cell BK159.out 0).trans rfl, (blk_cell BK159.out 1).trans rfl, (blk_cell BK159.out 2).trans rfl, (blk_cell BK159.out 3).trans rfl, (blk_cell BK159.out 4).trans rfl, (blk_cell BK159.out 5).trans rfl⟩ (fun hHeld => ?_); clear hK K; refine nX (some 13) ?_; refine oX HT_ 11 (some 16) (fun K hK => ?_); refine hX Tryz.func52 #[.string a1_0] ?_
  with_reducible refine (arbiterref01_Package.calls a1_0 t161 _ A5.out).mono ?_
  rintro e w10 ⟨rfl, hb⟩; refine ⟨_, rfl, ?_⟩; have n0_ := Aside0.mk (blk_below (kX BK158) hb); have n1_ := Aside0.mk (blk_below (kX BK159) hb); have n2_ := Aside0.mk (below_step (bX2 HB GE158 GE159) hb); clear BK158; clear BK159; clear HB; have BK158 := n0_; have BK159 := n1_; have HB := n2_; clear n0_ n1_ n2_
  (try clear hb)
  (try clear hb2)
  (try clear hk)
  (try clear hi)
  refine hK.out _ _ ⟨(blk_cell BK158.out 0).trans rfl, (blk_cell BK158.out 1).trans rfl, (blk_cell BK158.out 2).trans rfl, (blk_cell BK158.out 3).trans rfl, (blk_cell BK158.out 4).trans rfl, (blk_cell BK158.out 5).trans rfl, (blk_cell BK159.out 0).trans rfl, (blk_cell BK159.out 1).trans rfl, (blk_cell BK159.out 2).trans rfl, (blk_cell BK159.out 3).trans rfl, (blk_cell BK159.out 4).trans rfl, (blk_cell BK159.out 5).trans rfl⟩ (fun hHeld => ?_); clear hK K; refine nX (some 16) ?_; refine pX HT_ 12 (some 17) ?_; refine pX HT_ 13 (some 18) ?_; refine pX HT_ 14 (some 4) ?_; refine done_ (done_of HT_.out (by kernel_rfl)) ?_
  try go_wp2
  go_ret
  exact ⟨by first | rfl | (simp [errW_none, errW_some] <;> rfl) | (simp [*, errW_none, errW_some] <;> rfl), bX2 HB GE158 GE159⟩
 ·rw [if_neg c3] at H
  have c3b0 : (a0_4 == a1_4) = false := beq_eq_false_iff_ne.mpr c3; have c3b1 : (a0_4 != a1_4) = true := bne_iff_ne.mpr c3; obtain rfl := Option.some.inj H; go_enter Tryz.func96, Tryz.ntmps96
  try go_wp2_with (first | ((with_reducible refine gate_dst (N := 2) rfl ?_); refine eX 2 #[.string a0_0, .string a0_1, .slice A0_2 l0_2.length c0_2, .int .i64 a0_3, .int .i64 a0_4, .slice A0_5 l0_5.length c0_5] 85 ?_; intro gb158 hg w11 hbox hb; have n0_ := Aside0.mk (below_step (bX HB) hb); have n1_ := Aside0.mk (hbox); have n2_ := Aside0.mk ((by rw [hg]; exact (below_size (bX HB)) : w.heap.size ≤ gb158)); have n3_ := Aside0.mk ((by rw [hg]; exact (below_size (bX HB)) : w.heap.size ≤ gb158)); clear HB; have HB := n0_; have BK158 := n1_; have GW158 := n2_; have GE158 := n3_; clear n0_ n1_ n2_ n3_; clear hb hbox hg) | ((with_reducible refine gate_dst (N := 3) rfl ?_); refine eX 3 #[.string a1_0, .string a1_1, .slice A1_2 l1_2.length c1_2, .int .i64 a1_3, .int .i64 a1_4, .slice A1_5 l1_5.length c1_5] 85 ?_; intro gb159 hg w12 hbox hb; have n0_ := Aside0.mk (blk_below (kX BK158) hb); have n1_ := Aside0.mk (below_step (bX1 HB GE158) hb); have n2_ := Aside0.mk (hbox); have n3_ := Aside0.mk ((by rw [hg]; exact (below_size (bX1 HB GE158)) : w.heap.size ≤ gb159)); have n4_ := Aside0.mk ((by rw [hg]; exact (below_size (bX1 HB GE158)) : w.heap.size ≤ gb159)); have n5_ := Aside0.mk ((by rw [hg]; exact Nat.ne_of_lt (blk_lt (kX BK158)) : gb158 ≠ gb159)); have n6_ := Aside0.mk ((by rw [hg]; exact Nat.ne_of_gt (blk_lt (kX BK158)) : gb159 ≠ gb158)); clear BK158; clear HB; have BK158 := n0_; have HB := n1_; have BK159 := n2_; have GW159 := n3_; have GE159 := n4_; have NB158_159 := n5_; have NB159_158 := n6_; clear n0_ n1_ n2_ n3_ n4_ n5_ n6_; clear hb hbox hg))
  have n0_ := Aside0.mk (blk_drew BK158.out); have n1_ := Aside0.mk (blk_drew BK159.out); have n2_ := Aside0.mk (below_drew1 HB.out); clear BK158; clear BK159; clear HB; have BK158 := n0_; have BK159 := n1_; have HB := n2_; clear n0_ n1_ n2_; refine start_ (n := 15) (S := fun w' => w'.cell? ⟨gb158, 0, none⟩ = some (.string a0_0) ∧ w'.cell? ⟨gb158, 1, none⟩ = some (.string a0_1) ∧ w'.cell? ⟨gb158, 2, none⟩ = some (.slice A0_2 l0_2.length c0_2) ∧ w'.cell? ⟨gb158, 3, none⟩ = some (.int .i64 a0_3) ∧ w'.cell? ⟨gb158, 4, none⟩ = some (.int .i64 a0_4) ∧ w'.cell? ⟨gb158, 5, none⟩ = some (.slice A0_5 l0_5.length c0_5) ∧ w'.cell? ⟨gb159, 0, none⟩ = some (.string a1_0) ∧ w'.cell? ⟨gb159, 1, none⟩ = some (.string a1_1) ∧ w'.cell? ⟨gb159, 2, none⟩ = some (.slice A1_2 l1_2.length c1_2) ∧ w'.cell? ⟨gb159, 3, none⟩ = some (.int .i64 a1_3) ∧ w'.cell? ⟨gb159, 4, none⟩ = some (.int .i64 a1_4) ∧ w'.cell? ⟨gb159, 5, none⟩ = some (.slice A1_5 l1_5.length c1_5)) (ds := []) #[false, false, false, false, false, false, false, false, false, false, false, false, false, false, false] (by kernel_rfl) rfl rfl ⟨(blk_cell BK158.out 0).trans rfl, (blk_cell BK158.out 1).trans rfl, (blk_cell BK158.out 2).trans rfl, (blk_cell BK158.out 3).trans rfl, (blk_cell BK158.out 4).trans rfl, (blk_cell BK158.out 5).trans rfl, (blk_cell BK159.out 0).trans rfl, (blk_cell BK159.out 1).trans rfl, (blk_cell BK159.out 2).trans rfl, (blk_cell BK159.out 3).trans rfl, (blk_cell BK159.out 4).trans rfl, (blk_cell BK159.out 5).trans rfl⟩ (fun hHeld => ?_); refine with_tabW arbiterref06_together.tab1 arbiterref06_together.bits1 (fun HT_ HW_ => ?_); generalize w12.drew = w13 at BK158 BK159 HB hHeld ⊢; refine pX HT_ 0 (some 5) ?_; refine pX HT_ 2 (some 7) ?_; refine tX HT_ HW_ hHeld 1 (some 6) ?_; refine tX HT_ HW_ hHeld 3 (some 8) ?_; refine pX HT_ 4 (some 9) ?_; refine pX HT_ 5 (some 10) ?_; refine uX HT_ 6 (some 11) ?_; refine uX HT_ 7 (some 12) ?_; refine uX HT_ 8 (some 13) ?_; refine uX HT_ 9 (some 14) ?_; refine uX HT_ 10 (some 15) ?_; refine uX HT_ 11 (some 16) ?_; refine uX HT_ 12 (some 17) ?_; refine pX HT_ 13 (some 18) ?_; refine pX HT_ 14 (some 4) ?_; refine done_ (done_of HT_.out (by kernel_rfl)) ?_
  try go_wp2
  go_ret
  exact ⟨by first | rfl | (simp [errW_none, errW_some] <;> rfl) | (simp [*, errW_none, errW_some] <;> rfl), bX2 HB GE158 GE159⟩
def arbiterref06_open.f (a0_0 : ByteArray) (a0_1 : ByteArray) (l0_2 : List ByteArray) (a0_3 : Int) (a0_4 : Int) (l0_5 : List (S105)) (a1_0 : ByteArray) (a1_1 : ByteArray) (l1_2 : List ByteArray) (a1_3 : Int) (a1_4 : Int) (l1_5 : List (S105)) : Option (Bool) := (arbiterref03_Has.f a1_3 1).bind fun t164 => (if t164 = true then (some true) else ((arbiterref06_together.f a0_0 a0_1 l0_2 a0_3 a0_4 l0_5 a1_0 a1_1 l1_2 a1_3 a1_4 l1_5).bind fun t165 => (some t165)))
set_option maxHeartbeats 8000000 in
set_option maxRecDepth 100000 in
theorem arbiterref06_open.calls (a0_0 : ByteArray) (a0_1 : ByteArray) (A0_2 : Option Addr) (c0_2 : Nat) (l0_2 : List ByteArray) (a0_3 : Int) (a0_4 : Int) (A0_5 : Option Addr) (c0_5 : Nat) (l0_5 : List (S105)) (a1_0 : ByteArray) (a1_1 : ByteArray) (A1_2 : Option Addr) (c1_2 : Nat) (l1_2 : List ByteArray) (a1_3 : Int) (a1_4 : Int) (A1_5 : Option Addr) (c1_5 : Nat) (l1_5 : List (S105)) (r : Bool) (w : World) (hr0_2 : Kd.C Kd.string w A0_2 l0_2.length l0_2) (hc0_2 : l0_2.length ≤ c0_2) (hr0_5 : Kd.C k105 w A0_5 l0_5.length l0_5) (hc0_5 : l0_5.length ≤ c0_5) (hr1_2 : Kd.C Kd.string w A1_2 l1_2.length l1_2) (hc1_2 : l1_2.length ≤ c1_2) (hr1_5 : Kd.C k105 w A1_5 l1_5.length l1_5) (hc1_5 : l1_5.length ≤ c1_5) (h : arbiterref06_open.f a0_0 a0_1 l0_2 a0_3 a0_4 l0_5 a1_0 a1_1 l1_2 a1_3 a1_4 l1_5 = some r) :
  Calls Tryz.prog 92 #[.agg #[.string a0_0, .string a0_1, .slice A0_2 l0_2.length c0_2, .int .i64 a0_3, .int .i64 a0_4, .slice A0_5 l0_5.length c0_5], .agg #[.string a1_0, .string a1_1, .slice A1_2 l1_2.length c1_2, .int .i64 a1_3, .int .i64 a1_4, .slice A1_5 l1_5.length c1_5]] w fun e w' => e = .returned (.bool r) ∧ Below w.heap.size w w' := by
 have hu85 := Tryz.underlying85; have HR0_2 := Aside0.mk hr0_2; have HC0_2 := Aside0.mk hc0_2; clear hr0_2 hc0_2; have HR0_5 := Aside0.mk hr0_5; have HC0_5 := Aside0.mk hc0_5; clear hr0_5 hc0_5; have HR1_2 := Aside0.mk hr1_2; have HC1_2 := Aside0.mk hc1_2; clear hr1_2 hc1_2; have HR1_5 := Aside0.mk hr1_5; have HC1_5 := Aside0.mk hc1_5; clear hr1_5 hc1_5; have HB := Aside0.mk (Below.refl w.heap.size w); have H : ((arbiterref03_Has.f a1_3 1).bind fun t164 => (if t164 = true then (some true) else ((arbiterref06_together.f a0_0 a0_1 l0_2 a0_3 a0_4 l0_5 a1_0 a1_1 l1_2 a1_3 a1_4 l1_5).bind fun t165 => (some t165)))) = some r := h; clear h; replace H := Option.bind_eq_some_iff.mp H; obtain ⟨t164, A30, H⟩ := H; replace H : (if t164 = true then (some true) else ((arbiterref06_together.f a0_0 a0_1 l0_2 a0_3 a0_4 l0_5 a1_0 a1_1 l1_2 a1_3 a1_4 l1_5).bind fun t165 => (some t165))) = some r := H; have A3 := Aside0.mk A30; clear A30
 by_cases c4 : t164 = true
 ·subst c4
  have H1 : (some true) = some r := by rw [if_pos rfl] at H; exact H
  clear H; have H := H1; clear H1; obtain rfl := Option.some.inj H; go_enter Tryz.func92, Tryz.ntmps92; go_wp2_with (first | ((with_reducible refine gate_dst (N := 2) rfl ?_); refine eX 2 #[.string a0_0, .string a0_1, .slice A0_2 l0_2.length c0_2, .int .i64 a0_3, .int .i64 a0_4, .slice A0_5 l0_5.length c0_5] 85 ?_; intro gb162 hg w5 hbox hb; have n0_ := Aside0.mk (below_step (bX HB) hb); have n1_ := Aside0.mk (hbox); have n2_ := Aside0.mk ((by rw [hg]; exact (below_size (bX HB)) : w.heap.size ≤ gb162)); have n3_ := Aside0.mk ((by rw [hg]; exact (below_size (bX HB)) : w.heap.size ≤ gb162)); clear HB; have HB := n0_; have BK162 := n1_; have GW162 := n2_; have GE162 := n3_; clear n0_ n1_ n2_ n3_; clear hb hbox hg) | ((with_reducible refine gate_dst (N := 3) rfl ?_); refine eX 3 #[.string a1_0, .string a1_1, .slice A1_2 l1_2.length c1_2, .int .i64 a1_3, .int .i64 a1_4, .slice A1_5 l1_5.length c1_5] 85 ?_; intro gb163 hg w6 hbox hb; have n0_ := Aside0.mk (blk_below (kX BK162) hb); have n1_ := Aside0.mk (below_step (bX1 HB GE162) hb); have n2_ := Aside0.mk (hbox); have n3_ := Aside0.mk ((by rw [hg]; exact (below_size (bX1 HB GE162)) : w.heap.size ≤ gb163)); have n4_ := Aside0.mk ((by rw [hg]; exact (below_size (bX1 HB GE162)) : w.heap.size ≤ gb163)); have n5_ := Aside0.mk ((by rw [hg]; exact Nat.ne_of_lt (blk_lt (kX BK162)) : gb162 ≠ gb163)); have n6_ := Aside0.mk ((by rw [hg]; exact Nat.ne_of_gt (blk_lt (kX BK162)) : gb163 ≠ gb162)); clear BK162; clear HB; have BK162 := n0_; have HB := n1_; have BK163 := n2_; have GW163 := n3_; have GE163 := n4_; have NB162_163 := n5_; have NB163_162 := n6_; clear n0_ n1_ n2_ n3_ n4_ n5_ n6_; clear hb hbox hg; have hnb7 := NB163_162.out; have hnc7 := NB162_163.out; obtain ⟨hcz8_0, hcz8_1, hcz8_2, hcz8_3, hcz8_4, hcz8_5, hfz8_0, hfz8_1, hfz8_2, hfz8_3, hfz8_4, hfz8_5⟩ := c6X BK163) | ((with_reducible refine gate_callee (f := 53) rfl ?_); refine gX (some 7) Tryz.func53 #[.int .i64 a1_3, .int .i64 1] ?_; (with_reducible refine (arbiterref03_Has.calls a1_3 1 true _ A3.out).mono ?_); rintro e w9 ⟨rfl, hb⟩; refine ⟨_, rfl, ?_⟩; have n0_ := Aside0.mk (blk_below (kX BK162) hb); have n1_ := Aside0.mk (blk_below (kX BK163) hb); have n2_ := Aside0.mk (below_step (bX2 HB GE162 GE163) hb); clear BK162; clear BK163; clear HB; have BK162 := n0_; have BK163 := n1_; have HB := n2_; clear n0_ n1_ n2_; (try clear hb); (try clear hb2); (try clear hk); (try clear hi))); go_ret
  exact ⟨by first | rfl | (simp [errW_none, errW_some] <;> rfl) | (simp [*, errW_none, errW_some] <;> rfl), bX2 HB GE162 GE163⟩
 ·replace c4 := Bool.eq_false_iff.mpr c4
  subst c4
  have H1 : ((arbiterref06_together.f a0_0 a0_1 l0_2 a0_3 a0_4 l0_5 a1_0 a1_1 l1_2 a1_3 a1_4 l1_5).bind fun t165 => (some t165)) = some r := by rw [if_neg (show ¬ (false = true) by decide)] at H; exact H
  clear H; have H := H1; clear H1; replace H := Option.bind_eq_some_iff.mp H; obtain ⟨t165, A100, H⟩ := H; replace H : (some t165) = some r := H; have A10 := Aside0.mk A100; clear A100; obtain rfl := Option.some.inj H; go_enter Tryz.func92, Tryz.ntmps92; go_wp2_with (first | ((with_reducible refine gate_dst (N := 2) rfl ?_); refine eX 2 #[.string a0_0, .string a0_1, .slice A0_2 l0_2.length c0_2, .int .i64 a0_3, .int .i64 a0_4, .slice A0_5 l0_5.length c0_5] 85 ?_; intro gb162 hg w11 hbox hb; have n0_ := Aside0.mk (below_step (bX HB) hb); have n1_ := Aside0.mk (hbox); have n2_ := Aside0.mk ((by rw [hg]; exact (below_size (bX HB)) : w.heap.size ≤ gb162)); have n3_ := Aside0.mk ((by rw [hg]; exact (below_size (bX HB)) : w.heap.size ≤ gb162)); clear HB; have HB := n0_; have BK162 := n1_; have GW162 := n2_; have GE162 := n3_; clear n0_ n1_ n2_ n3_; clear hb hbox hg) | ((with_reducible refine gate_dst (N := 3) rfl ?_); refine eX 3 #[.string a1_0, .string a1_1, .slice A1_2 l1_2.length c1_2, .int .i64 a1_3, .int .i64 a1_4, .slice A1_5 l1_5.length c1_5] 85 ?_; intro gb163 hg w12 hbox hb; have n0_ := Aside0.mk (blk_below (kX BK162) hb); have n1_ := Aside0.mk (below_step (bX1 HB GE162) hb); have n2_ := Aside0.mk (hbox); have n3_ := Aside0.mk ((by rw [hg]; exact (below_size (bX1 HB GE162)) : w.heap.size ≤ gb163)); have n4_ := Aside0.mk ((by rw [hg]; exact (below_size (bX1 HB GE162)) : w.heap.size ≤ gb163)); have n5_ := Aside0.mk ((by rw [hg]; exact Nat.ne_of_lt (blk_lt (kX BK162)) : gb162 ≠ gb163)); have n6_ := Aside0.mk ((by rw [hg]; exact Nat.ne_of_gt (blk_lt (kX BK162)) : gb163 ≠ gb162)); clear BK162; clear HB; have BK162 := n0_; have HB := n1_; have BK163 := n2_; have GW163 := n3_; have GE163 := n4_; have NB162_163 := n5_; have NB163_162 := n6_; clear n0_ n1_ n2_ n3_ n4_ n5_ n6_; clear hb hbox hg; have hnb13 := NB163_162.out; have hnc13 := NB162_163.out; obtain ⟨hcz14_0, hcz14_1, hcz14_2, hcz14_3, hcz14_4, hcz14_5, hfz14_0, hfz14_1, hfz14_2, hfz14_3, hfz14_4, hfz14_5⟩ := c6X BK163) | ((with_reducible refine gate_callee (f := 53) rfl ?_); refine gX (some 7) Tryz.func53 #[.int .i64 a1_3, .int .i64 1] ?_; (with_reducible refine (arbiterref03_Has.calls a1_3 1 false _ A3.out).mono ?_); rintro e w15 ⟨rfl, hb⟩; refine ⟨_, rfl, ?_⟩; have n0_ := Aside0.mk (blk_below (kX BK162) hb); have n1_ := Aside0.mk (blk_below (kX BK163) hb); have n2_ := Aside0.mk (below_step (bX2 HB GE162 GE163) hb); clear BK162; clear BK163; clear HB; have BK162 := n0_; have BK163 := n1_; have HB := n2_; clear n0_ n1_ n2_; (try clear hb); (try clear hb2); (try clear hk); (try clear hi); obtain ⟨hcz16_0, hcz16_1, hcz16_2, hcz16_3, hcz16_4, hcz16_5, hfz16_0, hfz16_1, hfz16_2, hfz16_3, hfz16_4, hfz16_5⟩ := c6X BK162; obtain ⟨hcz17_0, hcz17_1, hcz17_2, hcz17_3, hcz17_4, hcz17_5, hfz17_0, hfz17_1, hfz17_2, hfz17_3, hfz17_4, hfz17_5⟩ := c6X BK163) | (go_at_call 96; (with_reducible refine (arbiterref06_together.calls a0_0 a0_1 _ _ l0_2 a0_3 a0_4 _ _ l0_5 a1_0 a1_1 _ _ l1_2 a1_3 a1_4 _ _ l1_5 t165 _ ?side1 ?side2 ?side3 ?side4 ?side5 ?side6 ?side7 ?side8 A10.out).mono ?_); (case side1 => repeat (first | exact (Kd.C_below HR0_2.out HB.out) | (with_reducible refine Kd.C_alloc ?_ _) | (with_reducible refine Kd.C_drewN ?_ _) | (with_reducible refine Kd.C_drew ?_))); (case side2 => exact HC0_2.out); (case side3 => repeat (first | exact (Kd.C_below HR0_5.out HB.out) | (with_reducible refine Kd.C_alloc ?_ _) | (with_reducible refine Kd.C_drewN ?_ _) | (with_reducible refine Kd.C_drew ?_))); (case side4 => exact HC0_5.out); (case side5 => repeat (first | exact (Kd.C_below HR1_2.out HB.out) | (with_reducible refine Kd.C_alloc ?_ _) | (with_reducible refine Kd.C_drewN ?_ _) | (with_reducible refine Kd.C_drew ?_))); (case side6 => exact HC1_2.out); (case side7 => repeat (first | exact (Kd.C_below HR1_5.out HB.out) | (with_reducible refine Kd.C_alloc ?_ _) | (with_reducible refine Kd.C_drewN ?_ _) | (with_reducible refine Kd.C_drew ?_))); (case side8 => exact HC1_5.out); rintro e w18 ⟨rfl, hb⟩; have n0_ := Aside0.mk (blk_below (kX BK162) hb); have n1_ := Aside0.mk (blk_below (kX BK163) hb); have n2_ := Aside0.mk (below_step (bX2 HB GE162 GE163) hb); clear BK162; clear BK163; clear HB; have BK162 := n0_; have BK163 := n1_; have HB := n2_; clear n0_ n1_ n2_; (try clear hb); (try clear hb2); (try clear hk); (try clear hi))); go_ret
  exact ⟨by first | rfl | (simp [errW_none, errW_some] <;> rfl) | (simp [*, errW_none, errW_some] <;> rfl), bX2 HB GE162 GE163⟩
end Go.Proofs.YtaipkdglhfhhiaaGreatDoor.Pt

namespace Go.Proofs.YtaipkdglhfhhiaaGreatDoor.Pt
open Go Go.RowKit Go.Proofs.YtaipkdglhfhhiaaGreatDoor.Nm Go.Proofs.YtaipkdglhfhhiaaGreatDoor.Ty Go.Proofs.YtaipkdglhfhhiaaGreatDoor.Hi Go.Proofs.YtaipkdglhfhhiaaGreatDoorW.PrintWords
set_option linter.unusedVariables false
set_option linter.unusedSimpArgs false
def csOf (es : List Ent) : List S85 := es.map (·.c)
theorem cs_len (es : List Ent) : (csOf es).length = es.length := List.length_map _
theorem cs_rd {es : List Ent} {i : Int} (h0 : 0 ≤ i) (h1 : i < es.length) : rd_T85 (csOf es) i = (ent es i).c := by
 have hi : i.toNat < es.length := by omega
 simp [rd_T85, csOf, ent, List.getD_eq_getElem?_getD, List.getElem?_eq_getElem hi]
theorem num_wrap {j : Nat} (h : j ≤ 1000000) : wrap64 ((j : Int) + 1) = ((j + 1 : Nat) : Int) := by
 rw [wrap_small' (by omega) (by omega)]; push_cast
 rfl
def rnm (es : List Ent) (s : ByteArray) : Int := if (nameF es s).2 = 0 then (nameF es s).1 else -1
def idxR (L : List ByteArray) (s : ByteArray) (i : Nat) : Int := match (L.drop i).findIdx? (fun t => decide (t = s)) with | some j => ((i + j : Nat) : Int) | none => -1
theorem idxR_step {L : List ByteArray} {s : ByteArray} {i : Nat} (hi : i < L.length) : idxR L s i = if L[i] = s then (i : Int) else idxR L s (i + 1) := by
 unfold idxR; rw [List.drop_eq_getElem_cons hi, List.findIdx?_cons]
 by_cases h : L[i] = s
 ·rw [if_pos h, decide_eq_true h]
  simp
 ·rw [if_neg h, decide_eq_false h]
  cases (L.drop (i + 1)).findIdx? (fun t => decide (t = s)) with
  | none => simp
  | some j => simp; omega
theorem named_l0 (es : List Ent) (hl : es.length ≤ 1000) (s : ByteArray) : ∀ (d i k : Nat), i ≤ es.length → es.length - i ≤ d → d < k → arbiterref06_named.l0 k (csOf es) s i = some (idxR (es.map (·.c.f0)) s i) := by
 intro d
 induction d with
 | zero =>
  intro i k hi hd hk
  obtain ⟨k, rfl⟩ : ∃ m, k = m + 1 := ⟨k - 1, by omega⟩
  simp only [arbiterref06_named.l0]; rw [cs_len, if_neg (by omega)]; unfold idxR; rw [List.drop_eq_nil_of_le (by rw [List.length_map]; omega)]
  rfl
 | succ d ih =>
  intro i k hi hd hk
  obtain ⟨k, rfl⟩ : ∃ m, k = m + 1 := ⟨k - 1, by omega⟩
  by_cases hlt : i < es.length
  ·simp only [arbiterref06_named.l0]
   rw [cs_len, if_pos (by omega : (i : Int) < es.length), if_pos (by omega : 0 ≤ (i : Int)), cs_rd (by omega) (by omega)]
   have hm : i < (es.map (·.c.f0)).length := by rw [List.length_map]; exact hlt
   rw [idxR_step hm]
   have he : (es.map (·.c.f0))[i] = (ent es (i : Int)).c.f0 := by
    simp [ent, List.getD_eq_getElem?_getD, List.getElem?_eq_getElem hlt]
   rw [he]
   by_cases h : (ent es (i : Int)).c.f0 = s
   ·rw [if_pos h, if_pos (by rw [h])]
   ·rw [if_neg h, if_neg (fun e => h (ba_eq e)), num_wrap (by omega)]
    exact ih (i + 1) k (by omega) (by omega) (by omega)
  ·simp only [arbiterref06_named.l0]
   rw [cs_len, if_neg (by omega)]; unfold idxR; rw [List.drop_eq_nil_of_le (by rw [List.length_map]; omega)]
   rfl
theorem named_ok (es : List Ent) (hl : es.length ≤ 1000) (s : ByteArray) (k : Nat) (hk : es.length < k) : arbiterref06_named.f k (csOf es) s = some (rnm es s) := by
 unfold arbiterref06_named.f; have := named_l0 es hl s es.length 0 k (by omega) (by omega) hk; rw [show ((0 : Nat) : Int) = 0 from rfl] at this; rw [this]; unfold idxR rnm nameF; rw [List.drop_zero]
 cases (es.map (·.c.f0)).findIdx? (fun t => decide (t = s)) with
 | none => rfl
 | some j => simp
theorem in_ok (es : List Ent) (i : Int) : arbiterref06_In.f (csOf es) i = some (inB es i) := by
 unfold arbiterref06_In.f inB; rw [cs_len]
 by_cases h : i ≥ 0
 ·rw [if_pos h]
  congr 1
  simp
  omega
 ·rw [if_neg h, decide_eq_false (by omega)]
theorem isif_ok (es : List Ent) (i : Int) : arbiterref06_IsIface.f (csOf es) i = some (inB es i && isI (ent es i).c) := by
 unfold arbiterref06_IsIface.f; rw [in_ok, Option.bind_some]
 cases h : inB es i with
 | false => rfl
 | true =>
  have h2 : 0 ≤ i ∧ i < es.length := of_decide_eq_true h; rw [if_pos rfl, if_pos h2.1, cs_len, if_pos h2.2, cs_rd h2.1 h2.2]
  rfl
theorem open_ok (c p : S85) (h0 : c.f0.size < 4611686018427387904) (h1 : p.f0.size < 4611686018427387904) : arbiterref06_open.f c.f0 c.f1 c.f2 c.f3 c.f4 c.f5 p.f0 p.f1 p.f2 p.f3 p.f4 p.f5 = some (Go.bits .and .i64 p.f3 1 != 0 || tog c p) := by
 unfold arbiterref06_open.f arbiterref03_Has.f arbiterref06_together.f arbiterref01_Package.f tog; rw [Option.bind_some]; change (if (Go.bits .and .i64 p.f3 1 != 0) = true then _ else _) = _
 cases Go.bits .and .i64 p.f3 1 != 0 with
 | true => rfl
 | false =>
  rw [if_neg (by decide), if_pos h0, if_pos h1, Bool.false_or]
  by_cases h : c.f4 = p.f4
  ·rw [if_pos h, h]
   simp
  ·rw [if_neg h, beq_eq_false_iff_ne.2 h]
   rfl
def takeB (es : List Ent) (c : S85) : Bool :=
 chkC c == 0 && (!decide (es.length ≥ 300) && (decide (rnm es c.f0 < 0) && ((aboveF es c c.f1 false).2 == 0 && c.f2.all fun n => (aboveF es c n true).2 == 0)))
theorem ifsF_all (es : List Ent) (c : S85) : ∀ l : List ByteArray, ((ifsF es c l).1 == 0) = l.all fun n => (aboveF es c n true).2 == 0
 | [] => rfl
 | n :: l => by
  unfold ifsF; rw [List.all_cons]
  by_cases h : (aboveF es c n true).2 = 0
  ·rw [if_pos h, beq_iff_eq.2 h, Bool.true_and]
   exact ifsF_all es c l
  ·rw [if_neg h, beq_eq_false_iff_ne.2 h, Bool.false_and]
theorem rnm_neg (es : List Ent) (s : ByteArray) : rnm es s < 0 ↔ ¬ (nameF es s).2 = 0 := by
 unfold rnm
 by_cases h : (nameF es s).2 = 0
 ·rw [if_pos h]
  have := nameF_in h
  constructor
  ·intro h2; omega
  ·intro h2; exact absurd h h2
 ·rw [if_neg h]
  exact ⟨fun _ => h, fun _ => by omega⟩
theorem cs_step (es : List Ent) (c : S85) : csOf (stepF es c) = if takeB es c = true then csOf es ++ [c] else csOf es := by
 unfold stepF defF takeB
 by_cases h0 : chkC c = 0
 ·rw [if_neg (fun h => h h0), beq_iff_eq.2 h0, Bool.true_and]
  by_cases h1 : es.length ≥ 300
  ·rw [if_pos h1, decide_eq_true h1]; rfl
  ·rw [if_neg h1, decide_eq_false h1, Bool.not_false, Bool.true_and]
   by_cases h2 : (nameF es c.f0).2 = 0
   ·rw [if_pos h2, decide_eq_false (fun h => (rnm_neg es c.f0).1 h h2), Bool.false_and]; rfl
   ·rw [if_neg h2, decide_eq_true ((rnm_neg es c.f0).2 h2), Bool.true_and]
    by_cases h3 : (aboveF es c c.f1 false).2 = 0
    ·rw [if_neg (fun h => h h3), beq_iff_eq.2 h3, Bool.true_and, ← ifsF_all]
     by_cases h4 : (ifsF es c c.f2).1 = 0
     ·rw [if_neg (fun h => h h4), beq_iff_eq.2 h4, if_pos rfl]
      simp [csOf, putE]
     ·rw [if_pos h4, beq_eq_false_iff_ne.2 h4]; rfl
    ·rw [if_pos h3, beq_eq_false_iff_ne.2 h3, Bool.false_and]; rfl
 ·rw [if_pos h0, beq_eq_false_iff_ne.2 h0, Bool.false_and]; rfl
theorem sup_ok (es : List Ent) (c : S85) (n : ByteArray) : ((aboveF es c n false).2 == 0) = (!decide (rnm es n < 0) && (!(isI (ent es (rnm es n)).c || (isI c && rnm es n != 0)) && (Go.bits .and .i64 (ent es (rnm es n)).c.f3 1 != 0 || tog c (ent es (rnm es n)).c))) := by
 unfold aboveF
 by_cases h : (nameF es n).2 = 0
 ·have e : rnm es n = (nameF es n).1 := if_pos h
  rw [if_pos h, decide_eq_false (fun h2 => (rnm_neg es n).1 h2 h), Bool.not_false, Bool.true_and, e]; unfold fitF; generalize (nameF es n).1 = i; generalize isI (ent es i).c = a; generalize isI c = b; generalize hd : (i != 0) = d; generalize tog c (ent es i).c = t; rw [show (Go.bits .and .i64 (ent es i).c.f3 1 != 0) = !(Go.bits .and .i64 (ent es i).c.f3 1 == 0) from rfl]; generalize (Go.bits .and .i64 (ent es i).c.f3 1 == 0) = p
  cases a <;> cases b <;> cases d <;> cases t <;> cases p <;> rfl
 ·rw [if_neg h, decide_eq_true ((rnm_neg es n).2 h)]; rfl
theorem if_ok (es : List Ent) (c : S85) (n : ByteArray) : ((aboveF es c n true).2 == 0) = (!decide (rnm es n < 0) && (isI (ent es (rnm es n)).c && (Go.bits .and .i64 (ent es (rnm es n)).c.f3 1 != 0 || tog c (ent es (rnm es n)).c))) := by
 unfold aboveF
 by_cases h : (nameF es n).2 = 0
 ·have e : rnm es n = (nameF es n).1 := if_pos h
  rw [if_pos h, decide_eq_false (fun h2 => (rnm_neg es n).1 h2 h), Bool.not_false, Bool.true_and, e]; unfold fitF; generalize (nameF es n).1 = i; generalize isI (ent es i).c = a; generalize tog c (ent es i).c = t; rw [show (Go.bits .and .i64 (ent es i).c.f3 1 != 0) = !(Go.bits .and .i64 (ent es i).c.f3 1 == 0) from rfl]; generalize (Go.bits .and .i64 (ent es i).c.f3 1 == 0) = p
  cases a <;> cases t <;> cases p <;> rfl
 ·rw [if_neg h, decide_eq_true ((rnm_neg es n).2 h)]; rfl
theorem rnm_in {es : List Ent} {n : ByteArray} (h : ¬ rnm es n < 0) : 0 ≤ rnm es n ∧ rnm es n < es.length ∧ (ent es (rnm es n)).c.f0 = n := by
 have h2 : (nameF es n).2 = 0 := Classical.byContradiction fun h3 => h ((rnm_neg es n).2 h3); have e : rnm es n = (nameF es n).1 := if_pos h2; rw [e]
 exact nameF_in h2
end Go.Proofs.YtaipkdglhfhhiaaGreatDoor.Pt

namespace Go.Proofs.YtaipkdglhfhhiaaGreatDoor.Hi
open Go Go.RowKit Go.Proofs.YtaipkdglhfhhiaaGreatDoor.Nm Go.Proofs.YtaipkdglhfhhiaaGreatDoorW.PrintWords Go.Proofs.YtaipkdglhfhhiaaGreatDoorW.PrintLast Go.Proofs.YtaipkdglhfhhiaaGreatDoorW.PrintMore Go.Proofs.YtaipkdglhfhhiaaGreatDoor.Pt
set_option linter.unusedVariables false
set_option linter.unusedSimpArgs false
set_option maxRecDepth 100000
theorem ent_take {es : List Ent} {n : Nat} {k : Int} (h0 : 0 ≤ k) (h1 : k < n) : ent (es.take n) k = ent es k := by
 unfold ent; rw [List.getD_eq_getElem?_getD, List.getD_eq_getElem?_getD, List.getElem?_take_of_lt (by omega)]
structure Src (es : List Ent) (i : Int) : Prop where
 len : (ent es i).c.f2.length ≤ 20
 sup : 1 ≤ i → (ent es (ent es i).above).c.f0 = (ent es i).c.f1
 ifs : ∀ n ∈ (ent es i).c.f2, ∃ k, 0 ≤ k ∧ k < i ∧ (ent es k).c.f0 = n ∧ isI (ent es k).c = true ∧ k ∈ (ent es i).clo
 clo : 1 ≤ i → ∀ j ∈ (ent es i).clo, j ∈ (ent es (ent es i).above).clo ∨ ∃ n ∈ (ent es i).c.f2, ∃ k, 0 ≤ k ∧ k < i ∧ (ent es k).c.f0 = n ∧ (j = k ∨ j ∈ (ent es k).clo)
theorem Thy.src_ {es : List Ent} (h : Thy es) {i : Int} (h0 : 0 ≤ i) (h1 : i < es.length) : Src es i := by
 by_cases h3 : 3 ≤ i
 ·have hx := get_ent h0 h1
  have ht := h.src _ _ hx (by omega); obtain ⟨s0, s1, s2, s3, s5⟩ := sound_sizes ht.sound; have hsp := aboveF_in ht.sup
  have hl : (es.take i.toNat).length = i.toNat := by rw [List.length_take]; omega
  rw [hl] at hsp
  have ha : (ent es i).above = (aboveF (es.take i.toNat) (ent es i).c (ent es i).c.f1 false).1 := by
   have := ht.isx; rw [this]
   rfl
  have hclo : (ent es i).clo = closF (es.take i.toNat) (ent (es.take i.toNat) (ent es i).above).clo ((ent es i).c.f2.map fun n => (aboveF (es.take i.toNat) (ent es i).c n true).1) := by
   have := congrArg Ent.clo ht.isx; rw [this, ha]
   show closF _ _ _ = _
   rw [if_pos hsp.1]
  have hif : ∀ n ∈ (ent es i).c.f2, 0 ≤ (aboveF (es.take i.toNat) (ent es i).c n true).1 ∧ (aboveF (es.take i.toNat) (ent es i).c n true).1 < i ∧ (ent es (aboveF (es.take i.toNat) (ent es i).c n true).1).c.f0 = n ∧ isI (ent es (aboveF (es.take i.toNat) (ent es i).c n true).1).c = true := by
   intro n hn; have h4 := aboveF_in (ht.ifs n hn); have h5 := (aboveF_fit (ht.ifs n hn)).1; rw [hl] at h4; have h6 := (nameF_in h4.2.2.2).2.2; rw [← h4.2.2.1] at h6; rw [ent_take h4.1 h4.2.1] at h5 h6
   exact ⟨h4.1, by omega, h6, h5⟩
  refine ⟨s2, fun _ => ?_, fun n hn => ?_, fun _ j hj => ?_⟩
  ·rw [ha]
   have h6 := (nameF_in hsp.2.2.2).2.2; rw [← hsp.2.2.1, ent_take hsp.1 hsp.2.1] at h6
   exact h6
  ·obtain ⟨a1, a2, a3, a4⟩ := hif n hn
   refine ⟨_, a1, a2, a3, a4, ?_⟩; rw [hclo]
   exact mem_closF.2 (.inr ⟨_, List.mem_map_of_mem hn, .inl rfl⟩)
  ·rw [hclo] at hj
   rcases mem_closF.1 hj with hj | ⟨k, hk, hj⟩
   ·rw [ent_take (by rw [ha]; exact hsp.1) (by rw [ha]; exact hsp.2.1)] at hj
    exact .inl hj
   ·obtain ⟨n, hn, rfl⟩ := List.mem_map.1 hk
    obtain ⟨a1, a2, a3, a4⟩ := hif n hn; rw [ent_take a1 (by omega)] at hj
    exact .inr ⟨n, hn, _, a1, a2, a3, hj⟩
 ·obtain ⟨o0, o1, o2⟩ := h.obj
  have : i = 0 ∨ i = 1 ∨ i = 2 := by omega
  rcases this with rfl | rfl | rfl
  ·refine ⟨by rw [o0]; decide, fun h => absurd h (by omega), fun n hn => ?_, fun h => absurd h (by omega)⟩
   rw [o0] at hn
   cases hn
  ·refine ⟨by rw [o1]; decide, fun _ => by rw [o1]; show (ent es 0).c.f0 = _; rw [o0]; rfl, fun n hn => ?_, fun _ j hj => ?_⟩
   ·rw [o1] at hn
    cases hn
   ·rw [o1] at hj
    cases hj
  ·refine ⟨by rw [o2]; decide, fun _ => by rw [o2]; show (ent es 0).c.f0 = _; rw [o0]; rfl, fun n hn => ?_, fun _ j hj => ?_⟩
   ·rw [o2] at hn
    cases hn
   ·rw [o2] at hj
    cases hj
end Go.Proofs.YtaipkdglhfhhiaaGreatDoor.Hi

namespace Go.Proofs.YtaipkdglhfhhiaaGreatDoor.Hi
open Go Go.RowKit Go.Proofs.YtaipkdglhfhhiaaGreatDoor.Nm Go.Proofs.YtaipkdglhfhhiaaGreatDoorW.PrintWords Go.Proofs.YtaipkdglhfhhiaaGreatDoorW.PrintLast Go.Proofs.YtaipkdglhfhhiaaGreatDoorW.PrintMore Go.Proofs.YtaipkdglhfhhiaaGreatDoor.Pt
set_option linter.unusedVariables false
set_option linter.unusedSimpArgs false
set_option maxRecDepth 100000
def chL (es : List Ent) (a : Int) : List Int := chainL es es.length a
theorem chain_more {es : List Ent} (h : Tree es) : ∀ (k : Nat) (a : Int), 0 ≤ a → a < es.length → (ent es a).depth < k → ∀ j, chainL es (k + j) a = chainL es k a
 | 0, a, h0, h1, hk, j => by
  have := (h.depth_ h0 h1).1
  omega
 | k + 1, a, h0, h1, hk, j => by
  rw [show k + 1 + j = (k + j) + 1 by omega, chainL, chainL]
  rcases h.at_ h0 h1 with ⟨h2, hz⟩ | ⟨h2, h3, hz⟩
  ·rw [if_pos (by omega), if_pos (by omega)]
  ·rw [if_neg (by omega), if_neg (by omega), chain_more h k _ h2 (by omega) (by omega) j]
theorem chL_up {es : List Ent} (h : Tree es) {a : Int} (h0 : 0 ≤ a) (h1 : a < es.length) : chL es a = a :: (if (ent es a).above < 0 then [] else chL es (ent es a).above) := by
 unfold chL
 obtain ⟨N, hN⟩ : ∃ N, es.length = N + 1 := ⟨es.length - 1, by omega⟩
 rw [hN, chainL]
 rcases h.at_ h0 h1 with ⟨h2, hz⟩ | ⟨h2, h3, hz⟩
 ·rw [if_pos (by omega), if_pos (by omega)]
 ·rw [if_neg (by omega), if_neg (by omega), chain_more h N _ h2 (by omega) (by have := (h.depth_ h2 (by omega)).2; omega) 1]
theorem chL_top {es : List Ent} (h : Tree es) {a : Int} (h0 : 0 ≤ a) (h1 : a < es.length) (ha : (ent es a).above < 0) : chL es a = [a] := by
 rw [chL_up h h0 h1, if_pos ha]
theorem chL_step {es : List Ent} (h : Tree es) {a : Int} (h0 : 0 ≤ a) (h1 : a < es.length) (ha : ¬ (ent es a).above < 0) : chL es a = a :: chL es (ent es a).above ∧ 0 ≤ (ent es a).above ∧ (ent es a).above < a := by
 rcases h.at_ h0 h1 with ⟨h2, hz⟩ | ⟨h2, h3, hz⟩
 ·omega
 ·exact ⟨by rw [chL_up h h0 h1, if_neg ha], h2, h3⟩
theorem tree_ind {es : List Ent} (h : Tree es) {P : Int → Prop} (top : ∀ a : Int, 0 ≤ a → a < es.length → (ent es a).above < 0 → (ent es a).depth = 0 → P a)
  (up : ∀ a : Int, 0 ≤ a → a < es.length → 0 ≤ (ent es a).above → (ent es a).above < a → (ent es a).depth = (ent es (ent es a).above).depth + 1 → P (ent es a).above → P a) : ∀ (n : Nat) (a : Int), a.toNat < n → 0 ≤ a → a < es.length → P a
 | 0, a, hn, _, _ => absurd hn (by omega)
 | n + 1, a, hn, h0, h1 => by
  rcases h.at_ h0 h1 with ⟨h2, hz⟩ | ⟨h2, h3, hz⟩
  ·exact top a h0 h1 (by omega) hz
  ·exact up a h0 h1 h2 h3 hz (tree_ind h top up n _ (by omega) h2 (by omega))
theorem chL_len {es : List Ent} (h : Tree es) {a : Int} (h0 : 0 ≤ a) (h1 : a < es.length) : ((chL es a).length : Int) = (ent es a).depth + 1 := by
 refine tree_ind h (P := fun a => ((chL es a).length : Int) = (ent es a).depth + 1) (fun a h0 h1 ha hd => ?_) (fun a h0 h1 ha ha2 hd ih => ?_) _ a (Nat.lt_succ_self _) h0 h1
 ·rw [chL_top h h0 h1 ha, hd]; rfl
 ·rw [(chL_step h h0 h1 (by omega)).1, List.length_cons, hd]
  push_cast
  omega
theorem chL_anc {es : List Ent} (h : Tree es) {a : Int} (h0 : 0 ≤ a) (h1 : a < es.length) (b : Int) : b ∈ chL es a ↔ Anc es a b := by
 refine tree_ind h (P := fun a => b ∈ chL es a ↔ Anc es a b) (fun a h0 h1 ha hd => ?_) (fun a h0 h1 ha ha2 hd ih => ?_) _ a (Nat.lt_succ_self _) h0 h1
 ·rw [chL_top h h0 h1 ha, List.mem_singleton]
  constructor
  ·rintro rfl; exact .refl _
  ·intro hb
   cases hb with
   | refl => rfl
   | up _ _ h2 _ => omega
 ·rw [(chL_step h h0 h1 (by omega)).1, List.mem_cons, ih]
  constructor
  ·rintro (rfl | hb)
   ·exact .refl _
   ·exact .up _ _ ha hb
  ·intro hb
   cases hb with
   | refl => exact .inl rfl
   | up _ _ _ h2 => exact .inr h2
theorem foldI_app (k m acc : List Int) : foldI (k ++ m) acc = foldI m (foldI k acc) := List.foldl_append
theorem addI_in {l : List Int} {i : Int} (h : i ∈ l) : addI l i = l := by
 unfold addI; rw [if_pos (by simpa using h)]
theorem addI_new {l : List Int} {i : Int} (h : i ∉ l) : addI l i = l ++ [i] := by
 unfold addI; rw [if_neg (by simpa using h)]
theorem foldI_in {ks : List Int} : ∀ {l : List Int}, (∀ k ∈ ks, k ∈ l) → foldI ks l = l := by
 induction ks with
 | nil => exact fun _ => rfl
 | cons a ks ih =>
  intro l h
  show foldI ks (addI l a) = l
  rw [addI_in (h a List.mem_cons_self)]
  exact ih fun k hk => h k (List.mem_cons_of_mem _ hk)
theorem foldI_add (c l : List Int) (k : Int) : foldI (addI c k) l = addI (foldI c l) k := by
 by_cases h : k ∈ c
 ·rw [addI_in h, addI_in (mem_foldI.2 (.inr h))]
 ·rw [addI_new h, foldI_app]
  rfl
theorem foldI_foldI (ks c l : List Int) : foldI (foldI ks c) l = foldI ks (foldI c l) := by
 induction ks generalizing c with
 | nil => rfl
 | cons a ks ih =>
  show foldI (foldI ks (addI c a)) l = foldI ks (addI (foldI c l) a)
  rw [ih, foldI_add]
theorem foldI_closF (es : List Ent) (ifs c l : List Int) : foldI (closF es c ifs) l = closF es (foldI c l) ifs := by
 induction ifs generalizing c with
 | nil => rfl
 | cons a ifs ih =>
  show foldI (closF es (addI (foldI (ent es a).clo c) a) ifs) l = closF es (addI (foldI (ent es a).clo (foldI c l)) a) ifs
  rw [ih, foldI_add, foldI_foldI]
theorem Thy.clo_eq {es : List Ent} (h : Thy es) {i : Int} (h0 : 1 ≤ i) (h1 : i < es.length) : ∃ ks : List Int, (ent es i).clo = closF es (ent es (ent es i).above).clo ks ∧ ks.length = (ent es i).c.f2.length ∧
  ∀ (j : Nat) (n : ByteArray), (ent es i).c.f2[j]? = some n → ∃ k, ks[j]? = some k ∧ 0 ≤ k ∧ k < i ∧ (ent es k).c.f0 = n := by
 by_cases h3 : 3 ≤ i
 ·have hx := get_ent (show 0 ≤ i by omega) h1
  have ht := h.src _ _ hx (by omega); have hsp := aboveF_in ht.sup
  have hl : (es.take i.toNat).length = i.toNat := by rw [List.length_take]; omega
  rw [hl] at hsp
  have ha : (ent es i).above = (aboveF (es.take i.toNat) (ent es i).c (ent es i).c.f1 false).1 := by
   have := ht.isx; rw [this]
   rfl
  have hclo : (ent es i).clo = closF (es.take i.toNat) (ent (es.take i.toNat) (ent es i).above).clo ((ent es i).c.f2.map fun n => (aboveF (es.take i.toNat) (ent es i).c n true).1) := by
   have := congrArg Ent.clo ht.isx; rw [this, ha]
   show closF _ _ _ = _
   rw [if_pos hsp.1]
  have hif : ∀ n ∈ (ent es i).c.f2, 0 ≤ (aboveF (es.take i.toNat) (ent es i).c n true).1 ∧ (aboveF (es.take i.toNat) (ent es i).c n true).1 < i ∧ (ent es (aboveF (es.take i.toNat) (ent es i).c n true).1).c.f0 = n := by
   intro n hn; have h4 := aboveF_in (ht.ifs n hn); rw [hl] at h4; have h6 := (nameF_in h4.2.2.2).2.2; rw [← h4.2.2.1] at h6; rw [ent_take h4.1 h4.2.1] at h6
   exact ⟨h4.1, by omega, h6⟩
  have hco : ∀ (ks acc : List Int), (∀ k ∈ ks, 0 ≤ k ∧ k < i) → closF (es.take i.toNat) acc ks = closF es acc ks := by
   intro ks
   induction ks with
   | nil => exact fun _ _ => rfl
   | cons a ks ih =>
    intro acc hk
    show closF (es.take i.toNat) (addI (foldI (ent (es.take i.toNat) a).clo acc) a) ks = closF es (addI (foldI (ent es a).clo acc) a) ks
    have := hk a List.mem_cons_self; rw [ent_take this.1 (by omega)]
    exact ih _ fun k hk2 => hk k (List.mem_cons_of_mem _ hk2)
  refine ⟨(ent es i).c.f2.map fun n => (aboveF (es.take i.toNat) (ent es i).c n true).1, ?_, by rw [List.length_map], fun j n hj => ?_⟩
  ·conv => lhs; rw [hclo]
   rw [ent_take (by rw [ha]; exact hsp.1) (by rw [ha]; exact hsp.2.1)]; refine hco _ _ fun k hk => ?_; obtain ⟨n, hn, rfl⟩ := List.mem_map.1 hk
   exact ⟨(hif n hn).1, (hif n hn).2.1⟩
  ·have hn := List.mem_of_getElem? hj
   refine ⟨_, by rw [List.getElem?_map, hj]; rfl, (hif n hn).1, (hif n hn).2.1, (hif n hn).2.2⟩
 ·obtain ⟨o0, o1, o2⟩ := h.obj
  have : i = 1 ∨ i = 2 := by omega
  rcases this with rfl | rfl
  ·refine ⟨[], ?_, ?_, fun j n hj => ?_⟩
   ·rw [o1]; show _ = closF es (ent es 0).clo []; rw [o0]; rfl
   ·rw [o1]; rfl
   ·rw [o1] at hj; simp [ifaceC] at hj
  ·refine ⟨[], ?_, ?_, fun j n hj => ?_⟩
   ·rw [o2]; show _ = closF es (ent es 0).clo []; rw [o0]; rfl
   ·rw [o2]; rfl
   ·rw [o2] at hj; simp [ifaceC] at hj
end Go.Proofs.YtaipkdglhfhhiaaGreatDoor.Hi

namespace Go.Proofs.YtaipkdglhfhhiaaGreatDoor.Pt
open Go.RowKit Go.Proofs.YtaipkdglhfhhiaaGreatDoorW.PrintWords Go.Proofs.YtaipkdglhfhhiaaGreatDoorW.PrintLast Go.Proofs.YtaipkdglhfhhiaaGreatDoorW.PrintMore
attribute [local go_sem] max2_int min2_int max_two min_two max_three min_three max_four min_four   -- for this text's walks alone
set_option linter.unusedVariables false
set_option linter.unusedSimpArgs false
theorem eqA24 (d : Nat) (w : World) (x0 y0 : Int) (x1 y1 : ByteArray) :
  (Op.equalIn (d + 2) 24 (.agg #[.int .i64 x0, .string x1]) (.agg #[.int .i64 y0, .string y1])).run Tryz.prog w = .ok (x0 == y0 && (x1.toList == y1.toList)) w := by
 refine eqA_of Tryz.underlying24 (by kernel_rfl) ?_; refine eqf_cons (by rfl) (by go_simp; rfl) (by go_simp; rfl) (by go_simp) ?_
 exact eqf_last (by rfl) (by go_simp; rfl) (by go_simp; rfl) (by go_simp)
end Go.Proofs.YtaipkdglhfhhiaaGreatDoor.Pt

namespace Go.Proofs.YtaipkdglhfhhiaaGreatDoor.Pt
open Go.RowKit Go.Proofs.YtaipkdglhfhhiaaGreatDoorW.PrintWords Go.Proofs.YtaipkdglhfhhiaaGreatDoorW.PrintLast Go.Proofs.YtaipkdglhfhhiaaGreatDoorW.PrintMore
attribute [local go_sem] max2_int min2_int max_two min_two max_three min_three max_four min_four   -- for this text's walks alone
set_option linter.unusedVariables false
set_option linter.unusedSimpArgs false
attribute [local go_sem high] eqA24
def arrays_Loaded.f (a0 : List Hi.Ent) (a1_0 : Int) (a1_1 : ByteArray) : Option (Int) := (types_Check.f a1_0 a1_1).bind fun t140 => (if t140 = 0 then ((hier_World_ByName.f a0 a1_1).bind fun bt141 => (if a1_1.toList = ([] : List UInt8) then (some 0) else (if bt141.2 = 0 then (some 0) else (some 20)))) else (some t140))
def arrays_isInt.f (a0_0 : Int) (a0_1 : ByteArray) : Option (Bool) := some (a0_0 == 0 && (a0_1.toList == ([] : List UInt8)))
def arrays_top.f (a0 : ByteArray) : Option (Bool) := if a0.toList = ([79, 98, 106, 101, 99, 116] : List UInt8) then (some true) else (if a0.toList = ([67, 108, 111, 110, 101, 97, 98, 108, 101] : List UInt8) then (some true) else (some (a0.toList == ([83, 101, 114, 105, 97, 108, 105, 122, 97, 98, 108, 101] : List UInt8))))
mutual
def arrays_below.j1 : Nat → List Hi.Ent → Int → ByteArray → Int → ByteArray → Option (Bool)
 | 0, _, _, _, _, _ => none
 | k + 1, x0, x145000, x145001, x146000, x146001 => (arrays_isInt.f x145000 x145001).bind fun t146 => (if t146 = true then (arrays_below.j2 k x0 true x145000 x145001 x146000 x146001) else ((arrays_isInt.f x146000 x146001).bind fun t147 => (arrays_below.j2 k x0 t147 x145000 x145001 x146000 x146001)))
def arrays_below.j2 : Nat → List Hi.Ent → Bool → Int → ByteArray → Int → ByteArray → Option (Bool)
 | 0, _, _, _, _, _, _ => none
 | k + 1, x0, x27, x145000, x145001, x146000, x146001 => if x27 = true then (some (x145000 == x146000 && (x145001.toList == x146001.toList))) else (if x145000 > 0 then ((arrays_top.f x146001).bind fun t148 => (some t148)) else (if x146000 > 0 then (some false) else ((hier_World_ByName.f x0 x145001).bind fun bt149 => ((hier_World_ByName.f x0 x146001).bind fun bt151 => ((hier_World_Extends.f x0 bt149.1 bt151.1).bind fun t153 => (some t153))))))
def arrays_below.l0 : Nat → List Hi.Ent → Int → ByteArray → Int → ByteArray → Option (Bool)
 | 0, _, _, _, _, _ => none
 | k + 1, x0, x145000, x145001, x146000, x146001 => if x145000 > 0 then (if x146000 > 0 then (arrays_below.l0 k x0 (wrap64 (x145000 - 1)) x145001 (wrap64 (x146000 - 1)) x146001) else (arrays_below.j1 k x0 x145000 x145001 x146000 x146001)) else (arrays_below.j1 k x0 x145000 x145001 x146000 x146001)
end
def arrays_below.f (k : Nat) (a0 : List Hi.Ent) (a1_0 : Int) (a1_1 : ByteArray) (a2_0 : Int) (a2_1 : ByteArray) : Option (Bool) := arrays_below.l0 k a0 a1_0 a1_1 a2_0 a2_1
end Go.Proofs.YtaipkdglhfhhiaaGreatDoor.Pt

namespace Go.Proofs.YtaipkdglhfhhiaaGreatDoor.Pt
open Go Go.RowKit Go.Proofs.YtaipkdglhfhhiaaGreatDoor.Nm Go.Proofs.YtaipkdglhfhhiaaGreatDoor.Ty Go.Proofs.YtaipkdglhfhhiaaGreatDoor.Hi Go.Proofs.YtaipkdglhfhhiaaGreatDoorW.PrintWords Go.Proofs.YtaipkdglhfhhiaaGreatDoorW.PrintLast Go.Proofs.YtaipkdglhfhhiaaGreatDoorW.PrintMore
set_option linter.unusedVariables false
set_option linter.unusedSimpArgs false
set_option maxHeartbeats 1000000
set_option maxRecDepth 100000
def loadF (es : List Ent) (d : Int) (s : ByteArray) : Int :=
 if chk d s.data.toList = 0 then (if s.toList = [] then 0 else if (nameF es s).2 = 0 then 0 else 20) else chk d s.data.toList
end Go.Proofs.YtaipkdglhfhhiaaGreatDoor.Pt

namespace Go.Proofs.YtaipkdglhfhhiaaGreatDoor.Pt
open Go Go.RowKit Go.Proofs.YtaipkdglhfhhiaaGreatDoor.Nm Go.Proofs.YtaipkdglhfhhiaaGreatDoor.Ty Go.Proofs.YtaipkdglhfhhiaaGreatDoor.Hi Go.Proofs.YtaipkdglhfhhiaaGreatDoorW.PrintWords Go.Proofs.YtaipkdglhfhhiaaGreatDoorW.PrintLast Go.Proofs.YtaipkdglhfhhiaaGreatDoorW.PrintMore
set_option linter.unusedVariables false
set_option linter.unusedSimpArgs false
set_option maxRecDepth 100000
theorem _root_.Go.Proofs.YtaipkdglhfhhiaaGreatDoor.Hi.Thy.name_inj {es : List Ent} (h : Thy es) {i j : Int} (h0 : 0 ≤ i) (h1 : i < es.length) (h2 : 0 ≤ j) (h3 : j < es.length) (he : (ent es i).c.f0 = (ent es j).c.f0) : i = j := by
 have hi : (es.map (·.c.f0))[i.toNat]? = some (ent es i).c.f0 := by
  rw [List.getElem?_map, get_ent h0 h1]; rfl
 have hj : (es.map (·.c.f0))[j.toNat]? = some (ent es j).c.f0 := by
  rw [List.getElem?_map, get_ent h2 h3]; rfl
 have hl : (es.map (·.c.f0)).length = es.length := List.length_map _; rw [List.getElem?_eq_getElem (by omega)] at hi hj; have hij := (Option.some.inj hi).trans (he.trans (Option.some.inj hj).symm); have hp := List.pairwise_iff_getElem.1 h.names
 rcases Nat.lt_trichotomy i.toNat j.toNat with hlt | heq | hlt
 ·exact absurd hij (hp _ _ (by omega) (by omega) hlt)
 ·omega
 ·exact absurd hij.symm (hp _ _ (by omega) (by omega) hlt)
theorem nameF_of {es : List Ent} (h : Thy es) {i : Int} (h0 : 0 ≤ i) (h1 : i < es.length) : nameF es (ent es i).c.f0 = (i, 0) := by
 have h2 : (nameF es (ent es i).c.f0).2 = 0 := by
  unfold nameF
  cases hf : (es.map (·.c.f0)).findIdx? (fun t => decide (t = (ent es i).c.f0)) with
  | some k => rfl
  | none =>
   rw [List.findIdx?_eq_none_iff] at hf; have := hf _ (List.mem_map_of_mem (List.mem_of_getElem? (get_ent h0 h1))); simp at this
 have h3 := nameF_in h2; have h4 := h.name_inj h3.1 h3.2.1 h0 h1 h3.2.2
 exact Prod.ext h4 h2
end Go.Proofs.YtaipkdglhfhhiaaGreatDoor.Pt

namespace Go.Proofs.YtaipkdglhfhhiaaGreatDoor.Pt
open Go.RowKit Go.Proofs.YtaipkdglhfhhiaaGreatDoorW.PrintWords Go.Proofs.YtaipkdglhfhhiaaGreatDoorW.PrintLast Go.Proofs.YtaipkdglhfhhiaaGreatDoorW.PrintMore
attribute [local go_sem] max2_int min2_int max_two min_two max_three min_three max_four min_four   -- for this text's walks alone
set_option linter.unusedVariables false
set_option linter.unusedSimpArgs false
def arbiterref06_SamePackage.f (a0 : List S85) (a1 : Int) (a2 : Int) : Option (Bool) := (arbiterref06_In.f a0 a1).bind fun t166 => (if t166 = true then ((arbiterref06_In.f a0 a2).bind fun t167 => (if t167 = true then (if 0 ≤ a1 then (if a1 < (a0.length : Int) then (if 0 ≤ a2 then (if a2 < (a0.length : Int) then ((arbiterref06_together.f ((rd_T85 a0 a1).f0) ((rd_T85 a0 a1).f1) ((rd_T85 a0 a1).f2) ((rd_T85 a0 a1).f3) ((rd_T85 a0 a1).f4) ((rd_T85 a0 a1).f5) ((rd_T85 a0 a2).f0) ((rd_T85 a0 a2).f1) ((rd_T85 a0 a2).f2) ((rd_T85 a0 a2).f3) ((rd_T85 a0 a2).f4) ((rd_T85 a0 a2).f5)).bind fun t170 => (some t170)) else (none)) else (none)) else (none)) else (none)) else (some false))) else (some false))
def arbiterref06_SamePackage.T1 : Bool × List (List Nat × List Nat) := (true, [([], []), ([], []), ([0, 1], [0, 1]), ([2, 2], [2]), ([3], [3]), ([3], [3]), ([4, 5, 3, 3], [3, 4, 5]), ([3, 6], [3, 6]), ([7, 6], [7]), ([8], [8]), ([9, 8], [8, 9]), ([10, 8], [8, 10]), ([11, 8], [8, 11]), ([8], [8]), ([12, 13, 8], [8, 12, 13]), ([14, 8], [8, 14]), ([8], [8]), ([16, 8], [8, 16]), ([17, 8], [8, 17]), ([18, 8], [8, 18]), ([8], [8]), ([19, 20, 8], [8, 19, 20]), ([21, 8], [8, 21]), ([15, 22, 8, 8], [8, 15, 22]), ([8, 23], [8, 23]), ([24, 23, 0, 1, 2, 3, 4, 5, 6, 7, 8, 9, 10, 11, 12, 13, 14, 15, 16, 17, 18, 19, 20, 21, 22, 23, 24], [24])])
def arbiterref06_SamePackage.B1 : List Nat := [0, 0, 3, 7, 15, 15, 63, 127, 255, 511, 1023, 2047, 4095, 511, 16383, 32767, 511, 66047, 197119, 459263, 511, 2032127, 4129279, 8388607, 16777215, 33554431]
theorem arbiterref06_SamePackage.tab1 : rtab .any (opsOf Tryz.f54 1) = arbiterref06_SamePackage.T1 := by kernel_rfl
theorem arbiterref06_SamePackage.bits1 : waitsOk arbiterref06_SamePackage.T1.2 arbiterref06_SamePackage.B1 = true := by kernel_rfl
set_option maxHeartbeats 8000000 in
set_option maxRecDepth 100000 in
theorem arbiterref06_SamePackage.calls (G_ : Nat) (a0 : List S85) (a1 : Int) (a2 : Int) (r : Bool) (w : World) (hq0 : ROK w G_ a0) (h : arbiterref06_SamePackage.f a0 a1 a2 = some r) :
  Calls Tryz.prog 54 #[.pointer (some ⟨G_, 0, none⟩), .int .i64 a1, .int .i64 a2] w fun e w' => e = .returned (.bool r) ∧ Below w.heap.size w w' := by
 have hu85 := Tryz.underlying85; obtain ⟨AQa0, cQa0, hp0, hrq0, hcq0⟩ := ROK.open hq0; have HPa0 := Aside0.mk hp0; have HRqa0 := Aside0.mk hrq0; have HCqa0 := Aside0.mk hcq0; clear hp0 hrq0 hcq0; have HQa0 := Aside0.mk hq0; clear hq0; have HB := Aside0.mk (Below.refl w.heap.size w); have H : ((arbiterref06_In.f a0 a1).bind fun t166 => (if t166 = true then ((arbiterref06_In.f a0 a2).bind fun t167 => (if t167 = true then (if 0 ≤ a1 then (if a1 < (a0.length : Int) then (if 0 ≤ a2 then (if a2 < (a0.length : Int) then ((arbiterref06_together.f ((rd_T85 a0 a1).f0) ((rd_T85 a0 a1).f1) ((rd_T85 a0 a1).f2) ((rd_T85 a0 a1).f3) ((rd_T85 a0 a1).f4) ((rd_T85 a0 a1).f5) ((rd_T85 a0 a2).f0) ((rd_T85 a0 a2).f1) ((rd_T85 a0 a2).f2) ((rd_T85 a0 a2).f3) ((rd_T85 a0 a2).f4) ((rd_T85 a0 a2).f5)).bind fun t170 => (some t170)) else (none)) else (none)) else (none)) else (none)) else (some false))) else (some false))) = some r := h; clear h; replace H := Option.bind_eq_some_iff.mp H; obtain ⟨t166, A40, H⟩ := H; replace H : (if t166 = true then ((arbiterref06_In.f a0 a2).bind fun t167 => (if t167 = true then (if 0 ≤ a1 then (if a1 < (a0.length : Int) then (if 0 ≤ a2 then (if a2 < (a0.length : Int) then ((arbiterref06_together.f ((rd_T85 a0 a1).f0) ((rd_T85 a0 a1).f1) ((rd_T85 a0 a1).f2) ((rd_T85 a0 a1).f3) ((rd_T85 a0 a1).f4) ((rd_T85 a0 a1).f5) ((rd_T85 a0 a2).f0) ((rd_T85 a0 a2).f1) ((rd_T85 a0 a2).f2) ((rd_T85 a0 a2).f3) ((rd_T85 a0 a2).f4) ((rd_T85 a0 a2).f5)).bind fun t170 => (some t170)) else (none)) else (none)) else (none)) else (none)) else (some false))) else (some false)) = some r := H; have A4 := Aside0.mk A40; clear A40
 by_cases c5 : t166 = true
 ·subst c5
  have H1 : ((arbiterref06_In.f a0 a2).bind fun t167 => (if t167 = true then (if 0 ≤ a1 then (if a1 < (a0.length : Int) then (if 0 ≤ a2 then (if a2 < (a0.length : Int) then ((arbiterref06_together.f ((rd_T85 a0 a1).f0) ((rd_T85 a0 a1).f1) ((rd_T85 a0 a1).f2) ((rd_T85 a0 a1).f3) ((rd_T85 a0 a1).f4) ((rd_T85 a0 a1).f5) ((rd_T85 a0 a2).f0) ((rd_T85 a0 a2).f1) ((rd_T85 a0 a2).f2) ((rd_T85 a0 a2).f3) ((rd_T85 a0 a2).f4) ((rd_T85 a0 a2).f5)).bind fun t170 => (some t170)) else (none)) else (none)) else (none)) else (none)) else (some false))) = some r := by rw [if_pos rfl] at H; exact H
  clear H; have H := H1; clear H1; replace H := Option.bind_eq_some_iff.mp H; obtain ⟨t167, A60, H⟩ := H; replace H : (if t167 = true then (if 0 ≤ a1 then (if a1 < (a0.length : Int) then (if 0 ≤ a2 then (if a2 < (a0.length : Int) then ((arbiterref06_together.f ((rd_T85 a0 a1).f0) ((rd_T85 a0 a1).f1) ((rd_T85 a0 a1).f2) ((rd_T85 a0 a1).f3) ((rd_T85 a0 a1).f4) ((rd_T85 a0 a1).f5) ((rd_T85 a0 a2).f0) ((rd_T85 a0 a2).f1) ((rd_T85 a0 a2).f2) ((rd_T85 a0 a2).f3) ((rd_T85 a0 a2).f4) ((rd_T85 a0 a2).f5)).bind fun t170 => (some t170)) else (none)) else (none)) else (none)) else (none)) else (some false)) = some r := H; have A6 := Aside0.mk A60; clear A60
  by_cases c7 : t167 = true
  ·subst c7
   have H1 : (if 0 ≤ a1 then (if a1 < (a0.length : Int) then (if 0 ≤ a2 then (if a2 < (a0.length : Int) then ((arbiterref06_together.f ((rd_T85 a0 a1).f0) ((rd_T85 a0 a1).f1) ((rd_T85 a0 a1).f2) ((rd_T85 a0 a1).f3) ((rd_T85 a0 a1).f4) ((rd_T85 a0 a1).f5) ((rd_T85 a0 a2).f0) ((rd_T85 a0 a2).f1) ((rd_T85 a0 a2).f2) ((rd_T85 a0 a2).f3) ((rd_T85 a0 a2).f4) ((rd_T85 a0 a2).f5)).bind fun t170 => (some t170)) else (none)) else (none)) else (none)) else (none)) = some r := by rw [if_pos rfl] at H; exact H
   clear H; have H := H1; clear H1
   by_cases c8 : 0 ≤ a1
   ·rw [if_pos c8] at H
    have c8b0 : decide (0 ≤ a1) = true := decide_eq_true c8; clear c8
    by_cases c9 : a1 < (a0.length : Int)
    ·rw [if_pos c9] at H
     have c9b0 : decide (a1 < (a0.length : Int)) = true := decide_eq_true c9; clear c9
     by_cases c10 : 0 ≤ a2
     ·rw [if_pos c10] at H
      have c10b0 : decide (0 ≤ a2) = true := decide_eq_true c10; clear c10
      by_cases c11 : a2 < (a0.length : Int)
      ·rw [if_pos c11] at H
       have c11b0 : decide (a2 < (a0.length : Int)) = true := decide_eq_true c11; clear c11; replace H := Option.bind_eq_some_iff.mp H; obtain ⟨t170, A120, H⟩ := H; replace H : (some t170) = some r := H; have A12 := Aside0.mk A120; clear A120; obtain rfl := Option.some.inj H; go_enter Tryz.func54, Tryz.ntmps54
       try go_wp2
       have n0_ := Aside0.mk (below_drew1 HB.out); clear HB; have HB := n0_; clear n0_; have p168 : 0 ≤ (a1 : Int) := qX; have q168 : a1 < (a0.length : Int) := qX; obtain ⟨ad168, A168_2, c168_2, A168_5, c168_5, e168, hx168_0, hx168_1, hx168_2, hx168_3, hx168_4, hx168_5, hl168_2, hi168_2, hl168_5, hi168_5⟩ := at_T85 HRqa0.out a1 p168 q168; have hw168_5 := hx168_5; have hw168_4 := hx168_4; have hw168_3 := hx168_3; have hw168_2 := hx168_2; have hw168_1 := hx168_1; have hw168_0 := hx168_0
       cases e168
       replace hx168_0 := (HB.out.cell (World.block_lt_of_cell? w _ hx168_0)).trans hx168_0; replace hx168_1 := (HB.out.cell (World.block_lt_of_cell? w _ hx168_1)).trans hx168_1; replace hx168_2 := (HB.out.cell (World.block_lt_of_cell? w _ hx168_2)).trans hx168_2; replace hx168_3 := (HB.out.cell (World.block_lt_of_cell? w _ hx168_3)).trans hx168_3; replace hx168_4 := (HB.out.cell (World.block_lt_of_cell? w _ hx168_4)).trans hx168_4; replace hx168_5 := (HB.out.cell (World.block_lt_of_cell? w _ hx168_5)).trans hx168_5; have HR168_2 := Aside0.mk hi168_2; have HC168_2 := Aside0.mk hl168_2; clear hi168_2 hl168_2; have HR168_5 := Aside0.mk hi168_5; have HC168_5 := Aside0.mk hl168_5; clear hi168_5 hl168_5; replace p168 := eq_true p168; replace q168 := eq_true q168; have p169 : 0 ≤ (a2 : Int) := qX; have q169 : a2 < (a0.length : Int) := qX; obtain ⟨ad169, A169_2, c169_2, A169_5, c169_5, e169, hx169_0, hx169_1, hx169_2, hx169_3, hx169_4, hx169_5, hl169_2, hi169_2, hl169_5, hi169_5⟩ := at_T85 HRqa0.out a2 p169 q169; have hw169_5 := hx169_5; have hw169_4 := hx169_4; have hw169_3 := hx169_3; have hw169_2 := hx169_2; have hw169_1 := hx169_1; have hw169_0 := hx169_0
       obtain rfl : ad168 = ad169 := (by injection e169)
       replace hx169_0 := (HB.out.cell (World.block_lt_of_cell? w _ hx169_0)).trans hx169_0; replace hx169_1 := (HB.out.cell (World.block_lt_of_cell? w _ hx169_1)).trans hx169_1; replace hx169_2 := (HB.out.cell (World.block_lt_of_cell? w _ hx169_2)).trans hx169_2; replace hx169_3 := (HB.out.cell (World.block_lt_of_cell? w _ hx169_3)).trans hx169_3; replace hx169_4 := (HB.out.cell (World.block_lt_of_cell? w _ hx169_4)).trans hx169_4; replace hx169_5 := (HB.out.cell (World.block_lt_of_cell? w _ hx169_5)).trans hx169_5; have HR169_2 := Aside0.mk hi169_2; have HC169_2 := Aside0.mk hl169_2; clear hi169_2 hl169_2; have HR169_5 := Aside0.mk hi169_5; have HC169_5 := Aside0.mk hl169_5; clear hi169_5 hl169_5; replace p169 := eq_true p169; replace q169 := eq_true q169; refine start_ (n := 26) (S := fun w' => w'.cell? ⟨G_, 0, none⟩ = some (.slice (some ad168) a0.length cQa0) ∧ w'.cell? (ad168.add ((a1).toNat * 6)) = some (.string ((rd_T85 a0 a1).f0)) ∧ w'.cell? ⟨(ad168.add ((a1).toNat * 6)).block, (ad168.add ((a1).toNat * 6)).off + 1, none⟩ = some (.string ((rd_T85 a0 a1).f1)) ∧ w'.cell? ⟨(ad168.add ((a1).toNat * 6)).block, (ad168.add ((a1).toNat * 6)).off + 2, none⟩ = some (.slice A168_2 ((rd_T85 a0 a1).f2).length c168_2) ∧ w'.cell? ⟨(ad168.add ((a1).toNat * 6)).block, (ad168.add ((a1).toNat * 6)).off + 3, none⟩ = some (.int .i64 ((rd_T85 a0 a1).f3)) ∧ w'.cell? ⟨(ad168.add ((a1).toNat * 6)).block, (ad168.add ((a1).toNat * 6)).off + 4, none⟩ = some (.int .i64 ((rd_T85 a0 a1).f4)) ∧ w'.cell? ⟨(ad168.add ((a1).toNat * 6)).block, (ad168.add ((a1).toNat * 6)).off + 5, none⟩ = some (.slice A168_5 ((rd_T85 a0 a1).f5).length c168_5) ∧ w'.cell? ⟨G_, 0, none⟩ = some (.slice (some ad168) a0.length cQa0) ∧ w'.cell? (ad168.add ((a2).toNat * 6)) = some (.string ((rd_T85 a0 a2).f0)) ∧ w'.cell? ⟨(ad168.add ((a2).toNat * 6)).block, (ad168.add ((a2).toNat * 6)).off + 1, none⟩ = some (.string ((rd_T85 a0 a2).f1)) ∧ w'.cell? ⟨(ad168.add ((a2).toNat * 6)).block, (ad168.add ((a2).toNat * 6)).off + 2, none⟩ = some (.slice A169_2 ((rd_T85 a0 a2).f2).length c169_2) ∧ w'.cell? ⟨(ad168.add ((a2).toNat * 6)).block, (ad168.add ((a2).toNat * 6)).off + 3, none⟩ = some (.int .i64 ((rd_T85 a0 a2).f3)) ∧ w'.cell? ⟨(ad168.add ((a2).toNat * 6)).block, (ad168.add ((a2).toNat * 6)).off + 4, none⟩ = some (.int .i64 ((rd_T85 a0 a2).f4)) ∧ w'.cell? ⟨(ad168.add ((a2).toNat * 6)).block, (ad168.add ((a2).toNat * 6)).off + 5, none⟩ = some (.slice A169_5 ((rd_T85 a0 a2).f5).length c169_5)) (ds := []) #[false, false, false, false, false, false, false, false, false, false, false, false, false, false, false, false, false, false, false, false, false, false, false, false, false, false] (by kernel_rfl) rfl rfl ⟨((HB.out.cell (World.block_lt_of_cell? w _ HPa0.out)).trans HPa0.out), ((HB.out.cell (World.block_lt_of_cell? w _ hw168_0)).trans hw168_0), ((HB.out.cell (World.block_lt_of_cell? w _ hw168_1)).trans hw168_1), ((HB.out.cell (World.block_lt_of_cell? w _ hw168_2)).trans hw168_2), ((HB.out.cell (World.block_lt_of_cell? w _ hw168_3)).trans hw168_3), ((HB.out.cell (World.block_lt_of_cell? w _ hw168_4)).trans hw168_4), ((HB.out.cell (World.block_lt_of_cell? w _ hw168_5)).trans hw168_5), ((HB.out.cell (World.block_lt_of_cell? w _ HPa0.out)).trans HPa0.out), ((HB.out.cell (World.block_lt_of_cell? w _ hw169_0)).trans hw169_0), ((HB.out.cell (World.block_lt_of_cell? w _ hw169_1)).trans hw169_1), ((HB.out.cell (World.block_lt_of_cell? w _ hw169_2)).trans hw169_2), ((HB.out.cell (World.block_lt_of_cell? w _ hw169_3)).trans hw169_3), ((HB.out.cell (World.block_lt_of_cell? w _ hw169_4)).trans hw169_4), ((HB.out.cell (World.block_lt_of_cell? w _ hw169_5)).trans hw169_5)⟩ (fun hHeld => ?_); refine with_tabW arbiterref06_SamePackage.tab1 arbiterref06_SamePackage.bits1 (fun HT_ HW_ => ?_); generalize w.drew = w13 at HB HR168_2 HR168_5 HR169_2 HR169_5 hx168_0 hx168_1 hx168_2 hx168_3 hx168_4 hx168_5 hx169_0 hx169_1 hx169_2 hx169_3 hx169_4 hx169_5 hHeld ⊢; refine pX HT_ 0 (some 7) ?_; refine pX HT_ 1 (some 8) ?_; refine oX HT_ 2 (some 9) (fun K hK => ?_); refine hX Tryz.func51 #[.pointer (some ⟨G_, 0, none⟩), .int .i64 a1] ?_
       with_reducible refine (arbiterref06_In.calls G_ a0 a1 true _ ?side1 A4.out).mono ?_
       (case side1 => repeat (first | (with_reducible exact HQa0.out) | (with_reducible refine ROK.alloc ?_ _) | (with_reducible refine ROK.drewN ?_ _) | (with_reducible refine ROK.drew ?_) | exact ROK.below HQa0.out HB.out | exact ROK.below HQa0.out (bX HB)))
       rintro e w' ⟨rfl, ⟨nd, rfl⟩⟩; refine ⟨_, rfl, ?_⟩; refine hK.out _ _ ⟨((HB.out.cell (World.block_lt_of_cell? w _ HPa0.out)).trans HPa0.out), ((HB.out.cell (World.block_lt_of_cell? w _ hw168_0)).trans hw168_0), ((HB.out.cell (World.block_lt_of_cell? w _ hw168_1)).trans hw168_1), ((HB.out.cell (World.block_lt_of_cell? w _ hw168_2)).trans hw168_2), ((HB.out.cell (World.block_lt_of_cell? w _ hw168_3)).trans hw168_3), ((HB.out.cell (World.block_lt_of_cell? w _ hw168_4)).trans hw168_4), ((HB.out.cell (World.block_lt_of_cell? w _ hw168_5)).trans hw168_5), ((HB.out.cell (World.block_lt_of_cell? w _ HPa0.out)).trans HPa0.out), ((HB.out.cell (World.block_lt_of_cell? w _ hw169_0)).trans hw169_0), ((HB.out.cell (World.block_lt_of_cell? w _ hw169_1)).trans hw169_1), ((HB.out.cell (World.block_lt_of_cell? w _ hw169_2)).trans hw169_2), ((HB.out.cell (World.block_lt_of_cell? w _ hw169_3)).trans hw169_3), ((HB.out.cell (World.block_lt_of_cell? w _ hw169_4)).trans hw169_4), ((HB.out.cell (World.block_lt_of_cell? w _ hw169_5)).trans hw169_5)⟩ (fun hHeld => ?_); clear hK K; refine nX (some 9) ?_; refine pX HT_ 3 (some 10) ?_; refine pX HT_ 4 (some 11) ?_; refine pX HT_ 5 (some 12) ?_; refine oX HT_ 6 (some 13) (fun K hK => ?_); refine hX Tryz.func51 #[.pointer (some ⟨G_, 0, none⟩), .int .i64 a2] ?_
       with_reducible refine (arbiterref06_In.calls G_ a0 a2 true _ ?side1 A6.out).mono ?_
       (case side1 => repeat (first | (with_reducible exact HQa0.out) | (with_reducible refine ROK.alloc ?_ _) | (with_reducible refine ROK.drewN ?_ _) | (with_reducible refine ROK.drew ?_) | exact ROK.below HQa0.out HB.out | exact ROK.below HQa0.out (bX HB)))
       rintro e w' ⟨rfl, ⟨nd, rfl⟩⟩; refine ⟨_, rfl, ?_⟩; refine hK.out _ _ ⟨((HB.out.cell (World.block_lt_of_cell? w _ HPa0.out)).trans HPa0.out), ((HB.out.cell (World.block_lt_of_cell? w _ hw168_0)).trans hw168_0), ((HB.out.cell (World.block_lt_of_cell? w _ hw168_1)).trans hw168_1), ((HB.out.cell (World.block_lt_of_cell? w _ hw168_2)).trans hw168_2), ((HB.out.cell (World.block_lt_of_cell? w _ hw168_3)).trans hw168_3), ((HB.out.cell (World.block_lt_of_cell? w _ hw168_4)).trans hw168_4), ((HB.out.cell (World.block_lt_of_cell? w _ hw168_5)).trans hw168_5), ((HB.out.cell (World.block_lt_of_cell? w _ HPa0.out)).trans HPa0.out), ((HB.out.cell (World.block_lt_of_cell? w _ hw169_0)).trans hw169_0), ((HB.out.cell (World.block_lt_of_cell? w _ hw169_1)).trans hw169_1), ((HB.out.cell (World.block_lt_of_cell? w _ hw169_2)).trans hw169_2), ((HB.out.cell (World.block_lt_of_cell? w _ hw169_3)).trans hw169_3), ((HB.out.cell (World.block_lt_of_cell? w _ hw169_4)).trans hw169_4), ((HB.out.cell (World.block_lt_of_cell? w _ hw169_5)).trans hw169_5)⟩ (fun hHeld => ?_); clear hK K; refine nX (some 13) ?_; refine pX HT_ 7 (some 14) ?_; refine pX HT_ 8 (some 15) ?_; refine pX HT_ 9 (some 16) ?_; refine pX HT_ 10 (some 17) ?_; refine pX HT_ 11 (some 18) ?_; refine pX HT_ 13 (some 20) ?_; refine pX HT_ 16 (some 23) ?_; refine pX HT_ 17 (some 24) ?_; refine pX HT_ 18 (some 25) ?_; refine pX HT_ 20 (some 27) ?_; refine tX HT_ HW_ hHeld 12 (some 19) ?_; refine pX HT_ 14 (some 21) ?_; refine tX HT_ HW_ hHeld 15 (some 22) ?_; refine tX HT_ HW_ hHeld 19 (some 26) ?_; refine pX HT_ 21 (some 28) ?_; refine tX HT_ HW_ hHeld 22 (some 29) ?_; refine oX HT_ 23 (some 30) (fun K hK => ?_); refine hX Tryz.func96 #[.agg #[.string ((rd_T85 a0 a1).f0), .string ((rd_T85 a0 a1).f1), .slice A168_2 ((rd_T85 a0 a1).f2).length c168_2, .int .i64 ((rd_T85 a0 a1).f3), .int .i64 ((rd_T85 a0 a1).f4), .slice A168_5 ((rd_T85 a0 a1).f5).length c168_5], .agg #[.string ((rd_T85 a0 a2).f0), .string ((rd_T85 a0 a2).f1), .slice A169_2 ((rd_T85 a0 a2).f2).length c169_2, .int .i64 ((rd_T85 a0 a2).f3), .int .i64 ((rd_T85 a0 a2).f4), .slice A169_5 ((rd_T85 a0 a2).f5).length c169_5]] ?_
       with_reducible refine (arbiterref06_together.calls ((rd_T85 a0 a1).f0) ((rd_T85 a0 a1).f1) _ _ ((rd_T85 a0 a1).f2) ((rd_T85 a0 a1).f3) ((rd_T85 a0 a1).f4) _ _ ((rd_T85 a0 a1).f5) ((rd_T85 a0 a2).f0) ((rd_T85 a0 a2).f1) _ _ ((rd_T85 a0 a2).f2) ((rd_T85 a0 a2).f3) ((rd_T85 a0 a2).f4) _ _ ((rd_T85 a0 a2).f5) t170 _ ?side1 ?side2 ?side3 ?side4 ?side5 ?side6 ?side7 ?side8 A12.out).mono ?_
       (case side1 => repeat (first | exact (Kd.C_below HR168_2.out (bX HB)) | (with_reducible refine Kd.C_alloc ?_ _) | (with_reducible refine Kd.C_drewN ?_ _) | (with_reducible refine Kd.C_drew ?_)))
       (case side2 => exact HC168_2.out)
       (case side3 => repeat (first | exact (Kd.C_below HR168_5.out (bX HB)) | (with_reducible refine Kd.C_alloc ?_ _) | (with_reducible refine Kd.C_drewN ?_ _) | (with_reducible refine Kd.C_drew ?_)))
       (case side4 => exact HC168_5.out)
       (case side5 => repeat (first | exact (Kd.C_below HR169_2.out (bX HB)) | (with_reducible refine Kd.C_alloc ?_ _) | (with_reducible refine Kd.C_drewN ?_ _) | (with_reducible refine Kd.C_drew ?_)))
       (case side6 => exact HC169_2.out)
       (case side7 => repeat (first | exact (Kd.C_below HR169_5.out (bX HB)) | (with_reducible refine Kd.C_alloc ?_ _) | (with_reducible refine Kd.C_drewN ?_ _) | (with_reducible refine Kd.C_drew ?_)))
       (case side8 => exact HC169_5.out)
       rintro e w14 ⟨rfl, hb⟩; refine ⟨_, rfl, ?_⟩; have n0_ := Aside0.mk (below_step (bX HB) hb); clear HB; have HB := n0_; clear n0_
       (try clear hb)
       (try clear hb2)
       (try clear hk)
       (try clear hi)
       refine hK.out _ _ ⟨((HB.out.cell (World.block_lt_of_cell? w _ HPa0.out)).trans HPa0.out), ((HB.out.cell (World.block_lt_of_cell? w _ hw168_0)).trans hw168_0), ((HB.out.cell (World.block_lt_of_cell? w _ hw168_1)).trans hw168_1), ((HB.out.cell (World.block_lt_of_cell? w _ hw168_2)).trans hw168_2), ((HB.out.cell (World.block_lt_of_cell? w _ hw168_3)).trans hw168_3), ((HB.out.cell (World.block_lt_of_cell? w _ hw168_4)).trans hw168_4), ((HB.out.cell (World.block_lt_of_cell? w _ hw168_5)).trans hw168_5), ((HB.out.cell (World.block_lt_of_cell? w _ HPa0.out)).trans HPa0.out), ((HB.out.cell (World.block_lt_of_cell? w _ hw169_0)).trans hw169_0), ((HB.out.cell (World.block_lt_of_cell? w _ hw169_1)).trans hw169_1), ((HB.out.cell (World.block_lt_of_cell? w _ hw169_2)).trans hw169_2), ((HB.out.cell (World.block_lt_of_cell? w _ hw169_3)).trans hw169_3), ((HB.out.cell (World.block_lt_of_cell? w _ hw169_4)).trans hw169_4), ((HB.out.cell (World.block_lt_of_cell? w _ hw169_5)).trans hw169_5)⟩ (fun hHeld => ?_); clear hK K; refine nX (some 30) ?_; refine pX HT_ 24 (some 31) ?_; refine pX HT_ 25 (some 6) ?_; refine done_ (done_of HT_.out (by kernel_rfl)) ?_
       try go_wp2
       go_ret
       exact ⟨by first | rfl | (simp [errW_none, errW_some] <;> rfl) | (simp [*, errW_none, errW_some] <;> rfl), bX HB⟩
      ·rw [if_neg c11] at H
       exact absurd H (by simp)
     ·rw [if_neg c10] at H
      exact absurd H (by simp)
    ·rw [if_neg c9] at H
     exact absurd H (by simp)
   ·rw [if_neg c8] at H
    exact absurd H (by simp)
  ·replace c7 := Bool.eq_false_iff.mpr c7
   subst c7
   have H1 : (some false) = some r := by rw [if_neg (show ¬ (false = true) by decide)] at H; exact H
   clear H; have H := H1; clear H1; obtain rfl := Option.some.inj H; go_enter Tryz.func54, Tryz.ntmps54
   try go_wp2
   have n0_ := Aside0.mk (below_drew1 HB.out); clear HB; have HB := n0_; clear n0_; refine start_ (n := 26) (S := fun w' => True) (ds := []) #[false, false, false, false, false, false, false, false, false, false, false, false, false, false, false, false, false, false, false, false, false, false, false, false, false, false] (by kernel_rfl) rfl rfl trivial (fun hHeld => ?_); refine with_tabW arbiterref06_SamePackage.tab1 arbiterref06_SamePackage.bits1 (fun HT_ HW_ => ?_); generalize w.drew = w15 at HB hHeld ⊢; refine pX HT_ 0 (some 7) ?_; refine pX HT_ 1 (some 8) ?_; refine oX HT_ 2 (some 9) (fun K hK => ?_); refine hX Tryz.func51 #[.pointer (some ⟨G_, 0, none⟩), .int .i64 a1] ?_
   with_reducible refine (arbiterref06_In.calls G_ a0 a1 true _ ?side1 A4.out).mono ?_
   (case side1 => repeat (first | (with_reducible exact HQa0.out) | (with_reducible refine ROK.alloc ?_ _) | (with_reducible refine ROK.drewN ?_ _) | (with_reducible refine ROK.drew ?_) | exact ROK.below HQa0.out HB.out | exact ROK.below HQa0.out (bX HB)))
   rintro e w' ⟨rfl, ⟨nd, rfl⟩⟩; refine ⟨_, rfl, ?_⟩; refine hK.out _ _ trivial (fun hHeld => ?_); clear hK K; refine nX (some 9) ?_; refine pX HT_ 3 (some 10) ?_; refine pX HT_ 4 (some 11) ?_; refine pX HT_ 5 (some 12) ?_; refine oX HT_ 6 (some 13) (fun K hK => ?_); refine hX Tryz.func51 #[.pointer (some ⟨G_, 0, none⟩), .int .i64 a2] ?_
   with_reducible refine (arbiterref06_In.calls G_ a0 a2 false _ ?side1 A6.out).mono ?_
   (case side1 => repeat (first | (with_reducible exact HQa0.out) | (with_reducible refine ROK.alloc ?_ _) | (with_reducible refine ROK.drewN ?_ _) | (with_reducible refine ROK.drew ?_) | exact ROK.below HQa0.out HB.out | exact ROK.below HQa0.out (bX HB)))
   rintro e w' ⟨rfl, ⟨nd, rfl⟩⟩; refine ⟨_, rfl, ?_⟩; refine hK.out _ _ trivial (fun hHeld => ?_); clear hK K; refine nX (some 13) ?_; refine pX HT_ 7 (some 14) ?_; refine pX HT_ 8 (some 15) ?_; refine uX HT_ 9 (some 16) ?_; refine uX HT_ 10 (some 17) ?_; refine uX HT_ 11 (some 18) ?_; refine uX HT_ 12 (some 19) ?_; refine uX HT_ 13 (some 20) ?_; refine uX HT_ 14 (some 21) ?_; refine uX HT_ 15 (some 22) ?_; refine uX HT_ 16 (some 23) ?_; refine uX HT_ 17 (some 24) ?_; refine uX HT_ 18 (some 25) ?_; refine uX HT_ 19 (some 26) ?_; refine uX HT_ 20 (some 27) ?_; refine uX HT_ 21 (some 28) ?_; refine uX HT_ 22 (some 29) ?_; refine uX HT_ 23 (some 30) ?_; refine pX HT_ 24 (some 31) ?_; refine pX HT_ 25 (some 6) ?_; refine done_ (done_of HT_.out (by kernel_rfl)) ?_
   try go_wp2
   go_ret
   exact ⟨by first | rfl | (simp [errW_none, errW_some] <;> rfl) | (simp [*, errW_none, errW_some] <;> rfl), bX HB⟩
 ·replace c5 := Bool.eq_false_iff.mpr c5
  subst c5
  have H1 : (some false) = some r := by rw [if_neg (show ¬ (false = true) by decide)] at H; exact H
  clear H; have H := H1; clear H1; obtain rfl := Option.some.inj H; go_enter Tryz.func54, Tryz.ntmps54
  try go_wp2
  have n0_ := Aside0.mk (below_drew1 HB.out); clear HB; have HB := n0_; clear n0_; refine start_ (n := 26) (S := fun w' => True) (ds := []) #[false, false, false, false, false, false, false, false, false, false, false, false, false, false, false, false, false, false, false, false, false, false, false, false, false, false] (by kernel_rfl) rfl rfl trivial (fun hHeld => ?_); refine with_tabW arbiterref06_SamePackage.tab1 arbiterref06_SamePackage.bits1 (fun HT_ HW_ => ?_); generalize w.drew = w16 at HB hHeld ⊢; refine pX HT_ 0 (some 7) ?_; refine pX HT_ 1 (some 8) ?_; refine oX HT_ 2 (some 9) (fun K hK => ?_); refine hX Tryz.func51 #[.pointer (some ⟨G_, 0, none⟩), .int .i64 a1] ?_
  with_reducible refine (arbiterref06_In.calls G_ a0 a1 false _ ?side1 A4.out).mono ?_
  (case side1 => repeat (first | (with_reducible exact HQa0.out) | (with_reducible refine ROK.alloc ?_ _) | (with_reducible refine ROK.drewN ?_ _) | (with_reducible refine ROK.drew ?_) | exact ROK.below HQa0.out HB.out | exact ROK.below HQa0.out (bX HB)))
  rintro e w' ⟨rfl, ⟨nd, rfl⟩⟩; refine ⟨_, rfl, ?_⟩; refine hK.out _ _ trivial (fun hHeld => ?_); clear hK K; refine nX (some 9) ?_; refine pX HT_ 3 (some 10) ?_; refine uX HT_ 4 (some 11) ?_; refine uX HT_ 5 (some 12) ?_; refine uX HT_ 6 (some 13) ?_; refine pX HT_ 7 (some 14) ?_; refine pX HT_ 8 (some 15) ?_; refine uX HT_ 9 (some 16) ?_; refine uX HT_ 10 (some 17) ?_; refine uX HT_ 11 (some 18) ?_; refine uX HT_ 12 (some 19) ?_; refine uX HT_ 13 (some 20) ?_; refine uX HT_ 14 (some 21) ?_; refine uX HT_ 15 (some 22) ?_; refine uX HT_ 16 (some 23) ?_; refine uX HT_ 17 (some 24) ?_; refine uX HT_ 18 (some 25) ?_; refine uX HT_ 19 (some 26) ?_; refine uX HT_ 20 (some 27) ?_; refine uX HT_ 21 (some 28) ?_; refine uX HT_ 22 (some 29) ?_; refine uX HT_ 23 (some 30) ?_; refine pX HT_ 24 (some 31) ?_; refine pX HT_ 25 (some 6) ?_; refine done_ (done_of HT_.out (by kernel_rfl)) ?_
  try go_wp2
  go_ret
  exact ⟨by first | rfl | (simp [errW_none, errW_some] <;> rfl) | (simp [*, errW_none, errW_some] <;> rfl), bX HB⟩
def arbiterref06_Chain.l0 : Nat → List S85 → Int → List Int → Option (List Int × Int)
 | 0, _, _, _ => none
 | k + 1, x0, x1, x6 => if x1 = 0 then (some (x6, 0)) else (if 0 ≤ x1 then (if x1 < (x0.length : Int) then ((arbiterref06_named.f k x0 ((rd_T85 x0 x1).f1)).bind fun t176 => (if x6.length < 17592186044416 then (arbiterref06_Chain.l0 k x0 t176 (x6 ++ [t176])) else (none))) else (none)) else (none))
def arbiterref06_Chain.f (k : Nat) (a0 : List S85) (a1 : Int) : Option (List Int × Int) := (arbiterref06_In.f a0 a1).bind fun t171 => (if t171 = true then (arbiterref06_Chain.l0 k a0 a1 (([a1] : List Int))) else (some (([] : List Int), 3)))
set_option maxHeartbeats 8000000 in
set_option maxRecDepth 100000 in
theorem arbiterref06_Chain.calls (k : Nat) (G_ : Nat) (a0 : List S85) (a1 : Int) (r1 : List Int) (r2 : Int) (w : World) (hq0 : ROK w G_ a0) (h : arbiterref06_Chain.f k a0 a1 = some (r1, r2)) :
  Calls Tryz.prog 73 #[.pointer (some ⟨G_, 0, none⟩), .int .i64 a1] w fun e w' => ∃ v0_ : Value, e = .returned (.tuple #[v0_, .int .i64 r2]) ∧ Kd.R (Kd.int .i64) 3 w' w.heap.size (fun _ => True) v0_ r1 ∧ Below w.heap.size w w' := by
 obtain ⟨AQa0, cQa0, hp0, hrq0, hcq0⟩ := ROK.open hq0; have HPa0 := Aside0.mk hp0; have HRqa0 := Aside0.mk hrq0; have HCqa0 := Aside0.mk hcq0; clear hp0 hrq0 hcq0; have HQa0 := Aside0.mk hq0; clear hq0; have HB := Aside0.mk (Below.refl w.heap.size w); have H : ((arbiterref06_In.f a0 a1).bind fun t171 => (if t171 = true then (arbiterref06_Chain.l0 k a0 a1 (([a1] : List Int))) else (some (([] : List Int), 3)))) = some (r1, r2) := h; clear h; replace H := Option.bind_eq_some_iff.mp H; obtain ⟨t171, A30, H⟩ := H; replace H : (if t171 = true then (arbiterref06_Chain.l0 k a0 a1 (([a1] : List Int))) else (some (([] : List Int), 3))) = some (r1, r2) := H; have A3 := Aside0.mk A30; clear A30
 by_cases c4 : t171 = true
 ·subst c4
  have H1 : (arbiterref06_Chain.l0 k a0 a1 (([a1] : List Int))) = some (r1, r2) := by rw [if_pos rfl] at H; exact H
  clear H; have H := H1; clear H1
  obtain ⟨y172, hy172⟩ : ∃ y_ : List Int, y_ = (([a1] : List Int)) := ⟨_, rfl⟩
  replace H : (arbiterref06_Chain.l0 k a0 a1 y172) = some (r1, r2) := by first | (rw [hy172]; with_reducible exact H) | (have H2_ := (Option.bind_some _ _).symm.trans H; rw [hy172]; with_reducible exact H2_) | (have H2_ := (Option.bind_some _ _).symm.trans H; with_reducible exact H2_) | with_reducible exact H | (rw [hy172]; exact H) | exact H
  have Ny172 := Aside0.mk hy172; clear hy172; have H' := Aside0.mk H; clear H; go_enter Tryz.func73, Tryz.ntmps73; go_wp2_with (first | ((with_reducible refine gate_callee (f := 51) rfl ?_); refine gX (some 9) Tryz.func51 #[.pointer (some ⟨G_, 0, none⟩), .int .i64 a1] ?_; (with_reducible refine (arbiterref06_In.calls G_ a0 a1 true _ ?side1 A3.out).mono ?_); (case side1 => repeat (first | (with_reducible exact HQa0.out) | (with_reducible refine ROK.alloc ?_ _) | (with_reducible refine ROK.drewN ?_ _) | (with_reducible refine ROK.drew ?_) | exact ROK.below HQa0.out HB.out | exact ROK.below HQa0.out (bX HB))); rintro e w' ⟨rfl, ⟨nd, rfl⟩⟩; refine ⟨_, rfl, ?_⟩) | ((with_reducible refine gate_dst (N := 12) rfl ?_); refine Kd.R_lit (Kd.int .i64) _ 3 ?hg (N := 12) ?hd (xs := ([a1] : List Int)) (inner := [.int .i64 a1]) (ok := fun _ => True) (okp := fun _ => True) ?hr ?hp (fun _ hk => hk) trivial (Below.refl _ _) (Nat.le_refl _) (by simp) ?_; (case hd => rfl); (case hg => rfl); (case hr => first | (go_simp; done) | (go_simp; rfl)); (case hp => exact (Reps.one (show Kd.M (Kd.int .i64) _ _ _ a1 [.int .i64 a1] from rfl) (Reps.none _ _))); intro v173 w5 ho6 hb hg_ hnew_; clear hg_ hnew_; (first | rw [← Ny172.out] at ho6 | (simp only [Int.reduceToNat] at ho6; rw [← Ny172.out] at ho6)); have n0_ := Aside0.mk (Kd.R_lower ho6 (below_size (bX HB))); have n1_ := Aside0.mk (below_step (bX HB) hb); clear HB; have HO174 := n0_; have HB := n1_; clear n0_ n1_; clear hb ho6))
  go_loopg [1, 6] k (fun kq v1 v6 w' => ∃ (x1_1 : Int) (x6_1 : List Int), v1 = .int .i64 x1_1 ∧ Aside0 (arbiterref06_Chain.l0 kq a0 x1_1 x6_1 = some (r1, r2)) ∧ Aside0 (kq ≤ k) ∧ Aside0 (Kd.R (Kd.int .i64) 3 w' w.heap.size (fun _ => True) v6 x6_1) ∧ Aside0 (Below w.heap.size w w'))
  case atStart => exact ⟨(a1), (y172), vX, H', ⟨Nat.le_refl _⟩, ⟨rX HO174⟩, ⟨bX HB⟩⟩
  case round =>
   clear H'
   try clear p2
   try clear c4
   try clear c5
   obtain ⟨x1_1, x6_1, rfl, HA, HK1, HO_6, HB⟩ := hrel
   cases gk with
   | zero => exact absurd HA.out (by simp [arbiterref06_Chain.l0])
   | succ k1 =>
    have H := HA.out; clear HA; simp only [arbiterref06_Chain.l0] at H
    by_cases c7 : x1_1 = 0
    ·rw [if_pos c7] at H
     have c7b0 : (x1_1 == 0) = true := beq_iff_eq.mpr c7; have c7b1 : (x1_1 != 0) = false := bne_eq_false_iff_eq.mpr c7; clear c7; simp only [Option.some.injEq, Prod.mk.injEq] at H; obtain ⟨rfl, rfl⟩ := H; go_wp2; go_ret2
     exact ⟨_, by first | rfl | (simp [errW_none, errW_some] <;> rfl) | (simp [*, errW_none, errW_some] <;> rfl), by (with_reducible repeat (first | apply Kd.R_alloc | apply Kd.R_drewN | apply Kd.R_drew)); exact HO_6.out, bX HB⟩
    ·rw [if_neg c7] at H
     have c7b0 : (x1_1 == 0) = false := beq_eq_false_iff_ne.mpr c7; have c7b1 : (x1_1 != 0) = true := bne_iff_ne.mpr c7
     by_cases c8 : 0 ≤ x1_1
     ·rw [if_pos c8] at H
      have c8b0 : decide (0 ≤ x1_1) = true := decide_eq_true c8; clear c8
      by_cases c9 : x1_1 < (a0.length : Int)
      ·rw [if_pos c9] at H
       have c9b0 : decide (x1_1 < (a0.length : Int)) = true := decide_eq_true c9; clear c9; replace H := Option.bind_eq_some_iff.mp H; obtain ⟨t176, A100, H⟩ := H; replace H : (if x6_1.length < 17592186044416 then (arbiterref06_Chain.l0 k1 a0 t176 (x6_1 ++ [t176])) else (none)) = some (r1, r2) := H; have A10 := Aside0.mk A100; clear A100
       by_cases c11 : x6_1.length < 17592186044416
       ·rw [if_pos c11] at H
        have LMc11 := Aside0.mk c11; clear c11
        obtain ⟨y177, hy177⟩ : ∃ y_ : List Int, y_ = (x6_1 ++ [t176]) := ⟨_, rfl⟩
        replace H : (arbiterref06_Chain.l0 k1 a0 t176 y177) = some (r1, r2) := by first | (rw [hy177]; with_reducible exact H) | (have H2_ := (Option.bind_some _ _).symm.trans H; rw [hy177]; with_reducible exact H2_) | (have H2_ := (Option.bind_some _ _).symm.trans H; with_reducible exact H2_) | with_reducible exact H | (rw [hy177]; exact H) | exact H
        have Ny177 := Aside0.mk hy177; clear hy177; have H' := Aside0.mk H; clear H; have hcpq12 := pw_cell_below HB.out HPa0.out; have p175 : 0 ≤ (x1_1 : Int) := qX; have q175 : x1_1 < (a0.length : Int) := qX; obtain ⟨ad175, A175_2, c175_2, A175_5, c175_5, e175, hx175_0, hx175_1, hx175_2, hx175_3, hx175_4, hx175_5, hl175_2, hi175_2, hl175_5, hi175_5⟩ := at_T85 HRqa0.out x1_1 p175 q175
        cases e175
        replace hx175_0 := (HB.out.cell (World.block_lt_of_cell? w _ hx175_0)).trans hx175_0; replace hx175_1 := (HB.out.cell (World.block_lt_of_cell? w _ hx175_1)).trans hx175_1; replace hx175_2 := (HB.out.cell (World.block_lt_of_cell? w _ hx175_2)).trans hx175_2; replace hx175_3 := (HB.out.cell (World.block_lt_of_cell? w _ hx175_3)).trans hx175_3; replace hx175_4 := (HB.out.cell (World.block_lt_of_cell? w _ hx175_4)).trans hx175_4; replace hx175_5 := (HB.out.cell (World.block_lt_of_cell? w _ hx175_5)).trans hx175_5; have HR175_2 := Aside0.mk hi175_2; have HC175_2 := Aside0.mk hl175_2; clear hi175_2 hl175_2; have HR175_5 := Aside0.mk hi175_5; have HC175_5 := Aside0.mk hl175_5; clear hi175_5 hl175_5; replace p175 := eq_true p175; replace q175 := eq_true q175; go_wp2_with (first | ((with_reducible refine gate_callee (f := 91) rfl ?_); refine gX (some 24) Tryz.func91 #[.pointer (some ⟨G_, 0, none⟩), .string ((rd_T85 a0 x1_1).f1)] ?_; (with_reducible refine (arbiterref06_named.calls k1 G_ a0 ((rd_T85 a0 x1_1).f1) t176 _ ?side1 A10.out).mono ?_); (case side1 => repeat (first | (with_reducible exact HQa0.out) | (with_reducible refine ROK.alloc ?_ _) | (with_reducible refine ROK.drewN ?_ _) | (with_reducible refine ROK.drew ?_) | exact ROK.below HQa0.out HB.out | exact ROK.below HQa0.out (bX HB))); rintro e w' ⟨rfl, ⟨nd, rfl⟩⟩; refine ⟨_, rfl, ?_⟩) | ((with_reducible refine gate_builtin (b := .append) (xs := #[.tmp 25, .tmp 27]) rfl ?_); at_builtin; refine Kd.R_append (Kd.int .i64) (w0 := w) w.heap.size rfl (.tmp 25) (.tmp 27) 49 3 (.int .i64 0) 8 rfl Tryz.underlying49 info3 rfl (by decide) (by omega) u6 x6_1 t176 [.int .i64 t176] (fun _ => True) (fun _ => False) rfl rfl ?aP (fun _ hk => hk.elim) ?aF ?aO ?aB ?aS ?aL ?_; (case aP => exact rfl); (case aB => exact (bX HB)); (case aF => exact (fun _ _ => trivial)); (case aO => exact (rX HO_6)); (case aS => exact (below_size (bX HB))); (case aL => have := LMc11.out; omega); intro v178 w13 ho hb hg hat; rw [← Ny177.out] at ho; have n0_ := Aside0.mk (hb); have n1_ := Aside0.mk (ho); clear HB; clear HO_6; have HB := n0_; have HO179 := n1_; clear n0_ n1_; clear ho hb hg hat))
        go_roundg k1
        case measure => have := HK1.out; omega
        case rel => exact ⟨(t176), (y177), vX, H', ⟨by have := HK1.out; omega⟩, ⟨rX HO179⟩, ⟨bX HB⟩⟩
       ·rw [if_neg c11] at H
        exact absurd H (by simp)
      ·rw [if_neg c9] at H
       exact absurd H (by simp)
     ·rw [if_neg c8] at H
      exact absurd H (by simp)
 ·replace c4 := Bool.eq_false_iff.mpr c4
  subst c4
  have H1 : (some (([] : List Int), 3)) = some (r1, r2) := by rw [if_neg (show ¬ (false = true) by decide)] at H; exact H
  clear H; have H := H1; clear H1; simp only [Option.some.injEq, Prod.mk.injEq] at H; obtain ⟨rfl, rfl⟩ := H; go_enter Tryz.func73, Tryz.ntmps73; go_wp2_with (first | ((with_reducible refine gate_callee (f := 51) rfl ?_); refine gX (some 9) Tryz.func51 #[.pointer (some ⟨G_, 0, none⟩), .int .i64 a1] ?_; (with_reducible refine (arbiterref06_In.calls G_ a0 a1 false _ ?side1 A3.out).mono ?_); (case side1 => repeat (first | (with_reducible exact HQa0.out) | (with_reducible refine ROK.alloc ?_ _) | (with_reducible refine ROK.drewN ?_ _) | (with_reducible refine ROK.drew ?_) | exact ROK.below HQa0.out HB.out | exact ROK.below HQa0.out (bX HB))); rintro e w' ⟨rfl, ⟨nd, rfl⟩⟩; refine ⟨_, rfl, ?_⟩)); go_ret2
  exact ⟨_, by first | rfl | (simp [errW_none, errW_some] <;> rfl) | (simp [*, errW_none, errW_some] <;> rfl), by first | exact Kd.R_nil _ _ _ _ _ | exact Kd.N_nil _ _ _ _ _ | exact Kd.V_nil _ _ _ _ _ | exact Kd.Q_nil _ _ _ _ _ | exact Kd.S_nil _ _ _ _ _, bX HB⟩
end Go.Proofs.YtaipkdglhfhhiaaGreatDoor.Pt

namespace Go.Proofs.YtaipkdglhfhhiaaGreatDoor.Pt
open Go.RowKit Go.Proofs.YtaipkdglhfhhiaaGreatDoorW.PrintWords Go.Proofs.YtaipkdglhfhhiaaGreatDoorW.PrintLast Go.Proofs.YtaipkdglhfhhiaaGreatDoorW.PrintMore
attribute [local go_sem] max2_int min2_int max_two min_two max_three min_three max_four min_four   -- for this text's walks alone
set_option linter.unusedVariables false
set_option linter.unusedSimpArgs false
def arbiterref06_Has.l0 : Nat → List Int → Int → Int → Option (Bool)
 | 0, _, _, _ => none
 | k + 1, x0, x1, x5 => if x5 < (x0.length : Int) then (if 0 ≤ x5 then (if (rd x0 x5) = x1 then (some true) else (arbiterref06_Has.l0 k x0 x1 (wrap64 (x5 + 1)))) else (none)) else (some false)
def arbiterref06_Has.f (k : Nat) (l0 : List Int) (a1 : Int) : Option (Bool) := arbiterref06_Has.l0 k l0 a1 0
set_option maxHeartbeats 8000000 in
set_option maxRecDepth 100000 in
theorem arbiterref06_Has.calls (k : Nat) (A0 : Option Addr) (c0 : Nat) (l0 : List Int) (a1 : Int) (r : Bool) (w : World) (hr0 : Kd.C (Kd.int .i64) w A0 l0.length l0) (hc0 : l0.length ≤ c0) (h : arbiterref06_Has.f k l0 a1 = some r) :
  Calls Tryz.prog 102 #[.slice A0 l0.length c0, .int .i64 a1] w fun e w' => e = .returned (.bool r) ∧ Drawn0 w w' := by
 have HR0 := Aside0.mk hr0; have HC0 := Aside0.mk hc0; clear hr0 hc0; have H : (arbiterref06_Has.l0 k l0 a1 0) = some r := h; clear h; have H' := Aside0.mk H; clear H; go_enter Tryz.func102, Tryz.ntmps102; go_wp2
 go_loopg [5] k (fun kq v5 w' => ∃ (x5_1 : Int), v5 = .int .i64 x5_1 ∧ Aside0 (arbiterref06_Has.l0 kq l0 a1 x5_1 = some r) ∧ Aside0 (kq ≤ k) ∧ Drawn0 w w')
 case atStart => exact ⟨(0), vX, H', ⟨Nat.le_refl _⟩, by repeat (first | exact Drawn0.refl _ | apply Drawn0.step)⟩
 case round =>
  clear H'
  try clear c1
  try clear p2
  obtain ⟨x5_1, rfl, HA, HK1, ⟨m1, rfl⟩⟩ := hrel
  cases gk with
  | zero => exact absurd HA.out (by simp [arbiterref06_Has.l0])
  | succ k1 =>
   have H := HA.out; clear HA; simp only [arbiterref06_Has.l0] at H
   by_cases c3 : x5_1 < (l0.length : Int)
   ·rw [if_pos c3] at H
    have c3b0 : decide (x5_1 < (l0.length : Int)) = true := decide_eq_true c3; clear c3
    by_cases c4 : 0 ≤ x5_1
    ·rw [if_pos c4] at H
     have c4b0 : decide (0 ≤ x5_1) = true := decide_eq_true c4; clear c4
     by_cases c5 : (rd l0 x5_1) = a1
     ·rw [if_pos c5] at H
      have c5b0 : ((rd l0 x5_1) == a1) = true := beq_iff_eq.mpr c5; have c5b1 : ((rd l0 x5_1) != a1) = false := bne_eq_false_iff_eq.mpr c5; clear c5; obtain rfl := Option.some.inj H; have p180 : 0 ≤ (x5_1 : Int) := qX; have q180 : x5_1 < (l0.length : Int) := qX; obtain ⟨ad180, e180, hx180_0⟩ := Kd.at_int HR0.out x5_1 p180 q180
      cases e180
      replace p180 := eq_true p180; replace q180 := eq_true q180; go_wp2; go_ret
      exact ⟨by first | rfl | (simp; done) | (simp [*]; done), by repeat (first | exact Drawn0.refl _ | apply Drawn0.step)⟩
     ·rw [if_neg c5] at H
      have c5b0 : ((rd l0 x5_1) == a1) = false := beq_eq_false_iff_ne.mpr c5; have c5b1 : ((rd l0 x5_1) != a1) = true := bne_iff_ne.mpr c5; have H' := Aside0.mk H; clear H; have p180 : 0 ≤ (x5_1 : Int) := qX; have q180 : x5_1 < (l0.length : Int) := qX; obtain ⟨ad180, e180, hx180_0⟩ := Kd.at_int HR0.out x5_1 p180 q180
      cases e180
      replace p180 := eq_true p180; replace q180 := eq_true q180; go_wp2
      go_roundg k1
      case measure => have := HK1.out; omega
      case rel => exact ⟨(wrap64 (x5_1 + 1)), vX, H', ⟨by have := HK1.out; omega⟩, by repeat (first | exact Drawn0.refl _ | apply Drawn0.step)⟩
    ·rw [if_neg c4] at H
     exact absurd H (by simp)
   ·rw [if_neg c3] at H
    have c3b0 : decide (x5_1 < (l0.length : Int)) = false := decide_eq_false c3; clear c3; obtain rfl := Option.some.inj H; go_wp2; go_ret
    exact ⟨by first | rfl | (simp; done) | (simp [*]; done), by repeat (first | exact Drawn0.refl _ | apply Drawn0.step)⟩
end Go.Proofs.YtaipkdglhfhhiaaGreatDoor.Pt

namespace Go.Proofs.YtaipkdglhfhhiaaGreatDoor.Pt
open Go.RowKit Go.Proofs.YtaipkdglhfhhiaaGreatDoorW.PrintWords Go.Proofs.YtaipkdglhfhhiaaGreatDoorW.PrintLast Go.Proofs.YtaipkdglhfhhiaaGreatDoorW.PrintMore
attribute [local go_sem] max2_int min2_int max_two min_two max_three min_three max_four min_four   -- for this text's walks alone
set_option linter.unusedVariables false
set_option linter.unusedSimpArgs false
mutual
def arbiterref06_gather.j0 : Nat → List S85 → Int → List Int → Option (List Int)
 | 0, _, _, _ => none
 | k + 1, x0, x1, x2 => arbiterref06_gather.l0 k x0 x1 x2 0
def arbiterref06_gather.l0 : Nat → List S85 → Int → List Int → Int → Option (List Int)
 | 0, _, _, _, _ => none
 | k + 1, x0, x1, x2, x7 => if 0 ≤ x1 then (if x1 < (x0.length : Int) then (if x7 < (((rd_T85 x0 x1).f2).length : Int) then (if 0 ≤ x7 then ((arbiterref06_named.f k x0 (rdOf ByteArray.empty ((rd_T85 x0 x1).f2) x7)).bind fun t189 => ((arbiterref06_Has.f k x2 t189).bind fun t190 => (if t190 = true then (arbiterref06_gather.l0 k x0 x1 x2 (wrap64 (x7 + 1))) else ((arbiterref06_gather.f k x0 t189 x2).bind fun t191 => (if t191.length < 17592186044416 then (arbiterref06_gather.l0 k x0 x1 (t191 ++ [t189]) (wrap64 (x7 + 1))) else (none)))))) else (none)) else (some x2)) else (none)) else (none)
def arbiterref06_gather.f : Nat → List S85 → Int → List Int → Option (List Int)
 | 0, _, _, _ => none
 | k + 1, a0, a1, l2 => if a1 = 0 then (arbiterref06_gather.j0 k a0 a1 l2) else (if 0 ≤ a1 then (if a1 < (a0.length : Int) then ((arbiterref06_named.f k a0 ((rd_T85 a0 a1).f1)).bind fun t182 => ((arbiterref06_gather.f k a0 t182 l2).bind fun t183 => (arbiterref06_gather.j0 k a0 a1 t183))) else (none)) else (none))
end
set_option maxHeartbeats 8000000 in
set_option maxRecDepth 100000 in
theorem arbiterref06_gather.calls (k : Nat) : ∀ (G_ : Nat) (a0 : List S85) (a1 : Int) (P2_ : Nat → Prop) (u9000_ : Value) (l2 : List Int) (r : List Int) (w0 w : World) (hB : Below w0.heap.size w0 w) (hq0 : ROK w0 G_ a0) (ho2 : Kd.R (Kd.int .i64) 3 w w0.heap.size P2_ u9000_ l2) (h : arbiterref06_gather.f k a0 a1 l2 = some r),
  Calls Tryz.prog 103 #[.pointer (some ⟨G_, 0, none⟩), .int .i64 a1, u9000_] w fun e w' => ∃ v0_ : Value, e = .returned (v0_) ∧ Kd.R (Kd.int .i64) 3 w' w0.heap.size (fun k_ => (P2_ k_ ∨ w.heap.size ≤ k_)) v0_ r ∧ Below w0.heap.size w0 w' ∧ Kept w w' (fun k_ => P2_ k_) := by
 induction k using Nat.strongRecOn with
 | _ k ih =>
 intro G_ a0 a1 P2_ u9000_ l2 r w0 w hB hq0 ho2 h
 cases k with
 | zero => exact absurd h (by simp [arbiterref06_gather.f])
 | succ k =>
 simp only [arbiterref06_gather.f] at h; obtain ⟨AQa0, cQa0, hp0, hrq0, hcq0⟩ := ROK.open hq0; have HPa0 := Aside0.mk hp0; have HRqa0 := Aside0.mk hrq0; have HCqa0 := Aside0.mk hcq0; clear hp0 hrq0 hcq0; have HQa0 := Aside0.mk hq0; clear hq0; have HO2 := Aside0.mk (show Kd.R (Kd.int .i64) 3 w w0.heap.size (fun k_ => (P2_ k_ ∨ w.heap.size ≤ k_)) u9000_ l2 from Kd.R_mono ho2 (fun k_ hk => (.inl hk))); have HK := Aside0.mk (Kept.refl w (fun k_ => P2_ k_)); have HW0 := Aside0.mk hB.size; have HB := Aside0.mk hB; clear hB; have H : (if a1 = 0 then (arbiterref06_gather.j0 k a0 a1 l2) else (if 0 ≤ a1 then (if a1 < (a0.length : Int) then ((arbiterref06_named.f k a0 ((rd_T85 a0 a1).f1)).bind fun t182 => ((arbiterref06_gather.f k a0 t182 l2).bind fun t183 => (arbiterref06_gather.j0 k a0 a1 t183))) else (none)) else (none))) = some r := h; clear h; have HC4 := Aside0.mk H; clear H; go_enter Tryz.func103, Tryz.ntmps103
 go_upto_if 10 with (fail)
 go_cut [2] (fun v2 wc => ∃ (kq : Nat) (x2_3 : List Int), Aside0 (arbiterref06_gather.j0 kq a0 a1 x2_3 = some r) ∧ Aside0 (kq ≤ k) ∧ Aside0 (Kd.R (Kd.int .i64) 3 wc w0.heap.size (fun k_ => (P2_ k_ ∨ w.heap.size ≤ k_)) v2 x2_3) ∧ Aside0 (Kept w wc (fun k_ => P2_ k_)) ∧ Aside0 (Below w0.heap.size w0 wc))
 case first =>
  have H := HC4.out; clear HC4
  by_cases c5 : a1 = 0
  ·rw [if_pos c5] at H
   have c5b0 : (a1 == 0) = true := beq_iff_eq.mpr c5; have c5b1 : (a1 != 0) = false := bne_eq_false_iff_eq.mpr c5; clear c5
   (first | rw [c5b0] | (simp only [i64_w, i32_w]; rw [c5b0]) | skip)
   have H' := Aside0.mk H; clear H; go_wp2; go_meet
   case rel => exact ⟨_, (l2), H', ⟨by first | omega | exact Nat.le_refl _⟩, ⟨rX HO2⟩, ⟨by repeat (first | (with_reducible first | exact HK.out | apply Kept.alloc | apply Kept.drewN | apply Kept.drew) | exact HK.out)⟩, ⟨bX HB⟩⟩
  ·rw [if_neg c5] at H
   have c5b0 : (a1 == 0) = false := beq_eq_false_iff_ne.mpr c5; have c5b1 : (a1 != 0) = true := bne_iff_ne.mpr c5
   (first | rw [c5b0] | (simp only [i64_w, i32_w]; rw [c5b0]) | skip)
   by_cases c6 : 0 ≤ a1
   ·rw [if_pos c6] at H
    have c6b0 : decide (0 ≤ a1) = true := decide_eq_true c6; clear c6
    by_cases c7 : a1 < (a0.length : Int)
    ·rw [if_pos c7] at H
     have c7b0 : decide (a1 < (a0.length : Int)) = true := decide_eq_true c7; clear c7; replace H := Option.bind_eq_some_iff.mp H; obtain ⟨t182, A80, H⟩ := H; replace H : ((arbiterref06_gather.f k a0 t182 l2).bind fun t183 => (arbiterref06_gather.j0 k a0 a1 t183)) = some r := H; have A8 := Aside0.mk A80; clear A80; replace H := Option.bind_eq_some_iff.mp H; obtain ⟨t183, A90, H⟩ := H; replace H : (arbiterref06_gather.j0 k a0 a1 t183) = some r := H; have A9 := Aside0.mk A90; clear A90; have H' := Aside0.mk H; clear H; have hcpq10 := pw_cell_below HB.out HPa0.out; have p181 : 0 ≤ (a1 : Int) := qX; have q181 : a1 < (a0.length : Int) := qX; obtain ⟨ad181, A181_2, c181_2, A181_5, c181_5, e181, hx181_0, hx181_1, hx181_2, hx181_3, hx181_4, hx181_5, hl181_2, hi181_2, hl181_5, hi181_5⟩ := at_T85 HRqa0.out a1 p181 q181
     cases e181
     replace hx181_0 := (HB.out.cell (World.block_lt_of_cell? w0 _ hx181_0)).trans hx181_0; replace hx181_1 := (HB.out.cell (World.block_lt_of_cell? w0 _ hx181_1)).trans hx181_1; replace hx181_2 := (HB.out.cell (World.block_lt_of_cell? w0 _ hx181_2)).trans hx181_2; replace hx181_3 := (HB.out.cell (World.block_lt_of_cell? w0 _ hx181_3)).trans hx181_3; replace hx181_4 := (HB.out.cell (World.block_lt_of_cell? w0 _ hx181_4)).trans hx181_4; replace hx181_5 := (HB.out.cell (World.block_lt_of_cell? w0 _ hx181_5)).trans hx181_5; have HR181_2 := Aside0.mk hi181_2; have HC181_2 := Aside0.mk hl181_2; clear hi181_2 hl181_2; have HR181_5 := Aside0.mk hi181_5; have HC181_5 := Aside0.mk hl181_5; clear hi181_5 hl181_5; replace p181 := eq_true p181; replace q181 := eq_true q181; go_wp2_with (first | ((with_reducible refine gate_callee (f := 91) rfl ?_); refine gX (some 21) Tryz.func91 #[.pointer (some ⟨G_, 0, none⟩), .string ((rd_T85 a0 a1).f1)] ?_; (with_reducible refine (arbiterref06_named.calls k G_ a0 ((rd_T85 a0 a1).f1) t182 _ ?side1 A8.out).mono ?_); (case side1 => repeat (first | (with_reducible exact HQa0.out) | (with_reducible refine ROK.alloc ?_ _) | (with_reducible refine ROK.drewN ?_ _) | (with_reducible refine ROK.drew ?_) | exact ROK.below HQa0.out HB.out | exact ROK.below HQa0.out (bX HB))); rintro e w' ⟨rfl, ⟨nd, rfl⟩⟩; refine ⟨_, rfl, ?_⟩; obtain ⟨Ao11, co11, eo11⟩ := Kd.R_slice HO2.out; subst eo11) | ((with_reducible refine gate_callee (f := 103) rfl ?_); refine gX (some 23) Tryz.func103 #[.pointer (some ⟨G_, 0, none⟩), .int .i64 t182, .slice Ao11 l2.length co11] ?_; (with_reducible refine (ih k (by omega) G_ a0 t182 (fun k_ => some k_ = (.slice Ao11 l2.length co11 : Value).ownBlock) (.slice Ao11 l2.length co11) l2 t183 w0 _ ?side1 HQa0.out ?side2 A9.out).mono ?_); (case side1 => repeat (first | (with_reducible first | exact HB.out | apply below_alloc | apply pw_below_drewN | apply below_drew1) | exact HB.out)); (case side2 => exact Kd.R_tight rfl HO2.out); rintro e w12 ⟨v184, rfl, ho0, hb, hkp⟩; refine ⟨_, rfl, ?_⟩; have n0_ := Aside0.mk (Kd.R_mono (ok' := fun k_ => (P2_ k_ ∨ w.heap.size ≤ k_)) ho0 (fun k_ hk_ => Or.elim hk_ (fun hs_ => (HO2.out.1 k_ (hs_).symm)) (fun hn_ => (.inr (Nat.le_trans (by first | exact HK.out.1 | exact (show Kept w _ (fun k_ => P2_ k_) from by repeat (first | (with_reducible first | exact HK.out | apply Kept.alloc | apply Kept.drewN | apply Kept.drew) | exact HK.out)).1) hn_))))); have n1_ := Aside0.mk (Kept.then_ (S := (fun k_ => P2_ k_)) (by repeat (first | (with_reducible first | exact HK.out | apply Kept.alloc | apply Kept.drewN | apply Kept.drew) | exact HK.out)) hkp (fun k_ hs_ => (fun e_ => (HO2.out.1 k_ e_.symm)) hs_)); have n2_ := Aside0.mk (hb); clear HK; clear HB; clear HO2; have HO185 := n0_; have HK := n1_; have HB := n2_; clear n0_ n1_ n2_; (try clear hb); (try clear hkp); (try clear ho0))); go_meet
     case rel => exact ⟨_, (t183), H', ⟨by first | omega | exact Nat.le_refl _⟩, ⟨rX HO185⟩, ⟨by repeat (first | (with_reducible first | exact HK.out | apply Kept.alloc | apply Kept.drewN | apply Kept.drew) | exact HK.out)⟩, ⟨bX HB⟩⟩
    ·rw [if_neg c7] at H
     exact absurd H (by simp)
   ·rw [if_neg c6] at H
    exact absurd H (by simp)
 case rest =>
  clear HC4
  try clear c1
  try clear p1
  try clear q1
  try clear hx1
  try clear p2
  try clear c5
  try clear c5b0
  try clear c5b1
  try clear c6
  try clear c6b0
  try clear c7
  try clear c7b0
  try clear c9
  try clear c10
  try clear q10
  try clear hx181_0
  try clear hx181_1
  try clear hx181_2
  try clear hx181_3
  try clear hx181_4
  try clear hx181_5
  try clear p181
  try clear q181
  obtain ⟨kq, x2_3, HA, HJ3, HO_2, HK, HB⟩ := hcut
  cases kq with
  | zero => exact absurd HA.out (by simp [arbiterref06_gather.j0])
  | succ kj3 =>
   have H := HA.out; clear HA; simp only [arbiterref06_gather.j0] at H; have H' := Aside0.mk H; clear H; go_wp2
   go_loopg [2, 7] kj3 (fun kq v2 v7 w' => ∃ (x2_2 : List Int) (x7_2 : Int), v7 = .int .i64 x7_2 ∧ Aside0 (arbiterref06_gather.l0 kq a0 a1 x2_2 x7_2 = some r) ∧ Aside0 (kq ≤ kj3) ∧ Aside0 (Kd.R (Kd.int .i64) 3 w' w0.heap.size (fun k_ => (P2_ k_ ∨ w.heap.size ≤ k_)) v2 x2_2) ∧ Aside0 (Kept w w' (fun k_ => P2_ k_)) ∧ Aside0 (Below w0.heap.size w0 w'))
   case atStart => exact ⟨(x2_3), (0), vX, H', ⟨Nat.le_refl _⟩, ⟨rX HO_2⟩, ⟨by repeat (first | (with_reducible first | exact HK.out | apply Kept.alloc | apply Kept.drewN | apply Kept.drew) | exact HK.out)⟩, ⟨bX HB⟩⟩
   case round =>
    clear H'
    try clear c1
    try clear p1
    try clear q1
    try clear hx1
    try clear p2
    try clear c5
    try clear c5b0
    try clear c5b1
    try clear c6
    try clear c6b0
    try clear c7
    try clear c7b0
    try clear c9
    try clear c10
    try clear q10
    try clear hx181_0
    try clear hx181_1
    try clear hx181_2
    try clear hx181_3
    try clear hx181_4
    try clear hx181_5
    try clear p1
    try clear p181
    try clear p2
    try clear q1
    try clear q10
    try clear q181
    obtain ⟨x2_2, x7_2, rfl, HA, HK2, HO_2, HK, HB⟩ := hrel
    cases gk with
    | zero => exact absurd HA.out (by simp [arbiterref06_gather.l0])
    | succ k2 =>
     have H := HA.out; clear HA; simp only [arbiterref06_gather.l0] at H
     by_cases c13 : 0 ≤ a1
     ·rw [if_pos c13] at H
      have c13b0 : decide (0 ≤ a1) = true := decide_eq_true c13; clear c13
      by_cases c14 : a1 < (a0.length : Int)
      ·rw [if_pos c14] at H
       have c14b0 : decide (a1 < (a0.length : Int)) = true := decide_eq_true c14; clear c14
       by_cases c15 : x7_2 < (((rd_T85 a0 a1).f2).length : Int)
       ·rw [if_pos c15] at H
        have c15b0 : decide (x7_2 < (((rd_T85 a0 a1).f2).length : Int)) = true := decide_eq_true c15; clear c15
        by_cases c16 : 0 ≤ x7_2
        ·rw [if_pos c16] at H
         have c16b0 : decide (0 ≤ x7_2) = true := decide_eq_true c16; clear c16; replace H := Option.bind_eq_some_iff.mp H; obtain ⟨t189, A170, H⟩ := H; replace H : ((arbiterref06_Has.f k2 x2_2 t189).bind fun t190 => (if t190 = true then (arbiterref06_gather.l0 k2 a0 a1 x2_2 (wrap64 (x7_2 + 1))) else ((arbiterref06_gather.f k2 a0 t189 x2_2).bind fun t191 => (if t191.length < 17592186044416 then (arbiterref06_gather.l0 k2 a0 a1 (t191 ++ [t189]) (wrap64 (x7_2 + 1))) else (none))))) = some r := H; have A17 := Aside0.mk A170; clear A170; replace H := Option.bind_eq_some_iff.mp H; obtain ⟨t190, A180, H⟩ := H; replace H : (if t190 = true then (arbiterref06_gather.l0 k2 a0 a1 x2_2 (wrap64 (x7_2 + 1))) else ((arbiterref06_gather.f k2 a0 t189 x2_2).bind fun t191 => (if t191.length < 17592186044416 then (arbiterref06_gather.l0 k2 a0 a1 (t191 ++ [t189]) (wrap64 (x7_2 + 1))) else (none)))) = some r := H; have A18 := Aside0.mk A180; clear A180
         by_cases c19 : t190 = true
         ·subst c19
          have H1 : (arbiterref06_gather.l0 k2 a0 a1 x2_2 (wrap64 (x7_2 + 1))) = some r := by rw [if_pos rfl] at H; exact H
          clear H; have H := H1; clear H1; have H' := Aside0.mk H; clear H; have hcpq20 := pw_cell_below HB.out HPa0.out; have p186 : 0 ≤ (a1 : Int) := qX; have q186 : a1 < (a0.length : Int) := qX; obtain ⟨ad186, A186_2, c186_2, A186_5, c186_5, e186, hx186_0, hx186_1, hx186_2, hx186_3, hx186_4, hx186_5, hl186_2, hi186_2, hl186_5, hi186_5⟩ := at_T85 HRqa0.out a1 p186 q186
          cases e186
          replace hx186_0 := (HB.out.cell (World.block_lt_of_cell? w0 _ hx186_0)).trans hx186_0; replace hx186_1 := (HB.out.cell (World.block_lt_of_cell? w0 _ hx186_1)).trans hx186_1; replace hx186_2 := (HB.out.cell (World.block_lt_of_cell? w0 _ hx186_2)).trans hx186_2; replace hx186_3 := (HB.out.cell (World.block_lt_of_cell? w0 _ hx186_3)).trans hx186_3; replace hx186_4 := (HB.out.cell (World.block_lt_of_cell? w0 _ hx186_4)).trans hx186_4; replace hx186_5 := (HB.out.cell (World.block_lt_of_cell? w0 _ hx186_5)).trans hx186_5; have HR186_2 := Aside0.mk hi186_2; have HC186_2 := Aside0.mk hl186_2; clear hi186_2 hl186_2; have HR186_5 := Aside0.mk hi186_5; have HC186_5 := Aside0.mk hl186_5; clear hi186_5 hl186_5; replace p186 := eq_true p186; replace q186 := eq_true q186; have hcpq21 := pw_cell_below HB.out HPa0.out; have p187 : 0 ≤ (a1 : Int) := qX; have q187 : a1 < (a0.length : Int) := qX; obtain ⟨ad187, A187_2, c187_2, A187_5, c187_5, e187, hx187_0, hx187_1, hx187_2, hx187_3, hx187_4, hx187_5, hl187_2, hi187_2, hl187_5, hi187_5⟩ := at_T85 HRqa0.out a1 p187 q187
          obtain rfl : ad186 = ad187 := (by injection e187)
          replace hx187_0 := (HB.out.cell (World.block_lt_of_cell? w0 _ hx187_0)).trans hx187_0; replace hx187_1 := (HB.out.cell (World.block_lt_of_cell? w0 _ hx187_1)).trans hx187_1; replace hx187_2 := (HB.out.cell (World.block_lt_of_cell? w0 _ hx187_2)).trans hx187_2; replace hx187_3 := (HB.out.cell (World.block_lt_of_cell? w0 _ hx187_3)).trans hx187_3; replace hx187_4 := (HB.out.cell (World.block_lt_of_cell? w0 _ hx187_4)).trans hx187_4; replace hx187_5 := (HB.out.cell (World.block_lt_of_cell? w0 _ hx187_5)).trans hx187_5; have HR187_2 := Aside0.mk hi187_2; have HC187_2 := Aside0.mk hl187_2; clear hi187_2 hl187_2; have HR187_5 := Aside0.mk hi187_5; have HC187_5 := Aside0.mk hl187_5; clear hi187_5 hl187_5; replace p187 := eq_true p187; replace q187 := eq_true q187; have ea_ := Option.some.inj (hx186_2.symm.trans hx187_2); injection ea_ with ea_ en_ ec_; subst ea_; subst ec_; clear en_; have ea_ := Option.some.inj (hx186_5.symm.trans hx187_5); injection ea_ with ea_ en_ ec_; subst ea_; subst ec_; clear en_; have p188 : 0 ≤ (x7_2 : Int) := qX; have q188 : x7_2 < (((rd_T85 a0 a1).f2).length : Int) := qX; obtain ⟨ad188, e188, hx188_0⟩ := Kd.at_string HR187_2.out x7_2 p188 q188
          cases e188
          replace hx188_0 := (HB.out.cell (World.block_lt_of_cell? w0 _ hx188_0)).trans hx188_0; replace p188 := eq_true p188; replace q188 := eq_true q188; go_wp2_with (first | ((with_reducible refine gate_callee (f := 91) rfl ?_); refine gX (some 49) Tryz.func91 #[.pointer (some ⟨G_, 0, none⟩), .string (rdOf ByteArray.empty ((rd_T85 a0 a1).f2) x7_2)] ?_; (with_reducible refine (arbiterref06_named.calls k2 G_ a0 (rdOf ByteArray.empty ((rd_T85 a0 a1).f2) x7_2) t189 _ ?side1 A17.out).mono ?_); (case side1 => repeat (first | (with_reducible exact HQa0.out) | (with_reducible refine ROK.alloc ?_ _) | (with_reducible refine ROK.drewN ?_ _) | (with_reducible refine ROK.drew ?_) | exact ROK.below HQa0.out HB.out | exact ROK.below HQa0.out (bX HB))); rintro e w' ⟨rfl, ⟨nd, rfl⟩⟩; refine ⟨_, rfl, ?_⟩; obtain ⟨Ao22, co22, eo22⟩ := Kd.R_slice HO_2.out; subst eo22) | ((with_reducible refine gate_callee (f := 102) rfl ?_); refine gX (some 52) Tryz.func102 #[.slice Ao22 x2_2.length co22, .int .i64 t189] ?_; (with_reducible refine (arbiterref06_Has.calls k2 _ _ x2_2 t189 true _ ?side1 ?side2 A18.out).mono ?_); (case side1 => repeat (first | exact (Kd.R_reads' HO_2.out).2.2 | (with_reducible refine Kd.C_alloc ?_ _) | (with_reducible refine Kd.C_drewN ?_ _) | (with_reducible refine Kd.C_drew ?_))); (case side2 => exact (Kd.R_reads' HO_2.out).2.1); rintro e w' ⟨rfl, ⟨nd, rfl⟩⟩; refine ⟨_, rfl, ?_⟩))
          go_roundg k2
          case measure => have := HJ3.out; have := HK2.out; omega
          case rel => exact ⟨(x2_2), (wrap64 (x7_2 + 1)), vX, H', ⟨by have := HJ3.out; have := HK2.out; omega⟩, ⟨rX HO_2⟩, ⟨by repeat (first | (with_reducible first | exact HK.out | apply Kept.alloc | apply Kept.drewN | apply Kept.drew) | exact HK.out)⟩, ⟨bX HB⟩⟩
         ·replace c19 := Bool.eq_false_iff.mpr c19
          subst c19
          have H1 : ((arbiterref06_gather.f k2 a0 t189 x2_2).bind fun t191 => (if t191.length < 17592186044416 then (arbiterref06_gather.l0 k2 a0 a1 (t191 ++ [t189]) (wrap64 (x7_2 + 1))) else (none))) = some r := by rw [if_neg (show ¬ (false = true) by decide)] at H; exact H
          clear H; have H := H1; clear H1; replace H := Option.bind_eq_some_iff.mp H; obtain ⟨t191, A230, H⟩ := H; replace H : (if t191.length < 17592186044416 then (arbiterref06_gather.l0 k2 a0 a1 (t191 ++ [t189]) (wrap64 (x7_2 + 1))) else (none)) = some r := H; have A23 := Aside0.mk A230; clear A230
          by_cases c24 : t191.length < 17592186044416
          ·rw [if_pos c24] at H
           have LMc24 := Aside0.mk c24; clear c24
           obtain ⟨y194, hy194⟩ : ∃ y_ : List Int, y_ = (t191 ++ [t189]) := ⟨_, rfl⟩
           replace H : (arbiterref06_gather.l0 k2 a0 a1 y194 (wrap64 (x7_2 + 1))) = some r := by first | (rw [hy194]; with_reducible exact H) | (have H2_ := (Option.bind_some _ _).symm.trans H; rw [hy194]; with_reducible exact H2_) | (have H2_ := (Option.bind_some _ _).symm.trans H; with_reducible exact H2_) | with_reducible exact H | (rw [hy194]; exact H) | exact H
           have Ny194 := Aside0.mk hy194; clear hy194; have H' := Aside0.mk H; clear H; have hcpq25 := pw_cell_below HB.out HPa0.out; have p186 : 0 ≤ (a1 : Int) := qX; have q186 : a1 < (a0.length : Int) := qX; obtain ⟨ad186, A186_2, c186_2, A186_5, c186_5, e186, hx186_0, hx186_1, hx186_2, hx186_3, hx186_4, hx186_5, hl186_2, hi186_2, hl186_5, hi186_5⟩ := at_T85 HRqa0.out a1 p186 q186
           cases e186
           replace hx186_0 := (HB.out.cell (World.block_lt_of_cell? w0 _ hx186_0)).trans hx186_0; replace hx186_1 := (HB.out.cell (World.block_lt_of_cell? w0 _ hx186_1)).trans hx186_1; replace hx186_2 := (HB.out.cell (World.block_lt_of_cell? w0 _ hx186_2)).trans hx186_2; replace hx186_3 := (HB.out.cell (World.block_lt_of_cell? w0 _ hx186_3)).trans hx186_3; replace hx186_4 := (HB.out.cell (World.block_lt_of_cell? w0 _ hx186_4)).trans hx186_4; replace hx186_5 := (HB.out.cell (World.block_lt_of_cell? w0 _ hx186_5)).trans hx186_5; have HR186_2 := Aside0.mk hi186_2; have HC186_2 := Aside0.mk hl186_2; clear hi186_2 hl186_2; have HR186_5 := Aside0.mk hi186_5; have HC186_5 := Aside0.mk hl186_5; clear hi186_5 hl186_5; replace p186 := eq_true p186; replace q186 := eq_true q186; have hcpq26 := pw_cell_below HB.out HPa0.out; have p187 : 0 ≤ (a1 : Int) := qX; have q187 : a1 < (a0.length : Int) := qX; obtain ⟨ad187, A187_2, c187_2, A187_5, c187_5, e187, hx187_0, hx187_1, hx187_2, hx187_3, hx187_4, hx187_5, hl187_2, hi187_2, hl187_5, hi187_5⟩ := at_T85 HRqa0.out a1 p187 q187
           obtain rfl : ad186 = ad187 := (by injection e187)
           replace hx187_0 := (HB.out.cell (World.block_lt_of_cell? w0 _ hx187_0)).trans hx187_0; replace hx187_1 := (HB.out.cell (World.block_lt_of_cell? w0 _ hx187_1)).trans hx187_1; replace hx187_2 := (HB.out.cell (World.block_lt_of_cell? w0 _ hx187_2)).trans hx187_2; replace hx187_3 := (HB.out.cell (World.block_lt_of_cell? w0 _ hx187_3)).trans hx187_3; replace hx187_4 := (HB.out.cell (World.block_lt_of_cell? w0 _ hx187_4)).trans hx187_4; replace hx187_5 := (HB.out.cell (World.block_lt_of_cell? w0 _ hx187_5)).trans hx187_5; have HR187_2 := Aside0.mk hi187_2; have HC187_2 := Aside0.mk hl187_2; clear hi187_2 hl187_2; have HR187_5 := Aside0.mk hi187_5; have HC187_5 := Aside0.mk hl187_5; clear hi187_5 hl187_5; replace p187 := eq_true p187; replace q187 := eq_true q187; have ea_ := Option.some.inj (hx186_2.symm.trans hx187_2); injection ea_ with ea_ en_ ec_; subst ea_; subst ec_; clear en_; have ea_ := Option.some.inj (hx186_5.symm.trans hx187_5); injection ea_ with ea_ en_ ec_; subst ea_; subst ec_; clear en_; have p188 : 0 ≤ (x7_2 : Int) := qX; have q188 : x7_2 < (((rd_T85 a0 a1).f2).length : Int) := qX; obtain ⟨ad188, e188, hx188_0⟩ := Kd.at_string HR187_2.out x7_2 p188 q188
           cases e188
           replace hx188_0 := (HB.out.cell (World.block_lt_of_cell? w0 _ hx188_0)).trans hx188_0; replace p188 := eq_true p188; replace q188 := eq_true q188; go_wp2_with (first | ((with_reducible refine gate_callee (f := 91) rfl ?_); refine gX (some 49) Tryz.func91 #[.pointer (some ⟨G_, 0, none⟩), .string (rdOf ByteArray.empty ((rd_T85 a0 a1).f2) x7_2)] ?_; (with_reducible refine (arbiterref06_named.calls k2 G_ a0 (rdOf ByteArray.empty ((rd_T85 a0 a1).f2) x7_2) t189 _ ?side1 A17.out).mono ?_); (case side1 => repeat (first | (with_reducible exact HQa0.out) | (with_reducible refine ROK.alloc ?_ _) | (with_reducible refine ROK.drewN ?_ _) | (with_reducible refine ROK.drew ?_) | exact ROK.below HQa0.out HB.out | exact ROK.below HQa0.out (bX HB))); rintro e w' ⟨rfl, ⟨nd, rfl⟩⟩; refine ⟨_, rfl, ?_⟩; obtain ⟨Ao27, co27, eo27⟩ := Kd.R_slice HO_2.out; subst eo27) | ((with_reducible refine gate_callee (f := 102) rfl ?_); refine gX (some 52) Tryz.func102 #[.slice Ao27 x2_2.length co27, .int .i64 t189] ?_; (with_reducible refine (arbiterref06_Has.calls k2 _ _ x2_2 t189 false _ ?side1 ?side2 A18.out).mono ?_); (case side1 => repeat (first | exact (Kd.R_reads' HO_2.out).2.2 | (with_reducible refine Kd.C_alloc ?_ _) | (with_reducible refine Kd.C_drewN ?_ _) | (with_reducible refine Kd.C_drew ?_))); (case side2 => exact (Kd.R_reads' HO_2.out).2.1); rintro e w' ⟨rfl, ⟨nd, rfl⟩⟩; refine ⟨_, rfl, ?_⟩) | ((with_reducible refine gate_callee (f := 103) rfl ?_); refine gX (some 57) Tryz.func103 #[.pointer (some ⟨G_, 0, none⟩), .int .i64 t189, .slice Ao27 x2_2.length co27] ?_; (with_reducible refine (ih k2 (by have := HJ3.out; have := HK2.out; omega) G_ a0 t189 (fun k_ => some k_ = (.slice Ao27 x2_2.length co27 : Value).ownBlock) (.slice Ao27 x2_2.length co27) x2_2 t191 w0 _ ?side1 HQa0.out ?side2 A23.out).mono ?_); (case side1 => repeat (first | (with_reducible first | exact HB.out | apply below_alloc | apply pw_below_drewN | apply below_drew1) | exact HB.out)); (case side2 => exact Kd.R_tight rfl HO_2.out); rintro e w28 ⟨v192, rfl, ho0, hb, hkp⟩; refine ⟨_, rfl, ?_⟩; have n0_ := Aside0.mk (Kd.R_mono (ok' := fun k_ => (P2_ k_ ∨ w.heap.size ≤ k_)) ho0 (fun k_ hk_ => Or.elim hk_ (fun hs_ => (HO_2.out.1 k_ (hs_).symm)) (fun hn_ => (.inr (Nat.le_trans (by first | exact HK.out.1 | exact (show Kept w _ (fun k_ => P2_ k_) from by repeat (first | (with_reducible first | exact HK.out | apply Kept.alloc | apply Kept.drewN | apply Kept.drew) | exact HK.out)).1) hn_))))); have n1_ := Aside0.mk (Kept.then_ (S := (fun k_ => P2_ k_)) (by repeat (first | (with_reducible first | exact HK.out | apply Kept.alloc | apply Kept.drewN | apply Kept.drew) | exact HK.out)) hkp (fun k_ hs_ => (fun e_ => (HO_2.out.1 k_ e_.symm)) hs_)); have n2_ := Aside0.mk (hb); clear HK; clear HB; clear HO_2; have HO193 := n0_; have HK := n1_; have HB := n2_; clear n0_ n1_ n2_; (try clear hb); (try clear hkp); (try clear ho0)) | ((with_reducible refine gate_builtin (b := .append) (xs := #[.tmp 57, .tmp 59]) rfl ?_); at_builtin; refine Kd.R_append (Kd.int .i64) (w0 := w0) w0.heap.size rfl (.tmp 57) (.tmp 59) 49 3 (.int .i64 0) 8 rfl Tryz.underlying49 info3 rfl (by decide) (by omega) v192 t191 t189 [.int .i64 t189] (fun k_ => (P2_ k_ ∨ w.heap.size ≤ k_)) (fun _ => False) rfl rfl ?aP (fun _ hk => hk.elim) ?aF ?aO ?aB ?aS ?aL ?_; (case aP => exact rfl); (case aB => exact (bX HB)); (case aF => exact (fun k_ hk => (.inr (Nat.le_trans (by first | exact HK.out.1 | exact (show Kept w _ (fun k_ => P2_ k_) from by repeat (first | (with_reducible first | exact HK.out | apply Kept.alloc | apply Kept.drewN | apply Kept.drew) | exact HK.out)).1) hk)))); (case aO => exact (rX HO193)); (case aS => exact (below_size (bX HB))); (case aL => have := LMc24.out; omega); intro v195 w29 ho hb hg hat; rw [← Ny194.out] at ho; have n0_ := Aside0.mk (hb); have n1_ := Aside0.mk (Kept.of_grown (S := (fun k_ => P2_ k_)) hg (by repeat (first | (with_reducible first | exact HK.out | apply Kept.alloc | apply Kept.drewN | apply Kept.drew) | exact HK.out)) (fun k_ e_ => (HO193.out.1 k_ e_))); have n2_ := Aside0.mk (ho); clear HB; clear HK; clear HO193; have HB := n0_; have HK := n1_; have HO196 := n2_; clear n0_ n1_ n2_; clear ho hb hg hat))
           go_roundg k2
           case measure => have := HJ3.out; have := HK2.out; omega
           case rel => exact ⟨(y194), (wrap64 (x7_2 + 1)), vX, H', ⟨by have := HJ3.out; have := HK2.out; omega⟩, ⟨rX HO196⟩, ⟨by repeat (first | (with_reducible first | exact HK.out | apply Kept.alloc | apply Kept.drewN | apply Kept.drew) | exact HK.out)⟩, ⟨bX HB⟩⟩
          ·rw [if_neg c24] at H
           exact absurd H (by simp)
        ·rw [if_neg c16] at H
         exact absurd H (by simp)
       ·rw [if_neg c15] at H
        have c15b0 : decide (x7_2 < (((rd_T85 a0 a1).f2).length : Int)) = false := decide_eq_false c15; clear c15; obtain rfl := Option.some.inj H; have hcpq30 := pw_cell_below HB.out HPa0.out; have p186 : 0 ≤ (a1 : Int) := qX; have q186 : a1 < (a0.length : Int) := qX; obtain ⟨ad186, A186_2, c186_2, A186_5, c186_5, e186, hx186_0, hx186_1, hx186_2, hx186_3, hx186_4, hx186_5, hl186_2, hi186_2, hl186_5, hi186_5⟩ := at_T85 HRqa0.out a1 p186 q186
        cases e186
        replace hx186_0 := (HB.out.cell (World.block_lt_of_cell? w0 _ hx186_0)).trans hx186_0; replace hx186_1 := (HB.out.cell (World.block_lt_of_cell? w0 _ hx186_1)).trans hx186_1; replace hx186_2 := (HB.out.cell (World.block_lt_of_cell? w0 _ hx186_2)).trans hx186_2; replace hx186_3 := (HB.out.cell (World.block_lt_of_cell? w0 _ hx186_3)).trans hx186_3; replace hx186_4 := (HB.out.cell (World.block_lt_of_cell? w0 _ hx186_4)).trans hx186_4; replace hx186_5 := (HB.out.cell (World.block_lt_of_cell? w0 _ hx186_5)).trans hx186_5; have HR186_2 := Aside0.mk hi186_2; have HC186_2 := Aside0.mk hl186_2; clear hi186_2 hl186_2; have HR186_5 := Aside0.mk hi186_5; have HC186_5 := Aside0.mk hl186_5; clear hi186_5 hl186_5; replace p186 := eq_true p186; replace q186 := eq_true q186; go_wp2; go_ret
        exact ⟨_, by first | rfl | (simp [errW_none, errW_some] <;> rfl) | (simp [*, errW_none, errW_some] <;> rfl), by (with_reducible repeat (first | apply Kd.R_alloc | apply Kd.R_drewN | apply Kd.R_drew)); exact HO_2.out, bX HB, by repeat (first | (with_reducible first | exact HK.out | apply Kept.alloc | apply Kept.drewN | apply Kept.drew) | exact HK.out)⟩
      ·rw [if_neg c14] at H
       exact absurd H (by simp)
     ·rw [if_neg c13] at H
      exact absurd H (by simp)
def arbiterref06_Extends.j0 : Nat → List S85 → Int → Int → Bool → Option (Bool)
 | 0, _, _, _, _ => none
 | k + 1, x0, x1, x2, x18 => if x18 = true then (some false) else ((arbiterref06_Chain.f k x0 x1).bind fun bt199 => ((arbiterref06_Has.f k bt199.1 x2).bind fun t203 => (if t203 = true then (some true) else ((arbiterref06_gather.f k x0 x1 ([] : List Int)).bind fun t204 => ((arbiterref06_Has.f k t204 x2).bind fun t207 => (some t207))))))
def arbiterref06_Extends.f (k : Nat) (a0 : List S85) (a1 : Int) (a2 : Int) : Option (Bool) := (arbiterref06_In.f a0 a1).bind fun t197 => (if t197 = true then ((arbiterref06_In.f a0 a2).bind fun t198 => (arbiterref06_Extends.j0 k a0 a1 a2 (!t198))) else (arbiterref06_Extends.j0 k a0 a1 a2 true))
set_option maxHeartbeats 8000000 in
set_option maxRecDepth 100000 in
theorem arbiterref06_Extends.calls (k : Nat) (G_ : Nat) (a0 : List S85) (a1 : Int) (a2 : Int) (r : Bool) (w : World) (hq0 : ROK w G_ a0) (h : arbiterref06_Extends.f k a0 a1 a2 = some r) :
  Calls Tryz.prog 66 #[.pointer (some ⟨G_, 0, none⟩), .int .i64 a1, .int .i64 a2] w fun e w' => e = .returned (.bool r) ∧ Below w.heap.size w w' := by
 obtain ⟨AQa0, cQa0, hp0, hrq0, hcq0⟩ := ROK.open hq0; have HPa0 := Aside0.mk hp0; have HRqa0 := Aside0.mk hrq0; have HCqa0 := Aside0.mk hcq0; clear hp0 hrq0 hcq0; have HQa0 := Aside0.mk hq0; clear hq0; have HB := Aside0.mk (Below.refl w.heap.size w); have H : ((arbiterref06_In.f a0 a1).bind fun t197 => (if t197 = true then ((arbiterref06_In.f a0 a2).bind fun t198 => (arbiterref06_Extends.j0 k a0 a1 a2 (!t198))) else (arbiterref06_Extends.j0 k a0 a1 a2 true))) = some r := h; clear h; have HC4 := Aside0.mk H; clear H; go_enter Tryz.func66, Tryz.ntmps66
 go_upto_region 1 with (fail)
 go_cut [18] (fun v18 wc => ∃ (kq : Nat) (x18_3 : Bool), v18 = .bool x18_3 ∧ Aside0 (arbiterref06_Extends.j0 kq a0 a1 a2 x18_3 = some r) ∧ Aside0 (kq ≤ k) ∧ Aside0 (Below w.heap.size w wc))
 case first =>
  have H := HC4.out; clear HC4; replace H := Option.bind_eq_some_iff.mp H; obtain ⟨t197, A50, H⟩ := H; replace H : (if t197 = true then ((arbiterref06_In.f a0 a2).bind fun t198 => (arbiterref06_Extends.j0 k a0 a1 a2 (!t198))) else (arbiterref06_Extends.j0 k a0 a1 a2 true)) = some r := H; have A5 := Aside0.mk A50; clear A50
  by_cases c6 : t197 = true
  ·subst c6
   have H1 : ((arbiterref06_In.f a0 a2).bind fun t198 => (arbiterref06_Extends.j0 k a0 a1 a2 (!t198))) = some r := by rw [if_pos rfl] at H; exact H
   clear H; have H := H1; clear H1; replace H := Option.bind_eq_some_iff.mp H; obtain ⟨t198, A70, H⟩ := H; replace H : (arbiterref06_Extends.j0 k a0 a1 a2 (!t198)) = some r := H; have A7 := Aside0.mk A70; clear A70; have H' := Aside0.mk H; clear H; go_wp2_with (first | ((with_reducible refine gate_callee (f := 51) rfl ?_); refine gX (some 11) Tryz.func51 #[.pointer (some ⟨G_, 0, none⟩), .int .i64 a1] ?_; (with_reducible refine (arbiterref06_In.calls G_ a0 a1 true _ ?side1 A5.out).mono ?_); (case side1 => repeat (first | (with_reducible exact HQa0.out) | (with_reducible refine ROK.alloc ?_ _) | (with_reducible refine ROK.drewN ?_ _) | (with_reducible refine ROK.drew ?_) | exact ROK.below HQa0.out HB.out | exact ROK.below HQa0.out (bX HB))); rintro e w' ⟨rfl, ⟨nd, rfl⟩⟩; refine ⟨_, rfl, ?_⟩) | (go_at_call 51; (with_reducible refine (arbiterref06_In.calls G_ a0 a2 t198 _ ?side1 A7.out).mono ?_); (case side1 => repeat (first | (with_reducible exact HQa0.out) | (with_reducible refine ROK.alloc ?_ _) | (with_reducible refine ROK.drewN ?_ _) | (with_reducible refine ROK.drew ?_) | exact ROK.below HQa0.out HB.out | exact ROK.below HQa0.out (bX HB))); rintro e w' ⟨rfl, ⟨nd, rfl⟩⟩)); go_meet
   case rel => exact ⟨_, (!t198), vX, H', ⟨by first | omega | exact Nat.le_refl _⟩, ⟨bX HB⟩⟩
  ·replace c6 := Bool.eq_false_iff.mpr c6
   subst c6
   have H1 : (arbiterref06_Extends.j0 k a0 a1 a2 true) = some r := by rw [if_neg (show ¬ (false = true) by decide)] at H; exact H
   clear H; have H := H1; clear H1; have H' := Aside0.mk H; clear H; go_wp2_with (first | ((with_reducible refine gate_callee (f := 51) rfl ?_); refine gX (some 11) Tryz.func51 #[.pointer (some ⟨G_, 0, none⟩), .int .i64 a1] ?_; (with_reducible refine (arbiterref06_In.calls G_ a0 a1 false _ ?side1 A5.out).mono ?_); (case side1 => repeat (first | (with_reducible exact HQa0.out) | (with_reducible refine ROK.alloc ?_ _) | (with_reducible refine ROK.drewN ?_ _) | (with_reducible refine ROK.drew ?_) | exact ROK.below HQa0.out HB.out | exact ROK.below HQa0.out (bX HB))); rintro e w' ⟨rfl, ⟨nd, rfl⟩⟩; refine ⟨_, rfl, ?_⟩)); go_meet
   case rel => exact ⟨_, (true), vX, H', ⟨by first | omega | exact Nat.le_refl _⟩, ⟨bX HB⟩⟩
 case rest =>
  clear HC4
  try clear p2
  try clear c5
  try clear c6
  obtain ⟨kq, x18_3, rfl, HA, HJ3, HB⟩ := hcut
  cases kq with
  | zero => exact absurd HA.out (by simp [arbiterref06_Extends.j0])
  | succ kj3 =>
   have H := HA.out; clear HA; simp only [arbiterref06_Extends.j0] at H
   by_cases c8 : x18_3 = true
   ·subst c8
    have H1 : (some false) = some r := by rw [if_pos rfl] at H; exact H
    clear H; have H := H1; clear H1; obtain rfl := Option.some.inj H; go_wp2; go_ret
    exact ⟨by first | rfl | (simp [errW_none, errW_some] <;> rfl) | (simp [*, errW_none, errW_some] <;> rfl), bX HB⟩
   ·replace c8 := Bool.eq_false_iff.mpr c8
    subst c8
    have H1 : ((arbiterref06_Chain.f kj3 a0 a1).bind fun bt199 => ((arbiterref06_Has.f kj3 bt199.1 a2).bind fun t203 => (if t203 = true then (some true) else ((arbiterref06_gather.f kj3 a0 a1 ([] : List Int)).bind fun t204 => ((arbiterref06_Has.f kj3 t204 a2).bind fun t207 => (some t207)))))) = some r := by rw [if_neg (show ¬ (false = true) by decide)] at H; exact H
    clear H; have H := H1; clear H1; replace H := Option.bind_eq_some_iff.mp H; obtain ⟨⟨t199, t200⟩, A90, H⟩ := H; replace H : ((arbiterref06_Has.f kj3 t199 a2).bind fun t203 => (if t203 = true then (some true) else ((arbiterref06_gather.f kj3 a0 a1 ([] : List Int)).bind fun t204 => ((arbiterref06_Has.f kj3 t204 a2).bind fun t207 => (some t207))))) = some r := H; have A9 := Aside0.mk A90; clear A90; replace H := Option.bind_eq_some_iff.mp H; obtain ⟨t203, A100, H⟩ := H; replace H : (if t203 = true then (some true) else ((arbiterref06_gather.f kj3 a0 a1 ([] : List Int)).bind fun t204 => ((arbiterref06_Has.f kj3 t204 a2).bind fun t207 => (some t207)))) = some r := H; have A10 := Aside0.mk A100; clear A100
    by_cases c11 : t203 = true
    ·subst c11
     have H1 : (some true) = some r := by rw [if_pos rfl] at H; exact H
     clear H; have H := H1; clear H1; obtain rfl := Option.some.inj H; go_wp2_with (first | ((with_reducible refine gate_callee (f := 73) rfl ?_); refine gX (some 22) Tryz.func73 #[.pointer (some ⟨G_, 0, none⟩), .int .i64 a1] ?_; (with_reducible refine (arbiterref06_Chain.calls kj3 G_ a0 a1 t199 t200 _ ?side1 A9.out).mono ?_); (case side1 => repeat (first | (with_reducible exact HQa0.out) | (with_reducible refine ROK.alloc ?_ _) | (with_reducible refine ROK.drewN ?_ _) | (with_reducible refine ROK.drew ?_) | exact ROK.below HQa0.out HB.out | exact ROK.below HQa0.out (bX HB))); rintro e w12 ⟨v201, rfl, ho0, hb⟩; refine ⟨_, rfl, ?_⟩; have n0_ := Aside0.mk (Kd.R_lower ho0 (below_size (bX HB))); have n1_ := Aside0.mk (below_step (bX HB) hb); clear HB; have HO202 := n0_; have HB := n1_; clear n0_ n1_; (try clear hb); (try clear hb2); (try clear hk); (try clear hi); (try clear ho0); obtain ⟨Ao13, co13, eo13⟩ := Kd.R_slice HO202.out; subst eo13) | ((with_reducible refine gate_callee (f := 102) rfl ?_); refine gX (some 27) Tryz.func102 #[.slice Ao13 t199.length co13, .int .i64 a2] ?_; (with_reducible refine (arbiterref06_Has.calls kj3 _ _ t199 a2 true _ ?side1 ?side2 A10.out).mono ?_); (case side1 => repeat (first | exact (Kd.R_reads' HO202.out).2.2 | (with_reducible refine Kd.C_alloc ?_ _) | (with_reducible refine Kd.C_drewN ?_ _) | (with_reducible refine Kd.C_drew ?_))); (case side2 => exact (Kd.R_reads' HO202.out).2.1); rintro e w' ⟨rfl, ⟨nd, rfl⟩⟩; refine ⟨_, rfl, ?_⟩)); go_ret
     exact ⟨by first | rfl | (simp [errW_none, errW_some] <;> rfl) | (simp [*, errW_none, errW_some] <;> rfl), bX HB⟩
    ·replace c11 := Bool.eq_false_iff.mpr c11
     subst c11
     have H1 : ((arbiterref06_gather.f kj3 a0 a1 ([] : List Int)).bind fun t204 => ((arbiterref06_Has.f kj3 t204 a2).bind fun t207 => (some t207))) = some r := by rw [if_neg (show ¬ (false = true) by decide)] at H; exact H
     clear H; have H := H1; clear H1; replace H := Option.bind_eq_some_iff.mp H; obtain ⟨t204, A140, H⟩ := H; replace H : ((arbiterref06_Has.f kj3 t204 a2).bind fun t207 => (some t207)) = some r := H; have A14 := Aside0.mk A140; clear A140; replace H := Option.bind_eq_some_iff.mp H; obtain ⟨t207, A150, H⟩ := H; replace H : (some t207) = some r := H; have A15 := Aside0.mk A150; clear A150; obtain rfl := Option.some.inj H; go_wp2_with (first | ((with_reducible refine gate_callee (f := 73) rfl ?_); refine gX (some 22) Tryz.func73 #[.pointer (some ⟨G_, 0, none⟩), .int .i64 a1] ?_; (with_reducible refine (arbiterref06_Chain.calls kj3 G_ a0 a1 t199 t200 _ ?side1 A9.out).mono ?_); (case side1 => repeat (first | (with_reducible exact HQa0.out) | (with_reducible refine ROK.alloc ?_ _) | (with_reducible refine ROK.drewN ?_ _) | (with_reducible refine ROK.drew ?_) | exact ROK.below HQa0.out HB.out | exact ROK.below HQa0.out (bX HB))); rintro e w16 ⟨v201, rfl, ho0, hb⟩; refine ⟨_, rfl, ?_⟩; have n0_ := Aside0.mk (Kd.R_lower ho0 (below_size (bX HB))); have n1_ := Aside0.mk (below_step (bX HB) hb); clear HB; have HO202 := n0_; have HB := n1_; clear n0_ n1_; (try clear hb); (try clear hb2); (try clear hk); (try clear hi); (try clear ho0); obtain ⟨Ao17, co17, eo17⟩ := Kd.R_slice HO202.out; subst eo17) | ((with_reducible refine gate_callee (f := 102) rfl ?_); refine gX (some 27) Tryz.func102 #[.slice Ao17 t199.length co17, .int .i64 a2] ?_; (with_reducible refine (arbiterref06_Has.calls kj3 _ _ t199 a2 false _ ?side1 ?side2 A10.out).mono ?_); (case side1 => repeat (first | exact (Kd.R_reads' HO202.out).2.2 | (with_reducible refine Kd.C_alloc ?_ _) | (with_reducible refine Kd.C_drewN ?_ _) | (with_reducible refine Kd.C_drew ?_))); (case side2 => exact (Kd.R_reads' HO202.out).2.1); rintro e w' ⟨rfl, ⟨nd, rfl⟩⟩; refine ⟨_, rfl, ?_⟩) | (go_at_call 103; (refine (arbiterref06_gather.calls kj3 G_ a0 a1 (fun k_ => some k_ = (.slice none 0 0 : Value).ownBlock) (.slice none 0 0) ([] : List Int) t204 w _ ?side1 HQa0.out ?side2 A14.out).mono ?_); (case side1 => repeat (first | (with_reducible first | exact HB.out | apply below_alloc | apply pw_below_drewN | apply below_drew1) | exact HB.out)); (case side2 => exact Kd.R_nil _ _ _ _ _); rintro e w18 ⟨v205, rfl, ho0, hb, hkp⟩; have n0_ := Aside0.mk (Kd.R_mono (ok' := fun k_ => some k_ ≠ (v205 : Value).ownBlock) (Kd.R_keptB (HO202.out) hkp (fun k_ hk_ hs_ => (fun e_ => by simp [Value.ownBlock] at e_) hs_)) (fun k_ hk_ => fun e_ => Or.elim (ho0.1 k_ e_.symm) (fun hs_ => hk_.2.1 hs_) (fun hn_ => Nat.not_le.2 hk_.2.2 hn_))); have n1_ := Aside0.mk (Kd.R_mono (ok' := fun k_ => some k_ ≠ (.slice Ao17 t199.length co17 : Value).ownBlock) ho0 (fun k_ hk_ => Or.elim hk_ (fun hs_ => absurd hs_ (by simp [Value.ownBlock])) (fun hn_ => (Kd.fresh' (Kd.R_lt (rX HO202)) k_ hn_)))); have n2_ := Aside0.mk (hb); clear HO202; clear HB; have HO202 := n0_; have HO206 := n1_; have HB := n2_; clear n0_ n1_ n2_; (try clear hb); (try clear hkp); (try clear ho0); obtain ⟨Ao19, co19, eo19⟩ := Kd.R_slice HO206.out; subst eo19) | (go_at_call 102; (with_reducible refine (arbiterref06_Has.calls kj3 _ _ t204 a2 t207 _ ?side1 ?side2 A15.out).mono ?_); (case side1 => repeat (first | exact (Kd.R_reads' HO206.out).2.2 | (with_reducible refine Kd.C_alloc ?_ _) | (with_reducible refine Kd.C_drewN ?_ _) | (with_reducible refine Kd.C_drew ?_))); (case side2 => exact (Kd.R_reads' HO206.out).2.1); rintro e w' ⟨rfl, ⟨nd, rfl⟩⟩)); go_ret
     exact ⟨by first | rfl | (simp [errW_none, errW_some] <;> rfl) | (simp [*, errW_none, errW_some] <;> rfl), bX HB⟩
def access_Package.f (a0 : List Hi.Ent) (a1 : Int) : Option (Int × ByteArray × Int) := (access_homeOf.f a0 a1).bind fun bt208 => (some (bt208.1, bt208.2.1, bt208.2.2.2.2.2.2.2.2))
end Go.Proofs.YtaipkdglhfhhiaaGreatDoor.Pt

namespace Go.Proofs.YtaipkdglhfhhiaaGreatDoor.Pt
open Go.RowKit Go.Proofs.YtaipkdglhfhhiaaGreatDoorW.PrintWords Go.Proofs.YtaipkdglhfhhiaaGreatDoorW.PrintLast Go.Proofs.YtaipkdglhfhhiaaGreatDoorW.PrintMore
attribute [local go_sem] max2_int min2_int max_two min_two max_three min_three max_four min_four   -- for this text's walks alone
set_option linter.unusedVariables false
set_option linter.unusedSimpArgs false
def arbiterref08_Package.f (a0 : List S85) (a1 : Int) : Option (Int × ByteArray × Int) := (arbiterref06_In.f a0 a1).bind fun t223 => (if t223 = true then (if 0 ≤ a1 then (if a1 < (a0.length : Int) then ((arbiterref01_Package.f ((rd_T85 a0 a1).f0)).bind fun t226 => (some ((rd_T85 a0 a1).f4, t226, 0))) else (none)) else (none)) else (some (0, (⟨#[]⟩ : ByteArray), 3)))
def arbiterref08_ClassOpen.j0 : Nat → List S85 → Int → Int → Bool → Option (Bool × Int)
 | 0, _, _, _, _ => none
 | k + 1, x0, x1, x2, x17 => if x17 = true then (some (false, 3)) else (if 0 ≤ x2 then (if x2 < (x0.length : Int) then ((arbiterref03_Has.f ((rd_T85 x0 x2).f3) 1).bind fun t230 => (if t230 = true then (some (true, 0)) else ((arbiterref06_SamePackage.f x0 x1 x2).bind fun t231 => (some (t231, 0))))) else (none)) else (none))
def arbiterref08_ClassOpen.f (k : Nat) (a0 : List S85) (a1 : Int) (a2 : Int) : Option (Bool × Int) := (arbiterref06_In.f a0 a1).bind fun t227 => (if t227 = true then ((arbiterref06_In.f a0 a2).bind fun t228 => (arbiterref08_ClassOpen.j0 k a0 a1 a2 (!t228))) else (arbiterref08_ClassOpen.j0 k a0 a1 a2 true))
def arbiterref06_ByName.f (k : Nat) (a0 : List S85) (a1 : ByteArray) : Option (Int × Int) := (arbiterref06_named.f k a0 a1).bind fun t232 => (if t232 < 0 then (some (0, 6)) else (some (t232, 0)))
end Go.Proofs.YtaipkdglhfhhiaaGreatDoor.Pt

namespace Go.Proofs.YtaipkdglhfhhiaaGreatDoor.Pt
open Go Go.RowKit Go.Proofs.YtaipkdglhfhhiaaGreatDoor.Nm Go.Proofs.YtaipkdglhfhhiaaGreatDoor.Ty Go.Proofs.YtaipkdglhfhhiaaGreatDoor.Hi Go.Proofs.YtaipkdglhfhhiaaGreatDoorW.PrintWords
set_option linter.unusedVariables false
set_option linter.unusedSimpArgs false
theorem has_l0 (l : List Int) (hl : l.length ≤ 1000) (a : Int) : ∀ (d i k : Nat), i ≤ l.length → l.length - i ≤ d → d < k → arbiterref06_Has.l0 k l a i = some (decide (a ∈ l.drop i)) := by
 intro d
 induction d with
 | zero =>
  intro i k hi hd hk
  obtain ⟨k, rfl⟩ : ∃ m, k = m + 1 := ⟨k - 1, by omega⟩
  simp only [arbiterref06_Has.l0]; rw [if_neg (by omega), List.drop_eq_nil_of_le (by omega)]; simp
 | succ d ih =>
  intro i k hi hd hk
  obtain ⟨k, rfl⟩ : ∃ m, k = m + 1 := ⟨k - 1, by omega⟩
  simp only [arbiterref06_Has.l0]
  by_cases hlt : i < l.length
  ·rw [if_pos (by omega), if_pos (by omega), List.drop_eq_getElem_cons hlt]
   have he : Go.Proofs.YtaipkdglhfhhiaaGreatDoorW.PrintWords.rd l (i : Int) = l[i] := by
    simp [Go.Proofs.YtaipkdglhfhhiaaGreatDoorW.PrintWords.rd, List.getD_eq_getElem?_getD, List.getElem?_eq_getElem hlt]
   rw [he]
   by_cases h : l[i] = a
   ·rw [if_pos h, decide_eq_true (by rw [h]; exact List.mem_cons_self)]
   ·rw [if_neg h, num_wrap (by omega), ih (i + 1) k (by omega) (by omega) (by omega)]
    congr 1
    rw [decide_eq_decide, List.mem_cons]
    exact ⟨.inr, fun h2 => h2.resolve_left (fun e => h e.symm)⟩
  ·rw [if_neg (by omega), List.drop_eq_nil_of_le (by omega)]
   simp
theorem has_ok (l : List Int) (hl : l.length ≤ 1000) (a : Int) (k : Nat) (hk : l.length < k) : arbiterref06_Has.f k l a = some (decide (a ∈ l)) := by
 unfold arbiterref06_Has.f; have := has_l0 l hl a l.length 0 k (by omega) (by omega) hk; rw [show ((0 : Nat) : Int) = 0 from rfl, List.drop_zero] at this
 exact this
theorem rnm_of {es : List Ent} (h : Thy es) {i : Int} (h0 : 0 ≤ i) (h1 : i < es.length) : rnm es (ent es i).c.f0 = i := by
 unfold rnm; rw [nameF_of h h0 h1, if_pos rfl]
theorem rnm_sup {es : List Ent} (h : Thy es) {i : Int} (h0 : 1 ≤ i) (h1 : i < es.length) : rnm es (ent es i).c.f1 = (ent es i).above ∧ 0 ≤ (ent es i).above ∧ (ent es i).above < i := by
 obtain ⟨a1, a2, _, _⟩ := h.sup _ _ (get_ent (by omega) h1) (by omega); rw [← (h.src_ (by omega) h1).sup h0, rnm_of h a1 (by omega)]
 exact ⟨rfl, a1, by omega⟩
theorem chain_l0 {es : List Ent} (h : Thy es) (hl : es.length ≤ 1000) : ∀ (n : Nat) (i : Int) (acc : List Int) (k : Nat), 0 ≤ i → i < es.length → i.toNat ≤ n → n + es.length + 2 < k → acc.length + n ≤ 10000 →
  arbiterref06_Chain.l0 k (csOf es) i (acc ++ [i]) = some (acc ++ chL es i, 0) := by
 have ht := h.good.tree
 have hz : ∀ (acc : List Int) (k : Nat), arbiterref06_Chain.l0 (k + 1) (csOf es) 0 (acc ++ [0]) = some (acc ++ chL es 0, 0) := by
  intro acc k; have h3 := len_base h.base; simp only [arbiterref06_Chain.l0]; rw [if_pos trivial, chL_top ht (by omega) (by omega) (by rw [h.obj.1]; decide)]
 intro n
 induction n with
 | zero =>
  intro i acc k h0 h1 hn hk ha
  obtain ⟨k, rfl⟩ : ∃ m, k = m + 1 := ⟨k - 1, by omega⟩
  obtain rfl : i = 0 := by omega
  exact hz acc k
 | succ n ih =>
  intro i acc k h0 h1 hn hk ha
  obtain ⟨k, rfl⟩ : ∃ m, k = m + 1 := ⟨k - 1, by omega⟩
  by_cases e0 : i = 0
  ·subst e0
   exact hz acc k
  ·obtain ⟨r1, r2, r3⟩ := rnm_sup h (by omega : 1 ≤ i) h1
   simp only [arbiterref06_Chain.l0]; rw [if_neg e0, if_pos h0, cs_len, if_pos h1, cs_rd h0 h1, named_ok es hl _ k (by omega), Option.bind_some, r1, if_pos (by simp; omega), ih (ent es i).above (acc ++ [i]) k r2 (by omega) (by omega) (by omega) (by simp; omega), (chL_step ht h0 h1 (by omega)).1]; simp
theorem chain_eq {es : List Ent} (h : Thy es) (hl : es.length ≤ 1000) {i : Int} (h0 : 0 ≤ i) (h1 : i < es.length) (k : Nat) (hk : 2 * es.length + 2 < k) : arbiterref06_Chain.f k (csOf es) i = some (chL es i, 0) := by
 have e := chain_l0 h hl i.toNat i [] k h0 h1 (Nat.le_refl _) (by omega) (by simp; omega); unfold arbiterref06_Chain.f; rw [in_ok, Option.bind_some, show inB es i = true from decide_eq_true ⟨h0, h1⟩, if_pos rfl]
 exact e
theorem chain_ok {es : List Ent} (h : Thy es) (hl : es.length ≤ 1000) {i : Int} (h0 : 0 ≤ i) (h1 : i < es.length) (k : Nat) (hk : 2 * es.length + 2 < k) :
  ∃ t : List Int, arbiterref06_Chain.f k (csOf es) i = some (t, 0) ∧ t.length ≤ es.length ∧ ∀ b, b ∈ t ↔ Anc es i b := by
 refine ⟨_, chain_eq h hl h0 h1 k hk, ?_, chL_anc h.good.tree h0 h1⟩; have := chL_len h.good.tree h0 h1; have := (h.good.tree.depth_ h0 h1).2
 omega
structure Shut (es : List Ent) (l : List Int) : Prop where
 rng : Rng es.length l
 up : ∀ j ∈ l, ∀ k ∈ (ent es j).clo, k ∈ l
theorem rng_snoc {n : Nat} {l : List Int} (h : Rng n l) {i : Int} (h0 : 0 ≤ i) (h1 : i < n) (hi : i ∉ l) : Rng n (l ++ [i]) := by
 have := h.add h0 h1; unfold addI at this
 rwa [if_neg (by simpa using hi)] at this
theorem shut_fold {es : List Ent} (h : Thy es) {i : Int} (h0 : 0 ≤ i) (h1 : i < es.length) {l : List Int} (hs : Shut es l) : Shut es (foldI (ent es i).clo l) := by
 have hc := fun j hj => h.clo _ _ (get_ent h0 h1) j hj; refine ⟨?_, fun j hj k hk => ?_⟩
 ·have : ∀ (ks acc : List Int), (∀ k ∈ ks, 0 ≤ k ∧ k < (es.length : Int)) → Rng es.length acc → Rng es.length (foldI ks acc) := by
   intro ks
   induction ks with
   | nil => exact fun _ _ ha => ha
   | cons a ks ih => exact fun acc hk ha => ih _ (fun k hk2 => hk k (List.mem_cons_of_mem _ hk2)) (ha.add (hk a List.mem_cons_self).1 (hk a List.mem_cons_self).2)
  exact this _ _ (fun k hk => ⟨(hc k hk).1, by have := (hc k hk).2.1; omega⟩) hs.rng
 ·rcases mem_foldI.1 hj with hj | hj
  ·exact mem_foldI.2 (.inl (hs.up j hj k hk))
  ·exact mem_foldI.2 (.inr ((hc j hj).2.2.2 k hk))
theorem gather_eq {es : List Ent} (h : Thy es) (hl : es.length ≤ 1000) : ∀ (n : Nat) (i : Int) (l : List Int) (k : Nat), 0 ≤ i → i < es.length → i.toNat ≤ n → 30 * n + 2000 < k → Shut es l →
  arbiterref06_gather.f k (csOf es) i l = some (foldI (ent es i).clo l) := by
 have hzero : ∀ (l : List Int) (k : Nat), 3 ≤ k → arbiterref06_gather.f k (csOf es) 0 l = some (foldI (ent es 0).clo l) := by
  intro l k hk
  obtain ⟨k, rfl⟩ : ∃ m, k = m + 3 := ⟨k - 3, by omega⟩
  have h3 := len_base h.base; rw [arbiterref06_gather.f, if_pos rfl, arbiterref06_gather.j0, arbiterref06_gather.l0, if_pos (by omega), cs_len, if_pos (by omega), cs_rd (by omega) (by omega), h.obj.1, if_neg (by decide)]
  rfl
 intro n
 induction n with
 | zero =>
  intro i l k h0 h1 hn hk hs
  obtain rfl : i = 0 := by omega
  exact hzero l k (by omega)
 | succ n ih =>
  intro i l k h0 h1 hn hk hs
  by_cases e0 : i = 0
  ·subst e0
   exact hzero l k (by omega)
  ·obtain ⟨k, rfl⟩ : ∃ m, k = m + 2 := ⟨k - 2, by omega⟩
   obtain ⟨r1, r2, r3⟩ := rnm_sup h (by omega : 1 ≤ i) h1; have eu := ih (ent es i).above l (k + 1) r2 (by omega) (by omega) (by omega) hs; obtain ⟨ks, hcl, hks, hkn⟩ := h.clo_eq (by omega : 1 ≤ i) h1; have hsl := (h.src_ h0 h1).len
   have hloop : ∀ (d j kk : Nat) (acc : List Int), j ≤ (ent es i).c.f2.length → (ent es i).c.f2.length - j ≤ d → 30 * n + 2000 + d < kk → Shut es acc →
     arbiterref06_gather.l0 kk (csOf es) i acc j = some (closF es acc (ks.drop j)) := by
    intro d
    induction d with
    | zero =>
     intro j kk acc hj hd hkk hsa
     obtain ⟨kk, rfl⟩ : ∃ m, kk = m + 1 := ⟨kk - 1, by omega⟩
     rw [arbiterref06_gather.l0, if_pos h0, cs_len, if_pos h1, cs_rd h0 h1, if_neg (by omega), List.drop_eq_nil_of_le (by omega)]
     rfl
    | succ d ihd =>
     intro j kk acc hj hd hkk hsa
     obtain ⟨kk, rfl⟩ : ∃ m, kk = m + 1 := ⟨kk - 1, by omega⟩
     by_cases hlt : j < (ent es i).c.f2.length
     ·have hm : rdOf ByteArray.empty (ent es i).c.f2 (j : Int) = (ent es i).c.f2[j] := by
       simp [rdOf, List.getD_eq_getElem?_getD, List.getElem?_eq_getElem hlt]
      obtain ⟨q, qk, q0, q1, q2⟩ := hkn j _ (List.getElem?_eq_getElem hlt)
      have hq : rnm es ((ent es i).c.f2[j]) = q := by rw [← q2]; exact rnm_of h q0 (by omega)
      have hacc : acc.length ≤ es.length := hsa.rng.len
      have hdr : ks.drop j = q :: ks.drop (j + 1) := by
       have hj2 : j < ks.length := by omega
       rw [List.drop_eq_getElem_cons hj2]; rw [List.getElem?_eq_getElem hj2] at qk; rw [Option.some.inj qk]
      rw [arbiterref06_gather.l0, if_pos h0, cs_len, if_pos h1, cs_rd h0 h1, if_pos (by omega), if_pos (by omega), hm, named_ok es hl _ kk (by omega), Option.bind_some, hq, has_ok acc (by omega) q kk (by omega), Option.bind_some, hdr]
      show _ = some (closF es (addI (foldI (ent es q).clo acc) q) (ks.drop (j + 1)))
      by_cases hc : q ∈ acc
      ·rw [decide_eq_true hc, if_pos rfl, num_wrap (by omega), foldI_in (hsa.up q hc), addI_in hc]
       exact ihd (j + 1) kk acc (by omega) (by omega) (by omega) hsa
      ·have sv := shut_fold h q0 (by omega) hsa
       have hqv : q ∉ foldI (ent es q).clo acc := by
        intro hqv
        rcases mem_foldI.1 hqv with h3 | h3
        ·exact hc h3
        ·have := h.clo _ _ (get_ent q0 (by omega)) q h3
         omega
       have hv := sv.rng.len; rw [decide_eq_false hc, if_neg (by decide), ih q acc kk q0 (by omega) (by omega) (by omega) hsa, Option.bind_some, if_pos (by omega), num_wrap (by omega), addI_new hqv]; refine ihd (j + 1) kk _ (by omega) (by omega) (by omega) ⟨rng_snoc sv.rng q0 (by omega) hqv, fun a ha b hb => ?_⟩; rw [List.mem_append, List.mem_singleton] at ha ⊢
       rcases ha with ha | rfl
       ·exact .inl (sv.up a ha b hb)
       ·exact .inl (mem_foldI.2 (.inr hb))
     ·rw [arbiterref06_gather.l0, if_pos h0, cs_len, if_pos h1, cs_rd h0 h1, if_neg (by omega), List.drop_eq_nil_of_le (by omega)]
      rfl
   rw [arbiterref06_gather.f, if_neg e0, if_pos h0, cs_len, if_pos h1, cs_rd h0 h1, named_ok es hl _ (k + 1) (by omega), Option.bind_some, r1, eu, Option.bind_some, arbiterref06_gather.j0]; rw [show (0 : Int) = ((0 : Nat) : Int) from rfl, hloop (ent es i).c.f2.length 0 k _ (by omega) (by omega) (by omega) (shut_fold h r2 (by omega) hs), List.drop_zero, hcl, foldI_closF]
theorem gather_ok {es : List Ent} (h : Thy es) (hl : es.length ≤ 1000) (n : Nat) (i : Int) (l : List Int) (k : Nat) (h0 : 0 ≤ i) (h1 : i < es.length) (hn : i.toNat ≤ n) (hk : 30 * n + 2000 < k) (hs : Shut es l) :
  ∃ r : List Int, arbiterref06_gather.f k (csOf es) i l = some r ∧ Shut es r ∧ ∀ b, b ∈ r ↔ b ∈ l ∨ b ∈ (ent es i).clo :=
 ⟨_, gather_eq h hl n i l k h0 h1 hn hk hs, shut_fold h h0 h1 hs, fun b => mem_foldI⟩
theorem anc_class {es : List Ent} (h : Thy es) {a b : Int} (hab : Anc es a b) : 0 ≤ a → a < es.length → b = a ∨ isI (ent es b).c = false := by
 induction hab with
 | refl => exact fun _ _ => .inl rfl
 | up a b h2 _ ih =>
  intro h0 h1
  by_cases e0 : a = 0
  ·subst e0
   rw [h.obj.1] at h2
   exact absurd h2 (by decide)
  ·obtain ⟨a1, a2, a3, a4⟩ := h.sup _ _ (get_ent h0 h1) (by omega)
   rcases ih a1 (by omega) with rfl | h3
   ·exact .inr a3
   ·exact .inr h3
theorem ext_ok {es : List Ent} (h : Thy es) (hl : es.length ≤ 1000) (a b : Int) (k : Nat) (hk : 30 * es.length + 2010 < k) : arbiterref06_Extends.f k (csOf es) a b = some (extF es a b) := by
 unfold arbiterref06_Extends.f
 obtain ⟨k, rfl⟩ : ∃ m, k = m + 1 := ⟨k - 1, by omega⟩
 rw [in_ok, Option.bind_some]
 by_cases ha : 0 ≤ a ∧ a < es.length
 ·rw [show inB es a = true from decide_eq_true ha, if_pos rfl, in_ok, Option.bind_some]
  by_cases hb : 0 ≤ b ∧ b < es.length
  ·rw [show inB es b = true from decide_eq_true hb, arbiterref06_Extends.j0, if_neg (by decide)]
   obtain ⟨t, et, lt, mt⟩ := chain_ok h hl ha.1 ha.2 k (by omega); rw [et, Option.bind_some]
   show (arbiterref06_Has.f k t b).bind _ = _
   rw [has_ok t (by omega) b k (by omega), Option.bind_some]; have hE := extF_iff h.good.tree ha.1 ha.2 hb.1 hb.2
   by_cases hc : b ∈ t
   ·rw [decide_eq_true hc, if_pos rfl]
    have hA := (mt b).1 hc
    congr 1
    symm; rw [hE]
    rcases anc_class h hA ha.1 ha.2 with rfl | hn
    ·exact h.ext_refl _
    ·exact .inr ⟨hn, hA⟩
   ·rw [decide_eq_false hc, if_neg (by decide)]
    obtain ⟨r, er, sr, mr⟩ := gather_ok h hl a.toNat a [] k ha.1 ha.2 (Nat.le_refl _) (by omega) ⟨Rng.nil _, fun j hj => by cases hj⟩; have hrl := sr.rng.len; rw [er, Option.bind_some, has_ok r (by omega) b k (by omega), Option.bind_some]
    congr 1
    rw [Bool.eq_iff_iff, decide_eq_true_iff, hE, mr b]
    constructor
    ·rintro (h3 | h3)
     ·cases h3
     ·exact .inl ⟨(h.clo _ _ (get_ent ha.1 ha.2) b h3).2.2.1, .inr h3⟩
    ·rintro (⟨_, rfl | h3⟩ | ⟨_, h3⟩)
     ·exact absurd ((mt _).2 (.refl _)) hc
     ·exact .inr h3
     ·exact absurd ((mt b).2 h3) hc
  ·rw [show inB es b = false from decide_eq_false hb, arbiterref06_Extends.j0]
   unfold extF; rw [show inB es b = false from decide_eq_false hb, Bool.and_false]
   rfl
 ·rw [show inB es a = false from decide_eq_false ha, if_neg (by decide), arbiterref06_Extends.j0]
  unfold extF; rw [show inB es a = false from decide_eq_false ha, Bool.false_and]
  rfl
end Go.Proofs.YtaipkdglhfhhiaaGreatDoor.Pt

namespace Go.Proofs.YtaipkdglhfhhiaaGreatDoor.Pt
open Go.RowKit Go.Proofs.YtaipkdglhfhhiaaGreatDoorW.PrintWords Go.Proofs.YtaipkdglhfhhiaaGreatDoorW.PrintLast Go.Proofs.YtaipkdglhfhhiaaGreatDoorW.PrintMore
attribute [local go_sem] max2_int min2_int max_two min_two max_three min_three max_four min_four   -- for this text's walks alone
set_option linter.unusedVariables false
set_option linter.unusedSimpArgs false
def arbiterref07_Loaded.f (k : Nat) (a0 : List S85) (a1_0 : Int) (a1_1 : ByteArray) : Option (Int) := (arbiterref02_Check.f a1_0 a1_1).bind fun t234 => (if t234 = 0 then (if a1_1.toList = ([] : List UInt8) then (some 0) else ((arbiterref06_ByName.f k a0 a1_1).bind fun bt235 => (if bt235.2 = 0 then (some 0) else (some 20)))) else (some 1))
def arbiterref08_TypeOpen.f (k : Nat) (a0 : List S85) (a1 : Int) (a2_0 : Int) (a2_1 : ByteArray) : Option (Bool × Int) := (arbiterref06_In.f a0 a1).bind fun t238 => (if t238 = true then ((arbiterref07_Loaded.f k a0 a2_0 a2_1).bind fun t239 => (if t239 = 0 then (if a2_1.toList = ([] : List UInt8) then (some (true, 0)) else ((arbiterref06_ByName.f k a0 a2_1).bind fun bt240 => ((arbiterref08_ClassOpen.f k a0 a1 bt240.1).bind fun bt242 => (some (bt242.1, bt242.2))))) else (some (false, t239)))) else (some (false, 3)))
end Go.Proofs.YtaipkdglhfhhiaaGreatDoor.Pt

namespace Go.Proofs.YtaipkdglhfhhiaaGreatDoor.Pt
open Go.RowKit Go.Proofs.YtaipkdglhfhhiaaGreatDoorW.PrintWords Go.Proofs.YtaipkdglhfhhiaaGreatDoorW.PrintLast Go.Proofs.YtaipkdglhfhhiaaGreatDoorW.PrintMore
attribute [local go_sem] max2_int min2_int max_two min_two max_three min_three max_four min_four   -- for this text's walks alone
set_option linter.unusedVariables false
set_option linter.unusedSimpArgs false
def arbiterref06_Closure.f (k : Nat) (a0 : List S85) (a1 : Int) : Option (List Int × Int) := (arbiterref06_In.f a0 a1).bind fun t470 => (if t470 = true then ((arbiterref06_gather.f k a0 a1 ([] : List Int)).bind fun t471 => (some (t471, 0))) else (some (([] : List Int), 3)))
end Go.Proofs.YtaipkdglhfhhiaaGreatDoor.Pt

namespace Go.Proofs.YtaipkdglhfhhiaaGreatDoor.Pt
open Go.RowKit Go.Proofs.YtaipkdglhfhhiaaGreatDoorW.PrintWords Go.Proofs.YtaipkdglhfhhiaaGreatDoorW.PrintLast Go.Proofs.YtaipkdglhfhhiaaGreatDoorW.PrintMore
attribute [local go_sem] max2_int min2_int max_two min_two max_three min_three max_four min_four   -- for this text's walks alone
set_option linter.unusedVariables false
set_option linter.unusedSimpArgs false
mutual
def arbiterref15_Test.j0 : Nat → List S85 → Int → Int → Bool → Option (Bool × Int × Int)
 | 0, _, _, _, _ => none
 | k + 1, x0, x1, x2, x21 => if x21 = true then (some (false, 0, 3)) else ((arbiterref06_Extends.f k x0 x1 x2).bind fun t494 => ((arbiterref06_IsIface.f x0 x2).bind fun t495 => (if t495 = true then (arbiterref15_Test.j1 k x0 x1 x2 t494 (x1 == x2)) else (arbiterref15_Test.j1 k x0 x1 x2 t494 true))))
def arbiterref15_Test.j1 : Nat → List S85 → Int → Int → Bool → Bool → Option (Bool × Int × Int)
 | 0, _, _, _, _, _ => none
 | k + 1, x0, x1, x2, x6, x34 => if x34 = true then (some (x6, 1, 0)) else ((arbiterref06_Closure.f k x0 x1).bind fun bt496 => (arbiterref15_Test.l0 k x2 x6 1 bt496.1 0))
def arbiterref15_Test.l0 : Nat → Int → Bool → Int → List Int → Int → Option (Bool × Int × Int)
 | 0, _, _, _, _, _ => none
 | k + 1, x2, x6, x7, x9, x11 => if x11 < (x9.length : Int) then (if 0 ≤ x11 then (if (rd x9 x11) = x2 then (some (x6, wrap64 (x7 + 1), 0)) else (arbiterref15_Test.l0 k x2 x6 (wrap64 (x7 + 1)) x9 (wrap64 (x11 + 1)))) else (none)) else (some (x6, x7, 0))
end
def arbiterref15_Test.f (k : Nat) (a0 : List S85) (a1 : Int) (a2 : Int) : Option (Bool × Int × Int) := (arbiterref06_In.f a0 a1).bind fun t492 => (if t492 = true then ((arbiterref06_In.f a0 a2).bind fun t493 => (arbiterref15_Test.j0 k a0 a1 a2 (!t493))) else (arbiterref15_Test.j0 k a0 a1 a2 true))
end Go.Proofs.YtaipkdglhfhhiaaGreatDoor.Pt

namespace Go.Proofs.YtaipkdglhfhhiaaGreatDoor.Pt
open Go.RowKit Go.Proofs.YtaipkdglhfhhiaaGreatDoorW.PrintWords Go.Proofs.YtaipkdglhfhhiaaGreatDoorW.PrintLast Go.Proofs.YtaipkdglhfhhiaaGreatDoorW.PrintMore
attribute [local go_sem] max2_int min2_int max_two min_two max_three min_three max_four min_four   -- for this text's walks alone
set_option linter.unusedVariables false
set_option linter.unusedSimpArgs false
def arbiterref07_IsInt.f (a0_0 : Int) (a0_1 : ByteArray) : Option (Bool) := if a0_0 = 0 then (some (a0_1.toList == ([] : List UInt8))) else (some false)
def arbiterref07_Holder.f (k : Nat) (a0 : List S85) (a1_0 : Int) (a1_1 : ByteArray) : Option (Int × Int) := (arbiterref07_Loaded.f k a0 a1_0 a1_1).bind fun t313 => (if t313 = 0 then ((arbiterref07_IsInt.f a1_0 a1_1).bind fun t314 => (if t314 = true then (some (0, 2)) else (if a1_0 > 0 then (some (0, 0)) else ((arbiterref06_ByName.f k a0 a1_1).bind fun bt315 => (some (bt315.1, 0)))))) else (some (0, t313)))
def arbiterref07_lower.f (a0_0 : Int) (a0_1 : ByteArray) : Option (Int × ByteArray) := some (wrap64 (a0_0 - 1), a0_1)
end Go.Proofs.YtaipkdglhfhhiaaGreatDoor.Pt

namespace Go.Proofs.YtaipkdglhfhhiaaGreatDoor.Pt
open Go.RowKit Go.Proofs.YtaipkdglhfhhiaaGreatDoorW.PrintWords Go.Proofs.YtaipkdglhfhhiaaGreatDoorW.PrintLast Go.Proofs.YtaipkdglhfhhiaaGreatDoorW.PrintMore
attribute [local go_sem] max2_int min2_int max_two min_two max_three min_three max_four min_four   -- for this text's walks alone
set_option linter.unusedVariables false
set_option linter.unusedSimpArgs false
mutual
def arbiterref07_below.j0 : Nat → List S85 → Bool → Int → ByteArray → Int → ByteArray → Option (Bool)
 | 0, _, _, _, _, _, _ => none
 | k + 1, x0, x16, x502000, x502001, x503000, x503001 => if x16 = true then ((arbiterref07_IsInt.f x502000 x502001).bind fun t505 => (if t505 = true then ((arbiterref07_IsInt.f x503000 x503001).bind fun t506 => (some t506)) else (some false))) else (if x502000 = 0 then (arbiterref07_below.j1 k x0 (x503000 == 0) x502000 x502001 x503000 x503001) else (arbiterref07_below.j1 k x0 false x502000 x502001 x503000 x503001))
def arbiterref07_below.j1 : Nat → List S85 → Bool → Int → ByteArray → Int → ByteArray → Option (Bool)
 | 0, _, _, _, _, _, _ => none
 | k + 1, x0, x30, x502000, x502001, x503000, x503001 => if x30 = true then ((arbiterref06_ByName.f k x0 x502001).bind fun bt507 => ((arbiterref06_ByName.f k x0 x503001).bind fun bt509 => ((arbiterref06_Extends.f k x0 bt507.1 bt509.1).bind fun t511 => (some t511)))) else (if x502000 = 0 then (some false) else (if x503000 = 0 then (if x503001.toList = ([79, 98, 106, 101, 99, 116] : List UInt8) then (some true) else (if x503001.toList = ([67, 108, 111, 110, 101, 97, 98, 108, 101] : List UInt8) then (some true) else (some (x503001.toList == ([83, 101, 114, 105, 97, 108, 105, 122, 97, 98, 108, 101] : List UInt8))))) else ((arbiterref07_lower.f x502000 x502001).bind fun bt512 => ((arbiterref07_lower.f x503000 x503001).bind fun bt514 => ((arbiterref07_below.f k x0 bt512.1 bt512.2 bt514.1 bt514.2).bind fun t516 => (some t516))))))
def arbiterref07_below.f : Nat → List S85 → Int → ByteArray → Int → ByteArray → Option (Bool)
 | 0, _, _, _, _, _ => none
 | k + 1, a0, a1_0, a1_1, a2_0, a2_1 => (arbiterref07_IsInt.f a1_0 a1_1).bind fun t503 => (if t503 = true then (arbiterref07_below.j0 k a0 true a1_0 a1_1 a2_0 a2_1) else ((arbiterref07_IsInt.f a2_0 a2_1).bind fun t504 => (arbiterref07_below.j0 k a0 t504 a1_0 a1_1 a2_0 a2_1)))
end
end Go.Proofs.YtaipkdglhfhhiaaGreatDoor.Pt

namespace Go.Proofs.YtaipkdglhfhhiaaGreatDoor.Pt
open Go.RowKit Go.Proofs.YtaipkdglhfhhiaaGreatDoorW.PrintWords Go.Proofs.YtaipkdglhfhhiaaGreatDoorW.PrintLast Go.Proofs.YtaipkdglhfhhiaaGreatDoorW.PrintMore
attribute [local go_sem] max2_int min2_int max_two min_two max_three min_three max_four min_four   -- for this text's walks alone
set_option linter.unusedVariables false
set_option linter.unusedSimpArgs false
def arbiterref07_Sub.f (k : Nat) (a0 : List S85) (a1_0 : Int) (a1_1 : ByteArray) (a2_0 : Int) (a2_1 : ByteArray) : Option (Bool × Int) := (arbiterref07_Loaded.f k a0 a1_0 a1_1).bind fun t519 => (if t519 = 0 then ((arbiterref07_Loaded.f k a0 a2_0 a2_1).bind fun t520 => (if t520 = 0 then ((arbiterref07_below.f k a0 a1_0 a1_1 a2_0 a2_1).bind fun t521 => (some (t521, 0))) else (some (false, t520)))) else (some (false, t519)))
def arbiterref15_TestTypes.j0 : Nat → List S85 → Bool → Bool → Int → ByteArray → Int → ByteArray → Option (Bool × Int × Int)
 | 0, _, _, _, _, _, _, _ => none
 | k + 1, x0, x6, x37, x523000, x523001, x524000, x524001 => if x37 = true then ((arbiterref06_ByName.f k x0 x523001).bind fun bt526 => ((arbiterref06_ByName.f k x0 x524001).bind fun bt528 => ((arbiterref15_Test.f k x0 bt526.1 bt528.1).bind fun bt530 => (some (x6, bt530.2.1, 0))))) else (some (x6, 1, 0))
def arbiterref15_TestTypes.f (k : Nat) (a0 : List S85) (a1_0 : Int) (a1_1 : ByteArray) (a2_0 : Int) (a2_1 : ByteArray) : Option (Bool × Int × Int) := (arbiterref07_Sub.f k a0 a1_0 a1_1 a2_0 a2_1).bind fun bt524 => (if bt524.2 = 0 then (if a1_0 = a2_0 then (if a1_1.toList = ([] : List UInt8) then (arbiterref15_TestTypes.j0 k a0 bt524.1 false a1_0 a1_1 a2_0 a2_1) else (arbiterref15_TestTypes.j0 k a0 bt524.1 (a2_1.toList != ([] : List UInt8)) a1_0 a1_1 a2_0 a2_1)) else (arbiterref15_TestTypes.j0 k a0 bt524.1 false a1_0 a1_1 a2_0 a2_1)) else (some (false, 0, bt524.2)))
def arbiterref06_Depth.f (k : Nat) (a0 : List S85) (a1 : Int) : Option (Int × Int) := (arbiterref06_Chain.f k a0 a1).bind fun bt533 => (if bt533.2 = 0 then (some (wrap64 ((bt533.1.length : Int) - 1), 0)) else (some (0, bt533.2)))
def arbiterref15_Deepest.l0 : Nat → List S85 → Int → Int → Option (Int)
 | 0, _, _, _ => none
 | k + 1, x0, x3, x4 => if x4 < (x0.length : Int) then ((arbiterref06_Depth.f k x0 x4).bind fun bt537 => (if bt537.1 > x3 then (arbiterref15_Deepest.l0 k x0 bt537.1 (wrap64 (x4 + 1))) else (arbiterref15_Deepest.l0 k x0 x3 (wrap64 (x4 + 1))))) else (some x3)
def arbiterref15_Deepest.f (k : Nat) (a0 : List S85) : Option (Int) := arbiterref15_Deepest.l0 k a0 0 0
def arbiterref06_SameNums.l0 : Nat → List Int → List Int → Int → Option (Bool)
 | 0, _, _, _ => none
 | k + 1, x0, x1, x5 => if x5 < (x0.length : Int) then (if 0 ≤ x5 then (if x5 < (x1.length : Int) then (if (rd x0 x5) = (rd x1 x5) then (arbiterref06_SameNums.l0 k x0 x1 (wrap64 (x5 + 1))) else (some false)) else (none)) else (none)) else (some true)
def arbiterref06_SameNums.f (k : Nat) (l0 : List Int) (l1 : List Int) : Option (Bool) := if (l0.length : Int) = (l1.length : Int) then (arbiterref06_SameNums.l0 k l0 l1 0) else (some false)
def arbiterref15_Same.f (k : Nat) (l0_0 : List Int) (l0_1 : List Int) (l0_2 : List Int) (l1_0 : List Int) (l1_1 : List Int) (l1_2 : List Int) : Option (Bool) := (arbiterref06_SameNums.f k l0_0 l1_0).bind fun t543 => (if t543 = true then ((arbiterref06_SameNums.f k l0_1 l1_1).bind fun t544 => (if t544 = true then ((arbiterref06_SameNums.f k l0_2 l1_2).bind fun t545 => (some t545)) else (some false))) else (some false))
end Go.Proofs.YtaipkdglhfhhiaaGreatDoor.Pt

namespace Go.Proofs.YtaipkdglhfhhiaaGreatDoor.Pt
open Go Go.RowKit Go.Proofs.YtaipkdglhfhhiaaGreatDoor.Nm Go.Proofs.YtaipkdglhfhhiaaGreatDoor.Hi Go.Proofs.YtaipkdglhfhhiaaGreatDoorW.PrintWords Go.Proofs.YtaipkdglhfhhiaaGreatDoorW.PrintLast Go.Proofs.YtaipkdglhfhhiaaGreatDoorW.PrintMore
set_option linter.unusedVariables false
set_option linter.unusedSimpArgs false
set_option maxHeartbeats 2000000
set_option maxRecDepth 100000
theorem tl_eq {a b : ByteArray} (h : a.toList = b.toList) : a = b := by
 rw [ByteArray.toList_eq, ByteArray.toList_eq] at h
 exact ByteArray.ext (Array.toList_inj.1 h)
theorem two_new (w : World) (o1 o2 : Obj) : ((w.alloc o1).alloc o2).heap[w.heap.size]? = some o1 ∧ ((w.alloc o1).alloc o2).heap[w.heap.size + 1]? = some o2 ∧ Below w.heap.size w ((w.alloc o1).alloc o2) :=
 ⟨heap_alloc2_old w o1 o2, heap_alloc2_new w o1 o2, ((Below.refl _ _).alloc (Nat.le_refl _) o1).alloc (by simp) o2⟩
def nearF (h1 h2 : Int × ByteArray × S85 × Int) : Bool := decide (h1.1 = h2.1) && decide (h1.2.1 = h2.2.1)
def copenF (es : List Ent) (d c : Int) : Bool × Int :=
 if (homeF es d).2.2.2 ≠ 0 then (false, (homeF es d).2.2.2) else if (homeF es c).2.2.2 ≠ 0 then (false, (homeF es c).2.2.2) else
 ((Go.bits .and .i64 (homeF es c).2.2.1.f3 1 != 0) || nearF (homeF es d) (homeF es c), 0)
def access_ClassOpen.f (a0 : List Hi.Ent) (a1 : Int) (a2 : Int) : Option (Bool × Int) := some (copenF a0 a1 a2)
theorem access_ClassOpen.calls (G_ : Nat) (a0 : List Hi.Ent) (a1 : Int) (a2 : Int) (r1 : Bool) (r2 : Int) (w : World) (hq0 : WOK w G_ a0) (h : access_ClassOpen.f a0 a1 a2 = some (r1, r2)) :
  Calls Tryz.prog 16 #[.pointer (some ⟨G_, 0, none⟩), .int .i64 a1, .int .i64 a2] w fun e w' => e = .returned (.tuple #[.bool r1, .int .i64 r2]) ∧ Below w.heap.size w w' := by
 obtain h := Option.some.inj h; have hF := Lib.hid h; have HO := fun (W : World) (hb : Below w.heap.size w W) (i : Int) => access_homeOf.calls G_ a0 i _ _ _ _ _ _ _ _ _ W (hq0.below hb) rfl; replace HO := Lib.hid HO; clear h hq0; have C1 := Lib.hid (HO.out w (Below.refl _ _) a1); unfold copenF at hF; generalize homeF a0 a1 = h1 at *; obtain ⟨l1, n1, x1, e1⟩ := h1; go_enter Tryz.func16, Tryz.ntmps16
 go_upto_region 1 with (fail)
 go_cut [0, 1, 2, 6, 7, 8, 10] (fun v0 v1 v2 v6 v7 v8 v10 wr => v0 = .pointer (some ⟨G_, 0, none⟩) ∧ v1 = .int .i64 a1 ∧ v2 = .int .i64 a2 ∧ v10 = .int .i64 e1 ∧ ∃ g1, v8 = .pointer (some ⟨g1, 0, none⟩) ∧ Hid (wr.heap[g1]? = some (.cells #[.int .i64 l1, .string n1] 89 (0, 0))) ∧ Hid (Below w.heap.size w wr))
 case first =>
  go_wp2_with fail; refine C1.out.mono ?_; rintro e w1 ⟨v2, v5, rfl, R2, R5, hb1⟩; obtain ⟨A2, c2, rfl⟩ := Kd.R_slice R2; obtain ⟨A5, c5, rfl⟩ := Kd.R_slice R5; clear C1; go_wp2; go_meet
  case rel => exact ⟨rfl, rfl, rfl, rfl, _, rfl, Lib.hid (two_new _ _ _).1, Lib.hid (hb1.trans ((two_new _ _ _).2.2.mono hb1.size))⟩
 case rest =>
  clear C1; obtain ⟨rfl, rfl, rfl, rfl, g1, rfl, E1, HB⟩ := hcut
  by_cases he1 : e1 = 0
  ·subst he1
   rw [if_neg (by simp)] at hF; have C2 := Lib.hid (HO.out wc HB.out a2); clear HO; generalize homeF a0 a2 = h2 at *; obtain ⟨l2, n2, x2, e2⟩ := h2
   go_upto_region 4 with (fail)
   go_cut [0, 1, 2, 6, 7, 8, 10, 11, 12] (fun v0 v1 v2 v6 v7 v8 v10 v11 v12 wr => v8 = .pointer (some ⟨g1, 0, none⟩) ∧ v10 = .int .i64 e2 ∧ ∃ g2 v1 v2 v4 v5, v11 = .pointer (some ⟨g2, 0, none⟩) ∧ v12 = .pointer (some ⟨g2 + 1, 0, none⟩) ∧ Hid (wr.heap[g1]? = some (.cells #[.int .i64 l1, .string n1] 89 (0, 0))) ∧ Hid (wr.heap[g2]? = some (.cells #[.int .i64 l2, .string n2] 89 (0, 0))) ∧
    Hid (wr.heap[g2 + 1]? = some (.cells #[.string x2.f0, v1, v2, .int .i64 x2.f3, v4, v5] 85 (0, 0))) ∧ Hid (Below w.heap.size w wr))
   case first =>
    go_wp2_with fail; refine C2.out.mono ?_; rintro e w2 ⟨v2, v5, rfl, R2, R5, hb2⟩; obtain ⟨A2, c2, rfl⟩ := Kd.R_slice R2; obtain ⟨A5, c5, rfl⟩ := Kd.R_slice R5; clear C2; go_wp2; go_meet
    case rel => exact ⟨rfl, rfl, _, _, _, _, _, rfl, rfl, Lib.hid (blk_below (blk_below E1.out hb2) (two_new _ _ _).2.2), Lib.hid (two_new _ _ _).1, Lib.hid (two_new _ _ _).2.1, Lib.hid ((HB.out.trans (hb2.mono HB.out.size)).trans ((two_new _ _ _).2.2.mono (HB.out.trans (hb2.mono HB.out.size)).size))⟩
   case rest =>
    clear C2 E1 HB; obtain ⟨rfl, rfl, g2, u1, u2, u4, u5, rfl, rfl, E1, E2, E3, HB⟩ := hcut
    by_cases he2 : e2 = 0
    ·subst he2
     rw [if_neg (by simp)] at hF; have q0 : wc.cell? ⟨g1, 0, none⟩ = some (.int .i64 l1) := (blk_cell E1.out 0).trans rfl; have q1 : wc.cell? ⟨g1, 1, none⟩ = some (.string n1) := (blk_cell E1.out 1).trans rfl; have r0 : wc.cell? ⟨g2, 0, none⟩ = some (.int .i64 l2) := (blk_cell E2.out 0).trans rfl; have r1 : wc.cell? ⟨g2, 1, none⟩ = some (.string n2) := (blk_cell E2.out 1).trans rfl; have r3 : wc.cell? ⟨g2 + 1, 3, none⟩ = some (.int .i64 x2.f3) := (blk_cell E3.out 3).trans rfl
     by_cases hp : Go.bits .and .i64 x2.f3 1 = 0
     ·have hp2 : (Go.bits .and .i64 x2.f3 1 != 0) = false := bne_eq_false_iff_eq.2 hp
      rw [hp2, Bool.false_or] at hF; clear hp; go_wp2
      all_goals go_ret2
      all_goals have hh := Prod.mk.inj hF.out
      all_goals refine ⟨?_, HB.out⟩
      all_goals rw [← hh.1, ← hh.2]
      ·simp [nearF, *]
       exact tl_eq (by assumption)
      ·simp [nearF, *]
       intro e; subst e
       simp_all
      ·simp [nearF, *]
     ·have hp2 : (Go.bits .and .i64 x2.f3 1 != 0) = true := bne_iff_ne.2 hp
      rw [hp2, Bool.true_or] at hF; clear hp; go_wp2; go_ret2; have := hF.out
      cases this
      exact ⟨rfl, HB.out⟩
    ·have hne : (e2 != 0) = true := bne_iff_ne.2 he2
     rw [if_pos he2] at hF; clear he2; go_wp2; go_ret2; have := hF.out
     cases this
     exact ⟨rfl, HB.out⟩
  ·have hne : (e1 != 0) = true := bne_iff_ne.2 he1
   rw [if_pos he1] at hF; clear he1 HO; go_wp2; go_ret2; have := hF.out
   cases this
   exact ⟨rfl, HB.out⟩
end Go.Proofs.YtaipkdglhfhhiaaGreatDoor.Pt

namespace Go.Proofs.YtaipkdglhfhhiaaGreatDoor.Pt
open Go Go.RowKit Go.Proofs.YtaipkdglhfhhiaaGreatDoor.Nm Go.Proofs.YtaipkdglhfhhiaaGreatDoor.Hi Go.Proofs.YtaipkdglhfhhiaaGreatDoorW.PrintWords Go.Proofs.YtaipkdglhfhhiaaGreatDoorW.PrintLast Go.Proofs.YtaipkdglhfhhiaaGreatDoorW.PrintMore
set_option linter.unusedVariables false
set_option linter.unusedSimpArgs false
set_option maxHeartbeats 2000000
set_option maxRecDepth 100000
def topenF (es : List Ent) (d a : Int) (s : ByteArray) : Bool × Int :=
 if (homeF es d).2.2.2 ≠ 0 then (false, (homeF es d).2.2.2) else if loadF es a s ≠ 0 then (false, loadF es a s) else if s.toList = [] then (true, 0) else copenF es d (nameF es s).1
def access_TypeOpen.f (a0 : List Hi.Ent) (a1 : Int) (a2_0 : Int) (a2_1 : ByteArray) : Option (Bool × Int) := some (topenF a0 a1 a2_0 a2_1)
end Go.Proofs.YtaipkdglhfhhiaaGreatDoor.Pt

namespace Go.Proofs.YtaipkdglhfhhiaaGreatDoor.Pt
open Go Go.RowKit Go.Proofs.YtaipkdglhfhhiaaGreatDoor.Nm Go.Proofs.YtaipkdglhfhhiaaGreatDoor.Ty Go.Proofs.YtaipkdglhfhhiaaGreatDoor.Hi Go.Proofs.YtaipkdglhfhhiaaGreatDoorW.PrintWords Go.Proofs.YtaipkdglhfhhiaaGreatDoorW.PrintLast Go.Proofs.YtaipkdglhfhhiaaGreatDoorW.PrintMore
set_option linter.unusedVariables false
set_option linter.unusedSimpArgs false
set_option maxRecDepth 100000
theorem classF_in {es : List Ent} {i : Int} (h : 0 ≤ i ∧ i < es.length) : classF es i = ((ent es i).c, 0) := if_pos h
theorem classF_out {es : List Ent} {i : Int} (h : ¬ (0 ≤ i ∧ i < es.length)) : classF es i = (z85, 3) := if_neg h
theorem homeF_in {es : List Ent} {i : Int} (h : 0 ≤ i ∧ i < es.length) : homeF es i = ((ent es i).c.f4, pkgB (ent es i).c.f0, (ent es i).c, 0) := if_pos h
theorem homeF_out {es : List Ent} {i : Int} (h : ¬ (0 ≤ i ∧ i < es.length)) : homeF es i = (0, ⟨#[]⟩, z85, 3) := if_neg h
theorem inB_in {es : List Ent} {i : Int} (h : 0 ≤ i ∧ i < es.length) : inB es i = true := decide_eq_true h
theorem inB_out {es : List Ent} {i : Int} (h : ¬ (0 ≤ i ∧ i < es.length)) : inB es i = false := decide_eq_false h
theorem near_tog {es : List Ent} {i j : Int} (hi : 0 ≤ i ∧ i < es.length) (hj : 0 ≤ j ∧ j < es.length) : nearF (homeF es i) (homeF es j) = tog (ent es j).c (ent es i).c := by
 rw [homeF_in hi, homeF_in hj]; unfold nearF tog; simp only
 by_cases h1 : (ent es i).c.f4 = (ent es j).c.f4
 ·rw [decide_eq_true h1, show ((ent es j).c.f4 == (ent es i).c.f4) = true from beq_iff_eq.2 h1.symm, Bool.true_and, Bool.true_and]
  by_cases h2 : pkgB (ent es i).c.f0 = pkgB (ent es j).c.f0
  ·rw [decide_eq_true h2, h2]
   simp
  ·rw [decide_eq_false h2]
   symm
   exact beq_eq_false_iff_ne.2 (fun e => h2 (tl_eq e.symm))
 ·rw [decide_eq_false h1, show ((ent es j).c.f4 == (ent es i).c.f4) = false from beq_eq_false_iff_ne.2 (fun e => h1 e.symm), Bool.false_and, Bool.false_and]
theorem _root_.Go.Proofs.YtaipkdglhfhhiaaGreatDoor.Hi.Thy.valid {es : List Ent} (h : Thy es) {i : Int} (hi : 0 ≤ i ∧ i < es.length) : validB (ent es i).c.f0 = true := by
 by_cases h3 : 3 ≤ i
 ·have ht := h.src _ _ (get_ent hi.1 hi.2) (by omega)
  have hs : soundB (ent es i).c = true := by
   cases hb : soundB (ent es i).c with
   | true => rfl
   | false =>
    have := ht.sound; unfold chkC at this; rw [hb] at this
    cases this
  unfold soundB headB at hs; simp only [Bool.and_eq_true] at hs
  exact hs.2.2.1.1
 ·obtain ⟨o0, o1, o2⟩ := h.obj
  have : i = 0 ∨ i = 1 ∨ i = 2 := by omega
  rcases this with rfl | rfl | rfl
  ·rw [o0]; decide +kernel
  ·rw [o1]; decide +kernel
  ·rw [o2]; decide +kernel
end Go.Proofs.YtaipkdglhfhhiaaGreatDoor.Pt

namespace Go.Proofs.YtaipkdglhfhhiaaGreatDoor.Pt
open Go Go.RowKit Go.Proofs.YtaipkdglhfhhiaaGreatDoor.Nm Go.Proofs.YtaipkdglhfhhiaaGreatDoor.Ty Go.Proofs.YtaipkdglhfhhiaaGreatDoor.Hi Go.Proofs.YtaipkdglhfhhiaaGreatDoorW.PrintWords
set_option linter.unusedVariables false
set_option linter.unusedSimpArgs false
theorem pkg_sized {es : List Ent} (h : Thy es) {i : Int} (hi : 0 ≤ i ∧ i < es.length) : (ent es i).c.f0.size < 4611686018427387904 := by
 have := valid_size (h.valid hi)
 omega
theorem same_ok {es : List Ent} (h : Thy es) (a b : Int) : arbiterref06_SamePackage.f (csOf es) a b = some (inB es a && (inB es b && tog (ent es a).c (ent es b).c)) := by
 unfold arbiterref06_SamePackage.f; rw [in_ok, Option.bind_some]
 by_cases ha : 0 ≤ a ∧ a < es.length
 ·rw [inB_in ha, if_pos rfl, in_ok, Option.bind_some]
  by_cases hb : 0 ≤ b ∧ b < es.length
  ·rw [inB_in hb, if_pos rfl, if_pos ha.1, cs_len, if_pos ha.2, if_pos hb.1, if_pos hb.2, cs_rd ha.1 ha.2, cs_rd hb.1 hb.2]
   unfold arbiterref06_together.f arbiterref01_Package.f tog; rw [if_pos (pkg_sized h ha), if_pos (pkg_sized h hb), Option.bind_some, Option.bind_some]
   by_cases he : (ent es a).c.f4 = (ent es b).c.f4
   ·rw [if_pos he, beq_iff_eq.2 he, Option.bind_some]
    simp
   ·rw [if_neg he, beq_eq_false_iff_ne.2 he, Option.bind_some]
    simp
  ·rw [inB_out hb, if_neg (by decide)]
   rfl
 ·rw [inB_out ha, if_neg (by decide)]
  rfl
end Go.Proofs.YtaipkdglhfhhiaaGreatDoor.Pt
