/- Lemmas and contracts for the statement of PwWholeSubtypes: joined by program out of this session's texts. -/
import Derived.Test.YtaipkdglhfhhiaaDoorBdPwWholeSubtypes3
import Derived.Outline
import Derived.Deep.Slices
import Derived.WideShapes
namespace Go.Proofs.YtaipkdglhfhhiaaDoor.Pt
open Go.RowKit Go.Proofs.YtaipkdglhfhhiaaDoorW.PrintWords Go.Proofs.YtaipkdglhfhhiaaDoorW.PrintLast Go.Proofs.YtaipkdglhfhhiaaDoorW.PrintMore
attribute [local go_sem] max2_int min2_int max_two min_two max_three min_three max_four min_four   -- for this text's walks alone
set_option linter.unusedVariables false
set_option linter.unusedSimpArgs false
mutual
def arbitertop_climbs.l0 : Nat → List Hi.Ent → List (S31) → Int → Int → ByteArray → Int → ByteArray → Option (Bool)
 | 0, _, _, _, _, _, _, _ => none
 | k + 1, x0, x7, x8, x324000, x324001, x325000, x325001 => if x8 < (x7.length : Int) then (if 0 ≤ x8 then ((arbiterref02_Same.f ((rd_T31 x7 x8).f0) ((rd_T31 x7 x8).f1) x325000 x325001).bind fun t329 => (if t329 = true then (some true) else (if (x7.length : Int) > 60 then ((arrays_Sub.f x0 x324000 x324001 x325000 x325001).bind fun bt330 => (some bt330.1)) else ((arrays_Above.f x0 ((rd_T31 x7 x8).f0) ((rd_T31 x7 x8).f1)).bind fun bt333 => (arbitertop_climbs.l1 k x0 x7 x8 bt333.1 0 x324000 x324001 x325000 x325001))))) else (none)) else (some false)
def arbitertop_climbs.l1 : Nat → List Hi.Ent → List (S31) → Int → List (S31) → Int → Int → ByteArray → Int → ByteArray → Option (Bool)
 | 0, _, _, _, _, _, _, _, _, _ => none
 | k + 1, x0, x7, x8, x11, x13, x324000, x324001, x325000, x325001 => if x13 < (x11.length : Int) then (arbitertop_climbs.l2 k x0 x7 x8 x11 x13 true 0 x324000 x324001 x325000 x325001) else (arbitertop_climbs.l0 k x0 x7 (wrap64 (x8 + 1)) x324000 x324001 x325000 x325001)
def arbitertop_climbs.l2 : Nat → List Hi.Ent → List (S31) → Int → List (S31) → Int → Bool → Int → Int → ByteArray → Int → ByteArray → Option (Bool)
 | 0, _, _, _, _, _, _, _, _, _, _, _ => none
 | k + 1, x0, x7, x8, x11, x13, x14, x15, x324000, x324001, x325000, x325001 => if x15 < (x7.length : Int) then (if x14 = true then (if 0 ≤ x15 then (if 0 ≤ x13 then (if x13 < (x11.length : Int) then ((arbiterref02_Same.f ((rd_T31 x7 x15).f0) ((rd_T31 x7 x15).f1) ((rd_T31 x11 x13).f0) ((rd_T31 x11 x13).f1)).bind fun t339 => (arbitertop_climbs.l2 k x0 x7 x8 x11 x13 (!t339) (wrap64 (x15 + 1)) x324000 x324001 x325000 x325001)) else (none)) else (none)) else (none)) else (arbitertop_climbs.l2 k x0 x7 x8 x11 x13 false (wrap64 (x15 + 1)) x324000 x324001 x325000 x325001)) else (if x14 = true then (if 0 ≤ x13 then (if x13 < (x11.length : Int) then (if x7.length < 5864062014805 then (arbitertop_climbs.l1 k x0 (x7 ++ [(⟨(rd_T31 x11 x13).f0, (rd_T31 x11 x13).f1⟩ : S31)]) x8 x11 (wrap64 (x13 + 1)) x324000 x324001 x325000 x325001) else (none)) else (none)) else (none)) else (arbitertop_climbs.l1 k x0 x7 x8 x11 (wrap64 (x13 + 1)) x324000 x324001 x325000 x325001))
end
def arbitertop_climbs.f (k : Nat) (a0 : List Hi.Ent) (a1_0 : Int) (a1_1 : ByteArray) (a2_0 : Int) (a2_1 : ByteArray) : Option (Bool) := arbitertop_climbs.l0 k a0 (([(⟨a1_0, a1_1⟩ : S31)] : List (S31))) 0 a1_0 a1_1 a2_0 a2_1
def arbitertop_climbs.T18 : Bool × List (List Nat × List Nat) := (true, [([], []), ([0], [0]), ([1], [1]), ([1], [1]), ([2, 3, 1], [1, 2, 3]), ([4, 1], [1, 4]), ([1], [1]), ([1], [1]), ([6, 7, 1], [1, 6, 7]), ([8, 1], [1, 8]), ([5, 9, 1, 1], [1, 5, 9]), ([10, 1], [1, 10]), ([1, 11], [1, 11]), ([12, 10, 0, 1, 2, 3, 4, 5, 6, 7, 8, 9, 10, 11, 12], [0, 12])])
def arbitertop_climbs.B18 : List Nat := [0, 1, 3, 3, 15, 31, 3, 3, 195, 451, 1023, 2047, 4095, 8191]
theorem arbitertop_climbs.tab18 : rtab .any (opsOf Tryd.f10 18) = arbitertop_climbs.T18 := by kernel_rfl
theorem arbitertop_climbs.bits18 : waitsOk arbitertop_climbs.T18.2 arbitertop_climbs.B18 = true := by kernel_rfl
set_option maxHeartbeats 8000000 in
set_option maxRecDepth 100000 in
theorem arbitertop_climbs.calls (k : Nat) (G_ : Nat) (a0 : List Hi.Ent) (a1_0 : Int) (a1_1 : ByteArray) (a2_0 : Int) (a2_1 : ByteArray) (r : Bool) (w : World) (hq0 : WOK w G_ a0) (h : arbitertop_climbs.f k a0 a1_0 a1_1 a2_0 a2_1 = some r) :
  Calls Tryd.prog 10 #[.pointer (some ⟨G_, 0, none⟩), .agg #[.int .i64 a1_0, .string a1_1], .agg #[.int .i64 a2_0, .string a2_1]] w fun e w' => e = .returned (.bool r) ∧ Below w.heap.size w w' := by
 have hu31 := Tryd.underlying31; have HQa0 := Aside0.mk hq0; clear hq0; have HB := Aside0.mk (Below.refl w.heap.size w); have H : (arbitertop_climbs.l0 k a0 (([(⟨a1_0, a1_1⟩ : S31)] : List (S31))) 0 a1_0 a1_1 a2_0 a2_1) = some r := h; clear h
 obtain ⟨y325, hy325⟩ : ∃ y_ : List (S31), y_ = (([(⟨a1_0, a1_1⟩ : S31)] : List (S31))) := ⟨_, rfl⟩
 replace H : (arbitertop_climbs.l0 k a0 y325 0 a1_0 a1_1 a2_0 a2_1) = some r := by first | (rw [hy325]; with_reducible exact H) | (have H2_ := (Option.bind_some _ _).symm.trans H; rw [hy325]; with_reducible exact H2_) | (have H2_ := (Option.bind_some _ _).symm.trans H; with_reducible exact H2_) | with_reducible exact H | (rw [hy325]; exact H) | exact H
 have Ny325 := Aside0.mk hy325; clear hy325; have H' := Aside0.mk H; clear H; go_enter Tryd.func10, Tryd.ntmps10; go_wp2_with (first | ((with_reducible refine gate_dst (N := 4) rfl ?_); refine eX 4 #[.int .i64 a1_0, .string a1_1] 31 ?_; intro gb323 hg w4 hbox hb; have n0_ := Aside0.mk (below_step (bX HB) hb); have n1_ := Aside0.mk (hbox); have n2_ := Aside0.mk ((by rw [hg]; exact (below_size (bX HB)) : w.heap.size ≤ gb323)); have n3_ := Aside0.mk ((by rw [hg]; exact (below_size (bX HB)) : w.heap.size ≤ gb323)); clear HB; have HB := n0_; have BK323 := n1_; have GW323 := n2_; have GE323 := n3_; clear n0_ n1_ n2_ n3_; clear hb hbox hg) | ((with_reducible refine gate_dst (N := 5) rfl ?_); refine eX 5 #[.int .i64 a2_0, .string a2_1] 31 ?_; intro gb324 hg w5 hbox hb; have n0_ := Aside0.mk (blk_below (kX BK323) hb); have n1_ := Aside0.mk (below_step (bX1 HB GE323) hb); have n2_ := Aside0.mk (hbox); have n3_ := Aside0.mk ((by rw [hg]; exact (below_size (bX1 HB GE323)) : w.heap.size ≤ gb324)); have n4_ := Aside0.mk ((by rw [hg]; exact (below_size (bX1 HB GE323)) : w.heap.size ≤ gb324)); have n5_ := Aside0.mk ((by rw [hg]; exact Nat.ne_of_lt (blk_lt (kX BK323)) : gb323 ≠ gb324)); have n6_ := Aside0.mk ((by rw [hg]; exact Nat.ne_of_gt (blk_lt (kX BK323)) : gb324 ≠ gb323)); clear BK323; clear HB; have BK323 := n0_; have HB := n1_; have BK324 := n2_; have GW324 := n3_; have GE324 := n4_; have NB323_324 := n5_; have NB324_323 := n6_; clear n0_ n1_ n2_ n3_ n4_ n5_ n6_; clear hb hbox hg; have hnb6 := NB323_324.out; have hnc6 := NB324_323.out; obtain ⟨hcz7_0, hcz7_1, hfz7_0, hfz7_1⟩ := c2X BK323) | ((with_reducible refine gate_dst (N := 17) rfl ?_); refine Kd.R_lit k31 _ 31 ?hg (N := 17) ?hd (xs := ([(⟨a1_0, a1_1⟩ : S31)] : List (S31))) (inner := [.int .i64 a1_0, .string a1_1]) (ok := fun _ => True) (okp := fun _ => True) ?hr ?hp (fun _ hk => hk) trivial (Below.refl _ _) (Nat.le_refl _) (by simp) ?_; (case hd => rfl); (case hg => rfl); (case hr => first | (go_simp; done) | (go_simp; rfl)); (case hp => exact (Reps.c2 (show Kd.M k31 _ _ _ (⟨a1_0, a1_1⟩ : S31) [.int .i64 a1_0, .string a1_1] from (k31_mkM _ _ _ (⟨a1_0, a1_1⟩ : S31) )) (Reps.none _ _))); intro v326 w8 ho9 hb hg_ hnew_; clear hg_ hnew_; (first | rw [← Ny325.out] at ho9 | (simp only [Int.reduceToNat] at ho9; rw [← Ny325.out] at ho9)); have n0_ := Aside0.mk (Kd.R_lower (Kd.R_newB (Kd.R_newB ho9 (g := gb323) (o := .cells #[.int .i64 a1_0, .string a1_1] 31 (0, 0)) (kX BK323)) (g := gb324) (o := .cells #[.int .i64 a2_0, .string a2_1] 31 (0, 0)) (kX BK324)) (below_size (bX2 HB GE323 GE324))); have n1_ := Aside0.mk (blk_below (kX BK323) hb); have n2_ := Aside0.mk (blk_below (kX BK324) hb); have n3_ := Aside0.mk (below_step (bX2 HB GE323 GE324) hb); clear BK323; clear BK324; clear HB; have HO327 := n0_; have BK323 := n1_; have BK324 := n2_; have HB := n3_; clear n0_ n1_ n2_ n3_; clear hb ho9))
 go_loopg [7, 8] k (fun kq v7 v8 w' => ∃ (x7_1 : List (S31)) (x8_1 : Int), v8 = .int .i64 x8_1 ∧ Aside0 (arbitertop_climbs.l0 kq a0 x7_1 x8_1 a1_0 a1_1 a2_0 a2_1 = some r) ∧ Aside0 (kq ≤ k) ∧ Aside0 (Kd.R k31 31 w' w.heap.size (fun k_ => k_ ≠ gb323 ∧ k_ ≠ gb324) v7 x7_1) ∧ Aside0 (w'.heap[gb323]? = some (.cells #[.int .i64 a1_0, .string a1_1] 31 (0, 0))) ∧ Aside0 (w'.heap[gb324]? = some (.cells #[.int .i64 a2_0, .string a2_1] 31 (0, 0))) ∧ Aside0 (Below w.heap.size w w'))
 case atStart => exact ⟨(y325), (0), vX, H', ⟨Nat.le_refl _⟩, ⟨by (with_reducible repeat (first | apply Kd.R_alloc | apply Kd.R_drewN | apply Kd.R_drew)); exact Kd.R_mono HO327.out (fun _ hk => ⟨hk.1.2, hk.2⟩)⟩, ⟨by (with_reducible repeat (first | refine blk_drewN ?_ _ | refine blk_drew ?_ | refine blk_alloc ?_ _)); exact BK323.out⟩, ⟨by (with_reducible repeat (first | refine blk_drewN ?_ _ | refine blk_drew ?_ | refine blk_alloc ?_ _)); exact BK324.out⟩, ⟨bX2 HB GE323 GE324⟩⟩
 case round =>
  clear H'
  try clear c1
  try clear c2
  try clear p2
  try clear c6
  try clear hcz7_0 hcz7_1
  try clear hfz7_0 hfz7_1
  obtain ⟨x7_1, x8_1, rfl, HA, HK1, HO_7, BK323, BK324, HB⟩ := hrel
  cases gk with
  | zero => exact absurd HA.out (by simp [arbitertop_climbs.l0])
  | succ k1 =>
   have H := HA.out; clear HA; simp only [arbitertop_climbs.l0] at H
   by_cases c10 : x8_1 < (x7_1.length : Int)
   ·rw [if_pos c10] at H
    have c10b0 : decide (x8_1 < (x7_1.length : Int)) = true := decide_eq_true c10; clear c10
    by_cases c11 : 0 ≤ x8_1
    ·rw [if_pos c11] at H
     have c11b0 : decide (0 ≤ x8_1) = true := decide_eq_true c11; clear c11; replace H := Option.bind_eq_some_iff.mp H; obtain ⟨t329, A120, H⟩ := H; replace H : (if t329 = true then (some true) else (if (x7_1.length : Int) > 60 then ((arrays_Sub.f a0 a1_0 a1_1 a2_0 a2_1).bind fun bt330 => (some bt330.1)) else ((arrays_Above.f a0 ((rd_T31 x7_1 x8_1).f0) ((rd_T31 x7_1 x8_1).f1)).bind fun bt333 => (arbitertop_climbs.l1 k1 a0 x7_1 x8_1 bt333.1 0 a1_0 a1_1 a2_0 a2_1)))) = some r := H; have A12 := Aside0.mk A120; clear A120
     by_cases c13 : t329 = true
     ·subst c13
      have H1 : (some true) = some r := by rw [if_pos rfl] at H; exact H
      clear H; have H := H1; clear H1; obtain rfl := Option.some.inj H; obtain ⟨Ao14, co14, eo14⟩ := Kd.R_slice HO_7.out; subst eo14
      try go_wp2
      have n0_ := Aside0.mk (Kd.R_drew HO_7.out); have n1_ := Aside0.mk (blk_drew BK323.out); have n2_ := Aside0.mk (blk_drew BK324.out); have n3_ := Aside0.mk (below_drew1 HB.out); clear HO_7; clear BK323; clear BK324; clear HB; have HO_7 := n0_; have BK323 := n1_; have BK324 := n2_; have HB := n3_; clear n0_ n1_ n2_ n3_; have p328 : 0 ≤ (x8_1 : Int) := qX; have q328 : x8_1 < (x7_1.length : Int) := qX; obtain ⟨ad328, e328, hx328_0, hx328_1⟩ := at_T31 (Kd.R_reads' HO_7.out).2.2 x8_1 p328 q328
      cases e328
      replace p328 := eq_true p328; replace q328 := eq_true q328; refine start_ (n := 6) (S := fun w' => w'.cell? ⟨gb324, 0, none⟩ = some (.int .i64 a2_0) ∧ w'.cell? ⟨gb324, 1, none⟩ = some (.string a2_1) ∧ w'.cell? (ad328.add ((x8_1).toNat * 2)) = some (.int .i64 ((rd_T31 x7_1 x8_1).f0)) ∧ w'.cell? ⟨(ad328.add ((x8_1).toNat * 2)).block, (ad328.add ((x8_1).toNat * 2)).off + 1, none⟩ = some (.string ((rd_T31 x7_1 x8_1).f1))) (ds := []) #[false, false, false, false, false, false] (by kernel_rfl) rfl rfl ⟨(blk_cell BK324.out 0).trans rfl, (blk_cell BK324.out 1).trans rfl, hx328_0, hx328_1⟩ (fun hHeld => ?_); generalize wr.drew = w15 at HO_7 BK323 BK324 HB hx328_0 hx328_1 hHeld ⊢; refine pure_ (i := 0) (N := some 24) (v := ?_) (a' := ?_) #[true, false, false, false, false, false] rfl rfl (by kernel_rfl) (fun _ _ _ h => h) (Or.inl ⟨by rfl, ?_⟩) ?_ ?_; rotate_left
      ·intro w'
       go_simp
       with_reducible rfl
      rotate_left
      ·simp only [Act.put, List.setIfInBounds_toArray, List.set_cons_zero, List.set_cons_succ, i64_w, i32_w]
       rfl
      refine pure_ (i := 1) (N := some 25) (v := ?_) (a' := ?_) #[true, true, false, false, false, false] rfl rfl (by kernel_rfl) (fun _ _ _ h => h) (Or.inl ⟨by rfl, ?_⟩) ?_ ?_; rotate_left
      ·intro w'
       go_simp
       with_reducible rfl
      rotate_left
      ·simp only [Act.put, List.setIfInBounds_toArray, List.set_cons_zero, List.set_cons_succ, i64_w, i32_w]
       rfl
      refine pure_ (i := 2) (N := some 26) (v := ?_) (a' := ?_) #[true, true, true, false, false, false] rfl rfl (by kernel_rfl) (fun _ _ _ h => h) (Or.inl ⟨by rfl, ?_⟩) ?_ ?_; rotate_left
      ·intro w'
       go_simp
       with_reducible rfl
      rotate_left
      ·simp only [Act.put, List.setIfInBounds_toArray, List.set_cons_zero, List.set_cons_succ, i64_w, i32_w]
       rfl
      refine take_ (i := 3) (N := some 27) (v := ?_) (a' := ?_) #[true, true, true, true, false, false] rfl rfl (by kernel_rfl) (fun _ _ _ h => h) (Or.inl ⟨by rfl, ?_⟩) hHeld ?_ ?_; rotate_left
      ·rintro w' ⟨s0, s1, s2, s3⟩
       go_simp
       with_reducible rfl
      rotate_left
      ·simp only [Act.put, List.setIfInBounds_toArray, List.set_cons_zero, List.set_cons_succ, i64_w, i32_w]
       rfl
      refine take_ (i := 4) (N := some 28) (v := ?_) (a' := ?_) #[true, true, true, true, true, false] rfl rfl (by kernel_rfl) (fun _ _ _ h => h) (Or.inl ⟨by rfl, ?_⟩) hHeld ?_ ?_; rotate_left
      ·rintro w' ⟨s0, s1, s2, s3⟩
       go_simp
       with_reducible rfl
      rotate_left
      ·simp only [Act.put, List.setIfInBounds_toArray, List.set_cons_zero, List.set_cons_succ, i64_w, i32_w]
       rfl
      refine one_ (i := 5) (N := some 29) #[true, true, true, true, true, true] rfl rfl (by kernel_rfl) (by decide) (fun K hK => ?_); refine hX Tryd.func30 #[.agg #[.int .i64 ((rd_T31 x7_1 x8_1).f0), .string ((rd_T31 x7_1 x8_1).f1)], .agg #[.int .i64 a2_0, .string a2_1]] ?_
      with_reducible refine (arbiterref02_Same.calls ((rd_T31 x7_1 x8_1).f0) ((rd_T31 x7_1 x8_1).f1) a2_0 a2_1 true _ A12.out).mono ?_
      rintro e w16 ⟨rfl, hb⟩; have HS2_ := (hb.cell (World.block_lt_of_cell? _ _ (hHeld.2.2.1))).trans (hHeld.2.2.1); have HS3_ := (hb.cell (World.block_lt_of_cell? _ _ (hHeld.2.2.2))).trans (hHeld.2.2.2); refine ⟨_, rfl, ?_⟩; have n0_ := Aside0.mk (Kd.R_below (rX HO_7) hb); have n1_ := Aside0.mk (blk_below (kX BK323) hb); have n2_ := Aside0.mk (blk_below (kX BK324) hb); have n3_ := Aside0.mk (below_step (bX2 HB GE323 GE324) hb); clear HO_7; clear BK323; clear BK324; clear HB; have HO_7 := n0_; have BK323 := n1_; have BK324 := n2_; have HB := n3_; clear n0_ n1_ n2_ n3_
      (try clear hb)
      (try clear hb2)
      (try clear hk)
      (try clear hi)
      refine hK.out _ _ ⟨(blk_cell BK324.out 0).trans rfl, (blk_cell BK324.out 1).trans rfl, HS2_, HS3_⟩ (fun hHeld => ?_); clear hK K; refine nX (some 29) ?_; refine done_ (by kernel_rfl) ?_
      try go_wp2
      go_ret
      exact ⟨by first | rfl | (simp [errW_none, errW_some] <;> rfl) | (simp [*, errW_none, errW_some] <;> rfl), bX2 HB GE323 GE324⟩
     ·replace c13 := Bool.eq_false_iff.mpr c13
      subst c13
      have H1 : (if (x7_1.length : Int) > 60 then ((arrays_Sub.f a0 a1_0 a1_1 a2_0 a2_1).bind fun bt330 => (some bt330.1)) else ((arrays_Above.f a0 ((rd_T31 x7_1 x8_1).f0) ((rd_T31 x7_1 x8_1).f1)).bind fun bt333 => (arbitertop_climbs.l1 k1 a0 x7_1 x8_1 bt333.1 0 a1_0 a1_1 a2_0 a2_1))) = some r := by rw [if_neg (show ¬ (false = true) by decide)] at H; exact H
      clear H; have H := H1; clear H1
      by_cases c17 : (x7_1.length : Int) > 60
      ·rw [if_pos c17] at H
       have c17b0 : decide (60 < (x7_1.length : Int)) = true := decide_eq_true c17; have c17b1 : decide (60 < x7_1.length) = true := decide_eq_true (by omega); clear c17; replace H := Option.bind_eq_some_iff.mp H; obtain ⟨⟨t330, t331⟩, A180, H⟩ := H; replace H : (some t330) = some r := H; have A18 := Aside0.mk A180; clear A180; obtain rfl := Option.some.inj H; obtain ⟨Ao19, co19, eo19⟩ := Kd.R_slice HO_7.out; subst eo19
       try go_wp2
       have n0_ := Aside0.mk (Kd.R_drew HO_7.out); have n1_ := Aside0.mk (blk_drew BK323.out); have n2_ := Aside0.mk (blk_drew BK324.out); have n3_ := Aside0.mk (below_drew1 HB.out); clear HO_7; clear BK323; clear BK324; clear HB; have HO_7 := n0_; have BK323 := n1_; have BK324 := n2_; have HB := n3_; clear n0_ n1_ n2_ n3_; have p328 : 0 ≤ (x8_1 : Int) := qX; have q328 : x8_1 < (x7_1.length : Int) := qX; obtain ⟨ad328, e328, hx328_0, hx328_1⟩ := at_T31 (Kd.R_reads' HO_7.out).2.2 x8_1 p328 q328
       cases e328
       replace p328 := eq_true p328; replace q328 := eq_true q328; refine start_ (n := 6) (S := fun w' => w'.cell? ⟨gb324, 0, none⟩ = some (.int .i64 a2_0) ∧ w'.cell? ⟨gb324, 1, none⟩ = some (.string a2_1) ∧ w'.cell? (ad328.add ((x8_1).toNat * 2)) = some (.int .i64 ((rd_T31 x7_1 x8_1).f0)) ∧ w'.cell? ⟨(ad328.add ((x8_1).toNat * 2)).block, (ad328.add ((x8_1).toNat * 2)).off + 1, none⟩ = some (.string ((rd_T31 x7_1 x8_1).f1))) (ds := []) #[false, false, false, false, false, false] (by kernel_rfl) rfl rfl ⟨(blk_cell BK324.out 0).trans rfl, (blk_cell BK324.out 1).trans rfl, hx328_0, hx328_1⟩ (fun hHeld => ?_); generalize wr.drew = w20 at HO_7 BK323 BK324 HB hx328_0 hx328_1 hHeld ⊢; refine pure_ (i := 0) (N := some 24) (v := ?_) (a' := ?_) #[true, false, false, false, false, false] rfl rfl (by kernel_rfl) (fun _ _ _ h => h) (Or.inl ⟨by rfl, ?_⟩) ?_ ?_; rotate_left
       ·intro w'
        go_simp
        with_reducible rfl
       rotate_left
       ·simp only [Act.put, List.setIfInBounds_toArray, List.set_cons_zero, List.set_cons_succ, i64_w, i32_w]
        rfl
       refine pure_ (i := 1) (N := some 25) (v := ?_) (a' := ?_) #[true, true, false, false, false, false] rfl rfl (by kernel_rfl) (fun _ _ _ h => h) (Or.inl ⟨by rfl, ?_⟩) ?_ ?_; rotate_left
       ·intro w'
        go_simp
        with_reducible rfl
       rotate_left
       ·simp only [Act.put, List.setIfInBounds_toArray, List.set_cons_zero, List.set_cons_succ, i64_w, i32_w]
        rfl
       refine pure_ (i := 2) (N := some 26) (v := ?_) (a' := ?_) #[true, true, true, false, false, false] rfl rfl (by kernel_rfl) (fun _ _ _ h => h) (Or.inl ⟨by rfl, ?_⟩) ?_ ?_; rotate_left
       ·intro w'
        go_simp
        with_reducible rfl
       rotate_left
       ·simp only [Act.put, List.setIfInBounds_toArray, List.set_cons_zero, List.set_cons_succ, i64_w, i32_w]
        rfl
       refine take_ (i := 3) (N := some 27) (v := ?_) (a' := ?_) #[true, true, true, true, false, false] rfl rfl (by kernel_rfl) (fun _ _ _ h => h) (Or.inl ⟨by rfl, ?_⟩) hHeld ?_ ?_; rotate_left
       ·rintro w' ⟨s0, s1, s2, s3⟩
        go_simp
        with_reducible rfl
       rotate_left
       ·simp only [Act.put, List.setIfInBounds_toArray, List.set_cons_zero, List.set_cons_succ, i64_w, i32_w]
        rfl
       refine take_ (i := 4) (N := some 28) (v := ?_) (a' := ?_) #[true, true, true, true, true, false] rfl rfl (by kernel_rfl) (fun _ _ _ h => h) (Or.inl ⟨by rfl, ?_⟩) hHeld ?_ ?_; rotate_left
       ·rintro w' ⟨s0, s1, s2, s3⟩
        go_simp
        with_reducible rfl
       rotate_left
       ·simp only [Act.put, List.setIfInBounds_toArray, List.set_cons_zero, List.set_cons_succ, i64_w, i32_w]
        rfl
       refine one_ (i := 5) (N := some 29) #[true, true, true, true, true, true] rfl rfl (by kernel_rfl) (by decide) (fun K hK => ?_); refine hX Tryd.func30 #[.agg #[.int .i64 ((rd_T31 x7_1 x8_1).f0), .string ((rd_T31 x7_1 x8_1).f1)], .agg #[.int .i64 a2_0, .string a2_1]] ?_
       with_reducible refine (arbiterref02_Same.calls ((rd_T31 x7_1 x8_1).f0) ((rd_T31 x7_1 x8_1).f1) a2_0 a2_1 false _ A12.out).mono ?_
       rintro e w21 ⟨rfl, hb⟩; have HS2_ := (hb.cell (World.block_lt_of_cell? _ _ (hHeld.2.2.1))).trans (hHeld.2.2.1); have HS3_ := (hb.cell (World.block_lt_of_cell? _ _ (hHeld.2.2.2))).trans (hHeld.2.2.2); refine ⟨_, rfl, ?_⟩; have n0_ := Aside0.mk (Kd.R_below (rX HO_7) hb); have n1_ := Aside0.mk (blk_below (kX BK323) hb); have n2_ := Aside0.mk (blk_below (kX BK324) hb); have n3_ := Aside0.mk (below_step (bX2 HB GE323 GE324) hb); clear HO_7; clear BK323; clear BK324; clear HB; have HO_7 := n0_; have BK323 := n1_; have BK324 := n2_; have HB := n3_; clear n0_ n1_ n2_ n3_
       (try clear hb)
       (try clear hb2)
       (try clear hk)
       (try clear hi)
       refine hK.out _ _ ⟨(blk_cell BK324.out 0).trans rfl, (blk_cell BK324.out 1).trans rfl, HS2_, HS3_⟩ (fun hHeld => ?_); clear hK K; refine nX (some 29) ?_; refine done_ (by kernel_rfl) ?_; have hnb22 := NB323_324.out; have hnc22 := NB324_323.out; obtain ⟨hcz23_0, hcz23_1, hfz23_0, hfz23_1⟩ := c2X BK323; obtain ⟨hcz24_0, hcz24_1, hfz24_0, hfz24_1⟩ := c2X BK324
       try go_wp2_with (first | ((with_reducible refine gate_callee (f := 9) rfl ?_); refine gX (some 37) Tryd.func9 #[.pointer (some ⟨G_, 0, none⟩), .agg #[.int .i64 a1_0, .string a1_1], .agg #[.int .i64 a2_0, .string a2_1]] ?_; (with_reducible refine (arrays_Sub.calls G_ a0 a1_0 a1_1 a2_0 a2_1 t330 t331 _ ?side1 A18.out).mono ?_); (case side1 => repeat (first | (with_reducible exact HQa0.out) | (with_reducible refine WOK.alloc ?_ _) | (with_reducible refine WOK.drewN ?_ _) | (with_reducible refine WOK.drew ?_) | exact WOK.below HQa0.out HB.out | exact WOK.below HQa0.out (bX2 HB GE323 GE324))); rintro e w25 ⟨rfl, hb⟩; refine ⟨_, rfl, ?_⟩; have n0_ := Aside0.mk (Kd.R_below (rX HO_7) hb); have n1_ := Aside0.mk (blk_below (kX BK323) hb); have n2_ := Aside0.mk (blk_below (kX BK324) hb); have n3_ := Aside0.mk (below_step (bX2 HB GE323 GE324) hb); clear HO_7; clear BK323; clear BK324; clear HB; have HO_7 := n0_; have BK323 := n1_; have BK324 := n2_; have HB := n3_; clear n0_ n1_ n2_ n3_; (try clear hb); (try clear hb2); (try clear hk); (try clear hi)))
       go_ret
       exact ⟨by first | rfl | (simp [errW_none, errW_some] <;> rfl) | (simp [*, errW_none, errW_some] <;> rfl), bX2 HB GE323 GE324⟩
      ·rw [if_neg c17] at H
       have c17b0 : decide (60 < (x7_1.length : Int)) = false := decide_eq_false c17; have c17b1 : decide (60 < x7_1.length) = false := decide_eq_false (by omega); clear c17; replace H := Option.bind_eq_some_iff.mp H; obtain ⟨⟨t333, t336⟩, A260, H⟩ := H; replace H : (arbitertop_climbs.l1 k1 a0 x7_1 x8_1 t333 0 a1_0 a1_1 a2_0 a2_1) = some r := H; have A26 := Aside0.mk A260; clear A260; have H' := Aside0.mk H; clear H; obtain ⟨Ao27, co27, eo27⟩ := Kd.R_slice HO_7.out; subst eo27
       try go_wp2
       have n0_ := Aside0.mk (Kd.R_drew HO_7.out); have n1_ := Aside0.mk (blk_drew BK323.out); have n2_ := Aside0.mk (blk_drew BK324.out); have n3_ := Aside0.mk (below_drew1 HB.out); clear HO_7; clear BK323; clear BK324; clear HB; have HO_7 := n0_; have BK323 := n1_; have BK324 := n2_; have HB := n3_; clear n0_ n1_ n2_ n3_; have p328 : 0 ≤ (x8_1 : Int) := qX; have q328 : x8_1 < (x7_1.length : Int) := qX; obtain ⟨ad328, e328, hx328_0, hx328_1⟩ := at_T31 (Kd.R_reads' HO_7.out).2.2 x8_1 p328 q328
       cases e328
       replace p328 := eq_true p328; replace q328 := eq_true q328; refine start_ (n := 6) (S := fun w' => w'.cell? ⟨gb324, 0, none⟩ = some (.int .i64 a2_0) ∧ w'.cell? ⟨gb324, 1, none⟩ = some (.string a2_1) ∧ w'.cell? (ad328.add ((x8_1).toNat * 2)) = some (.int .i64 ((rd_T31 x7_1 x8_1).f0)) ∧ w'.cell? ⟨(ad328.add ((x8_1).toNat * 2)).block, (ad328.add ((x8_1).toNat * 2)).off + 1, none⟩ = some (.string ((rd_T31 x7_1 x8_1).f1))) (ds := []) #[false, false, false, false, false, false] (by kernel_rfl) rfl rfl ⟨(blk_cell BK324.out 0).trans rfl, (blk_cell BK324.out 1).trans rfl, hx328_0, hx328_1⟩ (fun hHeld => ?_); generalize wr.drew = w28 at HO_7 BK323 BK324 HB hx328_0 hx328_1 hHeld ⊢; refine pure_ (i := 0) (N := some 24) (v := ?_) (a' := ?_) #[true, false, false, false, false, false] rfl rfl (by kernel_rfl) (fun _ _ _ h => h) (Or.inl ⟨by rfl, ?_⟩) ?_ ?_; rotate_left
       ·intro w'
        go_simp
        with_reducible rfl
       rotate_left
       ·simp only [Act.put, List.setIfInBounds_toArray, List.set_cons_zero, List.set_cons_succ, i64_w, i32_w]
        rfl
       refine pure_ (i := 1) (N := some 25) (v := ?_) (a' := ?_) #[true, true, false, false, false, false] rfl rfl (by kernel_rfl) (fun _ _ _ h => h) (Or.inl ⟨by rfl, ?_⟩) ?_ ?_; rotate_left
       ·intro w'
        go_simp
        with_reducible rfl
       rotate_left
       ·simp only [Act.put, List.setIfInBounds_toArray, List.set_cons_zero, List.set_cons_succ, i64_w, i32_w]
        rfl
       refine pure_ (i := 2) (N := some 26) (v := ?_) (a' := ?_) #[true, true, true, false, false, false] rfl rfl (by kernel_rfl) (fun _ _ _ h => h) (Or.inl ⟨by rfl, ?_⟩) ?_ ?_; rotate_left
       ·intro w'
        go_simp
        with_reducible rfl
       rotate_left
       ·simp only [Act.put, List.setIfInBounds_toArray, List.set_cons_zero, List.set_cons_succ, i64_w, i32_w]
        rfl
       refine take_ (i := 3) (N := some 27) (v := ?_) (a' := ?_) #[true, true, true, true, false, false] rfl rfl (by kernel_rfl) (fun _ _ _ h => h) (Or.inl ⟨by rfl, ?_⟩) hHeld ?_ ?_; rotate_left
       ·rintro w' ⟨s0, s1, s2, s3⟩
        go_simp
        with_reducible rfl
       rotate_left
       ·simp only [Act.put, List.setIfInBounds_toArray, List.set_cons_zero, List.set_cons_succ, i64_w, i32_w]
        rfl
       refine take_ (i := 4) (N := some 28) (v := ?_) (a' := ?_) #[true, true, true, true, true, false] rfl rfl (by kernel_rfl) (fun _ _ _ h => h) (Or.inl ⟨by rfl, ?_⟩) hHeld ?_ ?_; rotate_left
       ·rintro w' ⟨s0, s1, s2, s3⟩
        go_simp
        with_reducible rfl
       rotate_left
       ·simp only [Act.put, List.setIfInBounds_toArray, List.set_cons_zero, List.set_cons_succ, i64_w, i32_w]
        rfl
       refine one_ (i := 5) (N := some 29) #[true, true, true, true, true, true] rfl rfl (by kernel_rfl) (by decide) (fun K hK => ?_); refine hX Tryd.func30 #[.agg #[.int .i64 ((rd_T31 x7_1 x8_1).f0), .string ((rd_T31 x7_1 x8_1).f1)], .agg #[.int .i64 a2_0, .string a2_1]] ?_
       with_reducible refine (arbiterref02_Same.calls ((rd_T31 x7_1 x8_1).f0) ((rd_T31 x7_1 x8_1).f1) a2_0 a2_1 false _ A12.out).mono ?_
       rintro e w29 ⟨rfl, hb⟩; have HS2_ := (hb.cell (World.block_lt_of_cell? _ _ (hHeld.2.2.1))).trans (hHeld.2.2.1); have HS3_ := (hb.cell (World.block_lt_of_cell? _ _ (hHeld.2.2.2))).trans (hHeld.2.2.2); refine ⟨_, rfl, ?_⟩; have n0_ := Aside0.mk (Kd.R_below (rX HO_7) hb); have n1_ := Aside0.mk (blk_below (kX BK323) hb); have n2_ := Aside0.mk (blk_below (kX BK324) hb); have n3_ := Aside0.mk (below_step (bX2 HB GE323 GE324) hb); clear HO_7; clear BK323; clear BK324; clear HB; have HO_7 := n0_; have BK323 := n1_; have BK324 := n2_; have HB := n3_; clear n0_ n1_ n2_ n3_
       (try clear hb)
       (try clear hb2)
       (try clear hk)
       (try clear hi)
       refine hK.out _ _ ⟨(blk_cell BK324.out 0).trans rfl, (blk_cell BK324.out 1).trans rfl, HS2_, HS3_⟩ (fun hHeld => ?_); clear hK K; refine nX (some 29) ?_; refine done_ (by kernel_rfl) ?_; have p332 : 0 ≤ (x8_1 : Int) := qX; have q332 : x8_1 < (x7_1.length : Int) := qX; obtain ⟨ad332, e332, hx332_0, hx332_1⟩ := at_T31 (Kd.R_reads' HO_7.out).2.2 x8_1 p332 q332
       obtain rfl : ad328 = ad332 := (by injection e332)
       replace p332 := eq_true p332; replace q332 := eq_true q332
       try go_wp2_with (first | ((with_reducible refine gate_callee (f := 31) rfl ?_); refine gX (some 47) Tryd.func31 #[.pointer (some ⟨G_, 0, none⟩), .agg #[.int .i64 ((rd_T31 x7_1 x8_1).f0), .string ((rd_T31 x7_1 x8_1).f1)]] ?_; (with_reducible refine (arrays_Above.calls G_ a0 ((rd_T31 x7_1 x8_1).f0) ((rd_T31 x7_1 x8_1).f1) t333 t336 _ ?side1 A26.out).mono ?_); (case side1 => repeat (first | (with_reducible exact HQa0.out) | (with_reducible refine WOK.alloc ?_ _) | (with_reducible refine WOK.drewN ?_ _) | (with_reducible refine WOK.drew ?_) | exact WOK.below HQa0.out HB.out | exact WOK.below HQa0.out (bX2 HB GE323 GE324))); rintro e w30 ⟨v334, rfl, ho0, hb⟩; refine ⟨_, rfl, ?_⟩; have n0_ := Aside0.mk (Kd.R_elder' (rX HO_7) (Kd.R_base ho0) hb); have n1_ := Aside0.mk (Kd.R_lower (Kd.R_newB (Kd.R_newB (Kd.R_new' ho0 (Kd.R_lt (rX HO_7))) (g := gb323) (o := .cells #[.int .i64 a1_0, .string a1_1] 31 (0, 0)) (kX BK323)) (g := gb324) (o := .cells #[.int .i64 a2_0, .string a2_1] 31 (0, 0)) (kX BK324)) (below_size (bX2 HB GE323 GE324))); have n2_ := Aside0.mk (blk_below (kX BK323) hb); have n3_ := Aside0.mk (blk_below (kX BK324) hb); have n4_ := Aside0.mk (below_step (bX2 HB GE323 GE324) hb); clear HO_7; clear BK323; clear BK324; clear HB; have HO_7 := n0_; have HO335 := n1_; have BK323 := n2_; have BK324 := n3_; have HB := n4_; clear n0_ n1_ n2_ n3_ n4_; (try clear hb); (try clear hb2); (try clear hk); (try clear hi); (try clear ho0)))
       go_loopg [7, 13] k1 (fun kq v7 v13 w' => ∃ (x7_2 : List (S31)) (x13_2 : Int), v13 = .int .i64 x13_2 ∧ Aside0 (arbitertop_climbs.l1 kq a0 x7_2 x8_1 t333 x13_2 a1_0 a1_1 a2_0 a2_1 = some r) ∧ Aside0 (kq ≤ k1) ∧ Aside0 (Kd.R k31 31 w' w.heap.size (fun k_ => some k_ ≠ (v334 : Value).ownBlock ∧ k_ ≠ gb323 ∧ k_ ≠ gb324) v7 x7_2) ∧ Aside0 (Kd.R k31 31 w' w.heap.size (fun k_ => some k_ ≠ (v7 : Value).ownBlock ∧ k_ ≠ gb323 ∧ k_ ≠ gb324) v334 t333) ∧ Aside0 (w'.heap[gb323]? = some (.cells #[.int .i64 a1_0, .string a1_1] 31 (0, 0))) ∧ Aside0 (w'.heap[gb324]? = some (.cells #[.int .i64 a2_0, .string a2_1] 31 (0, 0))) ∧ Aside0 (Below w.heap.size w w'))
       case atStart => exact ⟨(x7_1), (0), vX, H', ⟨Nat.le_refl _⟩, ⟨by (with_reducible repeat (first | apply Kd.R_alloc | apply Kd.R_drewN | apply Kd.R_drew)); exact Kd.R_mono HO_7.out (fun _ hk => ⟨hk.2, ⟨hk.1.1, hk.1.2⟩⟩)⟩, ⟨by (with_reducible repeat (first | apply Kd.R_alloc | apply Kd.R_drewN | apply Kd.R_drew)); exact Kd.R_mono HO335.out (fun _ hk => ⟨hk.1.1.2, ⟨hk.1.2, hk.2⟩⟩)⟩, ⟨by (with_reducible repeat (first | refine blk_drewN ?_ _ | refine blk_drew ?_ | refine blk_alloc ?_ _)); exact BK323.out⟩, ⟨by (with_reducible repeat (first | refine blk_drewN ?_ _ | refine blk_drew ?_ | refine blk_alloc ?_ _)); exact BK324.out⟩, ⟨bX2 HB GE323 GE324⟩⟩
       case round =>
        clear H'
        try clear c1
        try clear c2
        try clear p2
        try clear c3
        try clear p3
        try clear q3
        try clear hx3
        try clear c6
        try clear c9
        try clear c10
        try clear c10b0
        try clear c11
        try clear c11b0
        try clear c13
        try clear c17
        try clear c17b0
        try clear c17b1
        try clear c22
        try clear c30
        try clear hcz23_0 hcz23_1
        try clear hcz24_0 hcz24_1
        try clear hcz7_0 hcz7_1
        try clear hfz23_0 hfz23_1
        try clear hfz24_0 hfz24_1
        try clear hfz7_0 hfz7_1
        try clear hx328_0
        try clear hx328_1
        try clear hx332_0
        try clear hx332_1
        try clear p2
        try clear p328
        try clear p332
        try clear q328
        try clear q332
        obtain ⟨x7_2, x13_2, rfl, HA, HK2, HO_7, HO_11, BK323, BK324, HB⟩ := hrel
        cases gk with
        | zero => exact absurd HA.out (by simp [arbitertop_climbs.l1])
        | succ k2 =>
         have H := HA.out; clear HA; simp only [arbitertop_climbs.l1] at H
         by_cases c31 : x13_2 < (t333.length : Int)
         ·rw [if_pos c31] at H
          have c31b0 : decide (x13_2 < (t333.length : Int)) = true := decide_eq_true c31; clear c31; have H' := Aside0.mk H; clear H; obtain ⟨Ao32, co32, eo32⟩ := Kd.R_slice HO_11.out; subst eo32; go_wp2
          go_loopg [14, 15] k2 (fun kq v14 v15 w' => ∃ (x14_3 : Bool) (x15_3 : Int), v14 = .bool x14_3 ∧ v15 = .int .i64 x15_3 ∧ Aside0 (arbitertop_climbs.l2 kq a0 x7_2 x8_1 t333 x13_2 x14_3 x15_3 a1_0 a1_1 a2_0 a2_1 = some r) ∧ Aside0 (kq ≤ k2) ∧ Aside0 (Kd.R k31 31 w' w.heap.size (fun k_ => some k_ ≠ ((.slice Ao32 t333.length co32) : Value).ownBlock ∧ k_ ≠ gb323 ∧ k_ ≠ gb324) u7 x7_2) ∧ Aside0 (Kd.R k31 31 w' w.heap.size (fun k_ => some k_ ≠ (u7 : Value).ownBlock ∧ k_ ≠ gb323 ∧ k_ ≠ gb324) (.slice Ao32 t333.length co32) t333) ∧ Aside0 (w'.heap[gb323]? = some (.cells #[.int .i64 a1_0, .string a1_1] 31 (0, 0))) ∧ Aside0 (w'.heap[gb324]? = some (.cells #[.int .i64 a2_0, .string a2_1] 31 (0, 0))) ∧ Aside0 (Below w.heap.size w w'))
          case atStart => exact ⟨(true), (0), vX, vX, H', ⟨Nat.le_refl _⟩, ⟨rX HO_7⟩, ⟨rX HO_11⟩, ⟨by (with_reducible repeat (first | refine blk_drewN ?_ _ | refine blk_drew ?_ | refine blk_alloc ?_ _)); exact BK323.out⟩, ⟨by (with_reducible repeat (first | refine blk_drewN ?_ _ | refine blk_drew ?_ | refine blk_alloc ?_ _)); exact BK324.out⟩, ⟨bX2 HB GE323 GE324⟩⟩
          case round =>
           clear H'
           try clear c1
           try clear c2
           try clear p2
           try clear c3
           try clear p3
           try clear q3
           try clear hx3
           try clear c6
           try clear c9
           try clear c10
           try clear c10b0
           try clear c11
           try clear c11b0
           try clear c13
           try clear c17
           try clear c17b0
           try clear c17b1
           try clear c22
           try clear c30
           try clear c31
           try clear c31b0
           try clear p32
           try clear q32
           try clear hx32
           try clear hcz23_0 hcz23_1
           try clear hcz24_0 hcz24_1
           try clear hcz7_0 hcz7_1
           try clear hfz23_0 hfz23_1
           try clear hfz24_0 hfz24_1
           try clear hfz7_0 hfz7_1
           try clear hx328_0
           try clear hx328_1
           try clear hx332_0
           try clear hx332_1
           try clear p2
           try clear p3
           try clear p328
           try clear p332
           try clear q3
           try clear q328
           try clear q332
           obtain ⟨x14_3, x15_3, rfl, rfl, HA, HK3, HO_7, HO_11, BK323, BK324, HB⟩ := hrel
           cases gk with
           | zero => exact absurd HA.out (by simp [arbitertop_climbs.l2])
           | succ k3 =>
            have H := HA.out; clear HA; simp only [arbitertop_climbs.l2] at H
            by_cases c33 : x15_3 < (x7_2.length : Int)
            ·rw [if_pos c33] at H
             have c33b0 : decide (x15_3 < (x7_2.length : Int)) = true := decide_eq_true c33; clear c33
             by_cases c34 : x14_3 = true
             ·subst c34
              have H1 : (if 0 ≤ x15_3 then (if 0 ≤ x13_2 then (if x13_2 < (t333.length : Int) then ((arbiterref02_Same.f ((rd_T31 x7_2 x15_3).f0) ((rd_T31 x7_2 x15_3).f1) ((rd_T31 t333 x13_2).f0) ((rd_T31 t333 x13_2).f1)).bind fun t339 => (arbitertop_climbs.l2 k3 a0 x7_2 x8_1 t333 x13_2 (!t339) (wrap64 (x15_3 + 1)) a1_0 a1_1 a2_0 a2_1)) else (none)) else (none)) else (none)) = some r := by rw [if_pos rfl] at H; exact H
              clear H; have H := H1; clear H1
              by_cases c35 : 0 ≤ x15_3
              ·rw [if_pos c35] at H
               have c35b0 : decide (0 ≤ x15_3) = true := decide_eq_true c35; clear c35
               by_cases c36 : 0 ≤ x13_2
               ·rw [if_pos c36] at H
                have c36b0 : decide (0 ≤ x13_2) = true := decide_eq_true c36; clear c36
                by_cases c37 : x13_2 < (t333.length : Int)
                ·rw [if_pos c37] at H
                 have c37b0 : decide (x13_2 < (t333.length : Int)) = true := decide_eq_true c37; clear c37; replace H := Option.bind_eq_some_iff.mp H; obtain ⟨t339, A380, H⟩ := H; replace H : (arbitertop_climbs.l2 k3 a0 x7_2 x8_1 t333 x13_2 (!t339) (wrap64 (x15_3 + 1)) a1_0 a1_1 a2_0 a2_1) = some r := H; have A38 := Aside0.mk A380; clear A380; have H' := Aside0.mk H; clear H; obtain ⟨Ao39, co39, eo39⟩ := Kd.R_slice HO_7.out; subst eo39
                 try go_wp2
                 have n0_ := Aside0.mk (Kd.R_drew HO_7.out); have n1_ := Aside0.mk (Kd.R_drew HO_11.out); have n2_ := Aside0.mk (blk_drew BK323.out); have n3_ := Aside0.mk (blk_drew BK324.out); have n4_ := Aside0.mk (below_drew1 HB.out); clear HO_7; clear HO_11; clear BK323; clear BK324; clear HB; have HO_7 := n0_; have HO_11 := n1_; have BK323 := n2_; have BK324 := n3_; have HB := n4_; clear n0_ n1_ n2_ n3_ n4_; have p337 : 0 ≤ (x15_3 : Int) := qX; have q337 : x15_3 < (x7_2.length : Int) := qX; obtain ⟨ad337, e337, hx337_0, hx337_1⟩ := at_T31 (Kd.R_reads' HO_7.out).2.2 x15_3 p337 q337
                 cases e337
                 replace p337 := eq_true p337; replace q337 := eq_true q337; have p338 : 0 ≤ (x13_2 : Int) := qX; have q338 : x13_2 < (t333.length : Int) := qX; obtain ⟨ad338, e338, hx338_0, hx338_1⟩ := at_T31 (Kd.R_reads' HO_11.out).2.2 x13_2 p338 q338
                 cases e338
                 replace p338 := eq_true p338; replace q338 := eq_true q338; refine start_ (n := 14) (S := fun w' => w'.cell? (ad337.add ((x15_3).toNat * 2)) = some (.int .i64 ((rd_T31 x7_2 x15_3).f0)) ∧ w'.cell? ⟨(ad337.add ((x15_3).toNat * 2)).block, (ad337.add ((x15_3).toNat * 2)).off + 1, none⟩ = some (.string ((rd_T31 x7_2 x15_3).f1)) ∧ w'.cell? (ad338.add ((x13_2).toNat * 2)) = some (.int .i64 ((rd_T31 t333 x13_2).f0)) ∧ w'.cell? ⟨(ad338.add ((x13_2).toNat * 2)).block, (ad338.add ((x13_2).toNat * 2)).off + 1, none⟩ = some (.string ((rd_T31 t333 x13_2).f1))) (ds := []) #[false, false, false, false, false, false, false, false, false, false, false, false, false, false] (by kernel_rfl) rfl rfl ⟨hx337_0, hx337_1, hx338_0, hx338_1⟩ (fun hHeld => ?_); refine with_tabW arbitertop_climbs.tab18 arbitertop_climbs.bits18 (fun HT_ HW_ => ?_); generalize wr.drew = w40 at HO_7 HO_11 BK323 BK324 HB hx337_0 hx337_1 hx338_0 hx338_1 hHeld ⊢; refine pX HT_ 0 (some 62) ?_; refine pX HT_ 1 (some 63) ?_; refine pX HT_ 2 (some 64) ?_; refine pX HT_ 3 (some 65) ?_; refine pX HT_ 4 (some 66) ?_; refine pX HT_ 6 (some 68) ?_; refine pX HT_ 7 (some 69) ?_; refine pX HT_ 8 (some 70) ?_; refine tX HT_ HW_ hHeld 5 (some 67) ?_; refine tX HT_ HW_ hHeld 9 (some 71) ?_; refine oX HT_ 10 (some 72) (fun K hK => ?_); refine hX Tryd.func30 #[.agg #[.int .i64 ((rd_T31 x7_2 x15_3).f0), .string ((rd_T31 x7_2 x15_3).f1)], .agg #[.int .i64 ((rd_T31 t333 x13_2).f0), .string ((rd_T31 t333 x13_2).f1)]] ?_
                 with_reducible refine (arbiterref02_Same.calls ((rd_T31 x7_2 x15_3).f0) ((rd_T31 x7_2 x15_3).f1) ((rd_T31 t333 x13_2).f0) ((rd_T31 t333 x13_2).f1) t339 _ A38.out).mono ?_
                 rintro e w41 ⟨rfl, hb⟩; have HS0_ := (hb.cell (World.block_lt_of_cell? _ _ (hHeld.1))).trans (hHeld.1); have HS1_ := (hb.cell (World.block_lt_of_cell? _ _ (hHeld.2.1))).trans (hHeld.2.1); have HS2_ := (hb.cell (World.block_lt_of_cell? _ _ (hHeld.2.2.1))).trans (hHeld.2.2.1); have HS3_ := (hb.cell (World.block_lt_of_cell? _ _ (hHeld.2.2.2))).trans (hHeld.2.2.2); refine ⟨_, rfl, ?_⟩; have n0_ := Aside0.mk (Kd.R_below (rX HO_7) hb); have n1_ := Aside0.mk (Kd.R_below (rX HO_11) hb); have n2_ := Aside0.mk (blk_below (kX BK323) hb); have n3_ := Aside0.mk (blk_below (kX BK324) hb); have n4_ := Aside0.mk (below_step (bX2 HB GE323 GE324) hb); clear HO_7; clear HO_11; clear BK323; clear BK324; clear HB; have HO_7 := n0_; have HO_11 := n1_; have BK323 := n2_; have BK324 := n3_; have HB := n4_; clear n0_ n1_ n2_ n3_ n4_
                 (try clear hb)
                 (try clear hb2)
                 (try clear hk)
                 (try clear hi)
                 refine hK.out _ _ ⟨HS0_, HS1_, HS2_, HS3_⟩ (fun hHeld => ?_); clear hK K; refine nX (some 72) ?_; refine pX HT_ 11 (some 73) ?_; refine pX HT_ 12 (some 74) ?_; refine pX HT_ 13 (some 14) ?_; refine done_ (done_of HT_.out (by kernel_rfl)) ?_
                 try go_wp2
                 go_roundg k3
                 case measure => have := HK1.out; have := HK2.out; have := HK3.out; omega
                 case rel => exact ⟨(!t339), (wrap64 (x15_3 + 1)), vX, vX, H', ⟨by have := HK1.out; have := HK2.out; have := HK3.out; omega⟩, ⟨rX HO_7⟩, ⟨rX HO_11⟩, ⟨by (with_reducible repeat (first | refine blk_drewN ?_ _ | refine blk_drew ?_ | refine blk_alloc ?_ _)); exact BK323.out⟩, ⟨by (with_reducible repeat (first | refine blk_drewN ?_ _ | refine blk_drew ?_ | refine blk_alloc ?_ _)); exact BK324.out⟩, ⟨bX2 HB GE323 GE324⟩⟩
                ·rw [if_neg c37] at H
                 exact absurd H (by simp)
               ·rw [if_neg c36] at H
                exact absurd H (by simp)
              ·rw [if_neg c35] at H
               exact absurd H (by simp)
             ·replace c34 := Bool.eq_false_iff.mpr c34
              subst c34
              have H1 : (arbitertop_climbs.l2 k3 a0 x7_2 x8_1 t333 x13_2 false (wrap64 (x15_3 + 1)) a1_0 a1_1 a2_0 a2_1) = some r := by rw [if_neg (show ¬ (false = true) by decide)] at H; exact H
              clear H; have H := H1; clear H1; have H' := Aside0.mk H; clear H; obtain ⟨Ao42, co42, eo42⟩ := Kd.R_slice HO_7.out; subst eo42
              try go_wp2
              have n0_ := Aside0.mk (Kd.R_drew HO_7.out); have n1_ := Aside0.mk (Kd.R_drew HO_11.out); have n2_ := Aside0.mk (blk_drew BK323.out); have n3_ := Aside0.mk (blk_drew BK324.out); have n4_ := Aside0.mk (below_drew1 HB.out); clear HO_7; clear HO_11; clear BK323; clear BK324; clear HB; have HO_7 := n0_; have HO_11 := n1_; have BK323 := n2_; have BK324 := n3_; have HB := n4_; clear n0_ n1_ n2_ n3_ n4_; refine start_ (n := 14) (S := fun w' => True) (ds := []) #[false, false, false, false, false, false, false, false, false, false, false, false, false, false] (by kernel_rfl) rfl rfl trivial (fun hHeld => ?_); refine with_tabW arbitertop_climbs.tab18 arbitertop_climbs.bits18 (fun HT_ HW_ => ?_); generalize wr.drew = w43 at HO_7 HO_11 BK323 BK324 HB hHeld ⊢; refine pX HT_ 0 (some 62) ?_; refine pX HT_ 1 (some 63) ?_; refine uX HT_ 2 (some 64) ?_; refine uX HT_ 3 (some 65) ?_; refine uX HT_ 4 (some 66) ?_; refine uX HT_ 5 (some 67) ?_; refine uX HT_ 6 (some 68) ?_; refine uX HT_ 7 (some 69) ?_; refine uX HT_ 8 (some 70) ?_; refine uX HT_ 9 (some 71) ?_; refine uX HT_ 10 (some 72) ?_; refine uX HT_ 11 (some 73) ?_; refine pX HT_ 12 (some 74) ?_; refine pX HT_ 13 (some 14) ?_; refine done_ (done_of HT_.out (by kernel_rfl)) ?_
              try go_wp2
              go_roundg k3
              case measure => have := HK1.out; have := HK2.out; have := HK3.out; omega
              case rel => exact ⟨(false), (wrap64 (x15_3 + 1)), vX, vX, H', ⟨by have := HK1.out; have := HK2.out; have := HK3.out; omega⟩, ⟨rX HO_7⟩, ⟨rX HO_11⟩, ⟨by (with_reducible repeat (first | refine blk_drewN ?_ _ | refine blk_drew ?_ | refine blk_alloc ?_ _)); exact BK323.out⟩, ⟨by (with_reducible repeat (first | refine blk_drewN ?_ _ | refine blk_drew ?_ | refine blk_alloc ?_ _)); exact BK324.out⟩, ⟨bX2 HB GE323 GE324⟩⟩
            ·rw [if_neg c33] at H
             have c33b0 : decide (x15_3 < (x7_2.length : Int)) = false := decide_eq_false c33; clear c33
             by_cases c44 : x14_3 = true
             ·subst c44
              have H1 : (if 0 ≤ x13_2 then (if x13_2 < (t333.length : Int) then (if x7_2.length < 5864062014805 then (arbitertop_climbs.l1 k3 a0 (x7_2 ++ [(⟨(rd_T31 t333 x13_2).f0, (rd_T31 t333 x13_2).f1⟩ : S31)]) x8_1 t333 (wrap64 (x13_2 + 1)) a1_0 a1_1 a2_0 a2_1) else (none)) else (none)) else (none)) = some r := by rw [if_pos rfl] at H; exact H
              clear H; have H := H1; clear H1
              by_cases c45 : 0 ≤ x13_2
              ·rw [if_pos c45] at H
               have c45b0 : decide (0 ≤ x13_2) = true := decide_eq_true c45; clear c45
               by_cases c46 : x13_2 < (t333.length : Int)
               ·rw [if_pos c46] at H
                have c46b0 : decide (x13_2 < (t333.length : Int)) = true := decide_eq_true c46; clear c46
                by_cases c47 : x7_2.length < 5864062014805
                ·rw [if_pos c47] at H
                 have LMc47 := Aside0.mk c47; clear c47
                 obtain ⟨y341, hy341⟩ : ∃ y_ : List (S31), y_ = (x7_2 ++ [(⟨(rd_T31 t333 x13_2).f0, (rd_T31 t333 x13_2).f1⟩ : S31)]) := ⟨_, rfl⟩
                 replace H : (arbitertop_climbs.l1 k3 a0 y341 x8_1 t333 (wrap64 (x13_2 + 1)) a1_0 a1_1 a2_0 a2_1) = some r := by first | (rw [hy341]; with_reducible exact H) | (have H2_ := (Option.bind_some _ _).symm.trans H; rw [hy341]; with_reducible exact H2_) | (have H2_ := (Option.bind_some _ _).symm.trans H; with_reducible exact H2_) | with_reducible exact H | (rw [hy341]; exact H) | exact H
                 have Ny341 := Aside0.mk hy341; clear hy341; have H' := Aside0.mk H; clear H; obtain ⟨Ao48, co48, eo48⟩ := Kd.R_slice HO_7.out; subst eo48; have p340 : 0 ≤ (x13_2 : Int) := qX; have q340 : x13_2 < (t333.length : Int) := qX; obtain ⟨ad340, e340, hx340_0, hx340_1⟩ := at_T31 (Kd.R_reads' HO_11.out).2.2 x13_2 p340 q340
                 cases e340
                 replace p340 := eq_true p340; replace q340 := eq_true q340; go_wp2_with (first | ((with_reducible refine gate_builtin (b := .append) (xs := #[.tmp 76, .tmp 81]) rfl ?_); at_builtin; refine Kd.R_append k31 (w0 := w) w.heap.size rfl (.tmp 76) (.tmp 81) 23 31 (.agg #[(.int .i64 0), (.string ⟨#[]⟩)]) 24 rfl Tryd.underlying23 info31 rfl (by decide) (by omega) (.slice Ao48 x7_2.length co48) x7_2 (⟨(rd_T31 t333 x13_2).f0, (rd_T31 t333 x13_2).f1⟩ : S31) [.int .i64 ((rd_T31 t333 x13_2).f0), .string ((rd_T31 t333 x13_2).f1)] (fun k_ => some k_ ≠ (.slice (some ad340) t333.length co32 : Value).ownBlock ∧ k_ ≠ gb323 ∧ k_ ≠ gb324) (fun _ => False) rfl rfl ?aP (fun _ hk => hk.elim) ?aF ?aO ?aB ?aS ?aL ?_; (case aP => exact k31_mkM _ _ _ (⟨(rd_T31 t333 x13_2).f0, (rd_T31 t333 x13_2).f1⟩ : S31)); (case aB => exact (bX2 HB GE323 GE324)); (case aF => exact (fun k_ hk => ⟨Kd.fresh' (Kd.R_lt (rX HO_11)) k_ hk, Kd.freshB (g := gb323) (o := .cells #[.int .i64 a1_0, .string a1_1] 31 (0, 0)) (kX BK323) k_ hk, Kd.freshB (g := gb324) (o := .cells #[.int .i64 a2_0, .string a2_1] 31 (0, 0)) (kX BK324) k_ hk⟩)); (case aO => exact (rX HO_7)); (case aS => exact (below_size (bX2 HB GE323 GE324))); (case aL => have := LMc47.out; omega); intro v342 w49 ho hb hg hat; rw [← Ny341.out] at ho; have n0_ := Aside0.mk (Kd.R_after (ok := (fun k_ => k_ ≠ gb323 ∧ k_ ≠ gb324)) (by (with_reducible repeat (first | apply Kd.R_alloc | apply Kd.R_drewN | apply Kd.R_drew)); exact Kd.R_mono HO_11.out (fun _ hk => ⟨⟨hk.2.1, hk.2.2⟩, hk.1⟩)) hg hat); have n1_ := Aside0.mk (blk_grown (g := gb323) (o := .cells #[.int .i64 a1_0, .string a1_1] 31 (0, 0)) (kX BK323) hg (Kd.R_away HO_7.out (fun _ hk => hk.2.1))); have n2_ := Aside0.mk (blk_grown (g := gb324) (o := .cells #[.int .i64 a2_0, .string a2_1] 31 (0, 0)) (kX BK324) hg (Kd.R_away HO_7.out (fun _ hk => hk.2.2))); have n3_ := Aside0.mk (hb); have n4_ := Aside0.mk (ho); clear HO_11; clear BK323; clear BK324; clear HB; clear HO_7; have HO_11 := n0_; have BK323 := n1_; have BK324 := n2_; have HB := n3_; have HO343 := n4_; clear n0_ n1_ n2_ n3_ n4_; clear ho hb hg hat))
                 go_roundg k3
                 case measure => have := HK1.out; have := HK2.out; have := HK3.out; omega
                 case rel => exact ⟨(y341), (wrap64 (x13_2 + 1)), vX, H', ⟨by have := HK1.out; have := HK2.out; have := HK3.out; omega⟩, ⟨rX HO343⟩, ⟨by (with_reducible repeat (first | apply Kd.R_alloc | apply Kd.R_drewN | apply Kd.R_drew)); exact Kd.R_mono HO_11.out (fun _ hk => ⟨hk.2, ⟨hk.1.1, hk.1.2⟩⟩)⟩, ⟨by (with_reducible repeat (first | refine blk_drewN ?_ _ | refine blk_drew ?_ | refine blk_alloc ?_ _)); exact BK323.out⟩, ⟨by (with_reducible repeat (first | refine blk_drewN ?_ _ | refine blk_drew ?_ | refine blk_alloc ?_ _)); exact BK324.out⟩, ⟨bX2 HB GE323 GE324⟩⟩
                ·rw [if_neg c47] at H
                 exact absurd H (by simp)
               ·rw [if_neg c46] at H
                exact absurd H (by simp)
              ·rw [if_neg c45] at H
               exact absurd H (by simp)
             ·replace c44 := Bool.eq_false_iff.mpr c44
              subst c44
              have H1 : (arbitertop_climbs.l1 k3 a0 x7_2 x8_1 t333 (wrap64 (x13_2 + 1)) a1_0 a1_1 a2_0 a2_1) = some r := by rw [if_neg (show ¬ (false = true) by decide)] at H; exact H
              clear H; have H := H1; clear H1; have H' := Aside0.mk H; clear H; obtain ⟨Ao50, co50, eo50⟩ := Kd.R_slice HO_7.out; subst eo50; go_wp2
              go_roundg k3
              case measure => have := HK1.out; have := HK2.out; have := HK3.out; omega
              case rel => exact ⟨(x7_2), (wrap64 (x13_2 + 1)), vX, H', ⟨by have := HK1.out; have := HK2.out; have := HK3.out; omega⟩, ⟨rX HO_7⟩, ⟨rX HO_11⟩, ⟨by (with_reducible repeat (first | refine blk_drewN ?_ _ | refine blk_drew ?_ | refine blk_alloc ?_ _)); exact BK323.out⟩, ⟨by (with_reducible repeat (first | refine blk_drewN ?_ _ | refine blk_drew ?_ | refine blk_alloc ?_ _)); exact BK324.out⟩, ⟨bX2 HB GE323 GE324⟩⟩
         ·rw [if_neg c31] at H
          have c31b0 : decide (x13_2 < (t333.length : Int)) = false := decide_eq_false c31; clear c31; have H' := Aside0.mk H; clear H; obtain ⟨Ao51, co51, eo51⟩ := Kd.R_slice HO_11.out; subst eo51; go_wp2
          go_roundg k2
          case measure => have := HK1.out; have := HK2.out; omega
          case rel => exact ⟨(x7_2), (wrap64 (x8_1 + 1)), vX, H', ⟨by have := HK1.out; have := HK2.out; omega⟩, ⟨by (with_reducible repeat (first | apply Kd.R_alloc | apply Kd.R_drewN | apply Kd.R_drew)); exact Kd.R_mono HO_7.out (fun _ hk => ⟨hk.2.1, hk.2.2⟩)⟩, ⟨by (with_reducible repeat (first | refine blk_drewN ?_ _ | refine blk_drew ?_ | refine blk_alloc ?_ _)); exact BK323.out⟩, ⟨by (with_reducible repeat (first | refine blk_drewN ?_ _ | refine blk_drew ?_ | refine blk_alloc ?_ _)); exact BK324.out⟩, ⟨bX2 HB GE323 GE324⟩⟩
    ·rw [if_neg c11] at H
     exact absurd H (by simp)
   ·rw [if_neg c10] at H
    have c10b0 : decide (x8_1 < (x7_1.length : Int)) = false := decide_eq_false c10; clear c10; obtain rfl := Option.some.inj H; obtain ⟨Ao52, co52, eo52⟩ := Kd.R_slice HO_7.out; subst eo52; go_wp2; go_ret
    exact ⟨by first | rfl | (simp [errW_none, errW_some] <;> rfl) | (simp [*, errW_none, errW_some] <;> rfl), bX2 HB GE323 GE324⟩
end Go.Proofs.YtaipkdglhfhhiaaDoor.Pt

namespace Go.Proofs.YtaipkdglhfhhiaaDoor.Pt
open Go Go.RowKit Go.Proofs.YtaipkdglhfhhiaaDoor.Nm Go.Proofs.YtaipkdglhfhhiaaDoor.Ty Go.Proofs.YtaipkdglhfhhiaaDoor.Hi Go.Proofs.YtaipkdglhfhhiaaDoorW.PrintWords Go.Proofs.YtaipkdglhfhhiaaDoorW.PrintLast Go.Proofs.YtaipkdglhfhhiaaDoorW.PrintMore
set_option linter.unusedVariables false
set_option linter.unusedSimpArgs false
set_option maxRecDepth 100000
theorem ty_ext {x y : S31} : x = y ↔ (x.f0 = y.f0 ∧ x.f1.data.toList = y.f1.data.toList) := by
 constructor
 ·rintro rfl; exact ⟨rfl, rfl⟩
 ·obtain ⟨a, s⟩ := x
  obtain ⟨b, t⟩ := y; rintro ⟨h1, h2⟩; have h1 : a = b := h1; have h2 : s = t := ByteArray.ext (Array.toList_inj.1 h2); rw [h1, h2]
theorem same_yes {x y : S31} (h : x = y) : arbiterref02_Same.f x.f0 x.f1 y.f0 y.f1 = some true := by
 unfold arbiterref02_Same.f; rw [decide_eq_true (ty_ext.1 h)]
theorem same_no {x y : S31} (h : x ≠ y) : arbiterref02_Same.f x.f0 x.f1 y.f0 y.f1 = some false := by
 unfold arbiterref02_Same.f; rw [decide_eq_false (fun e => h (ty_ext.2 e))]
theorem clm_wrap {j : Nat} (h : j ≤ 1000000) : wrap64 ((j : Int) + 1) = ((j + 1 : Nat) : Int) := by unfold wrap64; omega
theorem clm_l2 (es : List Ent) (i : Int) (up : List S31) {j : Nat} (hj : j < up.length) (hj2 : j ≤ 5000) (u : S31) (hu : up[j]? = some u) (a : Int) (s : ByteArray) (b : Int) (t : ByteArray) (M : List S31) (hM : M.length ≤ 5000) (k : Nat) :
  ∀ (d q : Nat) (fresh : Bool), q + d = M.length →
   ((fresh = true ∧ u ∉ M.drop q) → arbitertop_climbs.l2 (k + d + 1) es M i up j fresh q a s b t = arbitertop_climbs.l1 k es (M ++ [u]) i up ((j + 1 : Nat) : Int) a s b t) ∧
   ((fresh = false ∨ u ∈ M.drop q) → arbitertop_climbs.l2 (k + d + 1) es M i up j fresh q a s b t = arbitertop_climbs.l1 k es M i up ((j + 1 : Nat) : Int) a s b t) := by
 have hru : rd_T31 up (j : Int) = u := by
  have := rd28 hj; rw [hu] at this
  exact (Option.some.inj this).symm
 intro d
 induction d with
 | zero =>
  intro q fresh hq; have hnil : M.drop q = [] := List.drop_eq_nil_of_le (by omega); rw [hnil]
  constructor
  ·rintro ⟨rfl, _⟩
   rw [arbitertop_climbs.l2, if_neg (by omega), if_pos rfl, if_pos (by omega), if_pos (by omega), if_pos (by omega), hru, clm_wrap (by omega)]
  ·rintro (rfl | h)
   ·rw [arbitertop_climbs.l2, if_neg (by omega), if_neg (by decide), clm_wrap (by omega)]
   ·cases h
 | succ d ih =>
  intro q fresh hq
  have hlt : q < M.length := by omega
  obtain ⟨i1, i2⟩ := ih (q + 1) fresh (by omega); obtain ⟨f1, f2⟩ := ih (q + 1) false (by omega); have hm := rd28 hlt
  have hdr : M.drop q = rd_T31 M (q : Int) :: M.drop (q + 1) := by
   rw [List.drop_eq_getElem_cons hlt]; rw [List.getElem?_eq_getElem hlt] at hm; rw [Option.some.inj hm]
  rw [hdr]; generalize rd_T31 M (q : Int) = m at *; rw [show k + (d + 1) + 1 = (k + d + 1) + 1 by omega]
  cases fresh with
  | false =>
   refine ⟨fun h => absurd h.1 (by decide), fun _ => ?_⟩; rw [arbitertop_climbs.l2, if_pos (by omega), if_neg (by decide), clm_wrap (by omega)]
   exact f2 (.inl rfl)
  | true =>
   by_cases hmu : m = u
   ·refine ⟨fun h => absurd (List.mem_cons.2 (.inl hmu.symm)) h.2, fun _ => ?_⟩
    rw [arbitertop_climbs.l2, if_pos (by omega), if_pos rfl, if_pos (by omega), if_pos (by omega), if_pos (by omega), hru]
    have hm2 : rd_T31 M (q : Int) = m := by
     have := rd28 hlt; rw [hm] at this
     exact (Option.some.inj this).symm
    rw [hm2, same_yes hmu, Option.bind_some, clm_wrap (by omega)]
    exact f2 (.inl rfl)
   ·have hm2 : rd_T31 M (q : Int) = m := by
     have := rd28 hlt; rw [hm] at this
     exact (Option.some.inj this).symm
    have hstep : arbitertop_climbs.l2 (k + d + 1 + 1) es M i up j true q a s b t = arbitertop_climbs.l2 (k + d + 1) es M i up j true ((q + 1 : Nat) : Int) a s b t := by
     rw [arbitertop_climbs.l2, if_pos (by omega), if_pos rfl, if_pos (by omega), if_pos (by omega), if_pos (by omega), hru, hm2, same_no hmu, Option.bind_some, clm_wrap (by omega)]
     rfl
    rw [hstep]
    constructor
    ·rintro ⟨_, h⟩
     exact i1 ⟨rfl, fun h2 => h (List.mem_cons_of_mem _ h2)⟩
    ·rintro (h | h)
     ·cases h
     ·exact i2 (.inr ((List.mem_cons.1 h).resolve_left (fun e => hmu e.symm)))
structure Met_ (es : List Ent) (a : Int) (s : ByteArray) (b : Int) (t : ByteArray) (M : List S31) (i : Nat) : Prop where
 all : ∀ m ∈ M, loadF es m.f0 m.f1 = 0 ∧ BelP es a s m.f0 m.f1
 no : ∀ (j : Nat) (m : S31), j < i → M[j]? = some m → m ≠ ⟨b, t⟩
 up : ∀ (j : Nat) (m : S31), j < i → M[j]? = some m → ∀ u ∈ (aboveTF es m.f0 m.f1).1, u ∈ M
 first : M[0]? = some ⟨a, s⟩
def mu (es : List Ent) (x : S31) : Nat := x.f0.toNat * 2000 + (nameF es x.f1).1.toNat
theorem mu_step {es : List Ent} (h : Thy es) (hl : es.length ≤ 1000) {x u : S31} (hx : loadF es x.f0 x.f1 = 0) (hu : StepOk es x.f0 x.f1 u) : mu es u < mu es x := by
 obtain ⟨u1, u2, u3⟩ := hu; have hdx := (load_size hx).2; have hdu := (load_size u1).2
 have hname : ∀ (d : Int) (n : ByteArray), loadF es d n = 0 → 0 ≤ (nameF es n).1 ∧ (nameF es n).1 < 1001 := by
  intro d n hn
  by_cases hz : (nameF es n).2 = 0
  ·have := nameF_in hz
   exact ⟨this.1, by omega⟩
  ·rw [(nameF_not hz).1]
   exact ⟨by decide, by decide⟩
 have n1 := hname _ _ hx; have n2 := hname _ _ u1; unfold mu
 rcases u2 with ⟨e0, e1⟩ | ⟨e0, e1⟩
 ·rcases e1 with ⟨e1, e2⟩ | ⟨e1, e2, e3⟩
  ·exact absurd ⟨e0, by rw [show x.f1 = u.f1 from tl_eq (e1.trans e2.symm)]⟩ u3
  ·have i1 := name_at hx e1
   have i2 := name_at u1 e2; have hle := h.ext_le i1.1 i1.2.1 e3
   have hne : (nameF es x.f1).1 ≠ (nameF es u.f1).1 := by
    intro e; refine u3 ⟨e0, ?_⟩; rw [← i1.2.2, ← i2.2.2, e]
   omega
 ·omega
theorem met_end {es : List Ent} (h : Thy es) (hl : es.length ≤ 1000) {a b : Int} {s t : ByteArray} (hs : loadF es a s = 0) (ht : loadF es b t = 0) {M : List S31} (hM : Met_ es a s b t M M.length) : belowF es a s b t = false := by
 have key : ∀ (n : Nat) (m : S31), mu es m < n → m ∈ M → BelP es m.f0 m.f1 b t → False := by
  intro n
  induction n with
  | zero => intro m hn; omega
  | succ n ih =>
   intro m hn hm hb; obtain ⟨j, hj⟩ := List.getElem?_of_mem hm
   have hjl : j < M.length := by
    rcases Nat.lt_or_ge j M.length with h | h
    ·exact h
    ·rw [List.getElem?_eq_none h] at hj; cases hj
   have hne := hM.no j m hjl hj; have hml := (hM.all m hm).1; obtain ⟨u, hu, hub⟩ := above_meets h hml ht hb (fun e => hne (ty_ext.2 e))
   exact ih u (by have := mu_step h hl hml (above_ok h hml u hu); omega) (hM.up j m hjl hj u hu) hub
 cases hB : belowF es a s b t with
 | false => rfl
 | true => exact (key _ ⟨a, s⟩ (Nat.lt_succ_self _) (List.mem_of_getElem? hM.first) ((bel_iff h hs ht).1 hB)).elim
theorem clm_l1 {es : List Ent} (h : Thy es) (hl : es.length ≤ 1000) {a b : Int} {s t : ByteArray} (hs : loadF es a s = 0) (ht : loadF es b t = 0) (i : Nat) (m : S31) (hm : loadF es m.f0 m.f1 = 0) (hma : BelP es a s m.f0 m.f1) (hne : m ≠ ⟨b, t⟩) (hi : i ≤ 60)
  (next : ∀ (M : List S31) (k : Nat), Met_ es a s b t M (i + 1) → i + 1 ≤ M.length → M.length ≤ 1060 → 2000000 * (60 - i) + 10 ≤ k → arbitertop_climbs.l0 k es M ((i + 1 : Nat) : Int) a s b t = some (belowF es a s b t)) :
  ∀ (d j k : Nat) (M : List S31), j + d = (aboveTF es m.f0 m.f1).1.length → Met_ es a s b t M i → M[i]? = some m → (∀ u ∈ (aboveTF es m.f0 m.f1).1.take j, u ∈ M) → M.length ≤ 60 + j → 2000000 * (60 - i) + 20 + 1100 * (d + 1) ≤ k →
   arbitertop_climbs.l1 k es M i (aboveTF es m.f0 m.f1).1 j a s b t = some (belowF es a s b t) := by
 have hup := above_len h hm; intro d
 induction d with
 | zero =>
  intro j k M hj hM hi2 htk hlen hk
  obtain ⟨k, rfl⟩ : ∃ q, k = q + 1 := ⟨k - 1, by omega⟩
  rw [arbitertop_climbs.l1, if_neg (by omega), clm_wrap (by omega)]; refine next M k ⟨hM.all, fun q x hq hx => ?_, fun q x hq hx => ?_, hM.first⟩ ?_ (by omega) (by omega)
  ·by_cases hqi : q = i
   ·subst hqi
    rw [hi2] at hx
    cases hx
    exact hne
   ·exact hM.no q x (by omega) hx
  ·by_cases hqi : q = i
   ·subst hqi
    rw [hi2] at hx
    cases hx
    intro u hu
    exact htk u (by rw [List.take_of_length_le (by omega)]; exact hu)
   ·exact hM.up q x (by omega) hx
  ·rcases Nat.lt_or_ge i M.length with h | h
   ·exact h
   ·rw [List.getElem?_eq_none h] at hi2; cases hi2
 | succ d ih =>
  intro j k M hj hM hi2 htk hlen hk
  have hlt : j < (aboveTF es m.f0 m.f1).1.length := by omega
  obtain ⟨u, hu⟩ : ∃ u, (aboveTF es m.f0 m.f1).1[j]? = some u := ⟨_, List.getElem?_eq_getElem hlt⟩
  have hus := above_ok h hm u (List.mem_of_getElem? hu)
  have hil : i < M.length := by
   rcases Nat.lt_or_ge i M.length with h | h
   ·exact h
   ·rw [List.getElem?_eq_none h] at hi2; cases hi2
  obtain ⟨k, rfl⟩ : ∃ q, k = (q + M.length + 1) + 1 := ⟨k - M.length - 2, by omega⟩
  have L2 := clm_l2 es i (aboveTF es m.f0 m.f1).1 hlt (by omega) u hu a s b t M (by omega) k M.length 0 true (by omega); rw [List.drop_zero] at L2; rw [arbitertop_climbs.l1, if_pos (by omega)]
  show arbitertop_climbs.l2 (k + M.length + 1) es M i _ j true ((0 : Nat) : Int) a s b t = _
  have htk2 : ∀ M' : List S31, (∀ x ∈ M, x ∈ M') → u ∈ M' → ∀ x ∈ (aboveTF es m.f0 m.f1).1.take (j + 1), x ∈ M' := by
   intro M' h1 h2 x hx; rw [List.take_add_one, hu, List.mem_append] at hx
   rcases hx with hx | hx
   ·exact h1 x (htk x hx)
   ·have : x = u := by simpa using hx
    rw [this]; exact h2
  by_cases hin : u ∈ M
  ·rw [L2.2 (.inr hin)]
   exact ih (j + 1) k M (by omega) hM hi2 (htk2 M (fun _ hx => hx) hin) (by omega) (by omega)
  ·rw [L2.1 ⟨rfl, hin⟩]
   have hold : ∀ (q : Nat) (x : S31), q < i → (M ++ [u])[q]? = some x → M[q]? = some x := by
    intro q x hq hx
    rwa [List.getElem?_append_left (by omega)] at hx
   refine ih (j + 1) k (M ++ [u]) (by omega) ⟨fun x hx => ?_, fun q x hq hx => hM.no q x hq (hold q x hq hx), fun q x hq hx y hy => List.mem_append_left _ (hM.up q x hq (hold q x hq hx) y hy), ?_⟩ ?_ (htk2 _ (fun x hx => List.mem_append_left _ hx) (by simp)) (by simp; omega) (by omega)
   ·rcases List.mem_append.1 hx with hx | hx
    ·exact hM.all x hx
    ·have : x = u := by simpa using hx
     rw [this]
     exact ⟨hus.1, bel_trans h hs hm hus.1 hma hus.2.1⟩
   ·rw [List.getElem?_append_left (by omega)]; exact hM.first
   ·rw [List.getElem?_append_left (by omega)]; exact hi2
theorem clm_l0 {es : List Ent} (h : Thy es) (hl : es.length ≤ 1000) {a b : Int} {s t : ByteArray} (hs : loadF es a s = 0) (ht : loadF es b t = 0) : ∀ (n i : Nat) (M : List S31) (k : Nat), i + n = 61 → Met_ es a s b t M i → i ≤ M.length → M.length ≤ 1060 → 2000000 * n + 10 ≤ k →
  arbitertop_climbs.l0 k es M i a s b t = some (belowF es a s b t) := by
 intro n
 induction n with
 | zero =>
  intro i M k hn hM hi hlen hk
  obtain ⟨k, rfl⟩ : ∃ q, k = q + 1 := ⟨k - 1, by omega⟩
  rw [arbitertop_climbs.l0]
  by_cases hlt : i < M.length
  ·have hm := rd28 hlt
   have hmm := hM.all _ (List.mem_of_getElem? hm); rw [if_pos (by omega), if_pos (by omega)]
   by_cases he : rd_T31 M (i : Int) = ⟨b, t⟩
   ·rw [show arbiterref02_Same.f (rd_T31 M (i : Int)).f0 (rd_T31 M (i : Int)).f1 b t = some true from same_yes he, Option.bind_some, if_pos rfl]
    rw [he] at hmm; rw [(bel_iff h hs ht).2 hmm.2]
   ·rw [show arbiterref02_Same.f (rd_T31 M (i : Int)).f0 (rd_T31 M (i : Int)).f1 b t = some false from same_no he, Option.bind_some, if_neg (by decide), if_pos (by omega), sub_ok hs ht, Option.bind_some]
  ·rw [if_neg (by omega)]
   have : i = M.length := by omega
   rw [this] at hM; rw [met_end h hl hs ht hM]
 | succ n ih =>
  intro i M k hn hM hi hlen hk
  obtain ⟨k, rfl⟩ : ∃ q, k = q + 1 := ⟨k - 1, by omega⟩
  rw [arbitertop_climbs.l0]
  by_cases hlt : i < M.length
  ·have hm := rd28 hlt
   have hmm := hM.all _ (List.mem_of_getElem? hm); rw [if_pos (by omega), if_pos (by omega)]; generalize rd_T31 M (i : Int) = m at *
   by_cases he : m = ⟨b, t⟩
   ·rw [show arbiterref02_Same.f m.f0 m.f1 b t = some true from same_yes he, Option.bind_some, if_pos rfl]
    rw [he] at hmm; rw [(bel_iff h hs ht).2 hmm.2]
   ·rw [show arbiterref02_Same.f m.f0 m.f1 b t = some false from same_no he, Option.bind_some, if_neg (by decide)]
    by_cases h60 : (M.length : Int) > 60
    ·rw [if_pos h60, sub_ok hs ht, Option.bind_some]
    ·rw [if_neg h60, above_some h hmm.1, Option.bind_some]
     have hup := above_len h hmm.1; refine clm_l1 h hl hs ht i m hmm.1 hmm.2 he (by omega) (fun M' k' hM' hi' hl' hk' => ?_) (aboveTF es m.f0 m.f1).1.length 0 k M (by omega) hM hm (fun u hu => by simp at hu) (by omega) (by omega)
     exact ih (i + 1) M' k' (by omega) hM' hi' hl' (by omega)
  ·rw [if_neg (by omega)]
   have : i = M.length := by omega
   rw [this] at hM; rw [met_end h hl hs ht hM]
theorem climbs_ok {es : List Ent} (h : Thy es) (hl : es.length ≤ 1000) {a b : Int} {s t : ByteArray} (hs : loadF es a s = 0) (ht : loadF es b t = 0) : arbitertop_climbs.f 200000000 es a s b t = some (belowF es a s b t) := by
 unfold arbitertop_climbs.f; refine clm_l0 h hl hs ht 61 0 [⟨a, s⟩] 200000000 (by decide) ⟨fun m hm => ?_, fun j m hj => absurd hj (by omega), fun j m hj => absurd hj (by omega), rfl⟩ (by simp) (by simp) (by decide); obtain rfl := List.mem_singleton.1 hm
 exact ⟨hs, bel_refl h a s⟩
end Go.Proofs.YtaipkdglhfhhiaaDoor.Pt

namespace Go.Proofs.YtaipkdglhfhhiaaDoor.Hi
open Go Go.RowKit Go.Proofs.YtaipkdglhfhhiaaDoor.Nm Go.Proofs.YtaipkdglhfhhiaaDoorW.PrintWords Go.Proofs.YtaipkdglhfhhiaaDoorW.PrintLast Go.Proofs.YtaipkdglhfhhiaaDoorW.PrintMore Go.Proofs.YtaipkdglhfhhiaaDoor.Pt
set_option linter.unusedVariables false
set_option linter.unusedSimpArgs false
set_option maxRecDepth 100000
def chL (es : List Ent) (a : Int) : List Int := chainL es es.length a
theorem chain_more {es : List Ent} (h : Tree es) : ∀ (k : Nat) (a : Int), 0 ≤ a → a < es.length → (ent es a).depth < k → ∀ j, chainL es (k + j) a = chainL es k a
 | 0, a, h0, h1, hk, j => by
  have := (h.depth_ h0 h1).1
  omega
 | k + 1, a, h0, h1, hk, j => by
  rw [show k + 1 + j = (k + j) + 1 by omega, chainL, chainL]
  rcases h.at_ h0 h1 with ⟨h2, hz⟩ | ⟨h2, h3, hz⟩
  ·rw [if_pos (by omega), if_pos (by omega)]
  ·rw [if_neg (by omega), if_neg (by omega), chain_more h k _ h2 (by omega) (by omega) j]
theorem chL_up {es : List Ent} (h : Tree es) {a : Int} (h0 : 0 ≤ a) (h1 : a < es.length) : chL es a = a :: (if (ent es a).above < 0 then [] else chL es (ent es a).above) := by
 unfold chL
 obtain ⟨N, hN⟩ : ∃ N, es.length = N + 1 := ⟨es.length - 1, by omega⟩
 rw [hN, chainL]
 rcases h.at_ h0 h1 with ⟨h2, hz⟩ | ⟨h2, h3, hz⟩
 ·rw [if_pos (by omega), if_pos (by omega)]
 ·rw [if_neg (by omega), if_neg (by omega), chain_more h N _ h2 (by omega) (by have := (h.depth_ h2 (by omega)).2; omega) 1]
theorem chL_top {es : List Ent} (h : Tree es) {a : Int} (h0 : 0 ≤ a) (h1 : a < es.length) (ha : (ent es a).above < 0) : chL es a = [a] := by
 rw [chL_up h h0 h1, if_pos ha]
theorem chL_step {es : List Ent} (h : Tree es) {a : Int} (h0 : 0 ≤ a) (h1 : a < es.length) (ha : ¬ (ent es a).above < 0) : chL es a = a :: chL es (ent es a).above ∧ 0 ≤ (ent es a).above ∧ (ent es a).above < a := by
 rcases h.at_ h0 h1 with ⟨h2, hz⟩ | ⟨h2, h3, hz⟩
 ·omega
 ·exact ⟨by rw [chL_up h h0 h1, if_neg ha], h2, h3⟩
theorem tree_ind {es : List Ent} (h : Tree es) {P : Int → Prop} (top : ∀ a : Int, 0 ≤ a → a < es.length → (ent es a).above < 0 → (ent es a).depth = 0 → P a)
  (up : ∀ a : Int, 0 ≤ a → a < es.length → 0 ≤ (ent es a).above → (ent es a).above < a → (ent es a).depth = (ent es (ent es a).above).depth + 1 → P (ent es a).above → P a) : ∀ (n : Nat) (a : Int), a.toNat < n → 0 ≤ a → a < es.length → P a
 | 0, a, hn, _, _ => absurd hn (by omega)
 | n + 1, a, hn, h0, h1 => by
  rcases h.at_ h0 h1 with ⟨h2, hz⟩ | ⟨h2, h3, hz⟩
  ·exact top a h0 h1 (by omega) hz
  ·exact up a h0 h1 h2 h3 hz (tree_ind h top up n _ (by omega) h2 (by omega))
theorem chL_len {es : List Ent} (h : Tree es) {a : Int} (h0 : 0 ≤ a) (h1 : a < es.length) : ((chL es a).length : Int) = (ent es a).depth + 1 := by
 refine tree_ind h (P := fun a => ((chL es a).length : Int) = (ent es a).depth + 1) (fun a h0 h1 ha hd => ?_) (fun a h0 h1 ha ha2 hd ih => ?_) _ a (Nat.lt_succ_self _) h0 h1
 ·rw [chL_top h h0 h1 ha, hd]; rfl
 ·rw [(chL_step h h0 h1 (by omega)).1, List.length_cons, hd]
  push_cast
  omega
theorem chL_at {es : List Ent} (h : Tree es) {a : Int} (h0 : 0 ≤ a) (h1 : a < es.length) (d : Nat) (hd : (d : Int) ≤ (ent es a).depth) : (chL es a).reverse[d]? = some (climb es es.length a d) := by
 revert hd
 refine tree_ind h (P := fun a => (d : Int) ≤ (ent es a).depth → (chL es a).reverse[d]? = some (climb es es.length a d)) (fun a h0 h1 ha hz hd => ?_) (fun a h0 h1 ha ha2 hz ih hd => ?_) _ a (Nat.lt_succ_self _) h0 h1
 ·rw [chL_top h h0 h1 ha, climb_end (by omega)]
  obtain rfl : d = 0 := by omega
  rfl
 ·have hl := chL_len h ha (show (ent es a).above < es.length by omega)
  rw [(chL_step h h0 h1 (by omega)).1, List.reverse_cons]
  by_cases he : (d : Int) = (ent es a).depth
  ·rw [climb_end (by omega), List.getElem?_append_right (by rw [List.length_reverse]; omega), List.length_reverse, show d - (chL es (ent es a).above).length = 0 by omega]
   rfl
  ·rw [List.getElem?_append_left (by rw [List.length_reverse]; omega), ih (by omega), (climb_up h h0 h1 (by omega) (by omega)).2.2]
end Go.Proofs.YtaipkdglhfhhiaaDoor.Hi

namespace Go.Proofs.YtaipkdglhfhhiaaDoor.Hi
open Go Go.RowKit Go.Proofs.YtaipkdglhfhhiaaDoor.Nm Go.Proofs.YtaipkdglhfhhiaaDoorW.PrintWords Go.Proofs.YtaipkdglhfhhiaaDoorW.PrintLast Go.Proofs.YtaipkdglhfhhiaaDoorW.PrintMore Go.Proofs.YtaipkdglhfhhiaaDoor.Pt
set_option linter.unusedVariables false
set_option linter.unusedSimpArgs false
set_option maxRecDepth 100000
def superF (es : List Ent) (i : Int) : Int × Int := if 0 ≤ i ∧ i < es.length then (if (ent es i).above < 0 then (0, 6) else ((ent es i).above, 0)) else (0, 3)
def depthF (es : List Ent) (i : Int) : Int × Int := if 0 ≤ i ∧ i < es.length then ((ent es i).depth, 0) else (0, 3)
def closureF (es : List Ent) (i : Int) : List Int × Int := if 0 ≤ i ∧ i < es.length then ((ent es i).clo, 0) else ([], 3)
def chainF (es : List Ent) (i : Int) : List Int × Int := if 0 ≤ i ∧ i < es.length then (chL es i, 0) else ([], 3)
def rcL (es : List Ent) (i : Int) : List Int := (chL es i).reverse
def buildF (es : List Ent) (i : Int) : List Int × List Int × List Int × Int := if 0 ≤ i ∧ i < es.length then ((rcL es i).take 8, (rcL es i).drop 8, (ent es i).clo, 0) else ([], [], [], 3)
def atF (p q : List Int) (d : Int) : Int := if d < p.length then p.getD d.toNat 0 else if 8 ≤ d ∧ d - 8 < q.length then q.getD (d - 8).toNat 0 else -1
def scanN (t : Int) : List Int → Int
 | [] => 0
 | x :: l => if x = t then 1 else 1 + scanN t l
def lookF (es : List Ent) (s t : Int) : Bool × Int :=
 if isI (ent es t).c = true ∧ s = t then (true, 1)
 else if isI (ent es t).c = false then (atF (buildF es s).1 (buildF es s).2.1 (ent es t).depth == t, 1)
 else (decide (t ∈ (ent es s).clo), 1 + scanN t (ent es s).clo)
def testF (es : List Ent) (s t : Int) : Bool × Int × Int :=
 if 0 ≤ s ∧ s < es.length then (if 0 ≤ t ∧ t < es.length then ((lookF es s t).1, (lookF es s t).2, 0) else (false, 0, 3)) else (false, 0, 3)
def ttF (es : List Ent) (a : Int) (s : ByteArray) (b : Int) (t : ByteArray) : Bool × Int × Int :=
 if (subF es a s b t).2 ≠ 0 then (false, 0, (subF es a s b t).2)
 else if a ≠ b ∨ s.toList = [] ∨ t.toList = [] then ((subF es a s b t).1, 1, 0)
 else testF es (nameF es s).1 (nameF es t).1
theorem atF_split (l : List Int) {d : Int} (h0 : 0 ≤ d) : atF (l.take 8) (l.drop 8) d = if d < l.length then l.getD d.toNat 0 else -1 := by
 unfold atF; rw [List.length_take, List.length_drop]
 by_cases h1 : d < 8
 ·by_cases h2 : d < l.length
  ·rw [if_pos (by omega), if_pos h2, List.getD_eq_getElem?_getD, List.getD_eq_getElem?_getD, List.getElem?_take_of_lt (by omega)]
  ·rw [if_neg (by omega), if_neg (by omega), if_neg h2]
 ·by_cases h2 : d < l.length
  ·rw [if_neg (by omega), if_pos (by omega), if_pos h2, List.getD_eq_getElem?_getD, List.getD_eq_getElem?_getD, List.getElem?_drop, show 8 + (d - 8).toNat = d.toNat by omega]
  ·rw [if_neg (by omega), if_neg (by omega), if_neg h2]
theorem scanN_le (t : Int) : ∀ l : List Int, 0 ≤ scanN t l ∧ scanN t l ≤ l.length
 | [] => ⟨Int.le_refl _, Int.le_refl _⟩
 | x :: l => by
  have := scanN_le t l; rw [scanN, List.length_cons]
  split <;> omega
theorem look_ext {es : List Ent} (h : Thy es) {s t : Int} (hs0 : 0 ≤ s) (hs1 : s < es.length) (ht0 : 0 ≤ t) (ht1 : t < es.length) : (lookF es s t).1 = extF es s t := by
 have ht := h.good.tree; unfold lookF extF inB; rw [decide_eq_true (⟨hs0, hs1⟩ : 0 ≤ s ∧ s < (es.length : Int)), decide_eq_true (⟨ht0, ht1⟩ : 0 ≤ t ∧ t < (es.length : Int))]
 cases hi : isI (ent es t).c with
 | true =>
  by_cases he : s = t
  ·rw [if_pos ⟨rfl, he⟩]
   simp [he]
  ·rw [if_neg (fun h2 => he h2.2), if_neg (by decide)]
   simp [he]
 | false =>
  rw [if_neg (fun h2 => by cases h2.1), if_pos rfl]; have hd := ht.depth_ ht0 ht1; unfold buildF; rw [if_pos ⟨hs0, hs1⟩]
  show (atF ((rcL es s).take 8) ((rcL es s).drop 8) (ent es t).depth == t) = _
  rw [atF_split _ hd.1]; have hl := chL_len ht hs0 hs1
  have hrl : ((rcL es s).length : Int) = (ent es s).depth + 1 := by rw [rcL, List.length_reverse]; exact hl
  simp only [Bool.and_self, if_true, Bool.false_eq_true, if_false]
  by_cases hle : (ent es t).depth ≤ (ent es s).depth
  ·have ha := chL_at ht hs0 hs1 (ent es t).depth.toNat (by omega)
   rw [if_pos (by omega), List.getD_eq_getElem?_getD, rcL, ha, show ((ent es t).depth.toNat : Int) = (ent es t).depth by omega]
   rfl
  ·rw [if_neg (by omega), climb_end (by omega)]
   have h1 : (-1 == t) = false := beq_eq_false_iff_ne.2 (by omega); have h2 : (s == t) = false := beq_eq_false_iff_ne.2 (fun e => by rw [e] at hle; omega); rw [h1, h2]
theorem look_reads {es : List Ent} (s t : Int) : 1 ≤ (lookF es s t).2 ∧ (lookF es s t).2 ≤ (ent es s).clo.length + 1 ∧ (isI (ent es t).c = false → (lookF es s t).2 = 1) := by
 have := scanN_le t (ent es s).clo; unfold lookF
 split
 ·exact ⟨Int.le_refl _, by omega, fun _ => rfl⟩
 ·split
  ·exact ⟨Int.le_refl _, by omega, fun _ => rfl⟩
  ·rename_i h2
   exact ⟨by omega, by omega, fun h3 => absurd h3 h2⟩
theorem test_in {es : List Ent} (h : Thy es) {s t : Int} (hs : 0 ≤ s ∧ s < es.length) (ht : 0 ≤ t ∧ t < es.length) : testF es s t = (extF es s t, (lookF es s t).2, 0) := by
 unfold testF; rw [if_pos hs, if_pos ht, look_ext h hs.1 hs.2 ht.1 ht.2]
theorem tt_sub {es : List Ent} (h : Thy es) (a : Int) (s : ByteArray) (b : Int) (t : ByteArray) : (ttF es a s b t).1 = (subF es a s b t).1 ∧ (ttF es a s b t).2.2 = (subF es a s b t).2 ∧ ((subF es a s b t).2 = 0 → 1 ≤ (ttF es a s b t).2.1) := by
 unfold ttF
 by_cases he : (subF es a s b t).2 = 0
 ·rw [if_neg (fun h => h he)]
  by_cases hc : a ≠ b ∨ s.toList = [] ∨ t.toList = []
  ·rw [if_pos hc]
   exact ⟨rfl, he.symm, fun _ => Int.le_refl _⟩
  ·rw [if_neg hc]
   have hab : a = b := Classical.byContradiction fun e => hc (.inl e); have hs : s.toList ≠ [] := fun e => hc (.inr (.inl e)); have htt : t.toList ≠ [] := fun e => hc (.inr (.inr e))
   have h1 : loadF es a s = 0 := by
    apply Classical.byContradiction
    intro h1; unfold subF at he; rw [if_pos h1] at he
    exact h1 he
   have h2 : loadF es b t = 0 := by
    apply Classical.byContradiction
    intro h2; unfold subF at he; rw [if_neg (fun h => h h1), if_pos h2] at he
    exact h2 he
   have hsb : subF es a s b t = (belowF es a s b t, 0) := by
    unfold subF; rw [if_neg (fun h => h h1), if_neg (fun h => h h2)]
   obtain ⟨s0, s1, _⟩ := name_at h1 hs; obtain ⟨t0, t1, _⟩ := name_at h2 htt; rw [test_in h ⟨s0, s1⟩ ⟨t0, t1⟩, hsb]; refine ⟨?_, rfl, fun _ => (look_reads _ _).1⟩; subst hab
   show _ = belowF es a s a t
   unfold belowF redF; rw [show a - min a a = 0 by omega]
   have i1 : intT 0 s = false := by unfold intT; rw [beq_eq_false_iff_ne.2 hs, Bool.and_false]
   have i2 : intT 0 t = false := by unfold intT; rw [beq_eq_false_iff_ne.2 htt, Bool.and_false]
   simp [i1, i2]
 ·rw [if_pos he]
  refine ⟨?_, rfl, fun h => absurd h he⟩; unfold subF at he ⊢
  by_cases h1 : loadF es a s = 0
  ·rw [if_neg (fun h => h h1)] at he ⊢
   by_cases h2 : loadF es b t = 0
   ·rw [if_neg (fun h => h h2)] at he
    exact absurd rfl he
   ·rw [if_pos h2]
  ·rw [if_pos h1]
end Go.Proofs.YtaipkdglhfhhiaaDoor.Hi

namespace Go.Proofs.YtaipkdglhfhhiaaDoor.Hi
open Go Go.RowKit Go.Proofs.YtaipkdglhfhhiaaDoor.Nm Go.Proofs.YtaipkdglhfhhiaaDoorW.PrintWords Go.Proofs.YtaipkdglhfhhiaaDoorW.PrintLast Go.Proofs.YtaipkdglhfhhiaaDoorW.PrintMore Go.Proofs.YtaipkdglhfhhiaaDoor.Pt
set_option linter.unusedVariables false
set_option linter.unusedSimpArgs false
set_option maxHeartbeats 2000000
set_option maxRecDepth 100000
theorem len_any (w : World) (g : Nat) (es : List Ent) (hq : WOK w g es) :
  Calls Tryd.prog 24 #[.pointer (some ⟨g, 0, none⟩)] w fun e w' => e = .returned (.int .i64 es.length) ∧ Below w.heap.size w w' := by
 obtain ⟨⟨base, v, mb, ps, h⟩, _, _, _⟩ := hq; have hl := h.len; obtain ⟨A, c, rfl⟩ := Kd.R_slice h.row; have q0 : w.cell? ⟨g, 0, none⟩ = some (.slice A ps.length c) := (blk_cell h.blk 0).trans rfl; have hl2 := Lib.hid hl; clear h hl; go_enter Tryd.func24, Tryd.ntmps24; go_wp2; go_ret
 exact ⟨by rw [← hl2.out]; rfl, Below.refl _ _⟩
theorem depth_any (w : World) (g : Nat) (es : List Ent) (hq : WOK w g es) (i : Int) :
  Calls Tryd.prog 16 #[.pointer (some ⟨g, 0, none⟩), .int .i64 i] w fun e w' => e = .returned (.tuple #[.int .i64 (depthF es i).1, .int .i64 (depthF es i).2]) ∧ Below w.heap.size w w' := by
 generalize hV : depthF es i = V; replace hV := Lib.hid hV; unfold depthF at hV
 by_cases hi : 0 ≤ i ∧ i < es.length
 ·obtain ⟨p, A2, c2, A5, c5, A8, c8, hb, l2, g2, l5, g5, l8, R8, HA⟩ := at_in hq hi.1 hi.2
  rw [if_pos hi] at hV; have CA := Lib.hid (HA w (Below.refl _ _)); generalize ent es i = x at *; replace hb := Lib.hid hb; have hz := hV.out; subst hz; clear HA hq l2 g2 l5 g5 l8 R8 hV; go_enter Tryd.func16, Tryd.ntmps16; go_wp2_with fail; refine CA.out.mono ?_; rintro e w1 ⟨rfl, hb1⟩; have p7 : w1.cell? ⟨p, 7, none⟩ = some (.int .i64 x.depth) := (blk_cell (blk_below hb.out hb1) 7).trans rfl; replace hb1 := Lib.hid hb1; clear CA; go_wp2; go_ret2
  exact ⟨rfl, hb1.out⟩
 ·have CA := Lib.hid (at_out hq hi w (Below.refl _ _))
  rw [if_neg hi] at hV; have hz := hV.out; subst hz; clear hq hV; go_enter Tryd.func16, Tryd.ntmps16; go_wp2_with fail; refine CA.out.mono ?_; rintro e w1 ⟨rfl, hb1⟩; replace hb1 := Lib.hid hb1; clear CA; go_wp2; go_ret2
  exact ⟨rfl, hb1.out⟩
theorem closure_any (w : World) (g : Nat) (es : List Ent) (hq : WOK w g es) (i : Int) :
  Calls Tryd.prog 20 #[.pointer (some ⟨g, 0, none⟩), .int .i64 i] w fun e w' => ∃ v, e = .returned (.tuple #[v, .int .i64 (closureF es i).2]) ∧ Kd.R (Kd.int .i64) 3 w' w.heap.size (fun _ => True) v (closureF es i).1 ∧ Below w.heap.size w w' := by
 generalize hV : closureF es i = V; replace hV := Lib.hid hV; unfold closureF at hV
 by_cases hi : 0 ≤ i ∧ i < es.length
 ·have hcl := (hq.fine _ (List.mem_of_getElem? (get_ent hi.1 hi.2))).2.2
  obtain ⟨p, A2, c2, A5, c5, A8, c8, hb, l2, g2, l5, g5, l8, ⟨base, R8⟩, HA⟩ := at_in hq hi.1 hi.2; rw [if_pos hi] at hV; have CA := Lib.hid (HA w (Below.refl _ _)); generalize ent es i = x at *; have CL := Lib.hid (fun (W : World) (hb : Below w.heap.size w W) => cloneInt A8 c8 x.clo W (Kd.C_below (Kd.R_reads' R8).2.2 hb) (by omega)); replace hb := Lib.hid hb; have hz := hV.out; subst hz; clear HA hq l2 g2 l5 g5 l8 R8 hV; go_enter Tryd.func20, Tryd.ntmps20; go_wp2_with fail; refine CA.out.mono ?_; rintro e w1 ⟨rfl, hb1⟩; have p8 : w1.cell? ⟨p, 8, none⟩ = some (.slice A8 x.clo.length c8) := (blk_cell (blk_below hb.out hb1) 8).trans rfl; have C2 := Lib.hid (CL.out w1 hb1); replace hb1 := Lib.hid hb1; clear CA CL; go_wp2_with fail; refine C2.out.mono ?_; rintro e w2 ⟨v, rfl, R2, hb2⟩; obtain ⟨A9, c9, rfl⟩ := Kd.R_slice R2; have R3 := Lib.hid (Kd.R_lower R2 hb1.out.size); replace hb2 := Lib.hid hb2; clear C2 R2; go_wp2; go_ret2
  exact ⟨_, rfl, R3.out, hb1.out.trans (hb2.out.mono hb1.out.size)⟩
 ·have CA := Lib.hid (at_out hq hi w (Below.refl _ _))
  rw [if_neg hi] at hV; have hz := hV.out; subst hz; clear hq hV; go_enter Tryd.func20, Tryd.ntmps20; go_wp2_with fail; refine CA.out.mono ?_; rintro e w1 ⟨rfl, hb1⟩; replace hb1 := Lib.hid hb1; clear CA; go_wp2; go_ret2
  exact ⟨_, rfl, Kd.R_nil _ _ _ _ _, hb1.out⟩
theorem chain_any (w : World) (g : Nat) (es : List Ent) (hq : WOK w g es) (i : Int) :
  Calls Tryd.prog 15 #[.pointer (some ⟨g, 0, none⟩), .int .i64 i] w fun e w' => ∃ v, e = .returned (.tuple #[v, .int .i64 (chainF es i).2]) ∧ Kd.R (Kd.int .i64) 3 w' w.heap.size (fun _ => True) v (chainF es i).1 ∧ Below w.heap.size w w' := by
 generalize hV : chainF es i = V; replace hV := Lib.hid hV; unfold chainF at hV
 by_cases hi : 0 ≤ i ∧ i < es.length
 ·obtain ⟨p, A2, c2, A5, c5, A8, c8, hb, l2, g2, l5, g5, l8, _, HA⟩ := at_in hq hi.1 hi.2
  rw [if_pos hi] at hV; have CA := Lib.hid (HA w (Below.refl _ _)); have HW := Lib.hid hq; have hlen := hq.len; have hz := hV.out; subst hz; clear HA hb l2 g2 l5 g5 l8 hV; have hgl := Lib.hid hq.inn; clear hq; go_enter Tryd.func15, Tryd.ntmps15; go_wp2
  go_step3
  go_wp2_with fail; refine CA.out.mono ?_; rintro e w1 ⟨rfl, hb1⟩; replace hb1 := Lib.hid hb1; clear CA; go_wp2
  go_step3
  go_wp2
  go_loopw [1, 6] (fun v1 v6 wr => ∃ (c : Int) (acc : List Int), v1 = .int .i64 c ∧ Hid (0 ≤ c ∧ c < es.length) ∧ Hid (Kd.R (Kd.int .i64) 3 wr w.heap.size (fun _ => True) v6 acc) ∧ Hid (acc ++ chL es c = chL es i) ∧ Hid (acc.length + c.toNat ≤ i.toNat) ∧ Hid (Below w.heap.size w wr)) (fun v1 _ _ => (intOf v1).toNat)
  case atStart => exact ⟨i, [], rfl, Lib.hid hi, Lib.hid (Kd.R_nil _ _ _ _ _), Lib.hid rfl, Lib.hid (by simp), hb1⟩
  case round =>
   clear hb1; obtain ⟨c, acc, rfl, hc, hR, hA, hL, hbr⟩ := hrel; obtain ⟨Aa, ca, rfl⟩ := Kd.R_slice hR.out
   have hll : acc.length ≤ 1000 := by
    have h1 := hL.out; have h2 := hc.out
    omega
   obtain ⟨base, v, mb, ps, h⟩ := hgl.out; obtain ⟨Av, cv, rfl⟩ := Kd.R_slice h.row; obtain ⟨hnl, ad, p2, A2', c2', A5', c5', A8', c8', rfl, hrow, hent, _, _, _⟩ := WIn_all_at h hc.out.1 hc.out.2; have hg0 : w.cell? ⟨g, 0, none⟩ = some (.slice (some ad) ps.length cv) := (blk_cell h.blk 0).trans rfl; have u6 : w.cell? ⟨p2, 6, none⟩ = some (.int .i64 (ent es c).above) := (blk_cell hent 6).trans rfl
   have hlt2 : c < (ps.length : Int) := by have := hc.out.2; omega
   have hge2 : 0 ≤ c := hc.out.1; have HT := Lib.hid HW.out.tree; replace hg0 := Lib.hid hg0; replace hrow := Lib.hid hrow; replace u6 := Lib.hid u6; clear h hent; have hll2 : Hid ((acc ++ [c]).length = acc.length + 1) := Lib.hid (by simp)
   by_cases ha : (ent es c).above < 0
   ·have hd : decide ((ent es c).above < 0) = true := decide_eq_true ha
    have hF : Hid (acc ++ [c] = chL es i) := Lib.hid (by rw [← hA.out, chL_top HT.out hc.out.1 hc.out.2 ha]); clear hA; generalize (ent es c).above = ab at *; clear ha; go_wp2_with (at_builtin; refine Kd.R_append (Kd.int .i64) (w0 := w) (W := wr) w.heap.size rfl (.tmp 11) (.tmp 13) 43 3 (.int .i64 0) 8 rfl Tryd.underlying43 info_int rfl (by decide) (by omega) _ acc c [.int .i64 c] (fun _ => True) (fun _ => False) rfl rfl rfl (fun _ h => h.elim) (fun _ _ => trivial) hR.out hbr.out hbr.out.size (by omega) ?_; intro v1 w4 g1 g2 g3 g4; obtain ⟨A12, c12, rfl⟩ := Kd.R_slice g1; rw [hll2.out] at g1; replace g1 := Lib.hid g1; replace g2 := Lib.hid g2; clear g3 g4; have y0 := pw_cell_below g2.out hg0.out; have y1 := pw_cell_below g2.out hrow.out; have y2 := pw_cell_below g2.out u6.out); rw [Exit.noGoto_ret]; go_ret2
    exact ⟨_, rfl, by rw [← hF.out]; exact g1.out, g2.out⟩
   ·have hd : decide ((ent es c).above < 0) = false := decide_eq_false ha
    obtain ⟨e1, e2, e3⟩ := chL_step HT.out hc.out.1 hc.out.2 ha; have hF : Hid ((acc ++ [c]) ++ chL es (ent es c).above = chL es i) := Lib.hid (by rw [← hA.out, e1]; simp); have nr : Hid (0 ≤ (ent es c).above ∧ (ent es c).above < es.length) := Lib.hid ⟨e2, by have := hc.out.2; omega⟩; have nl : Hid ((acc ++ [c]).length + (ent es c).above.toNat ≤ i.toNat) := Lib.hid (by rw [hll2.out]; have := hL.out; omega); clear hA e1; generalize (ent es c).above = ab at *; clear ha; go_wp2_with (at_builtin; refine Kd.R_append (Kd.int .i64) (w0 := w) (W := wr) w.heap.size rfl (.tmp 11) (.tmp 13) 43 3 (.int .i64 0) 8 rfl Tryd.underlying43 info_int rfl (by decide) (by omega) _ acc c [.int .i64 c] (fun _ => True) (fun _ => False) rfl rfl rfl (fun _ h => h.elim) (fun _ _ => trivial) hR.out hbr.out hbr.out.size (by omega) ?_; intro v1 w4 g1 g2 g3 g4; obtain ⟨A12, c12, rfl⟩ := Kd.R_slice g1; rw [hll2.out] at g1; replace g1 := Lib.hid g1; replace g2 := Lib.hid g2; clear g3 g4; have y0 := pw_cell_below g2.out hg0.out; have y1 := pw_cell_below g2.out hrow.out; have y2 := pw_cell_below g2.out u6.out)
    exact ⟨⟨ab, acc ++ [c], rfl, nr, g1, hF, nl, g2⟩, by simp [intOf]; omega⟩
 ·have CA := Lib.hid (at_out hq hi w (Below.refl _ _))
  rw [if_neg hi] at hV; have hz := hV.out; subst hz; clear hq hV; go_enter Tryd.func15, Tryd.ntmps15; go_wp2
  go_step3
  go_wp2_with fail; refine CA.out.mono ?_; rintro e w1 ⟨rfl, hb1⟩; replace hb1 := Lib.hid hb1; clear CA; go_wp2; rw [Exit.noGoto_ret]; go_ret2
  exact ⟨_, rfl, Kd.R_nil _ _ _ _ _, hb1.out⟩
end Go.Proofs.YtaipkdglhfhhiaaDoor.Hi

namespace Go.Proofs.YtaipkdglhfhhiaaDoor.Pt
open Go Go.RowKit Go.Proofs.YtaipkdglhfhhiaaDoor.Nm Go.Proofs.YtaipkdglhfhhiaaDoor.Hi Go.Proofs.YtaipkdglhfhhiaaDoorW.PrintWords Go.Proofs.YtaipkdglhfhhiaaDoorW.PrintLast Go.Proofs.YtaipkdglhfhhiaaDoorW.PrintMore
set_option linter.unusedVariables false
set_option linter.unusedSimpArgs false
def hier_World_Len.f (a0 : List Hi.Ent) : Option Int := some (a0.length : Int)
theorem hier_World_Len.calls (G_ : Nat) (a0 : List Hi.Ent) (r : Int) (w : World) (hq0 : WOK w G_ a0) (h : hier_World_Len.f a0 = some r) :
  Calls Tryd.prog 24 #[.pointer (some ⟨G_, 0, none⟩)] w fun e w' => e = .returned (.int .i64 r) ∧ Below w.heap.size w w' := by
 obtain rfl := Option.some.inj h
 exact len_any w G_ a0 hq0
def hier_World_Super.f (a0 : List Hi.Ent) (a1 : Int) : Option (Int × Int) := some (superF a0 a1)
def hier_World_Depth.f (a0 : List Hi.Ent) (a1 : Int) : Option (Int × Int) := some (depthF a0 a1)
theorem hier_World_Depth.calls (G_ : Nat) (a0 : List Hi.Ent) (a1 : Int) (r1 : Int) (r2 : Int) (w : World) (hq0 : WOK w G_ a0) (h : hier_World_Depth.f a0 a1 = some (r1, r2)) :
  Calls Tryd.prog 16 #[.pointer (some ⟨G_, 0, none⟩), .int .i64 a1] w fun e w' => e = .returned (.tuple #[.int .i64 r1, .int .i64 r2]) ∧ Below w.heap.size w w' := by
 have h := Option.some.inj h
 obtain rfl : (depthF a0 a1).1 = r1 := by rw [h]
 obtain rfl : (depthF a0 a1).2 = r2 := by rw [h]
 exact depth_any w G_ a0 hq0 a1
def hier_World_Closure.f (a0 : List Hi.Ent) (a1 : Int) : Option (List Int × Int) := some (closureF a0 a1)
theorem hier_World_Closure.calls (G_ : Nat) (a0 : List Hi.Ent) (a1 : Int) (r1 : List Int) (r2 : Int) (w : World) (hq0 : WOK w G_ a0) (h : hier_World_Closure.f a0 a1 = some (r1, r2)) :
  Calls Tryd.prog 20 #[.pointer (some ⟨G_, 0, none⟩), .int .i64 a1] w fun e w' => ∃ v0_ : Value, e = .returned (.tuple #[v0_, .int .i64 r2]) ∧ Kd.R (Kd.int .i64) 3 w' w.heap.size (fun _ => True) v0_ r1 ∧ Below w.heap.size w w' := by
 have h := Option.some.inj h
 obtain rfl : (closureF a0 a1).1 = r1 := by rw [h]
 obtain rfl : (closureF a0 a1).2 = r2 := by rw [h]
 exact closure_any w G_ a0 hq0 a1
def hier_World_Chain.f (a0 : List Hi.Ent) (a1 : Int) : Option (List Int × Int) := some (chainF a0 a1)
theorem hier_World_Chain.calls (G_ : Nat) (a0 : List Hi.Ent) (a1 : Int) (r1 : List Int) (r2 : Int) (w : World) (hq0 : WOK w G_ a0) (h : hier_World_Chain.f a0 a1 = some (r1, r2)) :
  Calls Tryd.prog 15 #[.pointer (some ⟨G_, 0, none⟩), .int .i64 a1] w fun e w' => ∃ v0_ : Value, e = .returned (.tuple #[v0_, .int .i64 r2]) ∧ Kd.R (Kd.int .i64) 3 w' w.heap.size (fun _ => True) v0_ r1 ∧ Below w.heap.size w w' := by
 have h := Option.some.inj h
 obtain rfl : (chainF a0 a1).1 = r1 := by rw [h]
 obtain rfl : (chainF a0 a1).2 = r2 := by rw [h]
 exact chain_any w G_ a0 hq0 a1
def slices_Clone_int_int.f (l0 : List Int) : Option (List Int) := if l0.length ≤ 1000000 then some l0 else none
theorem slices_Clone_int_int.calls (A0 : Option Addr) (c0 : Nat) (l0 : List Int) (r : List Int) (w : World) (hr0 : Kd.C (Kd.int .i64) w A0 l0.length l0) (hc0 : l0.length ≤ c0) (h : slices_Clone_int_int.f l0 = some r) :
  Calls Tryd.prog 36 #[.slice A0 l0.length c0] w fun e w' => ∃ v_ : Value, e = .returned v_ ∧ Kd.R (Kd.int .i64) 3 w' w.heap.size (fun _ => True) v_ r ∧ Below w.heap.size w w' := by
 obtain ⟨hl, h⟩ := if_some h; obtain rfl := Option.some.inj h
 exact cloneInt A0 c0 l0 w hr0 (by omega)
end Go.Proofs.YtaipkdglhfhhiaaDoor.Pt

namespace Go.Proofs.YtaipkdglhfhhiaaDoor.Pt
open Go.RowKit Go.Proofs.YtaipkdglhfhhiaaDoorW.PrintWords Go.Proofs.YtaipkdglhfhhiaaDoorW.PrintLast Go.Proofs.YtaipkdglhfhhiaaDoorW.PrintMore
attribute [local go_sem] max2_int min2_int max_two min_two max_three min_three max_four min_four   -- for this text's walks alone
set_option linter.unusedVariables false
set_option linter.unusedSimpArgs false
def display_at.f (l0_0 : List Int) (l0_1 : List Int) (l0_2 : List Int) (a1 : Int) : Option (Int) := if a1 < (l0_0.length : Int) then (if 0 ≤ a1 then (some (rd l0_0 a1)) else (none)) else (if a1 ≥ 8 then (if (wrap64 (a1 - 8)) < (l0_1.length : Int) then (if 0 ≤ (wrap64 (a1 - 8)) then (some (rd l0_1 (wrap64 (a1 - 8)))) else (none)) else (some (-1))) else (some (-1)))
set_option maxHeartbeats 8000000 in
set_option maxRecDepth 100000 in
theorem display_at.calls (A0_0 : Option Addr) (c0_0 : Nat) (l0_0 : List Int) (A0_1 : Option Addr) (c0_1 : Nat) (l0_1 : List Int) (A0_2 : Option Addr) (c0_2 : Nat) (l0_2 : List Int) (a1 : Int) (r : Int) (w : World) (hr0_0 : Kd.C (Kd.int .i64) w A0_0 l0_0.length l0_0) (hc0_0 : l0_0.length ≤ c0_0) (hr0_1 : Kd.C (Kd.int .i64) w A0_1 l0_1.length l0_1) (hc0_1 : l0_1.length ≤ c0_1) (hr0_2 : Kd.C (Kd.int .i64) w A0_2 l0_2.length l0_2) (hc0_2 : l0_2.length ≤ c0_2) (h : display_at.f l0_0 l0_1 l0_2 a1 = some r) :
  Calls Tryd.prog 53 #[.agg #[.slice A0_0 l0_0.length c0_0, .slice A0_1 l0_1.length c0_1, .slice A0_2 l0_2.length c0_2], .int .i64 a1] w fun e w' => e = .returned (.int .i64 r) ∧ Below w.heap.size w w' := by
 have hu45 := Tryd.underlying45; have HR0_0 := Aside0.mk hr0_0; have HC0_0 := Aside0.mk hc0_0; clear hr0_0 hc0_0; have HR0_1 := Aside0.mk hr0_1; have HC0_1 := Aside0.mk hc0_1; clear hr0_1 hc0_1; have HR0_2 := Aside0.mk hr0_2; have HC0_2 := Aside0.mk hc0_2; clear hr0_2 hc0_2; have HB := Aside0.mk (Below.refl w.heap.size w); have H : (if a1 < (l0_0.length : Int) then (if 0 ≤ a1 then (some (rd l0_0 a1)) else (none)) else (if a1 ≥ 8 then (if (wrap64 (a1 - 8)) < (l0_1.length : Int) then (if 0 ≤ (wrap64 (a1 - 8)) then (some (rd l0_1 (wrap64 (a1 - 8)))) else (none)) else (some (-1))) else (some (-1)))) = some r := h; clear h
 by_cases c3 : a1 < (l0_0.length : Int)
 ·rw [if_pos c3] at H
  have c3b0 : decide (a1 < (l0_0.length : Int)) = true := decide_eq_true c3; clear c3
  by_cases c4 : 0 ≤ a1
  ·rw [if_pos c4] at H
   have c4b0 : decide (0 ≤ a1) = true := decide_eq_true c4; clear c4; obtain rfl := Option.some.inj H; go_enter Tryd.func53, Tryd.ntmps53; go_wp2_with (first | ((with_reducible refine gate_dst (N := 2) rfl ?_); (try (refine gate_guard (by rfl) ?_; dsimp only)); refine eX 2 #[.slice A0_0 l0_0.length c0_0, .slice A0_1 l0_1.length c0_1, .slice A0_2 l0_2.length c0_2] 45 ?_; intro gb117 hg w5 hbox hb; have n0_ := Aside0.mk (below_step (bX HB) hb); have n1_ := Aside0.mk (hbox); have n2_ := Aside0.mk ((by rw [hg]; exact (below_size (bX HB)) : w.heap.size ≤ gb117)); have n3_ := Aside0.mk ((by rw [hg]; exact (below_size (bX HB)) : w.heap.size ≤ gb117)); clear HB; have HB := n0_; have BK117 := n1_; have GW117 := n2_; have GE117 := n3_; clear n0_ n1_ n2_ n3_; clear hb hbox hg; obtain ⟨hcz6_0, hcz6_1, hcz6_2, hfz6_0, hfz6_1, hfz6_2⟩ := c3X BK117; have p118 : 0 ≤ (a1 : Int) := qX; have q118 : a1 < (l0_0.length : Int) := qX; obtain ⟨ad118, e118, hx118_0⟩ := Kd.at_int HR0_0.out a1 p118 q118; cases e118; replace hx118_0 := (HB.out.cell (World.block_lt_of_cell? w _ hx118_0)).trans hx118_0; replace p118 := eq_true p118; replace q118 := eq_true q118)); go_ret
   exact ⟨by first | rfl | (simp [errW_none, errW_some] <;> rfl) | (simp [*, errW_none, errW_some] <;> rfl), bX1 HB GE117⟩
  ·rw [if_neg c4] at H
   exact absurd H (by simp)
 ·rw [if_neg c3] at H
  have c3b0 : decide (a1 < (l0_0.length : Int)) = false := decide_eq_false c3; clear c3
  by_cases c7 : a1 ≥ 8
  ·rw [if_pos c7] at H
   have c7b0 : decide (8 ≤ a1) = true := decide_eq_true c7; clear c7
   by_cases c8 : (wrap64 (a1 - 8)) < (l0_1.length : Int)
   ·rw [if_pos c8] at H
    have c8b0 : decide ((wrap64 (a1 - 8)) < (l0_1.length : Int)) = true := decide_eq_true c8; clear c8
    obtain ⟨ji9, hji9⟩ : ∃ j_ : Int, (wrap64 (a1 - 8)) = j_ := ⟨_, rfl⟩
    replace H : (if 0 ≤ (ji9) then (some (rd l0_1 (ji9))) else (none)) = some r := by first | (rw [hji9] at H; exact H) | (simp only [hji9] at H ⊢; exact H)
    (try rw [hji9] at c8b0)
    have hji9w : (IntKind.i64.wrap (a1 - 8)) = ji9 := (i64_w _).trans hji9
    by_cases c10 : 0 ≤ (ji9)
    ·rw [if_pos c10] at H
     have c10b0 : decide (0 ≤ (ji9)) = true := decide_eq_true c10; clear c10; obtain rfl := Option.some.inj H; go_enter Tryd.func53, Tryd.ntmps53; go_wp2_with (first | ((with_reducible refine gate_dst (N := 2) rfl ?_); (try (refine gate_guard (by rfl) ?_; dsimp only)); refine eX 2 #[.slice A0_0 l0_0.length c0_0, .slice A0_1 l0_1.length c0_1, .slice A0_2 l0_2.length c0_2] 45 ?_; intro gb117 hg w11 hbox hb; have n0_ := Aside0.mk (below_step (bX HB) hb); have n1_ := Aside0.mk (hbox); have n2_ := Aside0.mk ((by rw [hg]; exact (below_size (bX HB)) : w.heap.size ≤ gb117)); have n3_ := Aside0.mk ((by rw [hg]; exact (below_size (bX HB)) : w.heap.size ≤ gb117)); clear HB; have HB := n0_; have BK117 := n1_; have GW117 := n2_; have GE117 := n3_; clear n0_ n1_ n2_ n3_; clear hb hbox hg; obtain ⟨hcz12_0, hcz12_1, hcz12_2, hfz12_0, hfz12_1, hfz12_2⟩ := c3X BK117; have p119 : 0 ≤ ((ji9) : Int) := qX; have q119 : (ji9) < (l0_1.length : Int) := qX; obtain ⟨ad119, e119, hx119_0⟩ := Kd.at_int HR0_1.out (ji9) p119 q119; cases e119; replace hx119_0 := (HB.out.cell (World.block_lt_of_cell? w _ hx119_0)).trans hx119_0; replace p119 := eq_true p119; replace q119 := eq_true q119)); go_ret
     exact ⟨by first | rfl | (simp [errW_none, errW_some] <;> rfl) | (simp only [← hji9]; first | rfl | (simp [errW_none, errW_some] <;> rfl)) | (simp [*, errW_none, errW_some] <;> rfl), bX1 HB GE117⟩
    ·rw [if_neg c10] at H
     exact absurd H (by simp)
   ·rw [if_neg c8] at H
    have c8b0 : decide ((wrap64 (a1 - 8)) < (l0_1.length : Int)) = false := decide_eq_false c8; clear c8; obtain rfl := Option.some.inj H; go_enter Tryd.func53, Tryd.ntmps53; go_wp2_with (first | ((with_reducible refine gate_dst (N := 2) rfl ?_); (try (refine gate_guard (by rfl) ?_; dsimp only)); refine eX 2 #[.slice A0_0 l0_0.length c0_0, .slice A0_1 l0_1.length c0_1, .slice A0_2 l0_2.length c0_2] 45 ?_; intro gb117 hg w13 hbox hb; have n0_ := Aside0.mk (below_step (bX HB) hb); have n1_ := Aside0.mk (hbox); have n2_ := Aside0.mk ((by rw [hg]; exact (below_size (bX HB)) : w.heap.size ≤ gb117)); have n3_ := Aside0.mk ((by rw [hg]; exact (below_size (bX HB)) : w.heap.size ≤ gb117)); clear HB; have HB := n0_; have BK117 := n1_; have GW117 := n2_; have GE117 := n3_; clear n0_ n1_ n2_ n3_; clear hb hbox hg; obtain ⟨hcz14_0, hcz14_1, hcz14_2, hfz14_0, hfz14_1, hfz14_2⟩ := c3X BK117)); go_ret
    exact ⟨by first | rfl | (simp [errW_none, errW_some] <;> rfl) | (simp [*, errW_none, errW_some] <;> rfl), bX1 HB GE117⟩
  ·rw [if_neg c7] at H
   have c7b0 : decide (8 ≤ a1) = false := decide_eq_false c7; clear c7; obtain rfl := Option.some.inj H; go_enter Tryd.func53, Tryd.ntmps53; go_wp2_with (first | ((with_reducible refine gate_dst (N := 2) rfl ?_); (try (refine gate_guard (by rfl) ?_; dsimp only)); refine eX 2 #[.slice A0_0 l0_0.length c0_0, .slice A0_1 l0_1.length c0_1, .slice A0_2 l0_2.length c0_2] 45 ?_; intro gb117 hg w15 hbox hb; have n0_ := Aside0.mk (below_step (bX HB) hb); have n1_ := Aside0.mk (hbox); have n2_ := Aside0.mk ((by rw [hg]; exact (below_size (bX HB)) : w.heap.size ≤ gb117)); have n3_ := Aside0.mk ((by rw [hg]; exact (below_size (bX HB)) : w.heap.size ≤ gb117)); clear HB; have HB := n0_; have BK117 := n1_; have GW117 := n2_; have GE117 := n3_; clear n0_ n1_ n2_ n3_; clear hb hbox hg; obtain ⟨hcz16_0, hcz16_1, hcz16_2, hfz16_0, hfz16_1, hfz16_2⟩ := c3X BK117)); go_ret
   exact ⟨by first | rfl | (simp [errW_none, errW_some] <;> rfl) | (simp [*, errW_none, errW_some] <;> rfl), bX1 HB GE117⟩
end Go.Proofs.YtaipkdglhfhhiaaDoor.Pt

namespace Go.Proofs.YtaipkdglhfhhiaaDoor.Pt
open Go.RowKit Go.Proofs.YtaipkdglhfhhiaaDoorW.PrintWords Go.Proofs.YtaipkdglhfhhiaaDoorW.PrintLast Go.Proofs.YtaipkdglhfhhiaaDoorW.PrintMore
attribute [local go_sem] max2_int min2_int max_two min_two max_three min_three max_four min_four   -- for this text's walks alone
set_option linter.unusedVariables false
set_option linter.unusedSimpArgs false
def slices_Reverse_int_int.l0 : Nat → List Int → Int → Int → Option (List Int)
 | 0, _, _, _ => none
 | k + 1, x0, x2, x3 => if x2 < x3 then (if 0 ≤ x3 then (if x3 < (x0.length : Int) then (if 0 ≤ x2 then (if x2 < (x0.length : Int) then (slices_Reverse_int_int.l0 k ((x0.set (x2 : Int).toNat (rd x0 x3)).set (x3 : Int).toNat (rd x0 x2)) (wrap64 (x2 + 1)) (wrap64 (x3 - 1))) else (none)) else (none)) else (none)) else (none)) else (some x0)
def slices_Reverse_int_int.f (k : Nat) (l0 : List Int) : Option (List Int) := slices_Reverse_int_int.l0 k l0 0 (wrap64 ((l0.length : Int) - 1))
def slices_Reverse_int_int.T3 : Bool × List (List Nat × List Nat) := (true, [([], []), ([], []), ([], []), ([], []), ([], []), ([], []), ([4, 5], [4, 5]), ([6], [6]), ([], []), ([], []), ([8, 9], [8, 9]), ([10], [10]), ([0, 1, 0, 1, 4, 5, 6, 7, 11], [0, 1]), ([12, 7, 0, 1, 4, 5, 6, 7, 11], [7, 12]), ([2, 3, 0, 1, 2, 3, 4, 5, 6, 7, 8, 9, 10, 11, 12, 13], [2, 3]), ([14, 11, 13, 0, 1, 2, 3, 4, 5, 6, 7, 8, 9, 10, 11, 12, 13], [11, 14])])
def slices_Reverse_int_int.B3 : List Nat := [0, 0, 0, 0, 0, 0, 48, 112, 0, 0, 768, 1792, 4083, 8179, 16383, 32767]
theorem slices_Reverse_int_int.tab3 : rtab .any (opsOf Tryd.f35 3) = slices_Reverse_int_int.T3 := by kernel_rfl
theorem slices_Reverse_int_int.bits3 : waitsOk slices_Reverse_int_int.T3.2 slices_Reverse_int_int.B3 = true := by kernel_rfl
set_option maxHeartbeats 8000000 in
set_option maxRecDepth 100000 in
theorem slices_Reverse_int_int.calls (k : Nat) (P0_ : Nat → Prop) (u9000_ : Value) (l0 : List Int) (r : List Int) (w0 w : World) (hB : Below w0.heap.size w0 w) (ho0 : Kd.R (Kd.int .i64) 3 w w0.heap.size P0_ u9000_ l0) (h : slices_Reverse_int_int.f k l0 = some r) :
  Calls Tryd.prog 35 #[u9000_] w fun e w' => e = .returned (.tuple #[]) ∧ Kd.R (Kd.int .i64) 3 w' w0.heap.size (fun k_ => (P0_ k_ ∨ w.heap.size ≤ k_)) u9000_ r ∧ Below w0.heap.size w0 w' ∧ Kept w w' (fun k_ => P0_ k_) := by
 have HO0 := Aside0.mk (show Kd.R (Kd.int .i64) 3 w w0.heap.size (fun k_ => (P0_ k_ ∨ w.heap.size ≤ k_)) u9000_ l0 from Kd.R_mono ho0 (fun k_ hk => (.inl hk))); have HK := Aside0.mk (Kept.refl w (fun k_ => P0_ k_)); have HW0 := Aside0.mk hB.size; have HB := Aside0.mk hB; clear hB; have H : (slices_Reverse_int_int.l0 k l0 0 (wrap64 ((l0.length : Int) - 1))) = some r := h; clear h; have H' := Aside0.mk H; clear H; obtain ⟨Ao2, co2, eo2⟩ := Kd.R_slice HO0.out; subst eo2; go_enter Tryd.func35, Tryd.ntmps35; go_wp2
 go_loopg [2, 3] k (fun kq v2 v3 w' => ∃ (x0_1 : List Int) (x2_1 : Int) (x3_1 : Int), v2 = .int .i64 x2_1 ∧ v3 = .int .i64 x3_1 ∧ Aside0 (slices_Reverse_int_int.l0 kq x0_1 x2_1 x3_1 = some r) ∧ Aside0 (kq ≤ k) ∧ Aside0 (Kd.R (Kd.int .i64) 3 w' w0.heap.size (fun k_ => (P0_ k_ ∨ w.heap.size ≤ k_)) (.slice Ao2 l0.length co2) x0_1) ∧ Aside0 (Kept w w' (fun k_ => P0_ k_)) ∧ Aside0 (Below w0.heap.size w0 w'))
 case atStart => exact ⟨(l0), (0), (wrap64 ((l0.length : Int) - 1)), vX, vX, H', ⟨Nat.le_refl _⟩, ⟨rX HO0⟩, ⟨by repeat (first | (with_reducible first | exact HK.out | apply Kept.alloc | apply Kept.drewN | apply Kept.drew) | exact HK.out)⟩, ⟨bX HB⟩⟩
 case round =>
  clear H'
  try clear p2
  obtain ⟨x0_1, x2_1, x3_1, rfl, rfl, HA, HK1, HO_0, HK, HB⟩ := hrel; have hl0_1 := (Kd.R_reads' HO_0.out).1; rw [hl0_1] at HO_0
  (try simp only [hl0_1])
  cases gk with
  | zero => exact absurd HA.out (by simp [slices_Reverse_int_int.l0])
  | succ k1 =>
   have H := HA.out; clear HA; simp only [slices_Reverse_int_int.l0] at H
   by_cases c3 : x2_1 < x3_1
   ·rw [if_pos c3] at H
    have c3b0 : decide (x2_1 < x3_1) = true := decide_eq_true c3; clear c3
    by_cases c4 : 0 ≤ x3_1
    ·rw [if_pos c4] at H
     have c4b0 : decide (0 ≤ x3_1) = true := decide_eq_true c4; clear c4
     by_cases c5 : x3_1 < (x0_1.length : Int)
     ·rw [if_pos c5] at H
      have c5b0 : decide (x3_1 < (x0_1.length : Int)) = true := decide_eq_true c5; clear c5
      by_cases c6 : 0 ≤ x2_1
      ·rw [if_pos c6] at H
       have c6b0 : decide (0 ≤ x2_1) = true := decide_eq_true c6; clear c6
       by_cases c7 : x2_1 < (x0_1.length : Int)
       ·rw [if_pos c7] at H
        have c7b0 : decide (x2_1 < (x0_1.length : Int)) = true := decide_eq_true c7; clear c7
        obtain ⟨y122, hy122⟩ : ∃ y_ : List Int, y_ = (x0_1.set (x2_1 : Int).toNat (rd x0_1 x3_1)) := ⟨_, rfl⟩
        replace H : (slices_Reverse_int_int.l0 k1 (y122.set (x3_1 : Int).toNat (rd x0_1 x2_1)) (wrap64 (x2_1 + 1)) (wrap64 (x3_1 - 1))) = some r := by first | (rw [hy122]; with_reducible exact H) | (have H2_ := (Option.bind_some _ _).symm.trans H; rw [hy122]; with_reducible exact H2_) | (have H2_ := (Option.bind_some _ _).symm.trans H; with_reducible exact H2_) | with_reducible exact H | (rw [hy122]; exact H) | exact H
        have Ny122 := Aside0.mk hy122; clear hy122
        obtain ⟨y123, hy123⟩ : ∃ y_ : List Int, y_ = (y122.set (x3_1 : Int).toNat (rd x0_1 x2_1)) := ⟨_, rfl⟩
        replace H : (slices_Reverse_int_int.l0 k1 y123 (wrap64 (x2_1 + 1)) (wrap64 (x3_1 - 1))) = some r := by first | (rw [hy123]; with_reducible exact H) | (have H2_ := (Option.bind_some _ _).symm.trans H; rw [hy123]; with_reducible exact H2_) | (have H2_ := (Option.bind_some _ _).symm.trans H; with_reducible exact H2_) | with_reducible exact H | (rw [hy123]; exact H) | exact H
        have Ny123 := Aside0.mk hy123; clear hy123; have H' := Aside0.mk H; clear H
        try go_wp2
        have n0_ := Aside0.mk (Kd.R_drew HO_0.out); have n1_ := Aside0.mk (Kept.drew HK.out); have n2_ := Aside0.mk (below_drew1 HB.out); clear HO_0; clear HK; clear HB; have HO_0 := n0_; have HK := n1_; have HB := n2_; clear n0_ n1_ n2_; have p120 : 0 ≤ (x3_1 : Int) := qX; have q120 : x3_1 < (x0_1.length : Int) := qX; obtain ⟨ad120, e120, hx120_0⟩ := Kd.at_int (Kd.R_reads' HO_0.out).2.2 x3_1 p120 q120
        cases e120
        replace p120 := eq_true p120; replace q120 := eq_true q120; have p121 : 0 ≤ (x2_1 : Int) := qX; have q121 : x2_1 < (x0_1.length : Int) := qX; obtain ⟨ad121, e121, hx121_0⟩ := Kd.at_int (Kd.R_reads' HO_0.out).2.2 x2_1 p121 q121
        obtain rfl : ad120 = ad121 := (by injection e121)
        replace p121 := eq_true p121; replace q121 := eq_true q121; have p8 : 0 ≤ (x2_1 : Int) := qX; have q8 : (x2_1 : Int) < ((x0_1.length : Int) : Int) := qX; obtain ⟨go8, co8, eo8, gb8, gl8, cl8, HG8⟩ := Kd.R_form HO_0.out (by omega)
        (first | cases eo8 | (injection eo8 with ea_ en_ ec_; (first | subst ea_ | (injection ea_ with ea_; subst ea_)); subst ec_; clear en_))
        have GB8 := Aside0.mk gb8; have GG8 := Aside0.mk HG8; clear gb8 gl8 HG8; have HMgo8 := Aside0.mk (show (P0_ go8 ∨ w.heap.size ≤ go8) from (HO_0.out.1 _ rfl))
        (first | simp only [add_plain] at hx120_0 | skip)
        (first | simp only [add_plain] at hx121_0 | skip)
        obtain ⟨hx8_0, hf8_0⟩ := Kd.R_celln 0 HO_0.out (x2_1 : Int) p8 q8; replace p8 := eq_true p8; replace q8 := eq_true q8; have HP11 := Kd.R_putn HO_0.out (x2_1 : Int) (rd x0_1 x3_1); rw [← Ny122.out] at HP11; have HQ11 := Aside0.mk HP11; clear HP11; have p9 : 0 ≤ (x3_1 : Int) := qX; have q9 : (x3_1 : Int) < ((x0_1.length : Int) : Int) := qX; obtain ⟨hx9_0, hf9_0⟩ := Kd.R_celln 0 HQ11.out (x3_1 : Int) p9 q9; replace p9 := eq_true p9; replace q9 := eq_true q9; have HP12 := Kd.R_putn HQ11.out (x3_1 : Int) (rd x0_1 x2_1); rw [← Ny123.out] at HP12; have HQ12 := Aside0.mk HP12; clear HP12; refine start_ (n := 16) (S := fun w' => w'.cell? ⟨go8, (x3_1).toNat, none⟩ = some (.int .i64 (rd x0_1 x3_1)) ∧ w'.cell? ⟨go8, (x2_1).toNat, none⟩ = some (.int .i64 (rd x0_1 x2_1))) (ds := [13, 15]) #[false, false, false, false, false, false, false, false, false, false, false, false, false, false, false, false] (by kernel_rfl) rfl rfl ⟨hx120_0, hx121_0⟩ (fun hHeld => ?_); refine with_tabW slices_Reverse_int_int.tab3 slices_Reverse_int_int.bits3 (fun HT_ HW_ => ?_); generalize wr.drew = w10 at HO_0 HK HB GG8 HQ11 HQ12 hf8_0 hf9_0 hx120_0 hx121_0 hx8_0 hx9_0 hHeld ⊢; refine pX HT_ 0 (some 14) ?_; refine pX HT_ 1 (some 15) ?_; refine pX HT_ 2 (some 16) ?_; refine pX HT_ 3 (some 17) ?_; refine pX HT_ 4 (some 18) ?_; refine pX HT_ 5 (some 19) ?_; refine pX HT_ 6 (some 20) ?_; refine pX HT_ 8 (some 22) ?_; refine pX HT_ 9 (some 23) ?_; refine pX HT_ 10 (some 24) ?_; refine tX HT_ HW_ hHeld 7 (some 21) ?_; refine tX HT_ HW_ hHeld 11 (some 25) ?_; refine pX HT_ 12 (some 26) ?_; refine last_ (i := 13) (N := none) #[true, true, true, true, true, true, true, true, true, true, true, true, true, true, false, false] rfl rfl (one_of HT_.out (by kernel_rfl)) (by decide) (fun K hK => ?_); refine skip_ (w1 := ?_) (by rfl) rfl ?_ ?_; rotate_left
        ·go_simp
         rfl
        refine hK.out _ _ ?_; clear hK K; refine pX HT_ 14 (some 27) ?_; refine last_ (i := 15) (N := none) #[true, true, true, true, true, true, true, true, true, true, true, true, true, true, true, true] rfl rfl (one_of HT_.out (by kernel_rfl)) (by decide) (fun K hK => ?_); refine skip_ (w1 := ?_) (by rfl) rfl ?_ ?_; rotate_left
        ·go_simp
         rfl
        refine hK.out _ _ ?_; clear hK K; refine done_ (done_of HT_.out (by kernel_rfl)) ?_
        try go_wp2
        (try simp only [← hl0_1])
        go_roundg k1
        case measure => have := HK1.out; omega
        case rel => exact ⟨(y123), (wrap64 (x2_1 + 1)), (wrap64 (x3_1 - 1)), vX, vX, H', ⟨by have := HK1.out; omega⟩, ⟨by (try simp only [hl0_1]); (with_reducible repeat (first | apply Kd.R_alloc | apply Kd.R_drewN | apply Kd.R_drew)); exact HQ12.out⟩, ⟨by repeat (first | (with_reducible first | exact HK.out | apply Kept.alloc | apply Kept.drewN | apply Kept.drew | refine Kept.setCell ?_ HMgo8.out _ | refine Kept.setCell ?_ HMgo8.out _) | exact HK.out)⟩, ⟨by repeat (first | (with_reducible first | exact HB.out | apply below_alloc | apply pw_below_drewN | apply below_drew1 | refine below_set ?_ GB8.out | refine below_set ?_ GB8.out) | exact HB.out)⟩⟩
       ·rw [if_neg c7] at H
        exact absurd H (by simp)
      ·rw [if_neg c6] at H
       exact absurd H (by simp)
     ·rw [if_neg c5] at H
      exact absurd H (by simp)
    ·rw [if_neg c4] at H
     exact absurd H (by simp)
   ·rw [if_neg c3] at H
    have c3b0 : decide (x2_1 < x3_1) = false := decide_eq_false c3; clear c3; obtain rfl := Option.some.inj H; go_wp2
    first | go_end0 | ((try simp only [Exit.inBlock, Exit.then]); refine bodyPost_ret (results_none rfl _ _ _) rfl ?_)
    exact ⟨by first | rfl | (simp [errW_none, errW_some] <;> rfl) | (simp [*, errW_none, errW_some] <;> rfl), (by first | exact (rX HO_0) | (simp only [hl0_1]; exact (rX HO_0))), bX HB, by repeat (first | (with_reducible first | exact HK.out | apply Kept.alloc | apply Kept.drewN | apply Kept.drew) | exact HK.out)⟩
end Go.Proofs.YtaipkdglhfhhiaaDoor.Pt

namespace Go.Proofs.YtaipkdglhfhhiaaDoor.Pt
open Go.RowKit Go.Proofs.YtaipkdglhfhhiaaDoorW.PrintWords Go.Proofs.YtaipkdglhfhhiaaDoorW.PrintLast Go.Proofs.YtaipkdglhfhhiaaDoorW.PrintMore
attribute [local go_sem] max2_int min2_int max_two min_two max_three min_three max_four min_four   -- for this text's walks alone
set_option linter.unusedVariables false
set_option linter.unusedSimpArgs false
def display_Build.f (k : Nat) (a0 : List Hi.Ent) (a1 : Int) : Option (List Int × List Int × List Int × Int) := (hier_World_Chain.f a0 a1).bind fun bt125 => (if bt125.2 = 0 then ((slices_Reverse_int_int.f k bt125.1).bind fun t129 => ((hier_World_Closure.f a0 a1).bind fun bt130 => (if 0 ≤ (mn (bt125.1.length : Int) 8) then (if (mn (bt125.1.length : Int) 8) ≤ (bt125.1.length : Int) then ((slices_Clone_int_int.f (t129.take ((mn (bt125.1.length : Int) 8) : Int).toNat)).bind fun t138 => ((slices_Clone_int_int.f (t129.drop ((mn (bt125.1.length : Int) 8) : Int).toNat)).bind fun t145 => (some (t138, t145, bt130.1, 0)))) else (none)) else (none)))) else (some (([] : List Int), ([] : List Int), ([] : List Int), bt125.2)))
def display_Build.T9 : Bool × List (List Nat × List Nat) := (true, [([], []), ([], []), ([0, 1], [0, 1]), ([2], [2]), ([], []), ([], []), ([4, 5], [4, 5]), ([6, 3], [6]), ([], []), ([3, 7, 8], [3, 7, 8]), ([9, 7, 0, 1, 2, 3, 4, 5, 6, 7, 8, 9], [9]), ([10, 0, 1, 2, 3, 4, 5, 6, 7, 8, 9, 10], [])])
def display_Build.B9 : List Nat := [0, 0, 3, 7, 0, 0, 48, 127, 0, 511, 1023, 2047]
theorem display_Build.tab9 : rtab .any (opsOf Tryd.f14 9) = display_Build.T9 := by kernel_rfl
theorem display_Build.bits9 : waitsOk display_Build.T9.2 display_Build.B9 = true := by kernel_rfl
set_option maxHeartbeats 8000000 in
set_option maxRecDepth 100000 in
theorem display_Build.calls (k : Nat) (G_ : Nat) (a0 : List Hi.Ent) (a1 : Int) (r1 : List Int) (r2 : List Int) (r3 : List Int) (r4 : Int) (w : World) (hq0 : WOK w G_ a0) (h : display_Build.f k a0 a1 = some (r1, r2, r3, r4)) :
  Calls Tryd.prog 14 #[.pointer (some ⟨G_, 0, none⟩), .int .i64 a1] w fun e w' => ∃ v0_ v1_ v2_ : Value, e = .returned (.tuple #[.agg #[v0_, v1_, v2_], .int .i64 r4]) ∧ Kd.R (Kd.int .i64) 3 w' w.heap.size (fun k_ => some k_ ≠ (v1_ : Value).ownBlock ∧ some k_ ≠ (v2_ : Value).ownBlock) v0_ r1 ∧ Kd.R (Kd.int .i64) 3 w' w.heap.size (fun k_ => some k_ ≠ (v0_ : Value).ownBlock ∧ some k_ ≠ (v2_ : Value).ownBlock) v1_ r2 ∧ Kd.R (Kd.int .i64) 3 w' w.heap.size (fun k_ => some k_ ≠ (v0_ : Value).ownBlock ∧ some k_ ≠ (v1_ : Value).ownBlock) v2_ r3 ∧ Below w.heap.size w w' := by
 have hu45 := Tryd.underlying45; have HQa0 := Aside0.mk hq0; clear hq0; have HB := Aside0.mk (Below.refl w.heap.size w); have H : ((hier_World_Chain.f a0 a1).bind fun bt125 => (if bt125.2 = 0 then ((slices_Reverse_int_int.f k bt125.1).bind fun t129 => ((hier_World_Closure.f a0 a1).bind fun bt130 => (if 0 ≤ (mn (bt125.1.length : Int) 8) then (if (mn (bt125.1.length : Int) 8) ≤ (bt125.1.length : Int) then ((slices_Clone_int_int.f (t129.take ((mn (bt125.1.length : Int) 8) : Int).toNat)).bind fun t138 => ((slices_Clone_int_int.f (t129.drop ((mn (bt125.1.length : Int) 8) : Int).toNat)).bind fun t145 => (some (t138, t145, bt130.1, 0)))) else (none)) else (none)))) else (some (([] : List Int), ([] : List Int), ([] : List Int), bt125.2)))) = some (r1, r2, r3, r4) := h; clear h; replace H := Option.bind_eq_some_iff.mp H; obtain ⟨⟨t125, t126⟩, A30, H⟩ := H; replace H : (if t126 = 0 then ((slices_Reverse_int_int.f k t125).bind fun t129 => ((hier_World_Closure.f a0 a1).bind fun bt130 => (if 0 ≤ (mn (t125.length : Int) 8) then (if (mn (t125.length : Int) 8) ≤ (t125.length : Int) then ((slices_Clone_int_int.f (t129.take ((mn (t125.length : Int) 8) : Int).toNat)).bind fun t138 => ((slices_Clone_int_int.f (t129.drop ((mn (t125.length : Int) 8) : Int).toNat)).bind fun t145 => (some (t138, t145, bt130.1, 0)))) else (none)) else (none)))) else (some (([] : List Int), ([] : List Int), ([] : List Int), t126))) = some (r1, r2, r3, r4) := H; have A3 := Aside0.mk A30; clear A30
 by_cases c4 : t126 = 0
 ·rw [if_pos c4] at H
  have c4b0 : (t126 == 0) = true := beq_iff_eq.mpr c4; have c4b1 : (t126 != 0) = false := bne_eq_false_iff_eq.mpr c4; clear c4; replace H := Option.bind_eq_some_iff.mp H; obtain ⟨t129, A50, H⟩ := H; replace H : ((hier_World_Closure.f a0 a1).bind fun bt130 => (if 0 ≤ (mn (t125.length : Int) 8) then (if (mn (t125.length : Int) 8) ≤ (t125.length : Int) then ((slices_Clone_int_int.f (t129.take ((mn (t125.length : Int) 8) : Int).toNat)).bind fun t138 => ((slices_Clone_int_int.f (t129.drop ((mn (t125.length : Int) 8) : Int).toNat)).bind fun t145 => (some (t138, t145, bt130.1, 0)))) else (none)) else (none))) = some (r1, r2, r3, r4) := H; have A5 := Aside0.mk A50; clear A50
  obtain ⟨ji6, hji6⟩ : ∃ j_ : Int, (mn (t125.length : Int) 8) = j_ := ⟨_, rfl⟩
  replace H : ((hier_World_Closure.f a0 a1).bind fun bt130 => (if 0 ≤ (ji6) then (if (ji6) ≤ (t125.length : Int) then ((slices_Clone_int_int.f (t129.take ((ji6) : Int).toNat)).bind fun t138 => ((slices_Clone_int_int.f (t129.drop ((ji6) : Int).toNat)).bind fun t145 => (some (t138, t145, bt130.1, 0)))) else (none)) else (none))) = some (r1, r2, r3, r4) := by first | (rw [hji6] at H; exact H) | (simp only [hji6] at H ⊢; exact H)
  (try rw [hji6] at A3)
  (try rw [hji6] at A5)
  (try (have hji6h : ji6 ≤ 8 := by (rw [← hji6]; unfold mn; (repeat' split) <;> omega)))
  (try (have hji6g : ji6 ≤ 64 := by omega))
  (try (have hji6l : 0 ≤ ji6 := by (rw [← hji6]; unfold mn; (repeat' split) <;> omega)))
  (try (have hji6m : 0 ≤ ji6 := by omega))
  have hji6_ : (if 8 < (t125.length : Int) then 8 else (t125.length : Int)) = ji6 := hji6; replace H := Option.bind_eq_some_iff.mp H; obtain ⟨⟨t130, t131⟩, A70, H⟩ := H; replace H : (if 0 ≤ (ji6) then (if (ji6) ≤ (t125.length : Int) then ((slices_Clone_int_int.f (t129.take ((ji6) : Int).toNat)).bind fun t138 => ((slices_Clone_int_int.f (t129.drop ((ji6) : Int).toNat)).bind fun t145 => (some (t138, t145, t130, 0)))) else (none)) else (none)) = some (r1, r2, r3, r4) := H; have A7 := Aside0.mk A70; clear A70
  by_cases c8 : 0 ≤ (ji6)
  ·rw [if_pos c8] at H
   have c8b0 := eq_true c8; have c8b1 : decide (0 ≤ (ji6)) = true := decide_eq_true c8; clear c8
   by_cases c9 : (ji6) ≤ (t125.length : Int)
   ·rw [if_pos c9] at H
    have c9b0 := eq_true c9; have c9b1 : decide ((ji6) ≤ (t125.length : Int)) = true := decide_eq_true c9; clear c9
    obtain ⟨y134, hy134⟩ : ∃ y_ : List Int, y_ = (t129.take ((ji6) : Int).toNat) := ⟨_, rfl⟩
    replace H : ((slices_Clone_int_int.f y134).bind fun t138 => ((slices_Clone_int_int.f (t129.drop ((ji6) : Int).toNat)).bind fun t145 => (some (t138, t145, t130, 0)))) = some (r1, r2, r3, r4) := by first | (rw [hy134]; with_reducible exact H) | (have H2_ := (Option.bind_some _ _).symm.trans H; rw [hy134]; with_reducible exact H2_) | (have H2_ := (Option.bind_some _ _).symm.trans H; with_reducible exact H2_) | with_reducible exact H | (rw [hy134]; exact H) | exact H
    have Ny134 := Aside0.mk hy134; clear hy134; replace H := Option.bind_eq_some_iff.mp H; obtain ⟨t138, A100, H⟩ := H; replace H : ((slices_Clone_int_int.f (t129.drop ((ji6) : Int).toNat)).bind fun t145 => (some (t138, t145, t130, 0))) = some (r1, r2, r3, r4) := H; have A10 := Aside0.mk A100; clear A100; have c11b0 := eq_true (qX : 0 ≤ (ji6)); have c12b0 := eq_true (qX : (ji6) ≤ (t125.length : Int))
    obtain ⟨y141, hy141⟩ : ∃ y_ : List Int, y_ = (t129.drop ((ji6) : Int).toNat) := ⟨_, rfl⟩
    replace H : ((slices_Clone_int_int.f y141).bind fun t145 => (some (t138, t145, t130, 0))) = some (r1, r2, r3, r4) := by first | (rw [hy141]; with_reducible exact H) | (have H2_ := (Option.bind_some _ _).symm.trans H; rw [hy141]; with_reducible exact H2_) | (have H2_ := (Option.bind_some _ _).symm.trans H; with_reducible exact H2_) | with_reducible exact H | (rw [hy141]; exact H) | exact H
    have Ny141 := Aside0.mk hy141; clear hy141; replace H := Option.bind_eq_some_iff.mp H; obtain ⟨t145, A130, H⟩ := H; replace H : (some (t138, t145, t130, 0)) = some (r1, r2, r3, r4) := H; have A13 := Aside0.mk A130; clear A130; simp only [Option.some.injEq, Prod.mk.injEq] at H; obtain ⟨rfl, rfl, rfl, rfl⟩ := H; go_enter Tryd.func14, Tryd.ntmps14
    try go_wp2_with (first | ((with_reducible refine gate_dst (N := 4) rfl ?_); refine eX 4 #[.slice none 0 0, .slice none 0 0, .slice none 0 0] 45 ?_; intro gb124 hg w14 hbox hb; have n0_ := Aside0.mk (below_step (bX HB) hb); have n1_ := Aside0.mk (hbox); have n2_ := Aside0.mk ((by rw [hg]; exact (below_size (bX HB)) : w.heap.size ≤ gb124)); have n3_ := Aside0.mk ((by rw [hg]; exact (below_size (bX HB)) : w.heap.size ≤ gb124)); clear HB; have HB := n0_; have BK124 := n1_; have GW124 := n2_; have GE124 := n3_; clear n0_ n1_ n2_ n3_; clear hb hbox hg) | ((with_reducible refine gate_callee (f := 15) rfl ?_); refine gX (some 17) Tryd.func15 #[.pointer (some ⟨G_, 0, none⟩), .int .i64 a1] ?_; (with_reducible refine (hier_World_Chain.calls G_ a0 a1 t125 t126 _ ?side1 A3.out).mono ?_); (case side1 => repeat (first | (with_reducible exact HQa0.out) | (with_reducible refine WOK.alloc ?_ _) | (with_reducible refine WOK.drewN ?_ _) | (with_reducible refine WOK.drew ?_) | exact WOK.below HQa0.out HB.out | exact WOK.below HQa0.out (bX1 HB GE124))); rintro e w15 ⟨v127, rfl, ho0, hb⟩; refine ⟨_, rfl, ?_⟩; have n0_ := Aside0.mk (Kd.R_lower ho0 (below_size (bX1 HB GE124))); have n1_ := Aside0.mk (blk_below (kX BK124) hb); have n2_ := Aside0.mk (below_step (bX1 HB GE124) hb); clear BK124; clear HB; have HO128 := n0_; have BK124 := n1_; have HB := n2_; clear n0_ n1_ n2_; (try clear hb); (try clear hb2); (try clear hk); (try clear hi); (try clear ho0); obtain ⟨Ao16, co16, eo16⟩ := Kd.R_slice HO128.out; subst eo16) | ((with_reducible refine gate_callee (f := 35) rfl ?_); refine gX (some 25) Tryd.func35 #[.slice Ao16 t125.length co16] ?_; (with_reducible refine (slices_Reverse_int_int.calls k (fun k_ => some k_ = (.slice Ao16 t125.length co16 : Value).ownBlock) (.slice Ao16 t125.length co16) t125 t129 w _ ?side1 ?side2 A5.out).mono ?_); (case side1 => repeat (first | (with_reducible first | exact HB.out | apply below_alloc | apply pw_below_drewN | apply below_drew1 | refine below_set ?_ GE124.out) | exact HB.out)); (case side2 => exact Kd.R_tight rfl HO128.out); rintro e w17 ⟨rfl, hy0, hb, hkp⟩; refine ⟨_, rfl, ?_⟩; have n0_ := Aside0.mk (blk_kept (kX BK124) hkp (fun hs_ => (fun e_ => (Kd.R_ne HO128.out BK124.out (by decide)) e_) hs_)); have n1_ := Aside0.mk (Kd.R_reok rfl hy0 (fun k_ e_ => HO128.out.1 k_ e_)); have n2_ := Aside0.mk (hb); clear BK124; clear HO128; clear HB; have BK124 := n0_; have HO128 := n1_; have HB := n2_; clear n0_ n1_ n2_; (try clear hb); (try clear hkp); (try clear hy0)) | ((with_reducible refine gate_callee (f := 20) rfl ?_); refine gX (some 32) Tryd.func20 #[.pointer (some ⟨G_, 0, none⟩), .int .i64 a1] ?_; (with_reducible refine (hier_World_Closure.calls G_ a0 a1 t130 t131 _ ?side1 A7.out).mono ?_); (case side1 => repeat (first | (with_reducible exact HQa0.out) | (with_reducible refine WOK.alloc ?_ _) | (with_reducible refine WOK.drewN ?_ _) | (with_reducible refine WOK.drew ?_) | exact WOK.below HQa0.out HB.out | exact WOK.below HQa0.out (bX1 HB GE124))); rintro e w18 ⟨v132, rfl, ho0, hb⟩; refine ⟨_, rfl, ?_⟩; have n0_ := Aside0.mk (Kd.R_elder' (rX HO128) (Kd.R_base ho0) hb); have n1_ := Aside0.mk (Kd.R_lower (Kd.R_new' ho0 (Kd.R_lt (rX HO128))) (below_size (bX1 HB GE124))); have n2_ := Aside0.mk (blk_below (kX BK124) hb); have n3_ := Aside0.mk (below_step (bX1 HB GE124) hb); clear HO128; clear BK124; clear HB; have HO128 := n0_; have HO133 := n1_; have BK124 := n2_; have HB := n3_; clear n0_ n1_ n2_ n3_; (try clear hb); (try clear hb2); (try clear hk); (try clear hi); (try clear ho0)))
    have n0_ := Aside0.mk (Kd.R_drew HO128.out); have n1_ := Aside0.mk (Kd.R_drew HO133.out); have n2_ := Aside0.mk (blk_drew BK124.out); have n3_ := Aside0.mk (below_drew1 HB.out); clear HO128; clear HO133; clear BK124; clear HB; have HO128 := n0_; have HO133 := n1_; have BK124 := n2_; have HB := n3_; clear n0_ n1_ n2_ n3_; have hlx20 := (Kd.R_reads' HO128.out).1; have q20 : ((ji6) : Int) ≤ ((t125.length : Int) : Int) := qX; obtain ⟨i020, hi020, _, hsz20, _⟩ := info_parts info3; have hroom20 : t125.length ≤ co16 := (Kd.R_reads' HO128.out).2.1
    have hroomc20 : t129.length ≤ co16 := (by rw [← hlx20]; exact hroom20)
    have hC20 : Kd.C (Kd.int .i64) _ Ao16 t129.length t129 := (Kd.R_reads' HO128.out).2.2; have hcut20 := cut_to (P := Tryd.prog) 43 3 .i64 Tryd.underlying43 hi020 Ao16 t125.length co16 (ji6) (qX) q20 hroom20; have hr20 := Kd.C_take (m := ((ji6) : Int).toNat) hC20 (by omega)
    have hy20 : y134.length = ((ji6) : Int).toNat := (by rw [Ny134.out, List.length_take]; omega)
    rw [← Ny134.out] at hr20; rw [← hy20] at hcut20; have HR137 := Aside0.mk hr20; have HC137 := Aside0.mk (show y134.length ≤ co16 from by omega); clear hr20 hC20 hroom20 hi020 hsz20 hroomc20; have KY20 := Aside0.mk hy20; clear hy20; have KE20 := Aside0.mk hlx20; have KL20 := Aside0.mk (show ((ji6) : Int).toNat ≤ t129.length from by omega); clear hlx20; replace q20 := eq_true q20; have hlx21 := (Kd.R_reads' HO128.out).1; have q21 : ((ji6) : Int) ≤ ((t125.length : Int) : Int) := qX; obtain ⟨i021, hi021, _, hsz21, _⟩ := info_parts info3; have hroom21 : t125.length ≤ co16 := (Kd.R_reads' HO128.out).2.1
    have hroomc21 : t129.length ≤ co16 := (by rw [← hlx21]; exact hroom21)
    have hC21 : Kd.C (Kd.int .i64) _ Ao16 t129.length t129 := (Kd.R_reads' HO128.out).2.2; have q021 : (0 : Int) ≤ ((ji6) : Int) := qX; have hcut21 := cut_from (P := Tryd.prog) 43 3 .i64 Tryd.underlying43 hi021 1 hsz21 Ao16 t125.length co16 (ji6) q021 q21; have hr21 := Kd.C_drop (m := ((ji6) : Int).toNat) (c := co16) hC21 (by omega) hroomc21
    obtain ⟨A21, hA21⟩ : ∃ A1, A1 = (if co16 = ((ji6) : Int).toNat then Ao16 else (Ao16 : Option Addr).map (·.add (((ji6) : Int).toNat * 1))) := ⟨_, rfl⟩
    obtain ⟨c21, hc21⟩ : ∃ c1, c1 = co16 - ((ji6) : Int).toNat := ⟨_, rfl⟩
    have hy21 : y141.length = t125.length - ((ji6) : Int).toNat := (by rw [Ny141.out, List.length_drop] <;> omega)
    rw [show (t129).drop ((ji6) : Int).toNat = y141 from Ny141.out.symm] at hr21
    replace hr21 : Kd.C (Kd.int .i64) _ A21 y141.length y141 := (by rw [hA21]; exact hr21)
    rw [← hy21, ← hA21, ← hc21] at hcut21; have HR144 := Aside0.mk hr21; have HC144 := Aside0.mk (show y141.length ≤ c21 from by rw [hy21, hc21]; exact Nat.sub_le_sub_right hroom21 _); clear hr21 hC21 hroom21 hi021 hsz21 hc21 hroomc21; have KY21 := Aside0.mk hy21; have KA21 := Aside0.mk hA21; clear hy21 hA21; have KE21 := Aside0.mk hlx21; have KL21 := Aside0.mk (show ((ji6) : Int).toNat ≤ t129.length from by omega); clear hlx21; replace q21 := eq_true q21; refine start_ (n := 12) (S := fun w' => True) (ds := []) #[false, false, false, false, false, false, false, false, false, false, false, false] (by kernel_rfl) rfl rfl trivial (fun hHeld => ?_); refine with_tabW display_Build.tab9 display_Build.bits9 (fun HT_ HW_ => ?_); generalize w18.drew = w19 at HO128 HO133 BK124 HB HR137 HR144 hHeld ⊢; refine pX HT_ 0 (some 35) ?_; refine pX HT_ 1 (some 36) ?_; refine pX HT_ 2 (some 37) ?_; refine pX HT_ 4 (some 39) ?_; refine pX HT_ 5 (some 40) ?_; refine pX HT_ 6 (some 41) ?_; refine pX HT_ 8 (some 43) ?_; refine oX HT_ 3 (some 38) (fun K hK => ?_); refine hX Tryd.func36 #[.slice Ao16 y134.length co16] ?_
    with_reducible refine (slices_Clone_int_int.calls _ _ y134 t138 _ ?side1 ?side2 A10.out).mono ?_
    (case side1 => repeat (first | exact (by repeat (first | (with_reducible exact HR137.out) | (with_reducible refine Kd.C_alloc ?_ _) | (with_reducible refine Kd.C_drewN ?_ _) | (with_reducible refine Kd.C_drew ?_) | exact HR137.out)) | (with_reducible refine Kd.C_alloc ?_ _) | (with_reducible refine Kd.C_drewN ?_ _) | (with_reducible refine Kd.C_drew ?_)))
    (case side2 => exact HC137.out)
    rintro e w22 ⟨v139, rfl, ho0, hb⟩; refine ⟨_, rfl, ?_⟩; have n0_ := Aside0.mk (Kd.R_elder' (rX HO128) (Kd.R_base ho0) hb); have n1_ := Aside0.mk (Kd.R_elder' (rX HO133) (Kd.R_base ho0) hb); have n2_ := Aside0.mk (Kd.R_lower (Kd.R_new' (Kd.R_new' ho0 (Kd.R_lt (rX HO128))) (Kd.R_lt (rX HO133))) (below_size (bX1 HB GE124))); have n3_ := Aside0.mk (blk_below (kX BK124) hb); have n4_ := Aside0.mk (Kd.C_below (by repeat (first | (with_reducible exact HR137.out) | (with_reducible refine Kd.C_alloc ?_ _) | (with_reducible refine Kd.C_drewN ?_ _) | (with_reducible refine Kd.C_drew ?_) | exact HR137.out)) hb); have n5_ := Aside0.mk (Kd.C_below (by repeat (first | (with_reducible exact HR144.out) | (with_reducible refine Kd.C_alloc ?_ _) | (with_reducible refine Kd.C_drewN ?_ _) | (with_reducible refine Kd.C_drew ?_) | exact HR144.out)) hb); have n6_ := Aside0.mk (below_step (bX1 HB GE124) hb); clear HO128; clear HO133; clear BK124; clear HR137; clear HR144; clear HB; have HO128 := n0_; have HO133 := n1_; have HO140 := n2_; have BK124 := n3_; have HR137 := n4_; have HR144 := n5_; have HB := n6_; clear n0_ n1_ n2_ n3_ n4_ n5_ n6_
    (try clear hb)
    (try clear hb2)
    (try clear hk)
    (try clear hi)
    (try clear ho0)
    refine hK.out _ _ trivial (fun hHeld => ?_); clear hK K; refine nX (some 38) ?_; refine oX HT_ 7 (some 42) (fun K hK => ?_); refine hX Tryd.func36 #[.slice A21 y141.length c21] ?_
    with_reducible refine (slices_Clone_int_int.calls _ _ y141 t145 _ ?side1 ?side2 A13.out).mono ?_
    (case side1 => repeat (first | exact (by repeat (first | (with_reducible exact HR144.out) | (with_reducible refine Kd.C_alloc ?_ _) | (with_reducible refine Kd.C_drewN ?_ _) | (with_reducible refine Kd.C_drew ?_) | exact HR144.out)) | (with_reducible refine Kd.C_alloc ?_ _) | (with_reducible refine Kd.C_drewN ?_ _) | (with_reducible refine Kd.C_drew ?_)))
    (case side2 => exact HC144.out)
    rintro e w23 ⟨v146, rfl, ho0, hb⟩; refine ⟨_, rfl, ?_⟩; have n0_ := Aside0.mk (Kd.R_elder' (rX HO128) (Kd.R_base ho0) hb); have n1_ := Aside0.mk (Kd.R_elder' (rX HO133) (Kd.R_base ho0) hb); have n2_ := Aside0.mk (Kd.R_elder' (rX HO140) (Kd.R_base ho0) hb); have n3_ := Aside0.mk (Kd.R_lower (Kd.R_new' (Kd.R_new' (Kd.R_new' ho0 (Kd.R_lt (rX HO128))) (Kd.R_lt (rX HO133))) (Kd.R_lt (rX HO140))) (below_size (bX1 HB GE124))); have n4_ := Aside0.mk (blk_below (kX BK124) hb); have n5_ := Aside0.mk (Kd.C_below (by repeat (first | (with_reducible exact HR137.out) | (with_reducible refine Kd.C_alloc ?_ _) | (with_reducible refine Kd.C_drewN ?_ _) | (with_reducible refine Kd.C_drew ?_) | exact HR137.out)) hb); have n6_ := Aside0.mk (Kd.C_below (by repeat (first | (with_reducible exact HR144.out) | (with_reducible refine Kd.C_alloc ?_ _) | (with_reducible refine Kd.C_drewN ?_ _) | (with_reducible refine Kd.C_drew ?_) | exact HR144.out)) hb); have n7_ := Aside0.mk (below_step (bX1 HB GE124) hb); clear HO128; clear HO133; clear HO140; clear BK124; clear HR137; clear HR144; clear HB; have HO128 := n0_; have HO133 := n1_; have HO140 := n2_; have HO147 := n3_; have BK124 := n4_; have HR137 := n5_; have HR144 := n6_; have HB := n7_; clear n0_ n1_ n2_ n3_ n4_ n5_ n6_ n7_
    (try clear hb)
    (try clear hb2)
    (try clear hk)
    (try clear hi)
    (try clear ho0)
    obtain ⟨Ao24, co24, eo24⟩ := Kd.R_slice HO133.out
    (first | subst eo24 | (injection eo24 with f1_ f2_ f3_; have f4_ := f1_.symm; have f5_ := f3_.symm; clear f1_ f2_ f3_; subst f4_; subst f5_))
    obtain ⟨Ao25, co25, eo25⟩ := Kd.R_slice HO147.out
    (first | subst eo25 | (injection eo25 with f1_ f2_ f3_; have f4_ := f1_.symm; have f5_ := f3_.symm; clear f1_ f2_ f3_; subst f4_; subst f5_))
    obtain ⟨Ao26, co26, eo26⟩ := Kd.R_slice HO140.out
    (first | subst eo26 | (injection eo26 with f1_ f2_ f3_; have f4_ := f1_.symm; have f5_ := f3_.symm; clear f1_ f2_ f3_; subst f4_; subst f5_))
    refine hK.out _ _ trivial (fun hHeld => ?_); clear hK K; refine nX (some 42) ?_; refine pX HT_ 9 (some 44) ?_; refine oX HT_ 10 none (fun K hK => ?_); have hs27 : w23.cell? ⟨gb124, 0, none⟩ = some (.slice none 0 0) := (blk_cell BK124.out 0).trans rfl; have hfs27 := blk_frozen BK124.out 0; have hs28 : w23.cell? ⟨gb124, 1, none⟩ = some (.slice none 0 0) := (blk_cell BK124.out 1).trans rfl; have hfs28 := blk_frozen BK124.out 1; have hs29 : w23.cell? ⟨gb124, 2, none⟩ = some (.slice none 0 0) := (blk_cell BK124.out 2).trans rfl; have hfs29 := blk_frozen BK124.out 2; refine skip_ (w1 := ?_) (by rfl) rfl ?_ ?_; rotate_left
    ·go_simp
     rfl
    refine hK.out _ _ trivial (fun hHeld => ?_); clear hK K; refine pX HT_ 11 (some 5) ?_; refine done_ (done_of HT_.out (by kernel_rfl)) ?_
    try go_wp2
    refine bodyPost_ret (results_ct rfl _ _ gb124 45 #[.slice Ao26 t138.length co26, .slice Ao25 t145.length co25, .slice Ao24 t130.length co24] (0, 0) _ rfl (by (with_reducible repeat (first | refine blk_drewN ?_ _ | refine blk_drew ?_ | refine blk_alloc ?_ _)); refine blk_put (cs := #[.slice Ao26 t138.length co26, .slice Ao25 t145.length co25, .slice none 0 0]) ?_ 2 _ rfl; (with_reducible repeat (first | refine blk_drewN ?_ _ | refine blk_drew ?_ | refine blk_alloc ?_ _)); refine blk_put (cs := #[.slice Ao26 t138.length co26, .slice none 0 0, .slice none 0 0]) ?_ 1 _ rfl; (with_reducible repeat (first | refine blk_drewN ?_ _ | refine blk_drew ?_ | refine blk_alloc ?_ _)); refine blk_put (cs := #[.slice none 0 0, .slice none 0 0, .slice none 0 0]) ?_ 0 _ rfl; (with_reducible repeat (first | refine blk_drewN ?_ _ | refine blk_drew ?_ | refine blk_alloc ?_ _)); exact BK124.out) Tryd.underlying45 rfl (by kernel_rfl)) rfl ?_
    exact ⟨_, _, _, by first | rfl | (simp [errW_none, errW_some] <;> rfl) | (simp only [← hji6]; first | rfl | (simp [errW_none, errW_some] <;> rfl)) | (simp [*, errW_none, errW_some] <;> rfl), by (with_reducible repeat (first | apply Kd.R_alloc | apply Kd.R_drewN | apply Kd.R_drew)); exact Kd.R_mono (Kd.R_far (p := ⟨gb124, 2, none⟩) (Kd.R_far (p := ⟨gb124, 1, none⟩) (Kd.R_far (p := ⟨gb124, 0, none⟩) (Kd.R_types HO140.out BK124.out (by decide)) (fun _ hk => hk.2) (.slice Ao26 t138.length co26)) (fun _ hk => hk.2) (.slice Ao25 t145.length co25)) (fun _ hk => hk.2) (.slice Ao24 t130.length co24)) (fun _ hk => ⟨hk.1.2, hk.1.1.2⟩), by (with_reducible repeat (first | apply Kd.R_alloc | apply Kd.R_drewN | apply Kd.R_drew)); exact Kd.R_mono (Kd.R_far (p := ⟨gb124, 2, none⟩) (Kd.R_far (p := ⟨gb124, 1, none⟩) (Kd.R_far (p := ⟨gb124, 0, none⟩) (Kd.R_types HO147.out BK124.out (by decide)) (fun _ hk => hk.2) (.slice Ao26 t138.length co26)) (fun _ hk => hk.2) (.slice Ao25 t145.length co25)) (fun _ hk => hk.2) (.slice Ao24 t130.length co24)) (fun _ hk => ⟨hk.1.2, hk.1.1.2⟩), by (with_reducible repeat (first | apply Kd.R_alloc | apply Kd.R_drewN | apply Kd.R_drew)); exact Kd.R_mono (Kd.R_far (p := ⟨gb124, 2, none⟩) (Kd.R_far (p := ⟨gb124, 1, none⟩) (Kd.R_far (p := ⟨gb124, 0, none⟩) (Kd.R_types HO133.out BK124.out (by decide)) (fun _ hk => hk.2) (.slice Ao26 t138.length co26)) (fun _ hk => hk.2) (.slice Ao25 t145.length co25)) (fun _ hk => hk.2) (.slice Ao24 t130.length co24)) (fun _ hk => ⟨hk.1.1.2, hk.1.2⟩), bX1 HB GE124⟩
   ·rw [if_neg c9] at H
    exact absurd H (by simp)
  ·rw [if_neg c8] at H
   exact absurd H (by simp)
 ·rw [if_neg c4] at H
  have c4b0 : (t126 == 0) = false := beq_eq_false_iff_ne.mpr c4; have c4b1 : (t126 != 0) = true := bne_iff_ne.mpr c4; simp only [Option.some.injEq, Prod.mk.injEq] at H; obtain ⟨rfl, rfl, rfl, rfl⟩ := H; go_enter Tryd.func14, Tryd.ntmps14; go_wp2_with (first | ((with_reducible refine gate_dst (N := 4) rfl ?_); refine eX 4 #[.slice none 0 0, .slice none 0 0, .slice none 0 0] 45 ?_; intro gb124 hg w30 hbox hb; have n0_ := Aside0.mk (below_step (bX HB) hb); have n1_ := Aside0.mk (hbox); have n2_ := Aside0.mk ((by rw [hg]; exact (below_size (bX HB)) : w.heap.size ≤ gb124)); have n3_ := Aside0.mk ((by rw [hg]; exact (below_size (bX HB)) : w.heap.size ≤ gb124)); clear HB; have HB := n0_; have BK124 := n1_; have GW124 := n2_; have GE124 := n3_; clear n0_ n1_ n2_ n3_; clear hb hbox hg) | ((with_reducible refine gate_callee (f := 15) rfl ?_); refine gX (some 17) Tryd.func15 #[.pointer (some ⟨G_, 0, none⟩), .int .i64 a1] ?_; (with_reducible refine (hier_World_Chain.calls G_ a0 a1 t125 t126 _ ?side1 A3.out).mono ?_); (case side1 => repeat (first | (with_reducible exact HQa0.out) | (with_reducible refine WOK.alloc ?_ _) | (with_reducible refine WOK.drewN ?_ _) | (with_reducible refine WOK.drew ?_) | exact WOK.below HQa0.out HB.out | exact WOK.below HQa0.out (bX1 HB GE124))); rintro e w31 ⟨v127, rfl, ho0, hb⟩; refine ⟨_, rfl, ?_⟩; have n0_ := Aside0.mk (Kd.R_lower ho0 (below_size (bX1 HB GE124))); have n1_ := Aside0.mk (blk_below (kX BK124) hb); have n2_ := Aside0.mk (below_step (bX1 HB GE124) hb); clear BK124; clear HB; have HO128 := n0_; have BK124 := n1_; have HB := n2_; clear n0_ n1_ n2_; (try clear hb); (try clear hb2); (try clear hk); (try clear hi); (try clear ho0); obtain ⟨hcz32_0, hcz32_1, hcz32_2, hfz32_0, hfz32_1, hfz32_2⟩ := c3X BK124)); refine bodyPost_ret (results_ct rfl _ _ gb124 45 #[.slice none 0 0, .slice none 0 0, .slice none 0 0] (0, 0) _ rfl (by (with_reducible repeat (first | refine blk_drewN ?_ _ | refine blk_drew ?_ | refine blk_alloc ?_ _)); refine blk_put (cs := #[.slice none 0 0, .slice none 0 0, .slice none 0 0]) ?_ 2 _ rfl; (with_reducible repeat (first | refine blk_drewN ?_ _ | refine blk_drew ?_ | refine blk_alloc ?_ _)); refine blk_put (cs := #[.slice none 0 0, .slice none 0 0, .slice none 0 0]) ?_ 1 _ rfl; (with_reducible repeat (first | refine blk_drewN ?_ _ | refine blk_drew ?_ | refine blk_alloc ?_ _)); refine blk_put (cs := #[.slice none 0 0, .slice none 0 0, .slice none 0 0]) ?_ 0 _ rfl; (with_reducible repeat (first | refine blk_drewN ?_ _ | refine blk_drew ?_ | refine blk_alloc ?_ _)); exact BK124.out) Tryd.underlying45 rfl (by kernel_rfl)) rfl ?_
  exact ⟨_, _, _, by first | rfl | (simp [errW_none, errW_some] <;> rfl) | (simp [*, errW_none, errW_some] <;> rfl), by first | exact Kd.R_nil _ _ _ _ _ | exact Kd.N_nil _ _ _ _ _ | exact Kd.V_nil _ _ _ _ _ | exact Kd.Q_nil _ _ _ _ _ | exact Kd.S_nil _ _ _ _ _, by first | exact Kd.R_nil _ _ _ _ _ | exact Kd.N_nil _ _ _ _ _ | exact Kd.V_nil _ _ _ _ _ | exact Kd.Q_nil _ _ _ _ _ | exact Kd.S_nil _ _ _ _ _, by first | exact Kd.R_nil _ _ _ _ _ | exact Kd.N_nil _ _ _ _ _ | exact Kd.V_nil _ _ _ _ _ | exact Kd.Q_nil _ _ _ _ _ | exact Kd.S_nil _ _ _ _ _, bX1 HB GE124⟩
end Go.Proofs.YtaipkdglhfhhiaaDoor.Pt

namespace Go.Proofs.YtaipkdglhfhhiaaDoor.Pt
open Go Go.RowKit Go.Proofs.YtaipkdglhfhhiaaDoor.Nm Go.Proofs.YtaipkdglhfhhiaaDoor.Hi Go.Proofs.YtaipkdglhfhhiaaDoorW.PrintWords Go.Proofs.YtaipkdglhfhhiaaDoorW.PrintLast Go.Proofs.YtaipkdglhfhhiaaDoorW.PrintMore
set_option linter.unusedVariables false
set_option linter.unusedSimpArgs false
set_option maxHeartbeats 2000000
set_option maxRecDepth 100000
theorem rev_l0 (l : List Int) (hl : l.length ≤ 1000) : ∀ (k i : Nat) (acc : List Int), acc.length = l.length → l.length < k + i → i ≤ l.length →
  (∀ j, j < l.length → acc[j]? = if j < i ∨ l.length ≤ j + i then l[l.length - 1 - j]? else l[j]?) → slices_Reverse_int_int.l0 k acc (i : Int) ((l.length : Int) - 1 - i) = some l.reverse := by
 intro k
 induction k with
 | zero => intro i acc _ h1 h2 _; omega
 | succ k ih =>
  intro i acc ha h1 h2 hp; rw [slices_Reverse_int_int.l0]
  by_cases h : (i : Int) < (l.length : Int) - 1 - i
  ·obtain ⟨q, hq⟩ : ∃ q : Nat, (l.length : Int) - 1 - i = q := ⟨l.length - 1 - i, by omega⟩
   have hr : ∀ j : Nat, j < l.length → rd acc (j : Int) = (acc[j]?).getD 0 := fun j _ => by simp [rd, List.getD_eq_getElem?_getD]
   rw [if_pos h, hq, if_pos (by omega), if_pos (by omega), if_pos (by omega), if_pos (by omega), Int.toNat_natCast, Int.toNat_natCast, hr q (by omega), hr i (by omega), hp q (by omega), hp i (by omega)]; rw [if_neg (by omega), if_neg (by omega), show wrap64 ((i : Int) + 1) = ((i + 1 : Nat) : Int) by unfold wrap64; omega, show wrap64 ((q : Int) - 1) = (l.length : Int) - 1 - ((i + 1 : Nat) : Int) by unfold wrap64; omega]; refine ih (i + 1) _ (by simp [ha]) (by omega) (by omega) fun j hj => ?_
   have hg : ∀ m : Nat, m < l.length → some ((l[m]?).getD 0) = l[m]? := fun m hm => by rw [List.getElem?_eq_getElem hm]; rfl
   rw [List.getElem?_set, List.getElem?_set, List.length_set, ha]
   by_cases c1 : q = j
   ·subst c1
    rw [if_pos rfl, if_pos hj, if_pos (by omega), hg i (by omega)]
    congr 1
    omega
   ·rw [if_neg c1]
    by_cases c2 : i = j
    ·subst c2
     rw [if_pos rfl, if_pos hj, if_pos (by omega), hg q (by omega)]
     congr 1
     omega
    ·rw [if_neg c2, hp j hj]
     by_cases c3 : j < i ∨ l.length ≤ j + i
     ·rw [if_pos c3, if_pos (by omega)]
     ·rw [if_neg c3, if_neg (by omega)]
  ·rw [if_neg h]
   congr 1
   refine List.ext_getElem? fun j => ?_
   by_cases hj : j < l.length
   ·rw [hp j hj, List.getElem?_reverse hj]
    by_cases c3 : j < i ∨ l.length ≤ j + i
    ·rw [if_pos c3]
    ·rw [if_neg c3]
     congr 1
     omega
   ·rw [List.getElem?_eq_none (by omega), List.getElem?_eq_none (by rw [List.length_reverse]; omega)]
theorem rev_tot (l : List Int) (hl : l.length ≤ 1000) (k : Nat) (hk : l.length < k) : slices_Reverse_int_int.f k l = some l.reverse := by
 unfold slices_Reverse_int_int.f
 have := rev_l0 l hl k 0 l rfl (by omega) (by omega) fun j hj => by rw [if_neg (by omega)]
 rw [show wrap64 ((l.length : Int) - 1) = (l.length : Int) - 1 - ((0 : Nat) : Int) by unfold wrap64; omega]
 exact this
theorem build_tot (es : List Ent) (ht : Tree es) (hl : es.length ≤ 1000) (hc : ∀ x ∈ es, x.clo.length ≤ 1000) (k : Nat) (hk : 1000 < k) (i : Int) : display_Build.f k es i = some (buildF es i) := by
 unfold display_Build.f; rw [show hier_World_Chain.f es i = some (chainF es i) from rfl, Option.bind_some, show hier_World_Closure.f es i = some (closureF es i) from rfl]
 by_cases hi : 0 ≤ i ∧ i < es.length
 ·have h1 := chL_len ht hi.1 hi.2
  have h2 := ht.depth_ hi.1 hi.2
  have hcl : (chL es i).length ≤ 1000 := by omega
  rw [show chainF es i = (chL es i, 0) from if_pos hi, show closureF es i = ((ent es i).clo, 0) from if_pos hi, buildF, if_pos hi]
  show (if (0 : Int) = 0 then (slices_Reverse_int_int.f k (chL es i)).bind _ else _) = _
  rw [if_pos rfl, rev_tot _ hcl k (by omega), Option.bind_some, Option.bind_some]
  obtain ⟨m, hm, hm2⟩ : ∃ m : Nat, mn ((chL es i).length : Int) 8 = m ∧ m = min (chL es i).length 8 := ⟨_, by unfold mn; omega, rfl⟩
  show (if 0 ≤ mn ((chL es i).length : Int) 8 then _ else _) = _
  rw [hm, if_pos (by omega), if_pos (show (m : Int) ≤ ((chL es i).length : Int) by omega), Int.toNat_natCast]; unfold slices_Clone_int_int.f; rw [if_pos (by rw [List.length_take, List.length_reverse]; omega), Option.bind_some, if_pos (by rw [List.length_drop, List.length_reverse]; omega), Option.bind_some]
  have e1 : (chL es i).reverse.take m = (rcL es i).take 8 := by
   rw [hm2]; unfold rcL
   by_cases h8 : (chL es i).length ≤ 8
   ·rw [show min (chL es i).length 8 = (chL es i).reverse.length by rw [List.length_reverse]; omega, List.take_length, List.take_of_length_le (by rw [List.length_reverse]; exact h8)]
   ·rw [show min (chL es i).length 8 = 8 by omega]
  have e2 : (chL es i).reverse.drop m = (rcL es i).drop 8 := by
   rw [hm2]; unfold rcL
   by_cases h8 : (chL es i).length ≤ 8
   ·rw [List.drop_eq_nil_of_le (by rw [List.length_reverse]; omega), List.drop_eq_nil_of_le (by rw [List.length_reverse]; omega)]
   ·rw [show min (chL es i).length 8 = 8 by omega]
  rw [e1, e2]
 ·rw [show chainF es i = ([], 3) from if_neg hi, buildF, if_neg hi]
  rfl
theorem at_tot (p q r : List Int) (hp : p.length ≤ 1000) (hq : q.length ≤ 1000) (d : Int) (h0 : 0 ≤ d) (h1 : d ≤ 1000) : display_at.f p q r d = some (atF p q d) := by
 unfold display_at.f atF
 by_cases c1 : d < p.length
 ·rw [if_pos c1, if_pos h0, if_pos c1]
  rfl
 ·rw [if_neg c1, if_neg c1]
  by_cases c2 : d ≥ 8
  ·rw [if_pos c2, show wrap64 (d - 8) = d - 8 by unfold wrap64; omega]
   by_cases c3 : d - 8 < q.length
   ·rw [if_pos c3, if_pos (by omega), if_pos ⟨c2, c3⟩]
    rfl
   ·rw [if_neg c3, if_neg (fun h => c3 h.2)]
  ·rw [if_neg c2, if_neg (fun h => c2 h.1)]
theorem cell_heap {w w' : World} {ad : Addr} {i : Nat} (h : w'.heap[ad.block]? = w.heap[ad.block]?) : w'.cell? (ad.add i) = w.cell? (ad.add i) := by
 unfold World.cell?; rw [add_block, h]
theorem scan_at (l : List Int) (t : Int) (j : Nat) : ((∀ i, i < j → l[i]? ≠ some t) → l[j]? = some t → decide (t ∈ l) = true ∧ scanN t l = (j : Int) + 1) ∧ ((∀ i, i < j → l[i]? ≠ some t) → l.length ≤ j → decide (t ∈ l) = false ∧ scanN t l = (l.length : Int)) := by
 constructor
 ·intro h1 h2
  refine ⟨decide_eq_true (List.mem_of_getElem? h2), ?_⟩
  induction l generalizing j with
  | nil => simp at h2
  | cons x l ih =>
   rw [scanN]
   cases j with
   | zero =>
    rw [if_pos (by simpa using h2)]
    rfl
   | succ j =>
    have h0 := h1 0 (by omega); rw [if_neg (by simpa using h0), ih j (fun i hi => by have := h1 (i + 1) (by omega); simpa using this) (by simpa using h2)]; push_cast
    omega
 ·intro h1 h2
  refine ⟨decide_eq_false (fun hm => ?_), ?_⟩
  ·obtain ⟨i, hi⟩ := List.getElem?_of_mem hm
   have : i < l.length := by
    rcases Nat.lt_or_ge i l.length with h | h
    ·exact h
    ·rw [List.getElem?_eq_none h] at hi; cases hi
   exact h1 i (by omega) hi
  ·induction l generalizing j with
   | nil => rfl
   | cons x l ih =>
    rw [List.length_cons] at h2 ⊢; have h0 := h1 0 (by omega); rw [scanN, if_neg (by simpa using h0), ih (j - 1) (fun i hi => by have := h1 (i + 1) (by omega); simpa using this) (by omega)]; push_cast
    omega
theorem look_any (w wr : World) (g : Nat) (es : List Ent) (hq : WOK w g es) (hb : Below w.heap.size w wr) (br : Nat) (hbr : w.heap.size ≤ br) (n : Int) (h0 : 0 ≤ n) (h1 : n ≤ 1000) (hblk : wr.heap[br]? = some (.cells #[.int .i64 n] 3 (0, 0)))
  (s t : Int) (hs : 0 ≤ s ∧ s < es.length) (ht : 0 ≤ t ∧ t < es.length) :
  Calls Tryd.prog 38 #[.pointer (some ⟨g, 0, none⟩), .int .i64 s, .int .i64 t, .pointer (some ⟨br, 0, none⟩)] wr fun e w' => e = .returned (.bool (lookF es s t).1) ∧ w'.heap[br]? = some (.cells #[.int .i64 (n + (lookF es s t).2)] 3 (0, 0)) ∧ Below w.heap.size w w' := by
 have HW := Lib.hid hq; have IF := Lib.hid (fun (W : World) (hb : Below w.heap.size w W) => hier_World_IsIface.calls g es t (isI (ent es t).c) W (hq.below hb) (by unfold hier_World_IsIface.f; rw [show inB es t = true from decide_eq_true ht]; rfl)); have BD := Lib.hid (fun (W : World) (hb : Below w.heap.size w W) => display_Build.calls 2000 g es s (buildF es s).1 (buildF es s).2.1 (buildF es s).2.2.1 (buildF es s).2.2.2 W (hq.below hb) (build_tot es hq.tree hq.len (fun x hx => (hq.fine x hx).2.2) 2000 (by decide) s)); have DP := Lib.hid (fun (W : World) (hb : Below w.heap.size w W) => hier_World_Depth.calls g es t (ent es t).depth 0 W (hq.below hb) (by unfold hier_World_Depth.f depthF; rw [if_pos ht])); have hdt := hq.tree.depth_ ht.1 ht.2; have hlen := hq.len; have hcl := (hq.fine _ (List.mem_of_getElem? (get_ent hs.1 hs.2))).2.2
 have hbs : (buildF es s).1.length ≤ 1000 ∧ (buildF es s).2.1.length ≤ 1000 ∧ (buildF es s).2.2.1 = (ent es s).clo := by
  have hc := chL_len hq.tree hs.1 hs.2; have hd := hq.tree.depth_ hs.1 hs.2; unfold buildF; rw [if_pos hs]; refine ⟨?_, ?_, rfl⟩
  ·show ((rcL es s).take 8).length ≤ 1000
   rw [List.length_take, rcL, List.length_reverse]; omega
  ·show ((rcL es s).drop 8).length ≤ 1000
   rw [List.length_drop, rcL, List.length_reverse]; omega
 have AT := Lib.hid (at_tot (buildF es s).1 (buildF es s).2.1 (buildF es s).2.2.1 hbs.1 hbs.2.1 (ent es t).depth hdt.1 (by omega)); have hL : Hid (lookF es s t = if isI (ent es t).c = true ∧ s = t then (true, 1) else if isI (ent es t).c = false then (atF (buildF es s).1 (buildF es s).2.1 (ent es t).depth == t, 1) else (decide (t ∈ (buildF es s).2.2.1), 1 + scanN t (buildF es s).2.2.1)) := Lib.hid (by rw [hbs.2.2]; rfl)
 have hclo : (buildF es s).2.2.1.length ≤ 1000 := by rw [hbs.2.2]; exact hcl
 generalize lookF es s t = L at *; generalize buildF es s = B at *; generalize isI (ent es t).c = iI at *; generalize (ent es t).depth = dt at *; obtain ⟨bp, bd, bc, be⟩ := B; have q0 : wr.cell? ⟨br, 0, none⟩ = some (.int .i64 n) := (blk_cell hblk 0).trans rfl; have f0 := blk_frozen hblk 0; have B1 := Lib.hid (blk_put hblk 0 (.int .i64 (n + 1)) rfl); have H1 := Lib.hid (hb.setCell (p := ⟨br, 0, none⟩) hbr (.int .i64 (n + 1))); clear hblk hb hq hbs; go_enter Tryd.func38, Tryd.ntmps38
 go_upto_region 2 with (fail)
 generalize wr.setCell ⟨br, 0, none⟩ (.int .i64 (n + 1)) = w1 at *; have C1 := Lib.hid (IF.out w1 H1.out); clear q0 f0
 cases iI with
 | false =>
  have hL2 : Hid (L = (atF bp bd dt == t, 1)) := Lib.hid (by rw [hL.out, if_neg (fun h => by cases h.1), if_pos rfl]); clear hL; go_wp2_with fail; refine C1.out.mono ?_; rintro e w2 ⟨rfl, hb2⟩; have H2 := Lib.hid (H1.out.trans (hb2.mono H1.out.size)); have B2 := Lib.hid (blk_below B1.out hb2); have CB := Lib.hid (BD.out w2 H2.out); clear C1 hb2 B1 H1; go_wp2_with fail; refine CB.out.mono ?_; rintro e w3 ⟨v0, v1, v2, rfl, R0, R1, R2, hb3⟩; obtain ⟨A0, c0, rfl⟩ := Kd.R_slice R0; obtain ⟨A1, c1, rfl⟩ := Kd.R_slice R1; obtain ⟨A2, c2, rfl⟩ := Kd.R_slice R2; have L0 := Lib.hid (Kd.R_reads' R0).2.1; have L1 := Lib.hid (Kd.R_reads' R1).2.1; have L2 := Lib.hid (Kd.R_reads' R2).2.1; have H3 := Lib.hid (H2.out.trans (hb3.mono H2.out.size)); have B3 := Lib.hid (blk_below B2.out hb3); replace R0 := Lib.hid R0; replace R1 := Lib.hid R1; replace R2 := Lib.hid R2; clear CB hb3 B2 H2; have H4 := Lib.hid (H3.out.alloc H3.out.size (.cells #[.slice A0 bp.length c0, .slice A1 bd.length c1, .slice A2 bc.length c2] 45)); have D4 := Lib.hid (blk_new w3 (.cells #[.slice A0 bp.length c0, .slice A1 bd.length c1, .slice A2 bc.length c2] 45)); have A4 := (Below.refl w3.heap.size w3).alloc (Nat.le_refl _) (.cells #[.slice A0 bp.length c0, .slice A1 bd.length c1, .slice A2 bc.length c2] 45); have B4 := Lib.hid (blk_below B3.out A4); replace R0 := Lib.hid (Kd.C_below (Kd.R_reads' R0.out).2.2 A4); replace R1 := Lib.hid (Kd.C_below (Kd.R_reads' R1.out).2.2 A4); replace R2 := Lib.hid (Kd.C_below (Kd.R_reads' R2.out).2.2 A4); have C4 := Lib.hid (IF.out _ H4.out); clear A4 B3 H3; go_wp2_with fail; refine C4.out.mono ?_; rintro e w5 ⟨rfl, hb5⟩; have H5 := Lib.hid (H4.out.trans (hb5.mono H4.out.size)); have B5 := Lib.hid (blk_below B4.out hb5); have D5 := Lib.hid (blk_below D4.out hb5); replace R0 := Lib.hid (Kd.C_below R0.out hb5); replace R1 := Lib.hid (Kd.C_below R1.out hb5); replace R2 := Lib.hid (Kd.C_below R2.out hb5); have C5 := Lib.hid (DP.out _ H5.out); clear C4 hb5 B4 D4 H4; go_wp2_with fail; refine C5.out.mono ?_; rintro e w6 ⟨rfl, hb6⟩; have H6 := Lib.hid (H5.out.trans (hb6.mono H5.out.size)); have B6 := Lib.hid (blk_below B5.out hb6); have D6 := Lib.hid (blk_below D5.out hb6); replace R0 := Lib.hid (Kd.C_below R0.out hb6); replace R1 := Lib.hid (Kd.C_below R1.out hb6); replace R2 := Lib.hid (Kd.C_below R2.out hb6); clear C5 hb6 B5 D5 H5; have x0 : w6.cell? ⟨w3.heap.size, 0, none⟩ = some (.slice A0 bp.length c0) := (blk_cell D6.out 0).trans rfl; have x1 : w6.cell? ⟨w3.heap.size, 1, none⟩ = some (.slice A1 bd.length c1) := (blk_cell D6.out 1).trans rfl; have x2 : w6.cell? ⟨w3.heap.size, 2, none⟩ = some (.slice A2 bc.length c2) := (blk_cell D6.out 2).trans rfl; have C6 := Lib.hid (display_at.calls A0 c0 bp A1 c1 bd A2 c2 bc dt (atF bp bd dt) w6 R0.out L0.out R1.out L1.out R2.out L2.out AT.out); go_wp2_with fail; refine C6.out.mono ?_; rintro e w7 ⟨rfl, hb7⟩; go_wp2; go_ret
  exact ⟨by rw [hL2.out]; rfl, by rw [hL2.out]; exact blk_below B6.out hb7, H6.out.trans (hb7.mono H6.out.size)⟩
 | true =>
  by_cases hst : s = t
  ·have hst2 : (s == t) = true := beq_iff_eq.2 hst
   have hL2 : Hid (L = (true, 1)) := Lib.hid (by rw [hL.out, if_pos ⟨rfl, hst⟩]); clear hL hst; go_wp2_with fail; refine C1.out.mono ?_; rintro e w2 ⟨rfl, hb2⟩; go_wp2; go_ret
   exact ⟨by rw [hL2.out]; rfl, by rw [hL2.out]; exact blk_below B1.out hb2, H1.out.trans (hb2.mono H1.out.size)⟩
  ·have hst2 : (s == t) = false := beq_eq_false_iff_ne.2 hst
   have hL2 : Hid (L = (decide (t ∈ bc), 1 + scanN t bc)) := Lib.hid (by rw [hL.out, if_neg (fun h => hst h.2), if_neg (by decide)]); clear hL hst; go_wp2_with fail; refine C1.out.mono ?_; rintro e w2 ⟨rfl, hb2⟩; have H2 := Lib.hid (H1.out.trans (hb2.mono H1.out.size)); have B2 := Lib.hid (blk_below B1.out hb2); have CB := Lib.hid (BD.out w2 H2.out); clear C1 hb2 B1 H1; go_wp2_with fail; refine CB.out.mono ?_; rintro e w3 ⟨v0, v1, v2, rfl, R0, R1, R2, hb3⟩; obtain ⟨A0, c0, rfl⟩ := Kd.R_slice R0; obtain ⟨A1, c1, rfl⟩ := Kd.R_slice R1; obtain ⟨A2, c2, rfl⟩ := Kd.R_slice R2
   have hne : Hid (∀ ad, A2 = some ad → ad.block ≠ br) := Lib.hid (by
    rintro ad rfl he; have h1 := ((Kd.R_bound R2).1 ad.block rfl).2.1; have h2 := blk_lt B2.out
    omega)
   have H3 := Lib.hid (H2.out.trans (hb3.mono H2.out.size)); have B3 := Lib.hid (blk_below B2.out hb3); replace R0 := Lib.hid R0; replace R1 := Lib.hid R1; replace R2 := Lib.hid R2; clear CB hb3 B2 H2; have H4 := Lib.hid (H3.out.alloc H3.out.size (.cells #[.slice A0 bp.length c0, .slice A1 bd.length c1, .slice A2 bc.length c2] 45)); have D4 := Lib.hid (blk_new w3 (.cells #[.slice A0 bp.length c0, .slice A1 bd.length c1, .slice A2 bc.length c2] 45)); have A4 := (Below.refl w3.heap.size w3).alloc (Nat.le_refl _) (.cells #[.slice A0 bp.length c0, .slice A1 bd.length c1, .slice A2 bc.length c2] 45); have B4 := Lib.hid (blk_below B3.out A4); replace R0 := Lib.hid (Kd.C_below (Kd.R_reads' R0.out).2.2 A4); replace R1 := Lib.hid (Kd.C_below (Kd.R_reads' R1.out).2.2 A4); replace R2 := Lib.hid (Kd.C_below (Kd.R_reads' R2.out).2.2 A4); have C4 := Lib.hid (IF.out _ H4.out); clear A4 B3 H3; go_wp2_with fail; refine C4.out.mono ?_; rintro e w5 ⟨rfl, hb5⟩; have H5 := Lib.hid (H4.out.trans (hb5.mono H4.out.size)); have B5 := Lib.hid (blk_below B4.out hb5); have D5 := Lib.hid (blk_below D4.out hb5); have M5 := Lib.hid (Kd.C_below R2.out hb5); clear C4 hb5 B4 D4 H4 R0 R1 R2; have x2 : w5.cell? ⟨w3.heap.size, 2, none⟩ = some (.slice A2 bc.length c2) := (blk_cell D5.out 2).trans rfl; go_wp2
   go_loopw [52] (fun v52 wx => ∃ j : Nat, j ≤ bc.length ∧ v52 = .int .i64 j ∧ Hid (∀ i, i < j → bc[i]? ≠ some t) ∧ Hid (wx.heap[br]? = some (.cells #[.int .i64 (n + 1 + j)] 3 (0, 0))) ∧ Hid (∀ ad, A2 = some ad → wx.heap[ad.block]? = w5.heap[ad.block]?) ∧ Hid (Below w.heap.size w wx)) (fun v52 _ => bc.length - (intOf v52).toNat)
   case atStart => exact ⟨0, Nat.zero_le _, rfl, Lib.hid (fun i hi => absurd hi (by omega)), Lib.hid (by simpa using B5.out), Lib.hid (fun _ _ => rfl), H5⟩
   case round =>
    clear B5 D5 H5 x2; obtain ⟨j, hj, rfl, HN, BX, MX, HX⟩ := hrel; have hsc := scan_at bc t j
    by_cases hlt : j < bc.length
    ·have hjd : decide (j < bc.length) = true := decide_eq_true hlt
     obtain ⟨ad, rfl, hcell⟩ := Kd.at_int M5.out (j : Int) (by omega) (by omega)
     have hgj : bc[j]? = some (rd bc (j : Int)) := by simp [rd, List.getD_eq_getElem?_getD, List.getElem?_eq_getElem hlt]
     have hcell : wr.cell? (ad.add (j : Int).toNat) = some (.int .i64 (rd bc (j : Int))) := by rw [cell_heap (MX.out ad rfl)]; exact hcell
     rw [Int.toNat_natCast] at hcell; have q0 : wr.cell? ⟨br, 0, none⟩ = some (.int .i64 (n + 1 + j)) := (blk_cell BX.out 0).trans rfl; have f0 := blk_frozen BX.out 0; have B1 := Lib.hid (blk_put BX.out 0 (.int .i64 (n + 1 + j + 1)) rfl); have H1 := Lib.hid (HX.out.setCell (p := ⟨br, 0, none⟩) hbr (.int .i64 (n + 1 + j + 1)))
     have M1 : Hid (∀ ad', some ad = some ad' → (wr.setCell ⟨br, 0, none⟩ (.int .i64 (n + 1 + j + 1))).heap[ad'.block]? = w5.heap[ad'.block]?) := Lib.hid (by
      intro ad' he
      cases he
      exact (Below.heap_setCell wr ⟨br, 0, none⟩ _ _ (hne.out _ rfl)).trans (MX.out _ rfl))
     generalize hx : rd bc (j : Int) = x at *; clear BX HX MX hx
     by_cases hxt : x = t
     ·have e1 : (x == t) = true := beq_iff_eq.2 hxt
      have hs2 := hsc.1 HN.out (by rw [hgj, hxt]); replace hs2 := Lib.hid hs2; clear hxt hsc; go_wp2; go_ret
      exact ⟨by rw [hL2.out, hs2.out.1]; rfl, by rw [hL2.out]; show _ = some (Obj.cells #[.int .i64 (n + (1 + scanN t bc))] _ _); rw [hs2.out.2, show n + (1 + ((j : Int) + 1)) = n + 1 + j + 1 by omega]; exact B1.out, H1.out⟩
     ·have e1 : (x == t) = false := beq_eq_false_iff_ne.2 hxt
      have hN2 : Hid (∀ i, i < j + 1 → bc[i]? ≠ some t) := Lib.hid (by
       intro i hi
       by_cases hij : i = j
       ·subst hij
        rw [hgj]
        exact fun h => hxt (Option.some.inj h)
       ·exact HN.out i (by omega))
      clear hxt hsc hgj; go_wp2; refine ⟨⟨j + 1, by omega, by push_cast; rfl, hN2, Lib.hid (by rw [show n + 1 + ((j + 1 : Nat) : Int) = n + 1 + j + 1 by omega]; exact B1.out), M1, H1⟩, by simp [intOf]; omega⟩
    ·have hjd : decide (j < bc.length) = false := decide_eq_false hlt
     have hs2 := hsc.2 HN.out (by omega); replace hs2 := Lib.hid hs2
     have hje : j = bc.length := by omega
     replace hje := Lib.hid hje; clear hsc; go_wp2; go_ret
     exact ⟨by rw [hL2.out, hs2.out.1]; rfl, by rw [hL2.out]; show _ = some (Obj.cells #[.int .i64 (n + (1 + scanN t bc))] _ _); rw [hs2.out.2, show n + (1 + (bc.length : Int)) = n + 1 + j by have := hje.out; omega]; exact BX.out, HX.out⟩
theorem index_i0 (s t : Int) (w : World) : (Instr.index 82 (.agg #[.int .i64 s, .int .i64 t]) (.int .i64 0)).run Tryd.prog w = .ok (.int .i64 s) w := by rfl
theorem index_i1 (s t : Int) (w : World) : (Instr.index 82 (.agg #[.int .i64 s, .int .i64 t]) (.int .i64 1)).run Tryd.prog w = .ok (.int .i64 t) w := by rfl
def display_Test.f (a0 : List Hi.Ent) (a1 : Int) (a2 : Int) : Option (Bool × Int × Int) := some (testF a0 a1 a2)
theorem display_Test.calls (G_ : Nat) (a0 : List Hi.Ent) (a1 : Int) (a2 : Int) (r1 : Bool) (r2 : Int) (r3 : Int) (w : World) (hq0 : WOK w G_ a0) (h : display_Test.f a0 a1 a2 = some (r1, r2, r3)) :
  Calls Tryd.prog 19 #[.pointer (some ⟨G_, 0, none⟩), .int .i64 a1, .int .i64 a2] w fun e w' => e = .returned (.tuple #[.bool r1, .int .i64 r2, .int .i64 r3]) ∧ Below w.heap.size w w' := by
 have hF := Lib.hid (Option.some.inj h); have BB := Lib.hid ((Below.refl w.heap.size w).alloc (Nat.le_refl _) (.cells #[.int .i64 0] 3)); have B0 := Lib.hid (blk_new w (.cells #[.int .i64 0] 3)); have CL := Lib.hid (fun (W : World) (hb : Below w.heap.size w W) (i : Int) => hier_World_Class.calls G_ a0 i (classF a0 i).1.f0 (classF a0 i).1.f1 (classF a0 i).1.f2 (classF a0 i).1.f3 (classF a0 i).1.f4 (classF a0 i).1.f5 (classF a0 i).2 W (hq0.below hb) rfl); have LK := Lib.hid (fun (wr : World) (hb : Below w.heap.size w wr) (hblk : wr.heap[w.heap.size]? = some (.cells #[.int .i64 0] 3 (0, 0))) (h1 : 0 ≤ a1 ∧ a1 < a0.length) (h2 : 0 ≤ a2 ∧ a2 < a0.length) => look_any w wr G_ a0 hq0 hb w.heap.size (Nat.le_refl _) 0 (by decide) (by decide) hblk a1 a2 h1 h2); have I0 := fun w => index_i0 a1 a2 w; have I1 := fun w => index_i1 a1 a2 w; have E1 : Hid ((classF a0 a1).2 = if 0 ≤ a1 ∧ a1 < a0.length then 0 else 3) := Lib.hid (by unfold classF; split <;> rfl); have E2 : Hid ((classF a0 a2).2 = if 0 ≤ a2 ∧ a2 < a0.length then 0 else 3) := Lib.hid (by unfold classF; split <;> rfl); have C1 := Lib.hid (CL.out _ BB.out a1); have C2 := Lib.hid (fun W hb => CL.out W hb a2); clear h hq0 CL; unfold testF at hF; generalize classF a0 a1 = K1 at *; generalize classF a0 a2 = K2 at *; obtain ⟨⟨x0, x1, x2, x3, x4, x5⟩, xe⟩ := K1; obtain ⟨⟨y0, y1, y2, y3, y4, y5⟩, ye⟩ := K2; simp only at C1 C2 E1 E2; generalize lookF a0 a1 a2 = L at *; have q0 : (w.alloc (.cells #[.int .i64 0] 3)).cell? ⟨w.heap.size, 0, none⟩ = some (.int .i64 0) := (blk_cell B0.out 0).trans rfl; have f0 := blk_frozen B0.out 0; go_enter Tryd.func19, Tryd.ntmps19; go_wp2_with fail; generalize w.alloc (.cells #[.int .i64 0] 3) = w0 at *; refine wp_loop_rounds 3 ?_; rw [rounds_succ]; go_wp2_with fail; refine C1.out.mono ?_; rintro e w1 ⟨v2, v5, rfl, R2, R5, hb1⟩; obtain ⟨A2, c2, rfl⟩ := Kd.R_slice R2; obtain ⟨A5, c5, rfl⟩ := Kd.R_slice R5; have M1 := Lib.hid ((BB.out.trans (hb1.mono BB.out.size)).alloc (BB.out.trans (hb1.mono BB.out.size)).size (.cells #[.string x0, .string x1, .slice A2 x2.length c2, .int .i64 x3, .int .i64 x4, .slice A5 x5.length c5] 40)); have Z1 := Lib.hid (blk_below (blk_below B0.out hb1) ((Below.refl w1.heap.size w1).alloc (Nat.le_refl _) (.cells #[.string x0, .string x1, .slice A2 x2.length c2, .int .i64 x3, .int .i64 x4, .slice A5 x5.length c5] 40))); have q0 : (w1.alloc (.cells #[.string x0, .string x1, .slice A2 x2.length c2, .int .i64 x3, .int .i64 x4, .slice A5 x5.length c5] 40)).cell? ⟨w.heap.size, 0, none⟩ = some (.int .i64 0) := (blk_cell Z1.out 0).trans rfl; have f0 := blk_frozen Z1.out 0; clear C1 hb1 R2 R5 BB B0
 by_cases h1 : 0 ≤ a1 ∧ a1 < a0.length
 ·have hx : xe = 0 := by rw [E1.out, if_pos h1]
  rw [if_pos h1] at hF; have hk1 := Lib.hid h1; subst hx; clear h1 E1; have L2 := Lib.hid (C2.out _ M1.out); go_wp2_with fail; rw [rounds_succ]; go_wp2_with fail; refine L2.out.mono ?_; rintro e w2 ⟨v2, v5, rfl, R2, R5, hb2⟩; obtain ⟨B2, d2, rfl⟩ := Kd.R_slice R2; obtain ⟨B5, d5, rfl⟩ := Kd.R_slice R5; have M2 := Lib.hid ((M1.out.trans (hb2.mono M1.out.size)).alloc (M1.out.trans (hb2.mono M1.out.size)).size (.cells #[.string y0, .string y1, .slice B2 y2.length d2, .int .i64 y3, .int .i64 y4, .slice B5 y5.length d5] 40)); have Z2 := Lib.hid (blk_below (blk_below Z1.out hb2) ((Below.refl w2.heap.size w2).alloc (Nat.le_refl _) (.cells #[.string y0, .string y1, .slice B2 y2.length d2, .int .i64 y3, .int .i64 y4, .slice B5 y5.length d5] 40))); have q0 : (w2.alloc (.cells #[.string y0, .string y1, .slice B2 y2.length d2, .int .i64 y3, .int .i64 y4, .slice B5 y5.length d5] 40)).cell? ⟨w.heap.size, 0, none⟩ = some (.int .i64 0) := (blk_cell Z2.out 0).trans rfl; have f0 := blk_frozen Z2.out 0; clear L2 hb2 R2 R5 M1 Z1 C2
  by_cases h2 : 0 ≤ a2 ∧ a2 < a0.length
  ·have hy : ye = 0 := by rw [E2.out, if_pos h2]
   rw [if_pos h2] at hF; subst hy; have L3 := Lib.hid (LK.out _ M2.out Z2.out hk1.out h2); clear h2 E2 LK; go_wp2_with fail; rw [rounds_succ]; go_wp2_with fail; refine L3.out.mono ?_; rintro e w3 ⟨rfl, Z3, M3⟩; have q0 : w3.cell? ⟨w.heap.size, 0, none⟩ = some (.int .i64 (0 + L.2)) := (blk_cell Z3 0).trans rfl; rw [Int.zero_add] at q0; have f0 := blk_frozen Z3 0; have Z4 := Lib.hid (blk_put Z3 0 (.int .i64 L.2) rfl); replace M3 := Lib.hid M3; clear L3 Z2 Z3 M2; go_wp2; go_region
   all_goals go_wp2
   have z4 : (w3.setCell ⟨w.heap.size, 0, none⟩ (.int .i64 L.2)).drew.cell? ⟨w.heap.size, 0, none⟩ = some (.int .i64 L.2) := (blk_cell (blk_drew Z4.out) 0).trans rfl; refine bodyPost_ret (v := .tuple #[.bool L.1, .int .i64 L.2, .int .i64 0]) (by simp [results, Tryd.results19, go_sem, z4]) rfl ⟨?_, below_drew1 (Below.setCell (p := ⟨w.heap.size, 0, none⟩) M3.out (Nat.le_refl _) _)⟩; have := hF.out
   cases this
   rfl
  ·have hy : (ye != 0) = true := by rw [E2.out, if_neg h2]; rfl
   have hye : ye = 3 := by rw [E2.out, if_neg h2]
   rw [if_neg h2] at hF; clear h2 E2 LK; go_wp2; have z4 : ((w2.alloc (.cells #[.string y0, .string y1, .slice B2 y2.length d2, .int .i64 y3, .int .i64 y4, .slice B5 y5.length d5] 40)).setCell ⟨w.heap.size, 0, none⟩ (.int .i64 0)).cell? ⟨w.heap.size, 0, none⟩ = some (.int .i64 0) := (blk_cell (blk_put Z2.out 0 (.int .i64 0) rfl) 0).trans rfl; refine bodyPost_ret (v := .tuple #[.bool false, .int .i64 0, .int .i64 3]) (by simp [results, Tryd.results19, go_sem, z4, hye]) rfl ⟨?_, Below.setCell (p := ⟨w.heap.size, 0, none⟩) M2.out (Nat.le_refl _) _⟩; have := hF.out
   cases this
   rfl
 ·have hx : (xe != 0) = true := by rw [E1.out, if_neg h1]; rfl
  have hxe : xe = 3 := by rw [E1.out, if_neg h1]
  rw [if_neg h1] at hF; clear h1 E1 LK; go_wp2; have z4 : ((w1.alloc (.cells #[.string x0, .string x1, .slice A2 x2.length c2, .int .i64 x3, .int .i64 x4, .slice A5 x5.length c5] 40)).setCell ⟨w.heap.size, 0, none⟩ (.int .i64 0)).cell? ⟨w.heap.size, 0, none⟩ = some (.int .i64 0) := (blk_cell (blk_put Z1.out 0 (.int .i64 0) rfl) 0).trans rfl; refine bodyPost_ret (v := .tuple #[.bool false, .int .i64 0, .int .i64 3]) (by simp [results, Tryd.results19, go_sem, z4, hxe]) rfl ⟨?_, Below.setCell (p := ⟨w.heap.size, 0, none⟩) M1.out (Nat.le_refl _) _⟩; have := hF.out
  cases this
  rfl
end Go.Proofs.YtaipkdglhfhhiaaDoor.Pt

namespace Go.Proofs.YtaipkdglhfhhiaaDoor.Pt
open Go.RowKit Go.Proofs.YtaipkdglhfhhiaaDoorW.PrintWords Go.Proofs.YtaipkdglhfhhiaaDoorW.PrintLast Go.Proofs.YtaipkdglhfhhiaaDoorW.PrintMore
attribute [local go_sem] max2_int min2_int max_two min_two max_three min_three max_four min_four   -- for this text's walks alone
set_option linter.unusedVariables false
set_option linter.unusedSimpArgs false
def display_TestTypes.j0 : Nat → List Hi.Ent → Bool → Bool → Int → ByteArray → Int → ByteArray → Option (Bool × Int × Int)
 | 0, _, _, _, _, _, _, _ => none
 | k + 1, x0, x6, x56, x151000, x151001, x152000, x152001 => if x56 = true then (some (x6, 1, 0)) else ((hier_World_ByName.f x0 x151001).bind fun bt154 => ((hier_World_ByName.f x0 x152001).bind fun bt156 => ((display_Test.f x0 bt154.1 bt156.1).bind fun bt158 => (some (bt158.1, bt158.2.1, bt158.2.2)))))
def display_TestTypes.f (k : Nat) (a0 : List Hi.Ent) (a1_0 : Int) (a1_1 : ByteArray) (a2_0 : Int) (a2_1 : ByteArray) : Option (Bool × Int × Int) := (arrays_Sub.f a0 a1_0 a1_1 a2_0 a2_1).bind fun bt152 => (if bt152.2 = 0 then (if (wrap64 (a1_0 - (mn a1_0 a2_0))) > 0 then (display_TestTypes.j0 k a0 bt152.1 true (wrap64 (a1_0 - (mn a1_0 a2_0))) a1_1 (wrap64 (a2_0 - (mn a1_0 a2_0))) a2_1) else (if (wrap64 (a2_0 - (mn a1_0 a2_0))) > 0 then (display_TestTypes.j0 k a0 bt152.1 true (wrap64 (a1_0 - (mn a1_0 a2_0))) a1_1 (wrap64 (a2_0 - (mn a1_0 a2_0))) a2_1) else (if a1_1.toList = ([] : List UInt8) then (display_TestTypes.j0 k a0 bt152.1 true (wrap64 (a1_0 - (mn a1_0 a2_0))) a1_1 (wrap64 (a2_0 - (mn a1_0 a2_0))) a2_1) else (display_TestTypes.j0 k a0 bt152.1 (a2_1.toList == ([] : List UInt8)) (wrap64 (a1_0 - (mn a1_0 a2_0))) a1_1 (wrap64 (a2_0 - (mn a1_0 a2_0))) a2_1)))) else (some (false, 0, bt152.2)))
set_option maxHeartbeats 8000000 in
set_option maxRecDepth 100000 in
theorem display_TestTypes.calls (k : Nat) (G_ : Nat) (a0 : List Hi.Ent) (a1_0 : Int) (a1_1 : ByteArray) (a2_0 : Int) (a2_1 : ByteArray) (r1 : Bool) (r2 : Int) (r3 : Int) (w : World) (hq0 : WOK w G_ a0) (h : display_TestTypes.f k a0 a1_0 a1_1 a2_0 a2_1 = some (r1, r2, r3)) :
  Calls Tryd.prog 8 #[.pointer (some ⟨G_, 0, none⟩), .agg #[.int .i64 a1_0, .string a1_1], .agg #[.int .i64 a2_0, .string a2_1]] w fun e w' => e = .returned (.tuple #[.bool r1, .int .i64 r2, .int .i64 r3]) ∧ Below w.heap.size w w' := by
 have hu31 := Tryd.underlying31; have HQa0 := Aside0.mk hq0; clear hq0; have HB := Aside0.mk (Below.refl w.heap.size w); have H : ((arrays_Sub.f a0 a1_0 a1_1 a2_0 a2_1).bind fun bt152 => (if bt152.2 = 0 then (if (wrap64 (a1_0 - (mn a1_0 a2_0))) > 0 then (display_TestTypes.j0 k a0 bt152.1 true (wrap64 (a1_0 - (mn a1_0 a2_0))) a1_1 (wrap64 (a2_0 - (mn a1_0 a2_0))) a2_1) else (if (wrap64 (a2_0 - (mn a1_0 a2_0))) > 0 then (display_TestTypes.j0 k a0 bt152.1 true (wrap64 (a1_0 - (mn a1_0 a2_0))) a1_1 (wrap64 (a2_0 - (mn a1_0 a2_0))) a2_1) else (if a1_1.toList = ([] : List UInt8) then (display_TestTypes.j0 k a0 bt152.1 true (wrap64 (a1_0 - (mn a1_0 a2_0))) a1_1 (wrap64 (a2_0 - (mn a1_0 a2_0))) a2_1) else (display_TestTypes.j0 k a0 bt152.1 (a2_1.toList == ([] : List UInt8)) (wrap64 (a1_0 - (mn a1_0 a2_0))) a1_1 (wrap64 (a2_0 - (mn a1_0 a2_0))) a2_1)))) else (some (false, 0, bt152.2)))) = some (r1, r2, r3) := h; clear h; replace H := Option.bind_eq_some_iff.mp H; obtain ⟨⟨t152, t153⟩, A40, H⟩ := H; replace H : (if t153 = 0 then (if (wrap64 (a1_0 - (mn a1_0 a2_0))) > 0 then (display_TestTypes.j0 k a0 t152 true (wrap64 (a1_0 - (mn a1_0 a2_0))) a1_1 (wrap64 (a2_0 - (mn a1_0 a2_0))) a2_1) else (if (wrap64 (a2_0 - (mn a1_0 a2_0))) > 0 then (display_TestTypes.j0 k a0 t152 true (wrap64 (a1_0 - (mn a1_0 a2_0))) a1_1 (wrap64 (a2_0 - (mn a1_0 a2_0))) a2_1) else (if a1_1.toList = ([] : List UInt8) then (display_TestTypes.j0 k a0 t152 true (wrap64 (a1_0 - (mn a1_0 a2_0))) a1_1 (wrap64 (a2_0 - (mn a1_0 a2_0))) a2_1) else (display_TestTypes.j0 k a0 t152 (a2_1.toList == ([] : List UInt8)) (wrap64 (a1_0 - (mn a1_0 a2_0))) a1_1 (wrap64 (a2_0 - (mn a1_0 a2_0))) a2_1)))) else (some (false, 0, t153))) = some (r1, r2, r3) := H; have A4 := Aside0.mk A40; clear A40
 by_cases c5 : t153 = 0
 ·rw [if_pos c5] at H
  have c5b0 : (t153 == 0) = true := beq_iff_eq.mpr c5; have c5b1 : (t153 != 0) = false := bne_eq_false_iff_eq.mpr c5; clear c5
  obtain ⟨ji6, hji6⟩ : ∃ j_ : Int, (mn a1_0 a2_0) = j_ := ⟨_, rfl⟩
  replace H : (if (wrap64 (a1_0 - (ji6))) > 0 then (display_TestTypes.j0 k a0 t152 true (wrap64 (a1_0 - (ji6))) a1_1 (wrap64 (a2_0 - (ji6))) a2_1) else (if (wrap64 (a2_0 - (ji6))) > 0 then (display_TestTypes.j0 k a0 t152 true (wrap64 (a1_0 - (ji6))) a1_1 (wrap64 (a2_0 - (ji6))) a2_1) else (if a1_1.toList = ([] : List UInt8) then (display_TestTypes.j0 k a0 t152 true (wrap64 (a1_0 - (ji6))) a1_1 (wrap64 (a2_0 - (ji6))) a2_1) else (display_TestTypes.j0 k a0 t152 (a2_1.toList == ([] : List UInt8)) (wrap64 (a1_0 - (ji6))) a1_1 (wrap64 (a2_0 - (ji6))) a2_1)))) = some (r1, r2, r3) := by first | (rw [hji6] at H; exact H) | (simp only [hji6] at H ⊢; exact H)
  (try rw [hji6] at A4)
  have hji6_ : (if a2_0 < a1_0 then a2_0 else a1_0) = ji6 := hji6; have HC7 := Aside0.mk H; clear H; go_enter Tryd.func8, Tryd.ntmps8
  go_upto_region 7 with (first | ((with_reducible refine gate_dst (N := 4) rfl ?_); refine eX 4 #[.int .i64 a1_0, .string a1_1] 31 ?_; intro gb150 hg w8 hbox hb; have n0_ := Aside0.mk (below_step (bX HB) hb); have n1_ := Aside0.mk (hbox); have n2_ := Aside0.mk ((by rw [hg]; exact (below_size (bX HB)) : w.heap.size ≤ gb150)); have n3_ := Aside0.mk ((by rw [hg]; exact (below_size (bX HB)) : w.heap.size ≤ gb150)); clear HB; have HB := n0_; have BK150 := n1_; have GW150 := n2_; have GE150 := n3_; clear n0_ n1_ n2_ n3_; clear hb hbox hg) | ((with_reducible refine gate_dst (N := 5) rfl ?_); refine eX 5 #[.int .i64 a2_0, .string a2_1] 31 ?_; intro gb151 hg w9 hbox hb; have n0_ := Aside0.mk (blk_below (kX BK150) hb); have n1_ := Aside0.mk (below_step (bX1 HB GE150) hb); have n2_ := Aside0.mk (hbox); have n3_ := Aside0.mk ((by rw [hg]; exact (below_size (bX1 HB GE150)) : w.heap.size ≤ gb151)); have n4_ := Aside0.mk ((by rw [hg]; exact (below_size (bX1 HB GE150)) : w.heap.size ≤ gb151)); have n5_ := Aside0.mk ((by rw [hg]; exact Nat.ne_of_lt (blk_lt (kX BK150)) : gb150 ≠ gb151)); have n6_ := Aside0.mk ((by rw [hg]; exact Nat.ne_of_gt (blk_lt (kX BK150)) : gb151 ≠ gb150)); clear BK150; clear HB; have BK150 := n0_; have HB := n1_; have BK151 := n2_; have GW151 := n3_; have GE151 := n4_; have NB150_151 := n5_; have NB151_150 := n6_; clear n0_ n1_ n2_ n3_ n4_ n5_ n6_; clear hb hbox hg; have hnb10 := NB150_151.out; have hnc10 := NB151_150.out; obtain ⟨hcz11_0, hcz11_1, hfz11_0, hfz11_1⟩ := c2X BK150; obtain ⟨hcz12_0, hcz12_1, hfz12_0, hfz12_1⟩ := c2X BK151) | ((with_reducible refine gate_callee (f := 9) rfl ?_); refine gX (some 18) Tryd.func9 #[.pointer (some ⟨G_, 0, none⟩), .agg #[.int .i64 a1_0, .string a1_1], .agg #[.int .i64 a2_0, .string a2_1]] ?_; (with_reducible refine (arrays_Sub.calls G_ a0 a1_0 a1_1 a2_0 a2_1 t152 t153 _ ?side1 A4.out).mono ?_); (case side1 => repeat (first | (with_reducible exact HQa0.out) | (with_reducible refine WOK.alloc ?_ _) | (with_reducible refine WOK.drewN ?_ _) | (with_reducible refine WOK.drew ?_) | exact WOK.below HQa0.out HB.out | exact WOK.below HQa0.out (bX2 HB GE150 GE151))); rintro e w13 ⟨rfl, hb⟩; refine ⟨_, rfl, ?_⟩; have n0_ := Aside0.mk (blk_below (kX BK150) hb); have n1_ := Aside0.mk (blk_below (kX BK151) hb); have n2_ := Aside0.mk (below_step (bX2 HB GE150 GE151) hb); clear BK150; clear BK151; clear HB; have BK150 := n0_; have BK151 := n1_; have HB := n2_; clear n0_ n1_ n2_; (try clear hb); (try clear hb2); (try clear hk); (try clear hi); obtain ⟨hcz14_0, hcz14_1, hfz14_0, hfz14_1⟩ := c2X BK150; obtain ⟨hcz15_0, hcz15_1, hfz15_0, hfz15_1⟩ := c2X BK151))
  (try simp only [Act.put, List.setIfInBounds_toArray, List.set_cons_zero, List.set_cons_succ])
  go_cut [56] (fun v56 wc => ∃ (kq : Nat) (x56_6 : Bool), v56 = .bool x56_6 ∧ Aside0 (display_TestTypes.j0 kq a0 t152 x56_6 (wrap64 (a1_0 - (ji6))) a1_1 (wrap64 (a2_0 - (ji6))) a2_1 = some (r1, r2, r3)) ∧ Aside0 (kq ≤ k) ∧ Aside0 (wc.heap[gb150]? = some (.cells #[.int .i64 (wrap64 (a1_0 - (ji6))), .string a1_1] 31 (0, 0))) ∧ Aside0 (wc.heap[gb151]? = some (.cells #[.int .i64 (wrap64 (a2_0 - (ji6))), .string a2_1] 31 (0, 0))) ∧ Aside0 (Below w.heap.size w wc))
  case first =>
   have H := HC7.out; clear HC7
   by_cases c16 : (wrap64 (a1_0 - (ji6))) > 0
   ·rw [if_pos c16] at H
    have c16b0 : decide (0 < (wrap64 (a1_0 - (ji6)))) = true := decide_eq_true c16; clear c16
    (first | rw [c16b0] | (simp only [i64_w, i32_w]; rw [c16b0]) | skip)
    have H' := Aside0.mk H; clear H; have hnb17 := NB150_151.out; have hnc17 := NB151_150.out; obtain ⟨hcz18_0, hcz18_1, hfz18_0, hfz18_1⟩ := c2X BK150; go_wp2; go_meet
    case rel => exact ⟨_, (true), vX, H', ⟨by first | omega | exact Nat.le_refl _⟩, ⟨by (with_reducible repeat (first | refine blk_drewN ?_ _ | refine blk_drew ?_ | refine blk_alloc ?_ _)); refine blk_far ?_ NB150_151.out _; (with_reducible repeat (first | refine blk_drewN ?_ _ | refine blk_drew ?_ | refine blk_alloc ?_ _)); refine blk_put (cs := #[.int .i64 a1_0, .string a1_1]) ?_ 0 _ rfl; (with_reducible repeat (first | refine blk_drewN ?_ _ | refine blk_drew ?_ | refine blk_alloc ?_ _)); exact BK150.out⟩, ⟨by (with_reducible repeat (first | refine blk_drewN ?_ _ | refine blk_drew ?_ | refine blk_alloc ?_ _)); refine blk_put (cs := #[.int .i64 a2_0, .string a2_1]) ?_ 0 _ rfl; (with_reducible repeat (first | refine blk_drewN ?_ _ | refine blk_drew ?_ | refine blk_alloc ?_ _)); refine blk_far ?_ NB151_150.out _; (with_reducible repeat (first | refine blk_drewN ?_ _ | refine blk_drew ?_ | refine blk_alloc ?_ _)); exact BK151.out⟩, ⟨bX2 HB GE150 GE151⟩⟩
   ·rw [if_neg c16] at H
    have c16b0 : decide (0 < (wrap64 (a1_0 - (ji6)))) = false := decide_eq_false c16; clear c16
    (first | rw [c16b0] | (simp only [i64_w, i32_w]; rw [c16b0]) | skip)
    by_cases c19 : (wrap64 (a2_0 - (ji6))) > 0
    ·rw [if_pos c19] at H
     have c19b0 : decide (0 < (wrap64 (a2_0 - (ji6)))) = true := decide_eq_true c19; clear c19; have H' := Aside0.mk H; clear H; have hnb20 := NB150_151.out; have hnc20 := NB151_150.out; obtain ⟨hcz21_0, hcz21_1, hfz21_0, hfz21_1⟩ := c2X BK150; obtain ⟨hcz22_0, hcz22_1, hfz22_0, hfz22_1⟩ := c2X BK151; go_wp2; go_meet
     case rel => exact ⟨_, (true), vX, H', ⟨by first | omega | exact Nat.le_refl _⟩, ⟨by (with_reducible repeat (first | refine blk_drewN ?_ _ | refine blk_drew ?_ | refine blk_alloc ?_ _)); refine blk_far ?_ NB150_151.out _; (with_reducible repeat (first | refine blk_drewN ?_ _ | refine blk_drew ?_ | refine blk_alloc ?_ _)); refine blk_put (cs := #[.int .i64 a1_0, .string a1_1]) ?_ 0 _ rfl; (with_reducible repeat (first | refine blk_drewN ?_ _ | refine blk_drew ?_ | refine blk_alloc ?_ _)); exact BK150.out⟩, ⟨by (with_reducible repeat (first | refine blk_drewN ?_ _ | refine blk_drew ?_ | refine blk_alloc ?_ _)); refine blk_put (cs := #[.int .i64 a2_0, .string a2_1]) ?_ 0 _ rfl; (with_reducible repeat (first | refine blk_drewN ?_ _ | refine blk_drew ?_ | refine blk_alloc ?_ _)); refine blk_far ?_ NB151_150.out _; (with_reducible repeat (first | refine blk_drewN ?_ _ | refine blk_drew ?_ | refine blk_alloc ?_ _)); exact BK151.out⟩, ⟨bX2 HB GE150 GE151⟩⟩
    ·rw [if_neg c19] at H
     have c19b0 : decide (0 < (wrap64 (a2_0 - (ji6)))) = false := decide_eq_false c19; clear c19
     by_cases c23 : a1_1.toList = ([] : List UInt8)
     ·rw [if_pos c23] at H
      have c23b0 : (a1_1.toList == ([] : List UInt8)) = true := beq_iff_eq.mpr c23; have c23b1 : (a1_1.toList != ([] : List UInt8)) = false := bne_eq_false_iff_eq.mpr c23; clear c23; have H' := Aside0.mk H; clear H; have hnb24 := NB150_151.out; have hnc24 := NB151_150.out; obtain ⟨hcz25_0, hcz25_1, hfz25_0, hfz25_1⟩ := c2X BK150; obtain ⟨hcz26_0, hcz26_1, hfz26_0, hfz26_1⟩ := c2X BK151; go_wp2; go_meet
      case rel => exact ⟨_, (true), vX, H', ⟨by first | omega | exact Nat.le_refl _⟩, ⟨by (with_reducible repeat (first | refine blk_drewN ?_ _ | refine blk_drew ?_ | refine blk_alloc ?_ _)); refine blk_far ?_ NB150_151.out _; (with_reducible repeat (first | refine blk_drewN ?_ _ | refine blk_drew ?_ | refine blk_alloc ?_ _)); refine blk_put (cs := #[.int .i64 a1_0, .string a1_1]) ?_ 0 _ rfl; (with_reducible repeat (first | refine blk_drewN ?_ _ | refine blk_drew ?_ | refine blk_alloc ?_ _)); exact BK150.out⟩, ⟨by (with_reducible repeat (first | refine blk_drewN ?_ _ | refine blk_drew ?_ | refine blk_alloc ?_ _)); refine blk_put (cs := #[.int .i64 a2_0, .string a2_1]) ?_ 0 _ rfl; (with_reducible repeat (first | refine blk_drewN ?_ _ | refine blk_drew ?_ | refine blk_alloc ?_ _)); refine blk_far ?_ NB151_150.out _; (with_reducible repeat (first | refine blk_drewN ?_ _ | refine blk_drew ?_ | refine blk_alloc ?_ _)); exact BK151.out⟩, ⟨bX2 HB GE150 GE151⟩⟩
     ·rw [if_neg c23] at H
      have c23b0 : (a1_1.toList == ([] : List UInt8)) = false := beq_eq_false_iff_ne.mpr c23; have c23b1 : (a1_1.toList != ([] : List UInt8)) = true := bne_iff_ne.mpr c23; have H' := Aside0.mk H; clear H; have hnb27 := NB150_151.out; have hnc27 := NB151_150.out; obtain ⟨hcz28_0, hcz28_1, hfz28_0, hfz28_1⟩ := c2X BK150; obtain ⟨hcz29_0, hcz29_1, hfz29_0, hfz29_1⟩ := c2X BK151; go_wp2; go_meet
      case rel => exact ⟨_, ((a2_1.toList == ([] : List UInt8))), vX, H', ⟨by first | omega | exact Nat.le_refl _⟩, ⟨by (with_reducible repeat (first | refine blk_drewN ?_ _ | refine blk_drew ?_ | refine blk_alloc ?_ _)); refine blk_far ?_ NB150_151.out _; (with_reducible repeat (first | refine blk_drewN ?_ _ | refine blk_drew ?_ | refine blk_alloc ?_ _)); refine blk_put (cs := #[.int .i64 a1_0, .string a1_1]) ?_ 0 _ rfl; (with_reducible repeat (first | refine blk_drewN ?_ _ | refine blk_drew ?_ | refine blk_alloc ?_ _)); exact BK150.out⟩, ⟨by (with_reducible repeat (first | refine blk_drewN ?_ _ | refine blk_drew ?_ | refine blk_alloc ?_ _)); refine blk_put (cs := #[.int .i64 a2_0, .string a2_1]) ?_ 0 _ rfl; (with_reducible repeat (first | refine blk_drewN ?_ _ | refine blk_drew ?_ | refine blk_alloc ?_ _)); refine blk_far ?_ NB151_150.out _; (with_reducible repeat (first | refine blk_drewN ?_ _ | refine blk_drew ?_ | refine blk_alloc ?_ _)); exact BK151.out⟩, ⟨bX2 HB GE150 GE151⟩⟩
  case rest =>
   clear HC7
   try clear c1
   try clear c2
   try clear p2
   try clear c5
   try clear c5b0
   try clear c5b1
   try clear p6
   try clear c8
   try clear c9
   try clear c10
   try clear c16
   try clear c16b0
   try clear c17
   try clear c19
   try clear c19b0
   try clear c20
   try clear c23
   try clear c23b0
   try clear c23b1
   try clear c24
   try clear c27
   try clear hcz11_0 hcz11_1
   try clear hcz12_0 hcz12_1
   try clear hcz14_0 hcz14_1
   try clear hcz15_0 hcz15_1
   try clear hcz18_0 hcz18_1
   try clear hcz21_0 hcz21_1
   try clear hcz22_0 hcz22_1
   try clear hcz25_0 hcz25_1
   try clear hcz26_0 hcz26_1
   try clear hcz28_0 hcz28_1
   try clear hcz29_0 hcz29_1
   try clear hfz11_0 hfz11_1
   try clear hfz12_0 hfz12_1
   try clear hfz14_0 hfz14_1
   try clear hfz15_0 hfz15_1
   try clear hfz18_0 hfz18_1
   try clear hfz21_0 hfz21_1
   try clear hfz22_0 hfz22_1
   try clear hfz25_0 hfz25_1
   try clear hfz26_0 hfz26_1
   try clear hfz28_0 hfz28_1
   try clear hfz29_0 hfz29_1
   obtain ⟨kq, x56_6, rfl, HA, HJ6, BK150, BK151, HB⟩ := hcut
   cases kq with
   | zero => exact absurd HA.out (by simp [display_TestTypes.j0])
   | succ kj6 =>
    have H := HA.out; clear HA; simp only [display_TestTypes.j0] at H
    by_cases c30 : x56_6 = true
    ·subst c30
     have H1 : (some (t152, 1, 0)) = some (r1, r2, r3) := by rw [if_pos rfl] at H; exact H
     clear H; have H := H1; clear H1; simp only [Option.some.injEq, Prod.mk.injEq] at H; obtain ⟨rfl, rfl, rfl⟩ := H; go_wp2
     go_ret3
     exact ⟨by first | rfl | (simp [errW_none, errW_some] <;> rfl) | (simp only [← hji6]; first | rfl | (simp [errW_none, errW_some] <;> rfl)) | (simp [*, errW_none, errW_some] <;> rfl), bX2 HB GE150 GE151⟩
    ·replace c30 := Bool.eq_false_iff.mpr c30
     subst c30
     have H1 : ((hier_World_ByName.f a0 a1_1).bind fun bt154 => ((hier_World_ByName.f a0 a2_1).bind fun bt156 => ((display_Test.f a0 bt154.1 bt156.1).bind fun bt158 => (some (bt158.1, bt158.2.1, bt158.2.2))))) = some (r1, r2, r3) := by rw [if_neg (show ¬ (false = true) by decide)] at H; exact H
     clear H; have H := H1; clear H1; replace H := Option.bind_eq_some_iff.mp H; obtain ⟨⟨t154, t155⟩, A310, H⟩ := H; replace H : ((hier_World_ByName.f a0 a2_1).bind fun bt156 => ((display_Test.f a0 t154 bt156.1).bind fun bt158 => (some (bt158.1, bt158.2.1, bt158.2.2)))) = some (r1, r2, r3) := H; have A31 := Aside0.mk A310; clear A310; replace H := Option.bind_eq_some_iff.mp H; obtain ⟨⟨t156, t157⟩, A320, H⟩ := H; replace H : ((display_Test.f a0 t154 t156).bind fun bt158 => (some (bt158.1, bt158.2.1, bt158.2.2))) = some (r1, r2, r3) := H; have A32 := Aside0.mk A320; clear A320; replace H := Option.bind_eq_some_iff.mp H; obtain ⟨⟨t158, t159, t160⟩, A330, H⟩ := H; replace H : (some (t158, t159, t160)) = some (r1, r2, r3) := H; have A33 := Aside0.mk A330; clear A330; simp only [Option.some.injEq, Prod.mk.injEq] at H; obtain ⟨rfl, rfl, rfl⟩ := H; have hnb34 := NB150_151.out; have hnc34 := NB151_150.out; obtain ⟨hcz35_0, hcz35_1, hfz35_0, hfz35_1⟩ := c2X BK150; go_wp2_with (first | ((with_reducible refine gate_callee (f := 27) rfl ?_); refine gX (some 62) Tryd.func27 #[.pointer (some ⟨G_, 0, none⟩), .string a1_1] ?_; (with_reducible refine (hier_World_ByName.calls G_ a0 a1_1 t154 t155 _ ?side1 A31.out).mono ?_); (case side1 => repeat (first | (with_reducible exact HQa0.out) | (with_reducible refine WOK.alloc ?_ _) | (with_reducible refine WOK.drewN ?_ _) | (with_reducible refine WOK.drew ?_) | exact WOK.below HQa0.out HB.out | exact WOK.below HQa0.out (bX2 HB GE150 GE151))); rintro e w36 ⟨rfl, hb⟩; refine ⟨_, rfl, ?_⟩; have n0_ := Aside0.mk (blk_below (kX BK150) hb); have n1_ := Aside0.mk (blk_below (kX BK151) hb); have n2_ := Aside0.mk (below_step (bX2 HB GE150 GE151) hb); clear BK150; clear BK151; clear HB; have BK150 := n0_; have BK151 := n1_; have HB := n2_; clear n0_ n1_ n2_; (try clear hb); (try clear hb2); (try clear hk); (try clear hi); obtain ⟨hcz37_0, hcz37_1, hfz37_0, hfz37_1⟩ := c2X BK151) | ((with_reducible refine gate_callee (f := 27) rfl ?_); refine gX (some 69) Tryd.func27 #[.pointer (some ⟨G_, 0, none⟩), .string a2_1] ?_; (with_reducible refine (hier_World_ByName.calls G_ a0 a2_1 t156 t157 _ ?side1 A32.out).mono ?_); (case side1 => repeat (first | (with_reducible exact HQa0.out) | (with_reducible refine WOK.alloc ?_ _) | (with_reducible refine WOK.drewN ?_ _) | (with_reducible refine WOK.drew ?_) | exact WOK.below HQa0.out HB.out | exact WOK.below HQa0.out (bX2 HB GE150 GE151))); rintro e w38 ⟨rfl, hb⟩; refine ⟨_, rfl, ?_⟩; have n0_ := Aside0.mk (blk_below (kX BK150) hb); have n1_ := Aside0.mk (blk_below (kX BK151) hb); have n2_ := Aside0.mk (below_step (bX2 HB GE150 GE151) hb); clear BK150; clear BK151; clear HB; have BK150 := n0_; have BK151 := n1_; have HB := n2_; clear n0_ n1_ n2_; (try clear hb); (try clear hb2); (try clear hk); (try clear hi)) | ((with_reducible refine gate_callee (f := 19) rfl ?_); refine gX (some 75) Tryd.func19 #[.pointer (some ⟨G_, 0, none⟩), .int .i64 t154, .int .i64 t156] ?_; (with_reducible refine (display_Test.calls G_ a0 t154 t156 t158 t159 t160 _ ?side1 A33.out).mono ?_); (case side1 => repeat (first | (with_reducible exact HQa0.out) | (with_reducible refine WOK.alloc ?_ _) | (with_reducible refine WOK.drewN ?_ _) | (with_reducible refine WOK.drew ?_) | exact WOK.below HQa0.out HB.out | exact WOK.below HQa0.out (bX2 HB GE150 GE151))); rintro e w39 ⟨rfl, hb⟩; refine ⟨_, rfl, ?_⟩; have n0_ := Aside0.mk (blk_below (kX BK150) hb); have n1_ := Aside0.mk (blk_below (kX BK151) hb); have n2_ := Aside0.mk (below_step (bX2 HB GE150 GE151) hb); clear BK150; clear BK151; clear HB; have BK150 := n0_; have BK151 := n1_; have HB := n2_; clear n0_ n1_ n2_; (try clear hb); (try clear hb2); (try clear hk); (try clear hi)))
     go_ret3
     exact ⟨by first | rfl | (simp [errW_none, errW_some] <;> rfl) | (simp only [← hji6]; first | rfl | (simp [errW_none, errW_some] <;> rfl)) | (simp [*, errW_none, errW_some] <;> rfl), bX2 HB GE150 GE151⟩
 ·rw [if_neg c5] at H
  have c5b0 : (t153 == 0) = false := beq_eq_false_iff_ne.mpr c5; have c5b1 : (t153 != 0) = true := bne_iff_ne.mpr c5; simp only [Option.some.injEq, Prod.mk.injEq] at H; obtain ⟨rfl, rfl, rfl⟩ := H; go_enter Tryd.func8, Tryd.ntmps8; go_wp2_with (first | ((with_reducible refine gate_dst (N := 4) rfl ?_); refine eX 4 #[.int .i64 a1_0, .string a1_1] 31 ?_; intro gb150 hg w40 hbox hb; have n0_ := Aside0.mk (below_step (bX HB) hb); have n1_ := Aside0.mk (hbox); have n2_ := Aside0.mk ((by rw [hg]; exact (below_size (bX HB)) : w.heap.size ≤ gb150)); have n3_ := Aside0.mk ((by rw [hg]; exact (below_size (bX HB)) : w.heap.size ≤ gb150)); clear HB; have HB := n0_; have BK150 := n1_; have GW150 := n2_; have GE150 := n3_; clear n0_ n1_ n2_ n3_; clear hb hbox hg) | ((with_reducible refine gate_dst (N := 5) rfl ?_); refine eX 5 #[.int .i64 a2_0, .string a2_1] 31 ?_; intro gb151 hg w41 hbox hb; have n0_ := Aside0.mk (blk_below (kX BK150) hb); have n1_ := Aside0.mk (below_step (bX1 HB GE150) hb); have n2_ := Aside0.mk (hbox); have n3_ := Aside0.mk ((by rw [hg]; exact (below_size (bX1 HB GE150)) : w.heap.size ≤ gb151)); have n4_ := Aside0.mk ((by rw [hg]; exact (below_size (bX1 HB GE150)) : w.heap.size ≤ gb151)); have n5_ := Aside0.mk ((by rw [hg]; exact Nat.ne_of_lt (blk_lt (kX BK150)) : gb150 ≠ gb151)); have n6_ := Aside0.mk ((by rw [hg]; exact Nat.ne_of_gt (blk_lt (kX BK150)) : gb151 ≠ gb150)); clear BK150; clear HB; have BK150 := n0_; have HB := n1_; have BK151 := n2_; have GW151 := n3_; have GE151 := n4_; have NB150_151 := n5_; have NB151_150 := n6_; clear n0_ n1_ n2_ n3_ n4_ n5_ n6_; clear hb hbox hg; have hnb42 := NB150_151.out; have hnc42 := NB151_150.out; obtain ⟨hcz43_0, hcz43_1, hfz43_0, hfz43_1⟩ := c2X BK150; obtain ⟨hcz44_0, hcz44_1, hfz44_0, hfz44_1⟩ := c2X BK151) | ((with_reducible refine gate_callee (f := 9) rfl ?_); refine gX (some 18) Tryd.func9 #[.pointer (some ⟨G_, 0, none⟩), .agg #[.int .i64 a1_0, .string a1_1], .agg #[.int .i64 a2_0, .string a2_1]] ?_; (with_reducible refine (arrays_Sub.calls G_ a0 a1_0 a1_1 a2_0 a2_1 t152 t153 _ ?side1 A4.out).mono ?_); (case side1 => repeat (first | (with_reducible exact HQa0.out) | (with_reducible refine WOK.alloc ?_ _) | (with_reducible refine WOK.drewN ?_ _) | (with_reducible refine WOK.drew ?_) | exact WOK.below HQa0.out HB.out | exact WOK.below HQa0.out (bX2 HB GE150 GE151))); rintro e w45 ⟨rfl, hb⟩; refine ⟨_, rfl, ?_⟩; have n0_ := Aside0.mk (blk_below (kX BK150) hb); have n1_ := Aside0.mk (blk_below (kX BK151) hb); have n2_ := Aside0.mk (below_step (bX2 HB GE150 GE151) hb); clear BK150; clear BK151; clear HB; have BK150 := n0_; have BK151 := n1_; have HB := n2_; clear n0_ n1_ n2_; (try clear hb); (try clear hb2); (try clear hk); (try clear hi)))
  go_ret3
  exact ⟨by first | rfl | (simp [errW_none, errW_some] <;> rfl) | (simp [*, errW_none, errW_some] <;> rfl), bX2 HB GE150 GE151⟩
end Go.Proofs.YtaipkdglhfhhiaaDoor.Pt

namespace Go.Proofs.YtaipkdglhfhhiaaDoor.Pt
open Go Go.RowKit Go.Proofs.YtaipkdglhfhhiaaDoor.Nm Go.Proofs.YtaipkdglhfhhiaaDoor.Ty Go.Proofs.YtaipkdglhfhhiaaDoor.Hi Go.Proofs.YtaipkdglhfhhiaaDoorW.PrintWords
set_option linter.unusedVariables false
set_option linter.unusedSimpArgs false
theorem sub_zero {es : List Ent} {a b : Int} {s t : ByteArray} (he : (subF es a s b t).2 = 0) : loadF es a s = 0 ∧ loadF es b t = 0 ∧ subF es a s b t = (belowF es a s b t, 0) := by
 unfold subF at he ⊢
 by_cases h1 : loadF es a s = 0
 ·rw [if_neg (fun h => h h1)] at he ⊢
  by_cases h2 : loadF es b t = 0
  ·rw [if_neg (fun h => h h2)]
   exact ⟨h1, h2, rfl⟩
  ·rw [if_pos h2] at he
   exact absurd he h2
 ·rw [if_pos h1] at he
  exact absurd he h1
theorem tt_tot {es : List Ent} (a : Int) (s : ByteArray) (b : Int) (t : ByteArray) (k : Nat) (hk : 2 < k) : display_TestTypes.f k es a s b t = some (ttF es a s b t) := by
 obtain ⟨k, rfl⟩ : ∃ m, k = m + 1 := ⟨k - 1, by omega⟩
 unfold display_TestTypes.f; rw [show arrays_Sub.f es a s b t = some (subF es a s b t) from rfl, Option.bind_some]
 by_cases he : (subF es a s b t).2 = 0
 ·rw [if_pos he]
  obtain ⟨h1, h2, h3⟩ := sub_zero he; obtain ⟨s1, s2, s3⟩ := load_size h1; obtain ⟨t1, t2, t3⟩ := load_size h2
  obtain ⟨m, hm, hm2⟩ : ∃ m : Int, mn a b = m ∧ m = min a b := ⟨_, rfl, by unfold mn; omega⟩
  rw [hm, show wrap64 (a - m) = a - m by unfold wrap64; omega, show wrap64 (b - m) = b - m by unfold wrap64; omega]
  have hyes : ∀ c : Bool, c = true → a ≠ b ∨ s.toList = [] ∨ t.toList = [] → display_TestTypes.j0 (k + 1) es (subF es a s b t).1 c (a - m) s (b - m) t = some (ttF es a s b t) := by
   rintro c rfl hc; rw [display_TestTypes.j0, if_pos rfl]; unfold ttF; rw [if_neg (fun h => h he), if_pos hc]
  by_cases c1 : a - m > 0
  ·rw [if_pos c1]
   exact hyes true rfl (.inl (by omega))
  ·rw [if_neg c1]
   by_cases c2 : b - m > 0
   ·rw [if_pos c2]
    exact hyes true rfl (.inl (by omega))
   ·rw [if_neg c2]
    by_cases c3 : s.toList = []
    ·rw [if_pos c3]
     exact hyes true rfl (.inr (.inl c3))
    ·rw [if_neg c3]
     by_cases c4 : t.toList = []
     ·exact hyes _ (by simp [c4]) (.inr (.inr c4))
     ·rw [show (t.toList == ([] : List UInt8)) = false from beq_eq_false_iff_ne.2 c4, display_TestTypes.j0, if_neg (by decide), byName_tot es s s1, Option.bind_some, byName_tot es t t1, Option.bind_some, show display_Test.f es (nameF es s).1 (nameF es t).1 = some (testF es (nameF es s).1 (nameF es t).1) from rfl, Option.bind_some]
      unfold ttF
      rw [if_neg (fun h => h he), if_neg (fun hc => by
       rcases hc with hc | hc | hc
       ·omega
       ·exact c3 hc
       ·exact c4 hc)]
 ·rw [if_neg he]
  unfold ttF; rw [if_pos he]
end Go.Proofs.YtaipkdglhfhhiaaDoor.Pt

namespace Go.Proofs.YtaipkdglhfhhiaaDoor.Pt
open Go Go.RowKit Go.Proofs.YtaipkdglhfhhiaaDoor.Nm Go.Proofs.YtaipkdglhfhhiaaDoor.Hi Go.Proofs.YtaipkdglhfhhiaaDoorW.PrintWords Go.Proofs.YtaipkdglhfhhiaaDoorW.PrintLast Go.Proofs.YtaipkdglhfhhiaaDoorW.PrintMore
set_option linter.unusedVariables false
set_option linter.unusedSimpArgs false
set_option maxHeartbeats 2000000
set_option maxRecDepth 100000
theorem rd44 {l : List S40} {i : Nat} (h : i < l.length) : l[i]? = some (rd_T40 l (i : Int)) := by
 simp [rd_T40, List.getD_eq_getElem?_getD, List.getElem?_eq_getElem h]
def arbiterlaw07_built.f (l0 : List (S40)) : Option (List Hi.Ent) := some (builtF l0)
def arbiterlaw08_built.f (l0 : List (S40)) : Option (List Hi.Ent) := some (builtF l0)
def arbiterlaw15_built.f (l0 : List (S40)) : Option (List Hi.Ent) := some (builtF l0)
end Go.Proofs.YtaipkdglhfhhiaaDoor.Pt

namespace Go.Proofs.YtaipkdglhfhhiaaDoor.Hi
open Go Go.RowKit Go.Proofs.YtaipkdglhfhhiaaDoor.Nm Go.Proofs.YtaipkdglhfhhiaaDoorW.PrintWords Go.Proofs.YtaipkdglhfhhiaaDoorW.PrintLast Go.Proofs.YtaipkdglhfhhiaaDoorW.PrintMore Go.Proofs.YtaipkdglhfhhiaaDoor.Pt
theorem len_made {es : List Ent} (h : Made es) : es.length ≤ 300 := by
 induction h with
 | new => decide
 | step es c _ ih =>
  rcases stepF_cases es c with h | ⟨x, h, ht⟩
  ·rw [h]; exact ih
  ·rw [h, List.length_append]
   have := ht.len; simp
   omega
end Go.Proofs.YtaipkdglhfhhiaaDoor.Hi

namespace Go.Proofs.YtaipkdglhfhhiaaDoor.Pt
open Go Go.RowKit Go.Proofs.YtaipkdglhfhhiaaDoor.Nm Go.Proofs.YtaipkdglhfhhiaaDoor.Ty Go.Proofs.YtaipkdglhfhhiaaDoor.Hi Go.Proofs.YtaipkdglhfhhiaaDoorW.PrintWords Go.Proofs.YtaipkdglhfhhiaaDoorW.PrintLast Go.Proofs.YtaipkdglhfhhiaaDoorW.PrintMore
set_option linter.unusedVariables false
set_option linter.unusedSimpArgs false
set_option maxHeartbeats 2000000
set_option maxRecDepth 100000
def classA : S40 := ⟨⟨#[65]⟩, ⟨#[79, 98, 106, 101, 99, 116]⟩, [], 1, 0, []⟩
theorem defA : (defF (chkC classA) newE classA).2 = (3, 0) := by decide +kernel
theorem extA : extF newE 2 0 = true := by decide +kernel
theorem arbitertop_awake_any (w : World) : Calls Tryd.prog 6 #[] w fun e w' => e = .returned (.bool true) ∧ Below w.heap.size w w' := by
 go_enter Tryd.func6, Tryd.ntmps6; go_wp2_with fail; refine (new_any _).mono ?_; rintro e w1 ⟨g, v, mb, ps, rfl, hI, hb⟩; have C1 := Lib.hid (hier_World_Len.calls g newE 3 w1 (wok_new hI) rfl); have C2 := Lib.hid (fun (W : World) (hb : Below w1.heap.size w1 W) => hier_World_Extends.calls g newE 2 0 true W ((wok_new hI).below hb) (by unfold hier_World_Extends.f; rw [extA]))
 have C3 := Lib.hid (fun (W : World) (hb2 : Below w1.heap.size w1 W) => define_any W w.heap.size g v mb ps newE (hI.below hb2) (by have := hb.size; have := hb2.size; omega) good_new classA.f0 classA.f1 none 0 [] 1 0 none 0 [] (Kd.C_nil _ _) (Nat.le_refl _) (Kd.C_nil _ _) (Nat.le_refl _) (chkC classA) rfl (fun h => by
  obtain ⟨s0, s1, s2, s3, s5⟩ := sound_sizes h
  exact ⟨by decide, by decide, by decide, fun n hn => (by cases hn), s5⟩))
 have HB := Lib.hid hb; clear hI hb; go_wp2_with fail; refine C1.out.mono ?_; rintro e w2 ⟨rfl, hb2⟩; have D2 := Lib.hid (C2.out w2 hb2); have H2 := Lib.hid hb2; clear C1 C2 hb2; go_wp2_with fail; refine D2.out.mono ?_; rintro e w3 ⟨rfl, hb3⟩; have H3 := Lib.hid (H2.out.trans (hb3.mono H2.out.size)); have D3 := Lib.hid (C3.out w3 H3.out); rw [show (⟨classA.f0, classA.f1, [], 1, 0, []⟩ : S40) = classA from rfl, defA] at D3; clear C3 D2 hb3 H2; go_wp2_with fail; refine D3.out.mono ?_; rintro e w4 ⟨rfl, _, _, _, hb4, _⟩; have H4 := Lib.hid ((HB.out.trans (H3.out.mono HB.out.size)).trans hb4); clear D3 hb4; go_wp2; go_ret
 exact ⟨rfl, H4.out⟩
def wstT13 : Bool × List (List Nat × List Nat) := (true, [([], []), ([], []), ([], []), ([1, 2], [1, 2]), ([3], [3]), ([], []), ([], []), ([5, 6], [5, 6]), ([7], [7]), ([0, 4, 8], [0, 4, 8]), ([9], [9]), ([10], [10]), ([10], [10]), ([10], [10]), ([11, 9, 0, 1, 2, 3, 4, 5, 6, 7, 8, 9, 10, 11], [11]), ([12, 14, 0, 1, 2, 3, 4, 5, 6, 7, 8, 9, 10, 11, 12, 14], [12]), ([13, 15, 0, 1, 2, 3, 4, 5, 6, 7, 8, 9, 10, 11, 12, 13, 14, 15], [13])])
def wstB13 : List Nat := [0, 0, 0, 6, 14, 0, 0, 96, 224, 511, 1023, 2047, 2047, 2047, 4095, 24575, 65535]
theorem wsttab13 : rtab .any (opsOf Tryd.f3 13) = wstT13 := by kernel_rfl
theorem wstbits13 : waitsOk wstT13.2 wstB13 = true := by kernel_rfl
def wstT14 : Bool × List (List Nat × List Nat) := (true, [([], []), ([], []), ([], []), ([1, 2], [1, 2]), ([3], [3]), ([], []), ([], []), ([5, 6], [5, 6]), ([7], [7]), ([0, 4, 8], [0, 4, 8]), ([9], [9]), ([10], [10]), ([10], [10]), ([11, 9, 0, 1, 2, 3, 4, 5, 6, 7, 8, 9, 10, 11], [11]), ([12, 13, 0, 1, 2, 3, 4, 5, 6, 7, 8, 9, 10, 11, 12, 13], [12])])
def wstB14 : List Nat := [0, 0, 0, 6, 14, 0, 0, 96, 224, 511, 1023, 2047, 2047, 4095, 16383]
theorem wsttab14 : rtab .any (opsOf Tryd.f3 14) = wstT14 := by kernel_rfl
theorem wstbits14 : waitsOk wstT14.2 wstB14 = true := by kernel_rfl
def wstT17 : Bool × List (List Nat × List Nat) := (true, [([], []), ([0], [0]), ([1], [1]), ([2], [2]), ([2], [2]), ([2], [2]), ([2], [2]), ([5, 6, 2], [2, 5, 6]), ([7, 2], [2, 7]), ([2], [2]), ([2], [2]), ([9, 10, 2], [2, 9, 10]), ([11, 2], [2, 11]), ([4, 8, 12, 2, 2], [2, 4, 8, 12]), ([3, 13, 2], [2, 3, 13]), ([2, 14], [2, 14])])
def wstB17 : List Nat := [0, 1, 3, 7, 7, 7, 7, 103, 231, 7, 7, 1543, 3591, 8183, 16383, 32767]
theorem wsttab17 : rtab .any (opsOf Tryd.f3 17) = wstT17 := by kernel_rfl
theorem wstbits17 : waitsOk wstT17.2 wstB17 = true := by kernel_rfl
theorem wst_any {W : World} {A : Option Addr} {n : Nat} {l : List S40} (hk : Kd.C k40 W A l.length l) (hc : l.length ≤ n) {B : Option Addr} {m : Nat} {ts : List S31} (hk2 : Kd.C k31 W B ts.length ts) (hc2 : ts.length ≤ m) :
  Calls Tryd.prog 3 #[.slice A l.length n, .slice B ts.length m] W fun e W' => e = .returned (.bool true) ∧ Below W.heap.size W W' := by
 have HR := Lib.hid hk; have HTS := Lib.hid hk2; have hmax := Kd.C_max hk; have hmax2 := Kd.C_max hk2; have CA := Lib.hid (arbitertop_awake_any W); clear hk hk2; go_enter Tryd.func3, Tryd.ntmps3; go_wp2_with fail; refine CA.out.mono ?_; rintro e w0 ⟨rfl, hb0⟩; replace hb0 := Lib.hid hb0; clear CA; go_wp2_with fail; refine (new_any _).mono ?_; rintro e w1 ⟨g, v, mb, ps, rfl, hI, hb⟩; have HI := Lib.hid (hI.lower hb0.out.size); have HB0 := Lib.hid (hb0.out.trans (hb.mono hb0.out.size)); clear hI hb hb0; go_wp2_with fail
 go_loopw [6] (fun v6 wr => ∃ i : Nat, i ≤ l.length + 1 ∧ v6 = .int .i64 i ∧ Hid (∃ v ps, WIn wr W.heap.size g v mb ps (builtF (l.take i))) ∧ Hid (Below W.heap.size W wr)) (fun v6 _ => l.length + 1 - (intOf v6).toNat)
 case atStart => exact ⟨0, Nat.zero_le _, rfl, Lib.hid ⟨_, _, HI.out⟩, HB0⟩
 case round =>
  clear HI HB0; obtain ⟨i, hi, rfl, HI, HB0⟩ := hrel; generalize wr = wa at *
  by_cases hlt : i ≤ l.length
  ·by_cases h12 : i < 12
   ·have e0 : decide (i ≤ l.length) = true := decide_eq_true (by omega)
    have e1 : decide (i < 12) = true := decide_eq_true (by omega); have e1z : decide ((i : Int) < 12) = true := decide_eq_true (by omega); have hM := made_built (l.take i); have hT := Lib.hid (thy_made hM); have hn := len_made hM
    have HW : Hid (WOK wa g (builtF (l.take i))) := Lib.hid (by
     obtain ⟨v, ps, hI⟩ := HI.out; have hg := good_made hM
     exact ⟨⟨_, _, _, _, hI⟩, hg.fine, hg.tree, by have := hg.len; omega⟩)
    have hst : Hid (∀ x, l[i]? = some x → builtF (l.take (i + 1)) = stepF (builtF (l.take i)) x) := Lib.hid (fun x hx => by
     unfold builtF; rw [List.take_add_one, hx, List.foldl_append]
     rfl)
    have hlast : Hid (i = l.length → builtF (l.take (i + 1)) = builtF (l.take i)) := Lib.hid (fun h => by rw [List.take_of_length_le (by omega), List.take_of_length_le (by omega)]); have hGd := Lib.hid (good_made hM); generalize builtF (l.take i) = es at *; clear hM; have CT := Lib.hid (fun (W1 : World) (hq : WOK W1 g es) (a : Int) (s : ByteArray) (b : Int) (t : ByteArray) => display_TestTypes.calls 3000 g es a s b t (ttF es a s b t).1 (ttF es a s b t).2.1 (ttF es a s b t).2.2 W1 hq (tt_tot a s b t 3000 (by decide))); have CS := Lib.hid (fun (W1 : World) (hq : WOK W1 g es) (a : Int) (s : ByteArray) (b : Int) (t : ByteArray) => arrays_Sub.calls g es a s b t (subF es a s b t).1 (subF es a s b t).2 W1 hq rfl); go_wp2_with fail
    go_loopw [7] (fun v7 wx => ∃ j : Nat, j ≤ ts.length ∧ v7 = .int .i64 j ∧ Hid (Below wa.heap.size wa wx)) (fun v7 _ => ts.length - (intOf v7).toNat)
    case atStart => exact ⟨0, Nat.zero_le _, rfl, Lib.hid (Below.refl _ _)⟩
    case round =>
     obtain ⟨j, hj, rfl, HX⟩ := hrel; generalize wr = wb at *
     by_cases hjc : j < ts.length ∧ j < 6
     ·obtain ⟨hjl, hj6⟩ := hjc
      have f0 : decide (j < ts.length) = true := decide_eq_true (by omega); have f1 : decide (j < 6) = true := decide_eq_true (by omega); have f1z : decide ((j : Int) < 6) = true := decide_eq_true (by omega); go_wp2_with fail
      go_loopw [8] (fun v8 wy => ∃ k : Nat, k ≤ ts.length ∧ v8 = .int .i64 k ∧ Hid (Below wa.heap.size wa wy)) (fun v8 _ => ts.length - (intOf v8).toNat)
      case atStart => exact ⟨0, Nat.zero_le _, rfl, HX⟩
      case round =>
       clear HX; obtain ⟨k, hk, rfl, HY⟩ := hrel
       by_cases hkc : k < ts.length ∧ k < 6
       ·obtain ⟨hkl, hk6⟩ := hkc
        have f2 : decide (k < ts.length) = true := decide_eq_true (by omega); have f3 : decide (k < 6) = true := decide_eq_true (by omega); have f3z : decide ((k : Int) < 6) = true := decide_eq_true (by omega); have hr := HB0.out.trans (HY.out.mono HB0.out.size); obtain ⟨ad, rfl, q0, q1⟩ := at_T31 (Kd.C_below HTS.out hr) (j : Int) (by omega) (by omega); obtain ⟨ad', e', q2, q3⟩ := at_T31 (Kd.C_below HTS.out hr) (k : Int) (by omega) (by omega)
        cases e'
        rw [Int.toNat_natCast] at q0 q1 q2 q3; generalize rd_T31 ts (j : Int) = x at *; generalize rd_T31 ts (k : Int) = y at *; obtain ⟨t1, t2, t3⟩ := tt_sub hT.out x.f0 x.f1 y.f0 y.f1
        have hcl : Hid ((subF es x.f0 x.f1 y.f0 y.f1).2 = 0 → ∀ (W1 : World), WOK W1 g es → Calls Tryd.prog 10 #[.pointer (some ⟨g, 0, none⟩), .agg #[.int .i64 x.f0, .string x.f1], .agg #[.int .i64 y.f0, .string y.f1]] W1 fun e w' => e = .returned (.bool (subF es x.f0 x.f1 y.f0 y.f1).1) ∧ Below W1.heap.size W1 w') := Lib.hid (fun he W1 hq => by
         obtain ⟨h1, h2, h3⟩ := sub_zero he; rw [h3]
         exact arbitertop_climbs.calls 200000000 g es x.f0 x.f1 y.f0 y.f1 (belowF es x.f0 x.f1 y.f0 y.f1) W1 hq (climbs_ok hT.out (by omega) h1 h2))
        have CT1 := Lib.hid (fun (W1 : World) (hq : WOK W1 g es) => CT.out W1 hq x.f0 x.f1 y.f0 y.f1); have CS1 := Lib.hid (fun (W1 : World) (hq : WOK W1 g es) => CS.out W1 hq x.f0 x.f1 y.f0 y.f1); rw [t1, t2] at CT1; replace t3 := Lib.hid t3; generalize ttF es x.f0 x.f1 y.f0 y.f1 = tt at *; generalize subF es x.f0 x.f1 y.f0 y.f1 = sb at *; clear t1 t2 hr; have HZ := Lib.hid (below_drew1 HY.out); clear HY; go_wp2_with fail; refine start_ (n := 17) (S := fun w' => w'.cell? (ad.add (j * 2)) = some (.int .i64 x.f0) ∧ w'.cell? ⟨(ad.add (j * 2)).block, (ad.add (j * 2)).off + 1, none⟩ = some (.string x.f1) ∧ w'.cell? (ad.add (k * 2)) = some (.int .i64 y.f0) ∧ w'.cell? ⟨(ad.add (k * 2)).block, (ad.add (k * 2)).off + 1, none⟩ = some (.string y.f1)) (ds := []) (Array.replicate 17 false) (by kernel_rfl) rfl rfl ⟨q0, q1, q2, q3⟩ (fun hHeld => ?_); refine with_tabW wsttab13 wstbits13 (fun HT_ HW_ => ?_); have z0 : wr.drew.cell? (ad.add (j * 2)) = some (.int .i64 x.f0) := q0; have z1 : wr.drew.cell? ⟨(ad.add (j * 2)).block, (ad.add (j * 2)).off + 1, none⟩ = some (.string x.f1) := q1; have z2 : wr.drew.cell? (ad.add (k * 2)) = some (.int .i64 y.f0) := q2; have z3 : wr.drew.cell? ⟨(ad.add (k * 2)).block, (ad.add (k * 2)).off + 1, none⟩ = some (.string y.f1) := q3; generalize wr.drew = w3 at *; refine pX HT_ 0 (some 48) ?_; refine pX HT_ 1 (some 49) ?_; refine pX HT_ 2 (some 50) ?_; refine pX HT_ 3 (some 51) ?_; refine pX HT_ 5 (some 53) ?_; refine pX HT_ 6 (some 54) ?_; refine pX HT_ 7 (some 55) ?_; refine tX HT_ HW_ hHeld 4 (some 52) ?_; refine tX HT_ HW_ hHeld 8 (some 56) ?_; refine oX HT_ 9 (some 57) (fun K hK => ?_); refine hX Tryd.func8 #[.pointer (some ⟨g, 0, none⟩), .agg #[.int .i64 x.f0, .string x.f1], .agg #[.int .i64 y.f0, .string y.f1]] ?_; refine (CT1.out w3 (HW.out.below HZ.out)).mono ?_; rintro e w4 ⟨rfl, hb4⟩; refine ⟨_, rfl, ?_⟩; have q0 := pw_cell_below (w := w3) hb4 z0; have q1 := pw_cell_below (w := w3) hb4 z1; have q2 := pw_cell_below (w := w3) hb4 z2; have q3 := pw_cell_below (w := w3) hb4 z3; have HZ4 := Lib.hid (HZ.out.trans (hb4.mono HZ.out.size)); refine hK.out _ _ ⟨q0, q1, q2, q3⟩ (fun hHeld => ?_); clear hK K; refine nX (some 57) ?_; clear CT1 HZ hb4; refine pX HT_ 10 (some 47) ?_; refine pX HT_ 11 (some 58) ?_; refine pX HT_ 12 (some 59) ?_; refine pX HT_ 13 (some 60) ?_; refine pX HT_ 14 (some 9) ?_; refine pX HT_ 15 (some 10) ?_; refine pX HT_ 16 (some 11) ?_; refine done_ (done_of HT_.out (by kernel_rfl)) ?_; clear hHeld HT_ HW_; clear z0 z1 z2 z3; go_wp2_with fail; have HZ5 := Lib.hid (below_drew1 HZ4.out); clear HZ4; refine start_ (n := 15) (S := fun w' => w'.cell? (ad.add (j * 2)) = some (.int .i64 x.f0) ∧ w'.cell? ⟨(ad.add (j * 2)).block, (ad.add (j * 2)).off + 1, none⟩ = some (.string x.f1) ∧ w'.cell? (ad.add (k * 2)) = some (.int .i64 y.f0) ∧ w'.cell? ⟨(ad.add (k * 2)).block, (ad.add (k * 2)).off + 1, none⟩ = some (.string y.f1)) (ds := []) (Array.replicate 15 false) (by kernel_rfl) rfl rfl ⟨q0, q1, q2, q3⟩ (fun hHeld => ?_); refine with_tabW wsttab14 wstbits14 (fun HT_ HW_ => ?_); have z0 : w4.drew.cell? (ad.add (j * 2)) = some (.int .i64 x.f0) := q0; have z1 : w4.drew.cell? ⟨(ad.add (j * 2)).block, (ad.add (j * 2)).off + 1, none⟩ = some (.string x.f1) := q1; have z2 : w4.drew.cell? (ad.add (k * 2)) = some (.int .i64 y.f0) := q2; have z3 : w4.drew.cell? ⟨(ad.add (k * 2)).block, (ad.add (k * 2)).off + 1, none⟩ = some (.string y.f1) := q3; generalize w4.drew = w5 at *; refine pX HT_ 0 (some 62) ?_; refine pX HT_ 1 (some 63) ?_; refine pX HT_ 2 (some 64) ?_; refine pX HT_ 3 (some 65) ?_; refine pX HT_ 5 (some 67) ?_; refine pX HT_ 6 (some 68) ?_; refine pX HT_ 7 (some 69) ?_; refine tX HT_ HW_ hHeld 4 (some 66) ?_; refine tX HT_ HW_ hHeld 8 (some 70) ?_; refine oX HT_ 9 (some 71) (fun K hK => ?_); refine hX Tryd.func9 #[.pointer (some ⟨g, 0, none⟩), .agg #[.int .i64 x.f0, .string x.f1], .agg #[.int .i64 y.f0, .string y.f1]] ?_; refine (CS1.out w5 (HW.out.below HZ5.out)).mono ?_; rintro e w6 ⟨rfl, hb6⟩; refine ⟨_, rfl, ?_⟩; have q0 := pw_cell_below (w := w5) hb6 z0; have q1 := pw_cell_below (w := w5) hb6 z1; have q2 := pw_cell_below (w := w5) hb6 z2; have q3 := pw_cell_below (w := w5) hb6 z3; have HZ6 := Lib.hid (HZ5.out.trans (hb6.mono HZ5.out.size)); refine hK.out _ _ ⟨q0, q1, q2, q3⟩ (fun hHeld => ?_); clear hK K; refine nX (some 71) ?_; clear CS1 HZ5 hb6 z0 z1 z2 z3; refine pX HT_ 10 (some 61) ?_; refine pX HT_ 11 (some 72) ?_; refine pX HT_ 12 (some 73) ?_; refine pX HT_ 13 (some 12) ?_; refine pX HT_ 14 (some 13) ?_; refine done_ (done_of HT_.out (by kernel_rfl)) ?_; clear hHeld HT_ HW_; obtain ⟨bb, ee⟩ := sb; obtain ⟨tb, tn, te⟩ := tt; have nb : (bb != bb) = false := bne_self_eq_false bb; have HZ7 := Lib.hid (below_drew1 HZ6.out)
        by_cases he : ee = 0
        ·have n1 : decide (tn < 1) = false := decide_eq_false (by have := t3.out he; have : (1 : Int) ≤ tn := this; omega)
         have CC := Lib.hid (fun W1 hq => hcl.out he W1 hq); subst he; clear hcl t3
         cases bb
         all_goals
          go_wp2_with fail; refine start_ (n := 16) (S := fun w' => w'.cell? (ad.add (j * 2)) = some (.int .i64 x.f0) ∧ w'.cell? ⟨(ad.add (j * 2)).block, (ad.add (j * 2)).off + 1, none⟩ = some (.string x.f1) ∧ w'.cell? (ad.add (k * 2)) = some (.int .i64 y.f0) ∧ w'.cell? ⟨(ad.add (k * 2)).block, (ad.add (k * 2)).off + 1, none⟩ = some (.string y.f1)) (ds := []) (Array.replicate 16 false) (by kernel_rfl) rfl rfl ⟨q0, q1, q2, q3⟩ (fun hHeld => ?_); refine with_tabW wsttab17 wstbits17 (fun HT_ HW_ => ?_); have z0 : w6.drew.cell? (ad.add (j * 2)) = some (.int .i64 x.f0) := q0; have z1 : w6.drew.cell? ⟨(ad.add (j * 2)).block, (ad.add (j * 2)).off + 1, none⟩ = some (.string x.f1) := q1; have z2 : w6.drew.cell? (ad.add (k * 2)) = some (.int .i64 y.f0) := q2; have z3 : w6.drew.cell? ⟨(ad.add (k * 2)).block, (ad.add (k * 2)).off + 1, none⟩ = some (.string y.f1) := q3; generalize w6.drew = w7 at *; refine pX HT_ 0 (some 90) ?_; refine pX HT_ 1 (some 91) ?_; refine pX HT_ 2 (some 92) ?_; refine pX HT_ 3 (some 93) ?_; refine pX HT_ 4 (some 94) ?_; refine pX HT_ 5 (some 95) ?_; refine pX HT_ 6 (some 96) ?_; refine pX HT_ 7 (some 97) ?_; refine pX HT_ 9 (some 99) ?_; refine pX HT_ 10 (some 100) ?_; refine pX HT_ 11 (some 101) ?_; refine tX HT_ HW_ hHeld 8 (some 98) ?_; refine tX HT_ HW_ hHeld 12 (some 102) ?_; refine oX HT_ 13 (some 103) (fun K hK => ?_); refine hX Tryd.func10 #[.pointer (some ⟨g, 0, none⟩), .agg #[.int .i64 x.f0, .string x.f1], .agg #[.int .i64 y.f0, .string y.f1]] ?_; refine (CC.out w7 (HW.out.below HZ7.out)).mono ?_; rintro e w8 ⟨rfl, hb8⟩; refine ⟨_, rfl, ?_⟩; have q0 := pw_cell_below (w := w7) hb8 z0; have q1 := pw_cell_below (w := w7) hb8 z1; have q2 := pw_cell_below (w := w7) hb8 z2; have q3 := pw_cell_below (w := w7) hb8 z3; have HZ8 := Lib.hid (HZ7.out.trans (hb8.mono HZ7.out.size)); refine hK.out _ _ ⟨q0, q1, q2, q3⟩ (fun hHeld => ?_); clear hK K; refine nX (some 103) ?_; clear CC HZ7 hb8 z0 z1 z2 z3; refine pX (v := .bool false) HT_ 14 (some 104) ?_ (hy := Or.inl ⟨by rfl, by intro w'; first | (go_simp; done) | (go_simp; rfl)⟩); refine pX (v := .bool false) HT_ 15 (some 105) ?_ (hy := Or.inl ⟨by rfl, by intro w'; first | (go_simp; done) | (go_simp; rfl)⟩); refine done_ (done_of HT_.out (by kernel_rfl)) ?_; clear hHeld HT_ HW_; go_wp2
          exact ⟨⟨k + 1, by omega, by push_cast; rfl, HZ8⟩, by simp [intOf]; omega⟩
        ·have e0 : (ee == 0) = false := beq_eq_false_iff_ne.2 he
         have e1 : (ee != ee) = false := bne_self_eq_false ee; clear hcl t3 he; go_wp2_with fail; refine start_ (n := 16) (S := fun w' => w'.cell? (ad.add (j * 2)) = some (.int .i64 x.f0) ∧ w'.cell? ⟨(ad.add (j * 2)).block, (ad.add (j * 2)).off + 1, none⟩ = some (.string x.f1) ∧ w'.cell? (ad.add (k * 2)) = some (.int .i64 y.f0) ∧ w'.cell? ⟨(ad.add (k * 2)).block, (ad.add (k * 2)).off + 1, none⟩ = some (.string y.f1)) (ds := []) (Array.replicate 16 false) (by kernel_rfl) rfl rfl ⟨q0, q1, q2, q3⟩ (fun hHeld => ?_); refine with_tabW wsttab17 wstbits17 (fun HT_ HW_ => ?_); have z0 : w6.drew.cell? (ad.add (j * 2)) = some (.int .i64 x.f0) := q0; have z1 : w6.drew.cell? ⟨(ad.add (j * 2)).block, (ad.add (j * 2)).off + 1, none⟩ = some (.string x.f1) := q1; have z2 : w6.drew.cell? (ad.add (k * 2)) = some (.int .i64 y.f0) := q2; have z3 : w6.drew.cell? ⟨(ad.add (k * 2)).block, (ad.add (k * 2)).off + 1, none⟩ = some (.string y.f1) := q3; generalize w6.drew = w7 at *; refine pX HT_ 0 (some 90) ?_; refine pX HT_ 1 (some 91) ?_; refine pX HT_ 2 (some 92) ?_; refine uX HT_ 3 (some 93) ?_; refine uX HT_ 4 (some 94) ?_; refine uX HT_ 5 (some 95) ?_; refine uX HT_ 6 (some 96) ?_; refine uX HT_ 7 (some 97) ?_; refine uX HT_ 8 (some 98) ?_; refine uX HT_ 9 (some 99) ?_; refine uX HT_ 10 (some 100) ?_; refine uX HT_ 11 (some 101) ?_; refine uX HT_ 12 (some 102) ?_; refine uX HT_ 13 (some 103) ?_; refine uX HT_ 14 (some 104) ?_; refine pX HT_ 15 (some 105) ?_; refine done_ (done_of HT_.out (by kernel_rfl)) ?_; clear hHeld HT_ HW_; go_wp2
         exact ⟨⟨k + 1, by omega, by push_cast; rfl, HZ7⟩, by simp [intOf]; omega⟩
       ·have hcs : (decide (k < ts.length) = true ∧ decide (k < 6) = false ∧ decide ((k : Int) < 6) = false ∧ ¬ k < 6) ∨ decide (k < ts.length) = false := by
         by_cases hkl : k < ts.length
         ·exact .inl ⟨decide_eq_true (by omega), decide_eq_false (by omega), decide_eq_false (by omega), by omega⟩
         ·exact .inr (decide_eq_false (by omega))
        clear hkc
        rcases hcs with ⟨f2, f3, f3z, f3n⟩ | f2
        all_goals
         go_wp2
         exact ⟨⟨j + 1, by omega, by push_cast; rfl, HY⟩, by simp [intOf]; omega⟩
     ·have hcs : (decide (j < ts.length) = true ∧ decide (j < 6) = false ∧ decide ((j : Int) < 6) = false ∧ ¬ j < 6) ∨ decide (j < ts.length) = false := by
       by_cases hjl : j < ts.length
       ·exact .inl ⟨decide_eq_true (by omega), decide_eq_false (by omega), decide_eq_false (by omega), by omega⟩
       ·exact .inr (decide_eq_false (by omega))
      clear hjc CT CS; obtain ⟨v, ps, hI⟩ := HI.out; have hI1 := hI.below HX.out; have HH := Lib.hid (HB0.out.trans (HX.out.mono HB0.out.size)); clear hI HI HB0 HX HW
      by_cases hil : i < l.length
      ·have e2 : decide (i < l.length) = true := decide_eq_true (by omega)
       obtain ⟨ad, A2, c2, A5, c5, rfl, q0, q1, q2, q3, q4, q5, hc2', K2, hc5, K5⟩ := at_T40 (Kd.C_below HR.out HH.out) (i : Int) (by omega) (by omega); have hx := rd44 hil; rw [Int.toNat_natCast] at q0 q1 q2 q3 q4 q5; generalize rd_T40 l (i : Int) = z at *; have hst2 := Lib.hid (hst.out z hx)
       have DF := Lib.hid (define_any wb W.heap.size g v mb ps _ hI1 HH.out.size hGd.out z.f0 z.f1 A2 c2 z.f2 z.f3 z.f4 A5 c5 z.f5 K2 hc2' K5 hc5 (chkC z) rfl (fun h => by
        obtain ⟨s0, s1, s2, s3, s5⟩ := sound_sizes h
        exact ⟨by omega, by omega, by omega, fun n hn => by have := s3 n hn; omega, s5⟩))
       clear K2 K5 hI1 hx hst hlast hGd; obtain ⟨n0, n1, n2, n3, n4, n5⟩ := z
       rcases hcs with ⟨f0, f1, f1z, f1n⟩ | f0
       all_goals
        go_wp2_with fail; refine DF.out.mono ?_; rintro e w2 ⟨rfl, v', ps', I2, hb2, hk2⟩; replace I2 := Lib.hid I2; have HB2 := Lib.hid (HH.out.trans hb2); clear hb2 hk2 DF HH q0 q1 q2 q3 q4 q5; go_wp2
        exact ⟨⟨i + 1, by omega, by push_cast; rfl, Lib.hid ⟨_, _, by rw [hst2.out]; exact I2.out⟩, HB2⟩, by simp [intOf]; omega⟩
      ·have e2 : decide (i < l.length) = false := decide_eq_false (by omega)
       have hl2 := hlast.out (by omega); replace hI1 := Lib.hid hI1; replace hl2 := Lib.hid hl2
       rcases hcs with ⟨f0, f1, f1z, f1n⟩ | f0
       all_goals
        go_wp2
        exact ⟨⟨i + 1, by omega, by push_cast; rfl, Lib.hid ⟨_, _, by rw [hl2.out]; exact hI1.out⟩, HH⟩, by simp [intOf]; omega⟩
   ·have e0 : decide (i ≤ l.length) = true := decide_eq_true (by omega)
    have e1 : decide (i < 12) = false := decide_eq_false (by omega); go_wp2; go_ret
    exact ⟨rfl, HB0.out⟩
  ·have e0 : decide (i ≤ l.length) = false := decide_eq_false (by omega)
   go_wp2; go_ret
   exact ⟨rfl, HB0.out⟩
end Go.Proofs.YtaipkdglhfhhiaaDoor.Pt

namespace Go.Proofs.YtaipkdglhfhhiaaDoor.RowC
open Go Go.RowKit Go.WideShapes Go.Deep Go.Proofs.YtaipkdglhfhhiaaDoorW.PrintWords Go.Proofs.YtaipkdglhfhhiaaDoorW.PrintLast Go.Proofs.YtaipkdglhfhhiaaDoorW.PrintMore Go.Proofs.YtaipkdglhfhhiaaDoor.Pt
set_option linter.unusedVariables false
set_option linter.unusedSimpArgs false
set_option maxRecDepth 100000
variable {H : Type} {enc : TypeId × Value → H} {w : World}
def Opens {H : Type} (enc : TypeId × Value → H) (w : World) (t : TypeId) {α : Type} (d : Kd α) : Prop :=
 ∀ (fuel : Nat) (cs : List Value) (x : DataW H × List MemPlace), DataW.trod enc Tryd.prog w 0 (fun _ => true) true fuel t cs = some x → ∃ a : α, d.K w a cs
theorem opens_int : Opens enc w 3 (Kd.int .i64) := fun fuel cs x h => by
 obtain ⟨n, rfl, _⟩ := DataW.trod_int Tryd.underlying3 h
 exact ⟨n, rfl⟩
theorem opens_bool : Opens enc w 4 Kd.bool := fun fuel cs x h => by
 obtain ⟨n, rfl, _⟩ := DataW.trod_bool Tryd.underlying4 h
 exact ⟨n, rfl⟩
theorem opens_string : Opens enc w 9 Kd.string := fun fuel cs x h => by
 obtain ⟨n, rfl, _⟩ := DataW.trod_string Tryd.underlying9 h
 exact ⟨n, rfl⟩
theorem opens_slice {α : Type} {d : Kd α} {t e : TypeId} (tag : Nat) (ht : Tryd.prog.underlying t = some (.slice e)) (he : Tryd.prog.cellsOf e = d.sz) (ho : Opens enc w e d) : Opens enc w t (Kd.slice tag d) := fun fuel cs x h => by
 rcases open_slice ht h with ⟨rfl, _⟩ | ⟨a, len, cap, m, n, D, Pl, rfl, _, hl, hm, hmm, _, hx⟩
 ·exact ⟨[], none, 0, rfl, Nat.le_refl _, Kd.C_nil _ _⟩
 ·have hmm : m = cap := by simpa using hmm
  have hel : ∀ i : Fin len, ∃ p : α, ∃ c : List Value, c.length = d.sz ∧ d.K w p c ∧ ∀ j u, c[j]? = some u → w.cell? (a.add (i.val * d.sz + j)) = some u := by
   intro i; obtain ⟨cs', h1, h2⟩ := hx i.val (by omega); obtain ⟨p, hp⟩ := ho _ _ _ h2; obtain ⟨_, h3, h4⟩ := World.cells?_some h1; rw [he] at h3 h4; refine ⟨p, cs', h3, hp, fun j u hj => ?_⟩
   have hjl : j < d.sz := by
    rcases Nat.lt_or_ge j d.sz with h | h
    ·exact h
    ·rw [List.getElem?_eq_none (by omega)] at hj; cases hj
   have h5 := h4 j hjl; rw [hj] at h5; rw [← h5]; rw [Addr.add_add]
  let f : Fin len → α := fun i => Classical.choose (hel i)
  have hf : ∀ i : Fin len, ∃ c : List Value, c.length = d.sz ∧ d.K w (f i) c ∧ ∀ j u, c[j]? = some u → w.cell? (a.add (i.val * d.sz + j)) = some u := fun i => Classical.choose_spec (hel i); have hlen : (List.ofFn f).length = len := List.length_ofFn; refine ⟨List.ofFn f, some a, cap, by rw [hlen], by omega, ?_⟩; rw [hlen]; refine ⟨hlen, by unfold maxLen at hm; omega, fun h0 => ⟨a, rfl, fun j p hj => ?_⟩⟩
  have hjl : j < len := by
   rcases Nat.lt_or_ge j len with h | h
   ·exact h
   ·rw [List.getElem?_eq_none (by omega)] at hj; cases hj
  rw [List.getElem?_eq_getElem (by omega), List.getElem_ofFn] at hj; obtain rfl := Option.some.inj hj
  exact hf ⟨j, hjl⟩
theorem cut (cs : List Value) (o n : Nat) : cs.drop o = (cs.drop o).take n ++ cs.drop (o + n) := by
 rw [← List.drop_drop, List.take_append_drop]
theorem field {n : Nat} {fs : Array Field} {cs : List Value} {xs : List (DataW H × List MemPlace)} (hlen : xs.length = fs.size)
  (hf : ∀ (i : Nat) (f : Field), fs[i]? = some f → DataW.trod enc Tryd.prog w 0 (fun _ => true) true n f.type ((cs.drop f.offset).take (Tryd.prog.cellsOf f.type)) = xs[i]?) {α : Type} {d : Kd α} (i : Nat) (f : Field) (hi : fs[i]? = some f) (ho : Opens enc w f.type d) (k : Nat) (hk : Tryd.prog.cellsOf f.type = k) :
  ∃ a : α, d.K w a ((cs.drop f.offset).take k) := by
 have hl : i < fs.size := by
  rcases Nat.lt_or_ge i fs.size with h | h
  ·exact h
  ·rw [Array.getElem?_eq_none h] at hi; cases hi
 have h := hf i f hi; rw [hk, List.getElem?_eq_getElem (by omega)] at h
 exact ho _ _ _ h
theorem opens_Type : Opens enc w 31 k31 := fun fuel cs x h => by
 obtain ⟨xs, n, _, _, hl, hlen, hf⟩ := DataW.trod_struct Tryd.underlying31 h; rw [show Tryd.prog.cellsOf 31 = 2 by kernel_rfl] at hl; obtain ⟨a0, e0⟩ := field hlen hf 0 _ rfl opens_int 1 (by kernel_rfl); obtain ⟨a1, e1⟩ := field hlen hf 1 _ rfl opens_string 1 (by kernel_rfl); refine ⟨⟨a0, a1⟩, _, _, cut cs 0 1, e0, ?_⟩; rw [List.take_of_length_le (by simp; omega)] at e1
 exact e1
theorem opens_Ref : Opens enc w 89 k89 := fun fuel cs x h => by
 obtain ⟨xs, n, _, _, hl, hlen, hf⟩ := DataW.trod_struct Tryd.underlying89 h; rw [show Tryd.prog.cellsOf 89 = 4 by kernel_rfl] at hl; obtain ⟨a0, e0⟩ := field hlen hf 0 _ rfl opens_bool 1 (by kernel_rfl); obtain ⟨a1, e1⟩ := field hlen hf 1 _ rfl opens_string 1 (by kernel_rfl); obtain ⟨a2, e2⟩ := field hlen hf 2 _ rfl opens_string 1 (by kernel_rfl); obtain ⟨a3, e3⟩ := field hlen hf 3 _ rfl opens_string 1 (by kernel_rfl); refine ⟨⟨a0, a1, a2, a3⟩, _, _, cut cs 0 1, e0, _, _, cut cs 1 1, e1, _, _, cut cs 2 1, e2, ?_⟩; rw [List.take_of_length_le (by simp; omega)] at e3
 exact e3
theorem opens_Inst : Opens enc w 91 k91 := fun fuel cs x h => by
 obtain ⟨xs, n, _, _, hl, hlen, hf⟩ := DataW.trod_struct Tryd.underlying91 h; rw [show Tryd.prog.cellsOf 91 = 7 by kernel_rfl] at hl; obtain ⟨a0, e0⟩ := field hlen hf 0 _ rfl opens_int 1 (by kernel_rfl); obtain ⟨a1, e1⟩ := field hlen hf 1 _ rfl opens_int 1 (by kernel_rfl); obtain ⟨a2, e2⟩ := field hlen hf 2 _ rfl opens_string 1 (by kernel_rfl); obtain ⟨a3, e3⟩ := field hlen hf 3 _ rfl opens_Ref 4 (by kernel_rfl); refine ⟨⟨a0, a1, a2, a3⟩, _, _, cut cs 0 1, e0, _, _, cut cs 1 1, e1, _, _, cut cs 2 1, e2, ?_⟩; rw [List.take_of_length_le (by simp; omega)] at e3
 exact e3
theorem opens_Method : Opens enc w 94 k94 := fun fuel cs x h => by
 obtain ⟨xs, n, _, _, hl, hlen, hf⟩ := DataW.trod_struct Tryd.underlying94 h; rw [show Tryd.prog.cellsOf 94 = 6 by kernel_rfl] at hl; obtain ⟨a0, e0⟩ := field hlen hf 0 _ rfl opens_string 1 (by kernel_rfl); obtain ⟨a1, e1⟩ := field hlen hf 1 _ rfl opens_string 1 (by kernel_rfl); obtain ⟨a2, e2⟩ := field hlen hf 2 _ rfl opens_int 1 (by kernel_rfl); obtain ⟨a3, e3⟩ := field hlen hf 3 _ rfl opens_int 1 (by kernel_rfl); obtain ⟨a4, e4⟩ := field hlen hf 4 _ rfl opens_int 1 (by kernel_rfl); obtain ⟨a5, e5⟩ := field hlen hf 5 _ rfl (opens_slice 91 Tryd.underlying92 (by kernel_rfl) opens_Inst) 1 (by kernel_rfl); refine ⟨⟨a0, a1, a2, a3, a4, a5⟩, _, _, cut cs 0 1, e0, _, _, cut cs 1 1, e1, _, _, cut cs 2 1, e2, _, _, cut cs 3 1, e3, _, _, cut cs 4 1, e4, ?_⟩; rw [List.take_of_length_le (by simp; omega)] at e5
 exact e5
theorem opens_Class : Opens enc w 40 k40 := fun fuel cs x h => by
 obtain ⟨xs, n, _, _, hl, hlen, hf⟩ := DataW.trod_struct Tryd.underlying40 h; rw [show Tryd.prog.cellsOf 40 = 6 by kernel_rfl] at hl; obtain ⟨a0, e0⟩ := field hlen hf 0 _ rfl opens_string 1 (by kernel_rfl); obtain ⟨a1, e1⟩ := field hlen hf 1 _ rfl opens_string 1 (by kernel_rfl); obtain ⟨a2, e2⟩ := field hlen hf 2 _ rfl (opens_slice 9 Tryd.underlying37 (by kernel_rfl) opens_string) 1 (by kernel_rfl); obtain ⟨a3, e3⟩ := field hlen hf 3 _ rfl opens_int 1 (by kernel_rfl); obtain ⟨a4, e4⟩ := field hlen hf 4 _ rfl opens_int 1 (by kernel_rfl); obtain ⟨a5, e5⟩ := field hlen hf 5 _ rfl (opens_slice 94 Tryd.underlying38 (by kernel_rfl) opens_Method) 1 (by kernel_rfl); refine ⟨⟨a0, a1, a2, a3, a4, a5⟩, _, _, cut cs 0 1, e0, _, _, cut cs 1 1, e1, _, _, cut cs 2 1, e2, _, _, cut cs 3 1, e3, _, _, cut cs 4 1, e4, ?_⟩; rw [List.take_of_length_le (by simp; omega)] at e5
 exact e5
theorem open_list {base : Nat} {R : Reach} {v : Value} {d : DataW H} {p : List MemPlace} (hv : Value.okWide Tryd.prog w R base 22 v) (h : DataW.Trod enc Tryd.prog w 0 (fun _ => true) true 22 v d p) :
  ∃ (A : Option Addr) (c : Nat) (l : List S40), v = .slice A l.length c ∧ l.length ≤ c ∧ Kd.C k40 w A l.length l := by
 obtain ⟨a, len, cap, rfl⟩ := okWide_slice Tryd.underlying22 hv; obtain ⟨fuel, hf⟩ := h; obtain ⟨l, A, c, e, hc, hk⟩ := opens_slice 40 Tryd.underlying22 (by kernel_rfl) opens_Class _ _ _ hf; have e : [Value.slice a len cap] = [.slice A l.length c] := e
 obtain ⟨rfl, rfl, rfl⟩ : a = A ∧ len = l.length ∧ cap = c := by simpa using e
 exact ⟨_, _, l, rfl, hc, hk⟩
theorem open_types {base : Nat} {R : Reach} {v : Value} {d : DataW H} {p : List MemPlace} (hv : Value.okWide Tryd.prog w R base 23 v) (h : DataW.Trod enc Tryd.prog w 0 (fun _ => true) true 23 v d p) :
  ∃ (A : Option Addr) (c : Nat) (l : List S31), v = .slice A l.length c ∧ l.length ≤ c ∧ Kd.C k31 w A l.length l := by
 obtain ⟨a, len, cap, rfl⟩ := okWide_slice Tryd.underlying23 hv; obtain ⟨fuel, hf⟩ := h; obtain ⟨l, A, c, e, hc, hk⟩ := opens_slice 31 Tryd.underlying23 (by kernel_rfl) opens_Type _ _ _ hf; have e : [Value.slice a len cap] = [.slice A l.length c] := e
 obtain ⟨rfl, rfl, rfl⟩ : a = A ∧ len = l.length ∧ cap = c := by simpa using e
 exact ⟨_, _, l, rfl, hc, hk⟩
end Go.Proofs.YtaipkdglhfhhiaaDoor.RowC
