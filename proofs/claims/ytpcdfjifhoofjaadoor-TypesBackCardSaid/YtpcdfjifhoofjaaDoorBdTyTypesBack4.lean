/- Lemmas and contracts for the statement of TyTypesBack: joined by program out of this session's texts. -/
import Derived.Test.YtpcdfjifhoofjaaDoorBdTyTypesBack3
-- laid by a program of this session's own (a variant of the kit's print)
namespace Go.Proofs.YtpcdfjifhoofjaaDoor.Pt
open Go.RowKit Go.Proofs.YtpcdfjifhoofjaaDoorW.PrintWords Go.Proofs.YtpcdfjifhoofjaaDoorW.PrintLast Go.Proofs.YtpcdfjifhoofjaaDoorW.PrintMore
attribute [local go_sem] max2_int min2_int max_two min_two max_three min_three max_four min_four   -- for this text's walks alone
set_option linter.unusedVariables false
set_option linter.unusedSimpArgs false

/-! ### arbiterref02_written: function 71 -/
def arbiterref02_written.l0 : Nat → List Int → Int → Int → ByteArray → Option (ByteArray)
 | 0, _, _, _, _ => none
 | k + 1, x3, x4, x175000, x175001 => if x4 < x175000 then (if 0 ≤ x4 then (if x4 < (x3.length : Int) then (arbiterref02_written.l0 k (x3.set (x4 : Int).toNat 91) (wrap64 (x4 + 1)) x175000 x175001) else (none)) else (none)) else (if x175001.toList = ([] : List UInt8) then (if (strOfNums x3).size + 1 ≤ 9223372036854775807 then (some ((strOfNums x3) ++ (⟨#[73]⟩ : ByteArray))) else (none)) else (if (strOfNums x3).size + 1 ≤ 9223372036854775807 then (if ((strOfNums x3) ++ (⟨#[76]⟩ : ByteArray)).size + x175001.size ≤ 9223372036854775807 then (if (((strOfNums x3) ++ (⟨#[76]⟩ : ByteArray)) ++ x175001).size + 1 ≤ 9223372036854775807 then (some ((((strOfNums x3) ++ (⟨#[76]⟩ : ByteArray)) ++ x175001) ++ (⟨#[59]⟩ : ByteArray))) else (none)) else (none)) else (none)))
def arbiterref02_written.f (k : Nat) (a0_0 : Int) (a0_1 : ByteArray) : Option (ByteArray) := if 0 ≤ a0_0 then (if (a0_0 : Int).toNat ≤ 281474976710656 then (arbiterref02_written.l0 k (List.replicate (a0_0 : Int).toNat 0) 0 a0_0 a0_1) else (none)) else (none)
theorem arbiterref02_written.mono_l : ∀ k, (∀ y0 y1 y2 y3, LeO (arbiterref02_written.l0 k y0 y1 y2 y3) (arbiterref02_written.l0 (k + 1) y0 y1 y2 y3))
 | 0 => fun _ _ _ _ r h => by simp [arbiterref02_written.l0] at h
 | k + 1 => by
  have ih0 := arbiterref02_written.mono_l k
  ·
   intro y0 y1 y2 y3
   unfold arbiterref02_written.l0
   repeat' first
   | (with_reducible exact ih0 _ _ _ _)
   | (with_reducible exact LeO.refl _)
   | (with_reducible exact LeO.none _)
   | (with_reducible refine LeO.ite ?_ ?_)
   | (with_reducible refine LeO.bind ?_ (fun _ => ?_))
   | exact ih0 _ _ _ _
   | exact LeO.none _
   | refine LeO.ite ?_ ?_
   | refine LeO.bind ?_ (fun _ => ?_)
theorem arbiterref02_written.mono : ∀ a0 a1 k, LeO (arbiterref02_written.f k a0 a1) (arbiterref02_written.f (k + 1) a0 a1) := by
 intro a0 a1 k
 have ih0 := arbiterref02_written.mono_l k
 unfold arbiterref02_written.f
 repeat' first
   | (with_reducible exact ih0 _ _ _ _)
   | (with_reducible exact LeO.refl _)
   | (with_reducible exact LeO.none _)
   | (with_reducible refine LeO.ite ?_ ?_)
   | (with_reducible refine LeO.bind ?_ (fun _ => ?_))
   | exact ih0 _ _ _ _
   | exact LeO.none _
   | refine LeO.ite ?_ ?_
   | refine LeO.bind ?_ (fun _ => ?_)
set_option maxHeartbeats 8000000 in
set_option maxRecDepth 100000 in
theorem arbiterref02_written.calls (k : Nat) (a0_0 : Int) (a0_1 : ByteArray) (r : ByteArray) (w : World) (h : arbiterref02_written.f k a0_0 a0_1 = some r) :
  Calls Tryd.prog 71 #[.agg #[.int .i64 a0_0, .string a0_1]] w fun e w' => e = .returned (.string r) ∧ Below w.heap.size w w' := by
 have hu37 := Tryd.underlying37
 have HB := Aside0.mk (Below.refl w.heap.size w)
 have H : (if 0 ≤ a0_0 then (if (a0_0 : Int).toNat ≤ 281474976710656 then (arbiterref02_written.l0 k (List.replicate (a0_0 : Int).toNat 0) 0 a0_0 a0_1) else (none)) else (none)) = some r := h
 clear h
 by_cases c2 : 0 ≤ a0_0
 ·
  rw [if_pos c2] at H
  have c2b0 := eq_true c2
  have c2b1 : decide (0 ≤ a0_0) = true := decide_eq_true c2
  clear c2
  by_cases c3 : (a0_0 : Int).toNat ≤ 281474976710656
  ·
   rw [if_pos c3] at H
   have c3b0 := eq_true c3
   have c3b1 : decide ((a0_0 : Int).toNat ≤ 281474976710656) = true := decide_eq_true c3
   clear c3
   obtain ⟨y175, hy175⟩ : ∃ y_ : List Int, y_ = (List.replicate (a0_0 : Int).toNat 0) := ⟨_, rfl⟩
   replace H : (arbiterref02_written.l0 k y175 0 a0_0 a0_1) = some r := by first | (rw [hy175]; with_reducible exact H) | (have H2_ := (Option.bind_some _ _).symm.trans H; rw [hy175]; with_reducible exact H2_) | (have H2_ := (Option.bind_some _ _).symm.trans H; with_reducible exact H2_) | with_reducible exact H | (rw [hy175]; exact H) | exact H
   have Ny175 := Aside0.mk hy175
   clear hy175
   have H' := Aside0.mk H
   clear H
   go_enter Tryd.func71, Tryd.ntmps71
   go_wp2_with (first | ((with_reducible refine gate_dst (N := 1) rfl ?_); refine box_event ?hg (N := 1) ?hd (cs := #[.int .i64 a0_0, .string a0_1]) (t := 37) ?hr ?_; (case hd => rfl); (case hg => rfl); (case hr => first | (go_simp; done) | (go_simp; rfl)); intro gb174 hg w4 hbox hb; have n0_ := Aside0.mk (below_step (by repeat (first | (with_reducible first | exact HB.out | apply below_alloc | apply pw_below_drewN | apply below_drew1) | exact HB.out)) hb); have n1_ := Aside0.mk (hbox); have n2_ := Aside0.mk ((by rw [hg]; exact (below_size (by repeat (first | (with_reducible first | exact HB.out | apply below_alloc | apply pw_below_drewN | apply below_drew1) | exact HB.out))) : w.heap.size ≤ gb174)); have n3_ := Aside0.mk ((by rw [hg]; exact (below_size (by repeat (first | (with_reducible first | exact HB.out | apply below_alloc | apply pw_below_drewN | apply below_drew1) | exact HB.out))) : w.heap.size ≤ gb174)); clear HB; have HB := n0_; have BK174 := n1_; have GW174 := n2_; have GE174 := n3_; clear n0_ n1_ n2_ n3_; clear hb hbox hg; have hcz5_0 : w4.cell? ⟨gb174, 0, none⟩ = some (.int .i64 a0_0) := (blk_cell BK174.out 0).trans rfl; have hcz5_1 : w4.cell? ⟨gb174, 1, none⟩ = some (.string a0_1) := (blk_cell BK174.out 1).trans rfl; have hfz5_0 := blk_frozen BK174.out 0; have hfz5_1 := blk_frozen BK174.out 1) | ((with_reducible refine gate_dst (N := 7) rfl ?_); refine Kd.R_make (Kd.int .u8) _ 5 rfl (N := 7) rfl 78 _ _ rfl a0_0 rfl rfl Tryd.underlying78 (.int .u8 0) 1 info5 rfl (by decide) (by omega) 0 (ok := fun _ => True) (okp := fun _ => True) rfl (fun _ hk => hk) trivial (of_decide_eq_true (by first | (with_reducible assumption) | assumption)) (Nat.le_trans (Nat.mul_le_mul_right _ (of_decide_eq_true (by first | (with_reducible assumption) | assumption) : a0_0.toNat ≤ 281474976710656)) (by omega)) (Below.refl _ _) (Nat.le_refl _) ?_; intro v176 w6 ho7 hb hg_ hnew_; clear hg_ hnew_; (first | rw [← Ny175.out] at ho7 | (simp only [Int.reduceToNat] at ho7; rw [← Ny175.out] at ho7)); have n0_ := Aside0.mk (Kd.R_lower ho7 (below_size (by repeat (first | (with_reducible first | exact HB.out | apply below_alloc | apply pw_below_drewN | apply below_drew1 | refine below_set ?_ GE174.out) | exact HB.out)))); have n1_ := Aside0.mk (blk_below (g := gb174) (o := .cells #[.int .i64 a0_0, .string a0_1] 37 (0, 0)) (by (with_reducible repeat (first | refine blk_drewN ?_ _ | refine blk_drew ?_ | refine blk_alloc ?_ _)); exact BK174.out) hb); have n2_ := Aside0.mk (below_step (by repeat (first | (with_reducible first | exact HB.out | apply below_alloc | apply pw_below_drewN | apply below_drew1 | refine below_set ?_ GE174.out) | exact HB.out)) hb); clear BK174; clear HB; have HO177 := n0_; have BK174 := n1_; have HB := n2_; clear n0_ n1_ n2_; clear hb ho7))
   go_loopg [4] k (fun kq v4 w' => ∃ (x3_1 : List Int) (x4_1 : Int), v4 = .int .i64 x4_1 ∧ Aside0 (arbiterref02_written.l0 kq x3_1 x4_1 a0_0 a0_1 = some r) ∧ Aside0 (kq ≤ k) ∧ Aside0 (Kd.R (Kd.int .u8) 5 w' w.heap.size (fun _ => True) v176 x3_1) ∧ Aside0 (w'.heap[gb174]? = some (.cells #[.int .i64 a0_0, .string a0_1] 37 (0, 0))) ∧ Aside0 (Below w.heap.size w w'))
   case atStart => exact ⟨(y175), (0), (by first | rfl | (simp; done) | (simp [*]; done)), H', ⟨Nat.le_refl _⟩, ⟨by (with_reducible repeat (first | apply Kd.R_alloc | apply Kd.R_drewN | apply Kd.R_drew)); exact HO177.out⟩, ⟨by (with_reducible repeat (first | refine blk_drewN ?_ _ | refine blk_drew ?_ | refine blk_alloc ?_ _)); exact BK174.out⟩, ⟨by repeat (first | (with_reducible first | exact HB.out | apply below_alloc | apply pw_below_drewN | apply below_drew1 | refine below_set ?_ GE174.out) | exact HB.out)⟩⟩
   case round =>
    clear H'
    try clear c2
    try clear c2b0
    try clear c2b1
    try clear p2
    try clear c3
    try clear c3b0
    try clear c3b1
    try clear c7
    try clear hcz5_0
    try clear hcz5_1
    try clear hfz5_0
    try clear hfz5_1
    obtain ⟨x3_1, x4_1, rfl, HA, HK1, HO_3, BK174, HB⟩ := hrel
    cases gk with
    | zero => exact absurd HA.out (by simp [arbiterref02_written.l0])
    | succ k1 =>
     have H := HA.out
     clear HA
     simp only [arbiterref02_written.l0] at H
     by_cases c8 : x4_1 < a0_0
     ·
      rw [if_pos c8] at H
      have c8b0 : decide (x4_1 < a0_0) = true := decide_eq_true c8
      clear c8
      by_cases c9 : 0 ≤ x4_1
      ·
       rw [if_pos c9] at H
       have c9b0 : decide (0 ≤ x4_1) = true := decide_eq_true c9
       clear c9
       by_cases c10 : x4_1 < (x3_1.length : Int)
       ·
        rw [if_pos c10] at H
        have c10b0 : decide (x4_1 < (x3_1.length : Int)) = true := decide_eq_true c10
        clear c10
        obtain ⟨y178, hy178⟩ : ∃ y_ : List Int, y_ = (x3_1.set (x4_1 : Int).toNat 91) := ⟨_, rfl⟩
        replace H : (arbiterref02_written.l0 k1 y178 (wrap64 (x4_1 + 1)) a0_0 a0_1) = some r := by first | (rw [hy178]; with_reducible exact H) | (have H2_ := (Option.bind_some _ _).symm.trans H; rw [hy178]; with_reducible exact H2_) | (have H2_ := (Option.bind_some _ _).symm.trans H; with_reducible exact H2_) | with_reducible exact H | (rw [hy178]; exact H) | exact H
        have Ny178 := Aside0.mk hy178
        clear hy178
        have H' := Aside0.mk H
        clear H
        have hcz12_0 : wr.cell? ⟨gb174, 0, none⟩ = some (.int .i64 a0_0) := (blk_cell BK174.out 0).trans rfl
        have hcz12_1 : wr.cell? ⟨gb174, 1, none⟩ = some (.string a0_1) := (blk_cell BK174.out 1).trans rfl
        have hfz12_0 := blk_frozen BK174.out 0
        have hfz12_1 := blk_frozen BK174.out 1
        have p11 : 0 ≤ (x4_1 : Int) := of_decide_eq_true (by first | (with_reducible assumption) | assumption)
        have q11 : (x4_1 : Int) < ((x3_1.length : Int) : Int) := of_decide_eq_true (by first | (with_reducible assumption) | assumption)
        obtain ⟨go11, co11, eo11, gb11, gl11, cl11, HG11⟩ := Kd.R_form HO_3.out (by omega)
        (first | cases eo11 | (injection eo11 with ea_ en_ ec_; (first | subst ea_ | (injection ea_ with ea_; subst ea_)); subst ec_; clear en_))
        have GB11 := Aside0.mk gb11
        have GG11 := Aside0.mk HG11
        clear gb11 gl11 HG11
        obtain ⟨hx11_0, hf11_0⟩ := Kd.R_celln 0 HO_3.out (x4_1 : Int) p11 q11
        replace p11 := eq_true p11
        replace q11 := eq_true q11
        have HP13 := Kd.R_putg HO_3.out (x4_1 : Int) 91
        go_wp2_with (first | ((with_reducible refine gate_store (t := 5) (p := 16) rfl ?_); refine store_event (t := 5) (p := 16) (v := ?vo_w14) (w1 := (wr.setCell ⟨go11, (x4_1 : Int).toNat, none⟩ (.int .u8 91))) ?hg ?ho ?hn ?hr ?_; (case ho => rfl); (case hg => rfl); (case hn => rfl); (case hr => first | (go_simp; done) | (go_simp; rfl)); intro w14 hw; have hg : wr.grownBy w14 (some go11) := (by rw [hw]; exact HP13.2); have hp_ : Kd.R (Kd.int .u8) 5 w14 w.heap.size (fun _ => True) (.slice (some ⟨go11, 0, none⟩) x3_1.length co11) y178 := (by rw [hw, Ny178.out]; exact HP13.1); clear HP13; have n0_ := Aside0.mk (hp_); have n1_ := Aside0.mk (blk_grown (g := gb174) (o := .cells #[.int .i64 a0_0, .string a0_1] 37 (0, 0)) (by (with_reducible repeat (first | refine blk_drewN ?_ _ | refine blk_drew ?_ | refine blk_alloc ?_ _)); exact BK174.out) hg (Kd.R_ne HO_3.out BK174.out (by decide))); have n2_ := Aside0.mk ((by rw [hw]; exact below_set (HB.out) GB11.out : Below w.heap.size w w14)); clear HO_3; clear BK174; clear HB; have HO_3 := n0_; have BK174 := n1_; have HB := n2_; clear n0_ n1_ n2_; clear hg hw hp_))
        go_roundg k1
        case measure => have := HK1.out; omega
        case rel => exact ⟨(y178), (wrap64 (x4_1 + 1)), (by first | rfl | (simp; done) | (simp [*]; done)), H', ⟨by have := HK1.out; omega⟩, ⟨by (with_reducible repeat (first | apply Kd.R_alloc | apply Kd.R_drewN | apply Kd.R_drew)); exact HO_3.out⟩, ⟨by (with_reducible repeat (first | refine blk_drewN ?_ _ | refine blk_drew ?_ | refine blk_alloc ?_ _)); exact BK174.out⟩, ⟨by repeat (first | (with_reducible first | exact HB.out | apply below_alloc | apply pw_below_drewN | apply below_drew1 | refine below_set ?_ GE174.out) | exact HB.out)⟩⟩
       ·
        rw [if_neg c10] at H
        exact absurd H (by simp)
      ·
       rw [if_neg c9] at H
       exact absurd H (by simp)
     ·
      rw [if_neg c8] at H
      have c8b0 : decide (x4_1 < a0_0) = false := decide_eq_false c8
      clear c8
      by_cases c15 : a0_1.toList = ([] : List UInt8)
      ·
       rw [if_pos c15] at H
       have c15b0 : (a0_1.toList == ([] : List UInt8)) = true := beq_iff_eq.mpr c15
       have c15b1 : (a0_1.toList != ([] : List UInt8)) = false := bne_eq_false_iff_eq.mpr c15
       clear c15
       by_cases c16 : (strOfNums x3_1).size + 1 ≤ 9223372036854775807
       ·
        rw [if_pos c16] at H
        have c16b0 := eq_true c16
        have c16b1 : decide ((strOfNums x3_1).size + 1 ≤ 9223372036854775807) = true := decide_eq_true c16
        try have c16b2 : (9223372036854775807 < (strOfNums x3_1).size + 1) = False := eq_false (Nat.not_lt.2 c16)
        obtain rfl := Option.some.inj H
        have hcz17_0 : wr.cell? ⟨gb174, 0, none⟩ = some (.int .i64 a0_0) := (blk_cell BK174.out 0).trans rfl
        have hcz17_1 : wr.cell? ⟨gb174, 1, none⟩ = some (.string a0_1) := (blk_cell BK174.out 1).trans rfl
        have hfz17_0 := blk_frozen BK174.out 0
        have hfz17_1 := blk_frozen BK174.out 1
        have hcv18 := own_string (P := Tryd.prog) Tryd.underlying78 Tryd.underlying5 Tryd.underlying9 (Kd.own_of_R HO_3.out)
        go_wp2
        go_ret
        exact ⟨by first | rfl | (simp [errW_none, errW_some] <;> rfl) | (simp [*, errW_none, errW_some] <;> rfl), by repeat (first | (with_reducible first | exact HB.out | apply below_alloc | apply pw_below_drewN | apply below_drew1 | refine below_set ?_ GE174.out) | exact HB.out)⟩
       ·
        rw [if_neg c16] at H
        exact absurd H (by simp)
      ·
       rw [if_neg c15] at H
       have c15b0 : (a0_1.toList == ([] : List UInt8)) = false := beq_eq_false_iff_ne.mpr c15
       have c15b1 : (a0_1.toList != ([] : List UInt8)) = true := bne_iff_ne.mpr c15
       by_cases c19 : (strOfNums x3_1).size + 1 ≤ 9223372036854775807
       ·
        rw [if_pos c19] at H
        have c19b0 := eq_true c19
        have c19b1 : decide ((strOfNums x3_1).size + 1 ≤ 9223372036854775807) = true := decide_eq_true c19
        try have c19b2 : (9223372036854775807 < (strOfNums x3_1).size + 1) = False := eq_false (Nat.not_lt.2 c19)
        by_cases c20 : ((strOfNums x3_1) ++ (⟨#[76]⟩ : ByteArray)).size + a0_1.size ≤ 9223372036854775807
        ·
         rw [if_pos c20] at H
         have c20b0 := eq_true c20
         have c20b1 : decide (((strOfNums x3_1) ++ (⟨#[76]⟩ : ByteArray)).size + a0_1.size ≤ 9223372036854775807) = true := decide_eq_true c20
         try have c20b2 : (9223372036854775807 < ((strOfNums x3_1) ++ (⟨#[76]⟩ : ByteArray)).size + a0_1.size) = False := eq_false (Nat.not_lt.2 c20)
         try have c20s := c20
         try simp only [ByteArray.size_append, show (⟨#[76]⟩ : ByteArray).size = 1 from rfl] at c20s
         try have c20sb := eq_true c20s
         try have c20sc := eq_false (Nat.not_lt.2 c20s)
         try clear c20s
         by_cases c21 : (((strOfNums x3_1) ++ (⟨#[76]⟩ : ByteArray)) ++ a0_1).size + 1 ≤ 9223372036854775807
         ·
          rw [if_pos c21] at H
          have c21b0 := eq_true c21
          have c21b1 : decide ((((strOfNums x3_1) ++ (⟨#[76]⟩ : ByteArray)) ++ a0_1).size + 1 ≤ 9223372036854775807) = true := decide_eq_true c21
          try have c21b2 : (9223372036854775807 < (((strOfNums x3_1) ++ (⟨#[76]⟩ : ByteArray)) ++ a0_1).size + 1) = False := eq_false (Nat.not_lt.2 c21)
          try have c21s := c21
          try simp only [ByteArray.size_append, show (⟨#[76]⟩ : ByteArray).size = 1 from rfl] at c21s
          try have c21sb := eq_true c21s
          try have c21sc := eq_false (Nat.not_lt.2 c21s)
          try clear c21s
          obtain rfl := Option.some.inj H
          have hcz22_0 : wr.cell? ⟨gb174, 0, none⟩ = some (.int .i64 a0_0) := (blk_cell BK174.out 0).trans rfl
          have hcz22_1 : wr.cell? ⟨gb174, 1, none⟩ = some (.string a0_1) := (blk_cell BK174.out 1).trans rfl
          have hfz22_0 := blk_frozen BK174.out 0
          have hfz22_1 := blk_frozen BK174.out 1
          have hcv23 := own_string (P := Tryd.prog) Tryd.underlying78 Tryd.underlying5 Tryd.underlying9 (Kd.own_of_R HO_3.out)
          go_wp2
          go_ret
          exact ⟨by first | rfl | (simp [errW_none, errW_some] <;> rfl) | (simp [*, errW_none, errW_some] <;> rfl), by repeat (first | (with_reducible first | exact HB.out | apply below_alloc | apply pw_below_drewN | apply below_drew1 | refine below_set ?_ GE174.out) | exact HB.out)⟩
         ·
          rw [if_neg c21] at H
          exact absurd H (by simp)
        ·
         rw [if_neg c20] at H
         exact absurd H (by simp)
       ·
        rw [if_neg c19] at H
        exact absurd H (by simp)
  ·
   rw [if_neg c3] at H
   exact absurd H (by simp)
 ·
  rw [if_neg c2] at H
  exact absurd H (by simp)

/-! ### arbiterref02_Text: function 42 -/
def arbiterref02_Text.f (k : Nat) (a0_0 : Int) (a0_1 : ByteArray) : Option (ByteArray × Int) := (arbiterref02_Check.f a0_0 a0_1).bind fun t180 => (if t180 = 0 then ((arbiterref02_written.f k a0_0 a0_1).bind fun t181 => (some (t181, 0))) else (some ((⟨#[]⟩ : ByteArray), 1)))
theorem arbiterref02_Text.mono : ∀ a0 a1 k, LeO (arbiterref02_Text.f k a0 a1) (arbiterref02_Text.f (k + 1) a0 a1) := by
 intro a0 a1 k
 unfold arbiterref02_Text.f
 repeat' first
   | (with_reducible exact arbiterref02_written.mono _ _ _)
   | (with_reducible exact LeO.refl _)
   | (with_reducible exact LeO.none _)
   | (with_reducible refine LeO.ite ?_ ?_)
   | (with_reducible refine LeO.bind ?_ (fun _ => ?_))
   | exact arbiterref02_written.mono _ _ _
   | exact LeO.none _
   | refine LeO.ite ?_ ?_
   | refine LeO.bind ?_ (fun _ => ?_)
set_option maxHeartbeats 8000000 in
set_option maxRecDepth 100000 in
theorem arbiterref02_Text.calls (k : Nat) (a0_0 : Int) (a0_1 : ByteArray) (r1 : ByteArray) (r2 : Int) (w : World) (h : arbiterref02_Text.f k a0_0 a0_1 = some (r1, r2)) :
  Calls Tryd.prog 42 #[.agg #[.int .i64 a0_0, .string a0_1]] w fun e w' => e = .returned (.tuple #[.string r1, .int .i64 r2]) ∧ Below w.heap.size w w' := by
 have hu37 := Tryd.underlying37
 have HB := Aside0.mk (Below.refl w.heap.size w)
 have H : ((arbiterref02_Check.f a0_0 a0_1).bind fun t180 => (if t180 = 0 then ((arbiterref02_written.f k a0_0 a0_1).bind fun t181 => (some (t181, 0))) else (some ((⟨#[]⟩ : ByteArray), 1)))) = some (r1, r2) := h
 clear h
 replace H := Option.bind_eq_some_iff.mp H
 obtain ⟨t180, A20, H⟩ := H
 replace H : (if t180 = 0 then ((arbiterref02_written.f k a0_0 a0_1).bind fun t181 => (some (t181, 0))) else (some ((⟨#[]⟩ : ByteArray), 1))) = some (r1, r2) := H
 have A2 := Aside0.mk A20
 clear A20
 by_cases c3 : t180 = 0
 ·
  rw [if_pos c3] at H
  have c3b0 : (t180 == 0) = true := beq_iff_eq.mpr c3
  have c3b1 : (t180 != 0) = false := bne_eq_false_iff_eq.mpr c3
  clear c3
  replace H := Option.bind_eq_some_iff.mp H
  obtain ⟨t181, A40, H⟩ := H
  replace H : (some (t181, 0)) = some (r1, r2) := H
  have A4 := Aside0.mk A40
  clear A40
  simp only [Option.some.injEq, Prod.mk.injEq] at H
  obtain ⟨rfl, rfl⟩ := H
  go_enter Tryd.func42, Tryd.ntmps42
  go_wp2_with (first | ((with_reducible refine gate_dst (N := 1) rfl ?_); refine box_event ?hg (N := 1) ?hd (cs := #[.int .i64 a0_0, .string a0_1]) (t := 37) ?hr ?_; (case hd => rfl); (case hg => rfl); (case hr => first | (go_simp; done) | (go_simp; rfl)); intro gb179 hg w5 hbox hb; have n0_ := Aside0.mk (below_step (by repeat (first | (with_reducible first | exact HB.out | apply below_alloc | apply pw_below_drewN | apply below_drew1) | exact HB.out)) hb); have n1_ := Aside0.mk (hbox); have n2_ := Aside0.mk ((by rw [hg]; exact (below_size (by repeat (first | (with_reducible first | exact HB.out | apply below_alloc | apply pw_below_drewN | apply below_drew1) | exact HB.out))) : w.heap.size ≤ gb179)); have n3_ := Aside0.mk ((by rw [hg]; exact (below_size (by repeat (first | (with_reducible first | exact HB.out | apply below_alloc | apply pw_below_drewN | apply below_drew1) | exact HB.out))) : w.heap.size ≤ gb179)); clear HB; have HB := n0_; have BK179 := n1_; have GW179 := n2_; have GE179 := n3_; clear n0_ n1_ n2_ n3_; clear hb hbox hg; have hcz6_0 : w5.cell? ⟨gb179, 0, none⟩ = some (.int .i64 a0_0) := (blk_cell BK179.out 0).trans rfl; have hcz6_1 : w5.cell? ⟨gb179, 1, none⟩ = some (.string a0_1) := (blk_cell BK179.out 1).trans rfl; have hfz6_0 := blk_frozen BK179.out 0; have hfz6_1 := blk_frozen BK179.out 1) | ((with_reducible refine gate_callee (f := 44) rfl ?_); refine goesL_ (some 5) rfl rfl Tryd.func44 (by kernel_rfl) rfl #[.agg #[.int .i64 a0_0, .string a0_1]] rfl (by (try simp only [List.map_toArray, List.map_cons, List.map_nil]); first | done | rfl | (simp only [List.length_drop, List.length_take]; rfl)) ?_; (with_reducible refine (arbiterref02_Check.calls a0_0 a0_1 t180 _ A2.out).mono ?_); rintro e w7 ⟨rfl, hb⟩; refine ⟨_, rfl, ?_⟩; have n0_ := Aside0.mk (blk_below (g := gb179) (o := .cells #[.int .i64 a0_0, .string a0_1] 37 (0, 0)) (by (with_reducible repeat (first | refine blk_drewN ?_ _ | refine blk_drew ?_ | refine blk_alloc ?_ _)); exact BK179.out) hb); have n1_ := Aside0.mk (below_step (by repeat (first | (with_reducible first | exact HB.out | apply below_alloc | apply pw_below_drewN | apply below_drew1 | refine below_set ?_ GE179.out) | exact HB.out)) hb); clear BK179; clear HB; have BK179 := n0_; have HB := n1_; clear n0_ n1_; (try clear hb); (try clear hb2); (try clear hk); (try clear hi); have hcz8_0 : w7.cell? ⟨gb179, 0, none⟩ = some (.int .i64 a0_0) := (blk_cell BK179.out 0).trans rfl; have hcz8_1 : w7.cell? ⟨gb179, 1, none⟩ = some (.string a0_1) := (blk_cell BK179.out 1).trans rfl; have hfz8_0 := blk_frozen BK179.out 0; have hfz8_1 := blk_frozen BK179.out 1) | ((with_reducible refine gate_callee (f := 71) rfl ?_); refine goesL_ (some 8) rfl rfl Tryd.func71 (by kernel_rfl) rfl #[.agg #[.int .i64 a0_0, .string a0_1]] rfl (by (try simp only [List.map_toArray, List.map_cons, List.map_nil]); first | done | rfl | (simp only [List.length_drop, List.length_take]; rfl)) ?_; (with_reducible refine (arbiterref02_written.calls k a0_0 a0_1 t181 _ A4.out).mono ?_); rintro e w9 ⟨rfl, hb⟩; refine ⟨_, rfl, ?_⟩; have n0_ := Aside0.mk (blk_below (g := gb179) (o := .cells #[.int .i64 a0_0, .string a0_1] 37 (0, 0)) (by (with_reducible repeat (first | refine blk_drewN ?_ _ | refine blk_drew ?_ | refine blk_alloc ?_ _)); exact BK179.out) hb); have n1_ := Aside0.mk (below_step (by repeat (first | (with_reducible first | exact HB.out | apply below_alloc | apply pw_below_drewN | apply below_drew1 | refine below_set ?_ GE179.out) | exact HB.out)) hb); clear BK179; clear HB; have BK179 := n0_; have HB := n1_; clear n0_ n1_; (try clear hb); (try clear hb2); (try clear hk); (try clear hi)))
  go_ret2
  exact ⟨by first | rfl | (simp [errW_none, errW_some] <;> rfl) | (simp [*, errW_none, errW_some] <;> rfl), by repeat (first | (with_reducible first | exact HB.out | apply below_alloc | apply pw_below_drewN | apply below_drew1 | refine below_set ?_ GE179.out) | exact HB.out)⟩
 ·
  rw [if_neg c3] at H
  have c3b0 : (t180 == 0) = false := beq_eq_false_iff_ne.mpr c3
  have c3b1 : (t180 != 0) = true := bne_iff_ne.mpr c3
  simp only [Option.some.injEq, Prod.mk.injEq] at H
  obtain ⟨rfl, rfl⟩ := H
  go_enter Tryd.func42, Tryd.ntmps42
  go_wp2_with (first | ((with_reducible refine gate_dst (N := 1) rfl ?_); refine box_event ?hg (N := 1) ?hd (cs := #[.int .i64 a0_0, .string a0_1]) (t := 37) ?hr ?_; (case hd => rfl); (case hg => rfl); (case hr => first | (go_simp; done) | (go_simp; rfl)); intro gb179 hg w10 hbox hb; have n0_ := Aside0.mk (below_step (by repeat (first | (with_reducible first | exact HB.out | apply below_alloc | apply pw_below_drewN | apply below_drew1) | exact HB.out)) hb); have n1_ := Aside0.mk (hbox); have n2_ := Aside0.mk ((by rw [hg]; exact (below_size (by repeat (first | (with_reducible first | exact HB.out | apply below_alloc | apply pw_below_drewN | apply below_drew1) | exact HB.out))) : w.heap.size ≤ gb179)); have n3_ := Aside0.mk ((by rw [hg]; exact (below_size (by repeat (first | (with_reducible first | exact HB.out | apply below_alloc | apply pw_below_drewN | apply below_drew1) | exact HB.out))) : w.heap.size ≤ gb179)); clear HB; have HB := n0_; have BK179 := n1_; have GW179 := n2_; have GE179 := n3_; clear n0_ n1_ n2_ n3_; clear hb hbox hg; have hcz11_0 : w10.cell? ⟨gb179, 0, none⟩ = some (.int .i64 a0_0) := (blk_cell BK179.out 0).trans rfl; have hcz11_1 : w10.cell? ⟨gb179, 1, none⟩ = some (.string a0_1) := (blk_cell BK179.out 1).trans rfl; have hfz11_0 := blk_frozen BK179.out 0; have hfz11_1 := blk_frozen BK179.out 1) | ((with_reducible refine gate_callee (f := 44) rfl ?_); refine goesL_ (some 5) rfl rfl Tryd.func44 (by kernel_rfl) rfl #[.agg #[.int .i64 a0_0, .string a0_1]] rfl (by (try simp only [List.map_toArray, List.map_cons, List.map_nil]); first | done | rfl | (simp only [List.length_drop, List.length_take]; rfl)) ?_; (with_reducible refine (arbiterref02_Check.calls a0_0 a0_1 t180 _ A2.out).mono ?_); rintro e w12 ⟨rfl, hb⟩; refine ⟨_, rfl, ?_⟩; have n0_ := Aside0.mk (blk_below (g := gb179) (o := .cells #[.int .i64 a0_0, .string a0_1] 37 (0, 0)) (by (with_reducible repeat (first | refine blk_drewN ?_ _ | refine blk_drew ?_ | refine blk_alloc ?_ _)); exact BK179.out) hb); have n1_ := Aside0.mk (below_step (by repeat (first | (with_reducible first | exact HB.out | apply below_alloc | apply pw_below_drewN | apply below_drew1 | refine below_set ?_ GE179.out) | exact HB.out)) hb); clear BK179; clear HB; have BK179 := n0_; have HB := n1_; clear n0_ n1_; (try clear hb); (try clear hb2); (try clear hk); (try clear hi)))
  go_ret2
  exact ⟨by first | rfl | (simp [errW_none, errW_some] <;> rfl) | (simp [*, errW_none, errW_some] <;> rfl), by repeat (first | (with_reducible first | exact HB.out | apply below_alloc | apply pw_below_drewN | apply below_drew1 | refine below_set ?_ GE179.out) | exact HB.out)⟩

end Go.Proofs.YtpcdfjifhoofjaaDoor.Pt

-- laid by a program of this session's own (a variant of the kit's print)
namespace Go.Proofs.YtpcdfjifhoofjaaDoor.Pt
open Go.RowKit Go.Proofs.YtpcdfjifhoofjaaDoorW.PrintWords Go.Proofs.YtpcdfjifhoofjaaDoorW.PrintLast Go.Proofs.YtpcdfjifhoofjaaDoorW.PrintMore
attribute [local go_sem] max2_int min2_int max_two min_two max_three min_three max_four min_four   -- for this text's walks alone
set_option linter.unusedVariables false
set_option linter.unusedSimpArgs false

/-! ### arbiterref02_RefText: function 46 -/
def arbiterref02_RefText.f (k : Nat) (a0_0 : Int) (a0_1 : ByteArray) : Option (ByteArray × Int) := (arbiterref02_Check.f a0_0 a0_1).bind fun t183 => (if t183 = 0 then (if a0_0 > 0 then ((arbiterref02_written.f k a0_0 a0_1).bind fun t184 => (some (t184, 0))) else (if a0_1.toList = ([] : List UInt8) then (some ((⟨#[]⟩ : ByteArray), 2)) else (some (a0_1, 0)))) else (some ((⟨#[]⟩ : ByteArray), 1)))
theorem arbiterref02_RefText.mono : ∀ a0 a1 k, LeO (arbiterref02_RefText.f k a0 a1) (arbiterref02_RefText.f (k + 1) a0 a1) := by
 intro a0 a1 k
 unfold arbiterref02_RefText.f
 repeat' first
   | (with_reducible exact arbiterref02_written.mono _ _ _)
   | (with_reducible exact LeO.refl _)
   | (with_reducible exact LeO.none _)
   | (with_reducible refine LeO.ite ?_ ?_)
   | (with_reducible refine LeO.bind ?_ (fun _ => ?_))
   | exact arbiterref02_written.mono _ _ _
   | exact LeO.none _
   | refine LeO.ite ?_ ?_
   | refine LeO.bind ?_ (fun _ => ?_)
set_option maxHeartbeats 8000000 in
set_option maxRecDepth 100000 in
theorem arbiterref02_RefText.calls (k : Nat) (a0_0 : Int) (a0_1 : ByteArray) (r1 : ByteArray) (r2 : Int) (w : World) (h : arbiterref02_RefText.f k a0_0 a0_1 = some (r1, r2)) :
  Calls Tryd.prog 46 #[.agg #[.int .i64 a0_0, .string a0_1]] w fun e w' => e = .returned (.tuple #[.string r1, .int .i64 r2]) ∧ Below w.heap.size w w' := by
 have hu37 := Tryd.underlying37
 have HB := Aside0.mk (Below.refl w.heap.size w)
 have H : ((arbiterref02_Check.f a0_0 a0_1).bind fun t183 => (if t183 = 0 then (if a0_0 > 0 then ((arbiterref02_written.f k a0_0 a0_1).bind fun t184 => (some (t184, 0))) else (if a0_1.toList = ([] : List UInt8) then (some ((⟨#[]⟩ : ByteArray), 2)) else (some (a0_1, 0)))) else (some ((⟨#[]⟩ : ByteArray), 1)))) = some (r1, r2) := h
 clear h
 replace H := Option.bind_eq_some_iff.mp H
 obtain ⟨t183, A20, H⟩ := H
 replace H : (if t183 = 0 then (if a0_0 > 0 then ((arbiterref02_written.f k a0_0 a0_1).bind fun t184 => (some (t184, 0))) else (if a0_1.toList = ([] : List UInt8) then (some ((⟨#[]⟩ : ByteArray), 2)) else (some (a0_1, 0)))) else (some ((⟨#[]⟩ : ByteArray), 1))) = some (r1, r2) := H
 have A2 := Aside0.mk A20
 clear A20
 by_cases c3 : t183 = 0
 ·
  rw [if_pos c3] at H
  have c3b0 : (t183 == 0) = true := beq_iff_eq.mpr c3
  have c3b1 : (t183 != 0) = false := bne_eq_false_iff_eq.mpr c3
  clear c3
  by_cases c4 : a0_0 > 0
  ·
   rw [if_pos c4] at H
   have c4b0 : decide (0 < a0_0) = true := decide_eq_true c4
   clear c4
   replace H := Option.bind_eq_some_iff.mp H
   obtain ⟨t184, A50, H⟩ := H
   replace H : (some (t184, 0)) = some (r1, r2) := H
   have A5 := Aside0.mk A50
   clear A50
   simp only [Option.some.injEq, Prod.mk.injEq] at H
   obtain ⟨rfl, rfl⟩ := H
   go_enter Tryd.func46, Tryd.ntmps46
   go_wp2_with (first | ((with_reducible refine gate_dst (N := 1) rfl ?_); refine box_event ?hg (N := 1) ?hd (cs := #[.int .i64 a0_0, .string a0_1]) (t := 37) ?hr ?_; (case hd => rfl); (case hg => rfl); (case hr => first | (go_simp; done) | (go_simp; rfl)); intro gb182 hg w6 hbox hb; have n0_ := Aside0.mk (below_step (by repeat (first | (with_reducible first | exact HB.out | apply below_alloc | apply pw_below_drewN | apply below_drew1) | exact HB.out)) hb); have n1_ := Aside0.mk (hbox); have n2_ := Aside0.mk ((by rw [hg]; exact (below_size (by repeat (first | (with_reducible first | exact HB.out | apply below_alloc | apply pw_below_drewN | apply below_drew1) | exact HB.out))) : w.heap.size ≤ gb182)); have n3_ := Aside0.mk ((by rw [hg]; exact (below_size (by repeat (first | (with_reducible first | exact HB.out | apply below_alloc | apply pw_below_drewN | apply below_drew1) | exact HB.out))) : w.heap.size ≤ gb182)); clear HB; have HB := n0_; have BK182 := n1_; have GW182 := n2_; have GE182 := n3_; clear n0_ n1_ n2_ n3_; clear hb hbox hg; have hcz7_0 : w6.cell? ⟨gb182, 0, none⟩ = some (.int .i64 a0_0) := (blk_cell BK182.out 0).trans rfl; have hcz7_1 : w6.cell? ⟨gb182, 1, none⟩ = some (.string a0_1) := (blk_cell BK182.out 1).trans rfl; have hfz7_0 := blk_frozen BK182.out 0; have hfz7_1 := blk_frozen BK182.out 1) | ((with_reducible refine gate_callee (f := 44) rfl ?_); refine goesL_ (some 5) rfl rfl Tryd.func44 (by kernel_rfl) rfl #[.agg #[.int .i64 a0_0, .string a0_1]] rfl (by (try simp only [List.map_toArray, List.map_cons, List.map_nil]); first | done | rfl | (simp only [List.length_drop, List.length_take]; rfl)) ?_; (with_reducible refine (arbiterref02_Check.calls a0_0 a0_1 t183 _ A2.out).mono ?_); rintro e w8 ⟨rfl, hb⟩; refine ⟨_, rfl, ?_⟩; have n0_ := Aside0.mk (blk_below (g := gb182) (o := .cells #[.int .i64 a0_0, .string a0_1] 37 (0, 0)) (by (with_reducible repeat (first | refine blk_drewN ?_ _ | refine blk_drew ?_ | refine blk_alloc ?_ _)); exact BK182.out) hb); have n1_ := Aside0.mk (below_step (by repeat (first | (with_reducible first | exact HB.out | apply below_alloc | apply pw_below_drewN | apply below_drew1 | refine below_set ?_ GE182.out) | exact HB.out)) hb); clear BK182; clear HB; have BK182 := n0_; have HB := n1_; clear n0_ n1_; (try clear hb); (try clear hb2); (try clear hk); (try clear hi); have hcz9_0 : w8.cell? ⟨gb182, 0, none⟩ = some (.int .i64 a0_0) := (blk_cell BK182.out 0).trans rfl; have hcz9_1 : w8.cell? ⟨gb182, 1, none⟩ = some (.string a0_1) := (blk_cell BK182.out 1).trans rfl; have hfz9_0 := blk_frozen BK182.out 0; have hfz9_1 := blk_frozen BK182.out 1) | ((with_reducible refine gate_callee (f := 71) rfl ?_); refine goesL_ (some 11) rfl rfl Tryd.func71 (by kernel_rfl) rfl #[.agg #[.int .i64 a0_0, .string a0_1]] rfl (by (try simp only [List.map_toArray, List.map_cons, List.map_nil]); first | done | rfl | (simp only [List.length_drop, List.length_take]; rfl)) ?_; (with_reducible refine (arbiterref02_written.calls k a0_0 a0_1 t184 _ A5.out).mono ?_); rintro e w10 ⟨rfl, hb⟩; refine ⟨_, rfl, ?_⟩; have n0_ := Aside0.mk (blk_below (g := gb182) (o := .cells #[.int .i64 a0_0, .string a0_1] 37 (0, 0)) (by (with_reducible repeat (first | refine blk_drewN ?_ _ | refine blk_drew ?_ | refine blk_alloc ?_ _)); exact BK182.out) hb); have n1_ := Aside0.mk (below_step (by repeat (first | (with_reducible first | exact HB.out | apply below_alloc | apply pw_below_drewN | apply below_drew1 | refine below_set ?_ GE182.out) | exact HB.out)) hb); clear BK182; clear HB; have BK182 := n0_; have HB := n1_; clear n0_ n1_; (try clear hb); (try clear hb2); (try clear hk); (try clear hi)))
   go_ret2
   exact ⟨by first | rfl | (simp [errW_none, errW_some] <;> rfl) | (simp [*, errW_none, errW_some] <;> rfl), by repeat (first | (with_reducible first | exact HB.out | apply below_alloc | apply pw_below_drewN | apply below_drew1 | refine below_set ?_ GE182.out) | exact HB.out)⟩
  ·
   rw [if_neg c4] at H
   have c4b0 : decide (0 < a0_0) = false := decide_eq_false c4
   clear c4
   by_cases c11 : a0_1.toList = ([] : List UInt8)
   ·
    rw [if_pos c11] at H
    have c11b0 : (a0_1.toList == ([] : List UInt8)) = true := beq_iff_eq.mpr c11
    have c11b1 : (a0_1.toList != ([] : List UInt8)) = false := bne_eq_false_iff_eq.mpr c11
    clear c11
    simp only [Option.some.injEq, Prod.mk.injEq] at H
    obtain ⟨rfl, rfl⟩ := H
    go_enter Tryd.func46, Tryd.ntmps46
    go_wp2_with (first | ((with_reducible refine gate_dst (N := 1) rfl ?_); refine box_event ?hg (N := 1) ?hd (cs := #[.int .i64 a0_0, .string a0_1]) (t := 37) ?hr ?_; (case hd => rfl); (case hg => rfl); (case hr => first | (go_simp; done) | (go_simp; rfl)); intro gb182 hg w12 hbox hb; have n0_ := Aside0.mk (below_step (by repeat (first | (with_reducible first | exact HB.out | apply below_alloc | apply pw_below_drewN | apply below_drew1) | exact HB.out)) hb); have n1_ := Aside0.mk (hbox); have n2_ := Aside0.mk ((by rw [hg]; exact (below_size (by repeat (first | (with_reducible first | exact HB.out | apply below_alloc | apply pw_below_drewN | apply below_drew1) | exact HB.out))) : w.heap.size ≤ gb182)); have n3_ := Aside0.mk ((by rw [hg]; exact (below_size (by repeat (first | (with_reducible first | exact HB.out | apply below_alloc | apply pw_below_drewN | apply below_drew1) | exact HB.out))) : w.heap.size ≤ gb182)); clear HB; have HB := n0_; have BK182 := n1_; have GW182 := n2_; have GE182 := n3_; clear n0_ n1_ n2_ n3_; clear hb hbox hg; have hcz13_0 : w12.cell? ⟨gb182, 0, none⟩ = some (.int .i64 a0_0) := (blk_cell BK182.out 0).trans rfl; have hcz13_1 : w12.cell? ⟨gb182, 1, none⟩ = some (.string a0_1) := (blk_cell BK182.out 1).trans rfl; have hfz13_0 := blk_frozen BK182.out 0; have hfz13_1 := blk_frozen BK182.out 1) | ((with_reducible refine gate_callee (f := 44) rfl ?_); refine goesL_ (some 5) rfl rfl Tryd.func44 (by kernel_rfl) rfl #[.agg #[.int .i64 a0_0, .string a0_1]] rfl (by (try simp only [List.map_toArray, List.map_cons, List.map_nil]); first | done | rfl | (simp only [List.length_drop, List.length_take]; rfl)) ?_; (with_reducible refine (arbiterref02_Check.calls a0_0 a0_1 t183 _ A2.out).mono ?_); rintro e w14 ⟨rfl, hb⟩; refine ⟨_, rfl, ?_⟩; have n0_ := Aside0.mk (blk_below (g := gb182) (o := .cells #[.int .i64 a0_0, .string a0_1] 37 (0, 0)) (by (with_reducible repeat (first | refine blk_drewN ?_ _ | refine blk_drew ?_ | refine blk_alloc ?_ _)); exact BK182.out) hb); have n1_ := Aside0.mk (below_step (by repeat (first | (with_reducible first | exact HB.out | apply below_alloc | apply pw_below_drewN | apply below_drew1 | refine below_set ?_ GE182.out) | exact HB.out)) hb); clear BK182; clear HB; have BK182 := n0_; have HB := n1_; clear n0_ n1_; (try clear hb); (try clear hb2); (try clear hk); (try clear hi); have hcz15_0 : w14.cell? ⟨gb182, 0, none⟩ = some (.int .i64 a0_0) := (blk_cell BK182.out 0).trans rfl; have hcz15_1 : w14.cell? ⟨gb182, 1, none⟩ = some (.string a0_1) := (blk_cell BK182.out 1).trans rfl; have hfz15_0 := blk_frozen BK182.out 0; have hfz15_1 := blk_frozen BK182.out 1))
    go_ret2
    exact ⟨by first | rfl | (simp [errW_none, errW_some] <;> rfl) | (simp [*, errW_none, errW_some] <;> rfl), by repeat (first | (with_reducible first | exact HB.out | apply below_alloc | apply pw_below_drewN | apply below_drew1 | refine below_set ?_ GE182.out) | exact HB.out)⟩
   ·
    rw [if_neg c11] at H
    have c11b0 : (a0_1.toList == ([] : List UInt8)) = false := beq_eq_false_iff_ne.mpr c11
    have c11b1 : (a0_1.toList != ([] : List UInt8)) = true := bne_iff_ne.mpr c11
    simp only [Option.some.injEq, Prod.mk.injEq] at H
    obtain ⟨rfl, rfl⟩ := H
    go_enter Tryd.func46, Tryd.ntmps46
    go_wp2_with (first | ((with_reducible refine gate_dst (N := 1) rfl ?_); refine box_event ?hg (N := 1) ?hd (cs := #[.int .i64 a0_0, .string a0_1]) (t := 37) ?hr ?_; (case hd => rfl); (case hg => rfl); (case hr => first | (go_simp; done) | (go_simp; rfl)); intro gb182 hg w16 hbox hb; have n0_ := Aside0.mk (below_step (by repeat (first | (with_reducible first | exact HB.out | apply below_alloc | apply pw_below_drewN | apply below_drew1) | exact HB.out)) hb); have n1_ := Aside0.mk (hbox); have n2_ := Aside0.mk ((by rw [hg]; exact (below_size (by repeat (first | (with_reducible first | exact HB.out | apply below_alloc | apply pw_below_drewN | apply below_drew1) | exact HB.out))) : w.heap.size ≤ gb182)); have n3_ := Aside0.mk ((by rw [hg]; exact (below_size (by repeat (first | (with_reducible first | exact HB.out | apply below_alloc | apply pw_below_drewN | apply below_drew1) | exact HB.out))) : w.heap.size ≤ gb182)); clear HB; have HB := n0_; have BK182 := n1_; have GW182 := n2_; have GE182 := n3_; clear n0_ n1_ n2_ n3_; clear hb hbox hg; have hcz17_0 : w16.cell? ⟨gb182, 0, none⟩ = some (.int .i64 a0_0) := (blk_cell BK182.out 0).trans rfl; have hcz17_1 : w16.cell? ⟨gb182, 1, none⟩ = some (.string a0_1) := (blk_cell BK182.out 1).trans rfl; have hfz17_0 := blk_frozen BK182.out 0; have hfz17_1 := blk_frozen BK182.out 1) | ((with_reducible refine gate_callee (f := 44) rfl ?_); refine goesL_ (some 5) rfl rfl Tryd.func44 (by kernel_rfl) rfl #[.agg #[.int .i64 a0_0, .string a0_1]] rfl (by (try simp only [List.map_toArray, List.map_cons, List.map_nil]); first | done | rfl | (simp only [List.length_drop, List.length_take]; rfl)) ?_; (with_reducible refine (arbiterref02_Check.calls a0_0 a0_1 t183 _ A2.out).mono ?_); rintro e w18 ⟨rfl, hb⟩; refine ⟨_, rfl, ?_⟩; have n0_ := Aside0.mk (blk_below (g := gb182) (o := .cells #[.int .i64 a0_0, .string a0_1] 37 (0, 0)) (by (with_reducible repeat (first | refine blk_drewN ?_ _ | refine blk_drew ?_ | refine blk_alloc ?_ _)); exact BK182.out) hb); have n1_ := Aside0.mk (below_step (by repeat (first | (with_reducible first | exact HB.out | apply below_alloc | apply pw_below_drewN | apply below_drew1 | refine below_set ?_ GE182.out) | exact HB.out)) hb); clear BK182; clear HB; have BK182 := n0_; have HB := n1_; clear n0_ n1_; (try clear hb); (try clear hb2); (try clear hk); (try clear hi); have hcz19_0 : w18.cell? ⟨gb182, 0, none⟩ = some (.int .i64 a0_0) := (blk_cell BK182.out 0).trans rfl; have hcz19_1 : w18.cell? ⟨gb182, 1, none⟩ = some (.string a0_1) := (blk_cell BK182.out 1).trans rfl; have hfz19_0 := blk_frozen BK182.out 0; have hfz19_1 := blk_frozen BK182.out 1))
    go_ret2
    exact ⟨by first | rfl | (simp [errW_none, errW_some] <;> rfl) | (simp [*, errW_none, errW_some] <;> rfl), by repeat (first | (with_reducible first | exact HB.out | apply below_alloc | apply pw_below_drewN | apply below_drew1 | refine below_set ?_ GE182.out) | exact HB.out)⟩
 ·
  rw [if_neg c3] at H
  have c3b0 : (t183 == 0) = false := beq_eq_false_iff_ne.mpr c3
  have c3b1 : (t183 != 0) = true := bne_iff_ne.mpr c3
  simp only [Option.some.injEq, Prod.mk.injEq] at H
  obtain ⟨rfl, rfl⟩ := H
  go_enter Tryd.func46, Tryd.ntmps46
  go_wp2_with (first | ((with_reducible refine gate_dst (N := 1) rfl ?_); refine box_event ?hg (N := 1) ?hd (cs := #[.int .i64 a0_0, .string a0_1]) (t := 37) ?hr ?_; (case hd => rfl); (case hg => rfl); (case hr => first | (go_simp; done) | (go_simp; rfl)); intro gb182 hg w20 hbox hb; have n0_ := Aside0.mk (below_step (by repeat (first | (with_reducible first | exact HB.out | apply below_alloc | apply pw_below_drewN | apply below_drew1) | exact HB.out)) hb); have n1_ := Aside0.mk (hbox); have n2_ := Aside0.mk ((by rw [hg]; exact (below_size (by repeat (first | (with_reducible first | exact HB.out | apply below_alloc | apply pw_below_drewN | apply below_drew1) | exact HB.out))) : w.heap.size ≤ gb182)); have n3_ := Aside0.mk ((by rw [hg]; exact (below_size (by repeat (first | (with_reducible first | exact HB.out | apply below_alloc | apply pw_below_drewN | apply below_drew1) | exact HB.out))) : w.heap.size ≤ gb182)); clear HB; have HB := n0_; have BK182 := n1_; have GW182 := n2_; have GE182 := n3_; clear n0_ n1_ n2_ n3_; clear hb hbox hg; have hcz21_0 : w20.cell? ⟨gb182, 0, none⟩ = some (.int .i64 a0_0) := (blk_cell BK182.out 0).trans rfl; have hcz21_1 : w20.cell? ⟨gb182, 1, none⟩ = some (.string a0_1) := (blk_cell BK182.out 1).trans rfl; have hfz21_0 := blk_frozen BK182.out 0; have hfz21_1 := blk_frozen BK182.out 1) | ((with_reducible refine gate_callee (f := 44) rfl ?_); refine goesL_ (some 5) rfl rfl Tryd.func44 (by kernel_rfl) rfl #[.agg #[.int .i64 a0_0, .string a0_1]] rfl (by (try simp only [List.map_toArray, List.map_cons, List.map_nil]); first | done | rfl | (simp only [List.length_drop, List.length_take]; rfl)) ?_; (with_reducible refine (arbiterref02_Check.calls a0_0 a0_1 t183 _ A2.out).mono ?_); rintro e w22 ⟨rfl, hb⟩; refine ⟨_, rfl, ?_⟩; have n0_ := Aside0.mk (blk_below (g := gb182) (o := .cells #[.int .i64 a0_0, .string a0_1] 37 (0, 0)) (by (with_reducible repeat (first | refine blk_drewN ?_ _ | refine blk_drew ?_ | refine blk_alloc ?_ _)); exact BK182.out) hb); have n1_ := Aside0.mk (below_step (by repeat (first | (with_reducible first | exact HB.out | apply below_alloc | apply pw_below_drewN | apply below_drew1 | refine below_set ?_ GE182.out) | exact HB.out)) hb); clear BK182; clear HB; have BK182 := n0_; have HB := n1_; clear n0_ n1_; (try clear hb); (try clear hb2); (try clear hk); (try clear hi)))
  go_ret2
  exact ⟨by first | rfl | (simp [errW_none, errW_some] <;> rfl) | (simp [*, errW_none, errW_some] <;> rfl), by repeat (first | (with_reducible first | exact HB.out | apply below_alloc | apply pw_below_drewN | apply below_drew1 | refine below_set ?_ GE182.out) | exact HB.out)⟩

end Go.Proofs.YtpcdfjifhoofjaaDoor.Pt

-- laid by a program of this session's own (a variant of the kit's print)
namespace Go.Proofs.YtpcdfjifhoofjaaDoor.Pt
open Go.RowKit Go.Proofs.YtpcdfjifhoofjaaDoorW.PrintWords Go.Proofs.YtpcdfjifhoofjaaDoorW.PrintLast Go.Proofs.YtpcdfjifhoofjaaDoorW.PrintMore
attribute [local go_sem] max2_int min2_int max_two min_two max_three min_three max_four min_four   -- for this text's walks alone
set_option linter.unusedVariables false
set_option linter.unusedSimpArgs false

/-! ### arbiterlaw02_TypesWrite: function 9 -/
mutual
def arbiterlaw02_TypesWrite.j0 : Nat → Bool → Int → ByteArray → Option (Bool)
 | 0, _, _, _ => none
 | k + 1, x35, x186000, x186001 => if x35 = true then (some false) else ((types_RefText.f x186000 x186001).bind fun bt193 => ((arbiterref02_RefText.f k x186000 x186001).bind fun bt195 => (if bt193.1.toList = bt195.1.toList then (arbiterlaw02_TypesWrite.j1 k (bt193.2 != bt195.2) x186000 x186001) else (arbiterlaw02_TypesWrite.j1 k true x186000 x186001))))
def arbiterlaw02_TypesWrite.j1 : Nat → Bool → Int → ByteArray → Option (Bool)
 | 0, _, _, _ => none
 | k + 1, x53, x186000, x186001 => if x53 = true then (some false) else ((types_ArrayOf.f x186000 x186001).bind fun bt197 => ((arbiterref02_ArrayOf.f x186000 x186001).bind fun bt201 => (if bt197.2.2 = bt201.2.2 then ((arbiterref02_Same.f bt197.1 bt197.2.1 bt201.1 bt201.2.1).bind fun t205 => (arbiterlaw02_TypesWrite.j2 k (!t205) x186000 x186001)) else (arbiterlaw02_TypesWrite.j2 k true x186000 x186001))))
def arbiterlaw02_TypesWrite.j2 : Nat → Bool → Int → ByteArray → Option (Bool)
 | 0, _, _, _ => none
 | k + 1, x72, x186000, x186001 => if x72 = true then (some false) else ((types_Component.f x186000 x186001).bind fun bt206 => ((arbiterref02_Component.f x186000 x186001).bind fun bt209 => (if bt206.2.2 = bt209.2.2 then ((arbiterref02_Same.f bt206.1 bt206.2.1 bt209.1 bt209.2.1).bind fun t212 => (arbiterlaw02_TypesWrite.j3 k (!t212) x186000 x186001)) else (arbiterlaw02_TypesWrite.j3 k true x186000 x186001))))
def arbiterlaw02_TypesWrite.j3 : Nat → Bool → Int → ByteArray → Option (Bool)
 | 0, _, _, _ => none
 | k + 1, x91, x186000, x186001 => if x91 = true then (some false) else ((types_Element.f x186000 x186001).bind fun bt213 => ((arbiterref02_Element.f x186000 x186001).bind fun bt216 => (if bt213.2.2 = bt216.2.2 then ((arbiterref02_Same.f bt213.1 bt213.2.1 bt216.1 bt216.2.1).bind fun t219 => (some t219)) else (some false))))
end
def arbiterlaw02_TypesWrite.f (k : Nat) (a0_0 : Int) (a0_1 : ByteArray) : Option (Bool) := (arbiterlaw02_awake.f).bind fun t186 => (if t186 = true then ((types_Text.f a0_0 a0_1).bind fun bt187 => ((arbiterref02_Text.f k a0_0 a0_1).bind fun bt189 => (if bt187.1.toList = bt189.1.toList then (if bt187.2 = bt189.2 then ((types_Check.f a0_0 a0_1).bind fun t191 => ((arbiterref02_Check.f a0_0 a0_1).bind fun t192 => (arbiterlaw02_TypesWrite.j0 k (t191 != t192) a0_0 a0_1))) else (arbiterlaw02_TypesWrite.j0 k true a0_0 a0_1)) else (arbiterlaw02_TypesWrite.j0 k true a0_0 a0_1)))) else (some false))
theorem arbiterlaw02_TypesWrite.mono_l : ∀ k, (∀ y0 y1 y2, LeO (arbiterlaw02_TypesWrite.j0 k y0 y1 y2) (arbiterlaw02_TypesWrite.j0 (k + 1) y0 y1 y2)) ∧ (∀ y0 y1 y2, LeO (arbiterlaw02_TypesWrite.j1 k y0 y1 y2) (arbiterlaw02_TypesWrite.j1 (k + 1) y0 y1 y2)) ∧ (∀ y0 y1 y2, LeO (arbiterlaw02_TypesWrite.j2 k y0 y1 y2) (arbiterlaw02_TypesWrite.j2 (k + 1) y0 y1 y2)) ∧ (∀ y0 y1 y2, LeO (arbiterlaw02_TypesWrite.j3 k y0 y1 y2) (arbiterlaw02_TypesWrite.j3 (k + 1) y0 y1 y2))
 | 0 => ⟨fun _ _ _ r h => by simp [arbiterlaw02_TypesWrite.j0] at h, fun _ _ _ r h => by simp [arbiterlaw02_TypesWrite.j1] at h, fun _ _ _ r h => by simp [arbiterlaw02_TypesWrite.j2] at h, fun _ _ _ r h => by simp [arbiterlaw02_TypesWrite.j3] at h⟩
 | k + 1 => by
  obtain ⟨ih0, ih1, ih2, ih3⟩ := arbiterlaw02_TypesWrite.mono_l k
  refine ⟨?_, ?_, ?_, ?_⟩
  ·
   intro y0 y1 y2
   unfold arbiterlaw02_TypesWrite.j0
   repeat' first
   | (with_reducible exact ih0 _ _ _)
   | (with_reducible exact ih1 _ _ _)
   | (with_reducible exact ih2 _ _ _)
   | (with_reducible exact ih3 _ _ _)
   | (with_reducible exact arbiterref02_RefText.mono _ _ _)
   | (with_reducible exact arbiterref02_Text.mono _ _ _)
   | (with_reducible exact LeO.refl _)
   | (with_reducible exact LeO.none _)
   | (with_reducible refine LeO.ite ?_ ?_)
   | (with_reducible refine LeO.bind ?_ (fun _ => ?_))
   | exact ih0 _ _ _
   | exact ih1 _ _ _
   | exact ih2 _ _ _
   | exact ih3 _ _ _
   | exact arbiterref02_RefText.mono _ _ _
   | exact arbiterref02_Text.mono _ _ _
   | exact LeO.none _
   | refine LeO.ite ?_ ?_
   | refine LeO.bind ?_ (fun _ => ?_)
  ·
   intro y0 y1 y2
   unfold arbiterlaw02_TypesWrite.j1
   repeat' first
   | (with_reducible exact ih0 _ _ _)
   | (with_reducible exact ih1 _ _ _)
   | (with_reducible exact ih2 _ _ _)
   | (with_reducible exact ih3 _ _ _)
   | (with_reducible exact arbiterref02_RefText.mono _ _ _)
   | (with_reducible exact arbiterref02_Text.mono _ _ _)
   | (with_reducible exact LeO.refl _)
   | (with_reducible exact LeO.none _)
   | (with_reducible refine LeO.ite ?_ ?_)
   | (with_reducible refine LeO.bind ?_ (fun _ => ?_))
   | exact ih0 _ _ _
   | exact ih1 _ _ _
   | exact ih2 _ _ _
   | exact ih3 _ _ _
   | exact arbiterref02_RefText.mono _ _ _
   | exact arbiterref02_Text.mono _ _ _
   | exact LeO.none _
   | refine LeO.ite ?_ ?_
   | refine LeO.bind ?_ (fun _ => ?_)
  ·
   intro y0 y1 y2
   unfold arbiterlaw02_TypesWrite.j2
   repeat' first
   | (with_reducible exact ih0 _ _ _)
   | (with_reducible exact ih1 _ _ _)
   | (with_reducible exact ih2 _ _ _)
   | (with_reducible exact ih3 _ _ _)
   | (with_reducible exact arbiterref02_RefText.mono _ _ _)
   | (with_reducible exact arbiterref02_Text.mono _ _ _)
   | (with_reducible exact LeO.refl _)
   | (with_reducible exact LeO.none _)
   | (with_reducible refine LeO.ite ?_ ?_)
   | (with_reducible refine LeO.bind ?_ (fun _ => ?_))
   | exact ih0 _ _ _
   | exact ih1 _ _ _
   | exact ih2 _ _ _
   | exact ih3 _ _ _
   | exact arbiterref02_RefText.mono _ _ _
   | exact arbiterref02_Text.mono _ _ _
   | exact LeO.none _
   | refine LeO.ite ?_ ?_
   | refine LeO.bind ?_ (fun _ => ?_)
  ·
   intro y0 y1 y2
   unfold arbiterlaw02_TypesWrite.j3
   repeat' first
   | (with_reducible exact ih0 _ _ _)
   | (with_reducible exact ih1 _ _ _)
   | (with_reducible exact ih2 _ _ _)
   | (with_reducible exact ih3 _ _ _)
   | (with_reducible exact arbiterref02_RefText.mono _ _ _)
   | (with_reducible exact arbiterref02_Text.mono _ _ _)
   | (with_reducible exact LeO.refl _)
   | (with_reducible exact LeO.none _)
   | (with_reducible refine LeO.ite ?_ ?_)
   | (with_reducible refine LeO.bind ?_ (fun _ => ?_))
   | exact ih0 _ _ _
   | exact ih1 _ _ _
   | exact ih2 _ _ _
   | exact ih3 _ _ _
   | exact arbiterref02_RefText.mono _ _ _
   | exact arbiterref02_Text.mono _ _ _
   | exact LeO.none _
   | refine LeO.ite ?_ ?_
   | refine LeO.bind ?_ (fun _ => ?_)
theorem arbiterlaw02_TypesWrite.mono : ∀ a0 a1 k, LeO (arbiterlaw02_TypesWrite.f k a0 a1) (arbiterlaw02_TypesWrite.f (k + 1) a0 a1) := by
 intro a0 a1 k
 obtain ⟨ih0, ih1, ih2, ih3⟩ := arbiterlaw02_TypesWrite.mono_l k
 unfold arbiterlaw02_TypesWrite.f
 repeat' first
   | (with_reducible exact ih0 _ _ _)
   | (with_reducible exact ih1 _ _ _)
   | (with_reducible exact ih2 _ _ _)
   | (with_reducible exact ih3 _ _ _)
   | (with_reducible exact arbiterref02_RefText.mono _ _ _)
   | (with_reducible exact arbiterref02_Text.mono _ _ _)
   | (with_reducible exact LeO.refl _)
   | (with_reducible exact LeO.none _)
   | (with_reducible refine LeO.ite ?_ ?_)
   | (with_reducible refine LeO.bind ?_ (fun _ => ?_))
   | exact ih0 _ _ _
   | exact ih1 _ _ _
   | exact ih2 _ _ _
   | exact ih3 _ _ _
   | exact arbiterref02_RefText.mono _ _ _
   | exact arbiterref02_Text.mono _ _ _
   | exact LeO.none _
   | refine LeO.ite ?_ ?_
   | refine LeO.bind ?_ (fun _ => ?_)
def arbiterlaw02_TypesWrite.T5 : Bool × List (List Nat × List Nat) := (true, [([], []), ([], []), ([0, 1], [0, 1]), ([2], [2]), ([3], [3]), ([3], [3]), ([4, 5, 3], [3, 4, 5]), ([3, 6], [3, 6]), ([7, 3], [7]), ([8], [8]), ([9, 8, 8], [8, 9]), ([8], [8]), ([11, 10, 8], [8, 11]), ([10, 12, 8], [8, 10, 12]), ([8, 13], [8, 13])])
def arbiterlaw02_TypesWrite.B5 : List Nat := [0, 0, 3, 7, 15, 15, 63, 127, 255, 511, 1023, 511, 4095, 8191, 16383]
theorem arbiterlaw02_TypesWrite.tab5 : rtab .any (opsOf Tryd.f9 5) = arbiterlaw02_TypesWrite.T5 := by kernel_rfl
theorem arbiterlaw02_TypesWrite.bits5 : waitsOk arbiterlaw02_TypesWrite.T5.2 arbiterlaw02_TypesWrite.B5 = true := by kernel_rfl
set_option maxHeartbeats 8000000 in
set_option maxRecDepth 100000 in
theorem arbiterlaw02_TypesWrite.calls (k : Nat) (a0_0 : Int) (a0_1 : ByteArray) (r : Bool) (w : World) (h : arbiterlaw02_TypesWrite.f k a0_0 a0_1 = some r) :
  Calls Tryd.prog 9 #[.agg #[.int .i64 a0_0, .string a0_1]] w fun e w' => e = .returned (.bool r) ∧ Below w.heap.size w w' := by
 have hu37 := Tryd.underlying37
 have HB := Aside0.mk (Below.refl w.heap.size w)
 have H : ((arbiterlaw02_awake.f).bind fun t186 => (if t186 = true then ((types_Text.f a0_0 a0_1).bind fun bt187 => ((arbiterref02_Text.f k a0_0 a0_1).bind fun bt189 => (if bt187.1.toList = bt189.1.toList then (if bt187.2 = bt189.2 then ((types_Check.f a0_0 a0_1).bind fun t191 => ((arbiterref02_Check.f a0_0 a0_1).bind fun t192 => (arbiterlaw02_TypesWrite.j0 k (t191 != t192) a0_0 a0_1))) else (arbiterlaw02_TypesWrite.j0 k true a0_0 a0_1)) else (arbiterlaw02_TypesWrite.j0 k true a0_0 a0_1)))) else (some false))) = some r := h
 clear h
 replace H := Option.bind_eq_some_iff.mp H
 obtain ⟨t186, A20, H⟩ := H
 replace H : (if t186 = true then ((types_Text.f a0_0 a0_1).bind fun bt187 => ((arbiterref02_Text.f k a0_0 a0_1).bind fun bt189 => (if bt187.1.toList = bt189.1.toList then (if bt187.2 = bt189.2 then ((types_Check.f a0_0 a0_1).bind fun t191 => ((arbiterref02_Check.f a0_0 a0_1).bind fun t192 => (arbiterlaw02_TypesWrite.j0 k (t191 != t192) a0_0 a0_1))) else (arbiterlaw02_TypesWrite.j0 k true a0_0 a0_1)) else (arbiterlaw02_TypesWrite.j0 k true a0_0 a0_1)))) else (some false)) = some r := H
 have A2 := Aside0.mk A20
 clear A20
 by_cases c3 : t186 = true
 ·
  subst c3
  have H1 : ((types_Text.f a0_0 a0_1).bind fun bt187 => ((arbiterref02_Text.f k a0_0 a0_1).bind fun bt189 => (if bt187.1.toList = bt189.1.toList then (if bt187.2 = bt189.2 then ((types_Check.f a0_0 a0_1).bind fun t191 => ((arbiterref02_Check.f a0_0 a0_1).bind fun t192 => (arbiterlaw02_TypesWrite.j0 k (t191 != t192) a0_0 a0_1))) else (arbiterlaw02_TypesWrite.j0 k true a0_0 a0_1)) else (arbiterlaw02_TypesWrite.j0 k true a0_0 a0_1)))) = some r := by rw [if_pos rfl] at H; exact H
  clear H
  have H := H1
  clear H1
  replace H := Option.bind_eq_some_iff.mp H
  obtain ⟨⟨t187, t188⟩, A40, H⟩ := H
  replace H : ((arbiterref02_Text.f k a0_0 a0_1).bind fun bt189 => (if t187.toList = bt189.1.toList then (if t188 = bt189.2 then ((types_Check.f a0_0 a0_1).bind fun t191 => ((arbiterref02_Check.f a0_0 a0_1).bind fun t192 => (arbiterlaw02_TypesWrite.j0 k (t191 != t192) a0_0 a0_1))) else (arbiterlaw02_TypesWrite.j0 k true a0_0 a0_1)) else (arbiterlaw02_TypesWrite.j0 k true a0_0 a0_1))) = some r := H
  have A4 := Aside0.mk A40
  clear A40
  replace H := Option.bind_eq_some_iff.mp H
  obtain ⟨⟨t189, t190⟩, A50, H⟩ := H
  replace H : (if t187.toList = t189.toList then (if t188 = t190 then ((types_Check.f a0_0 a0_1).bind fun t191 => ((arbiterref02_Check.f a0_0 a0_1).bind fun t192 => (arbiterlaw02_TypesWrite.j0 k (t191 != t192) a0_0 a0_1))) else (arbiterlaw02_TypesWrite.j0 k true a0_0 a0_1)) else (arbiterlaw02_TypesWrite.j0 k true a0_0 a0_1)) = some r := H
  have A5 := Aside0.mk A50
  clear A50
  have HC6 := Aside0.mk H
  clear H
  go_enter Tryd.func9, Tryd.ntmps9
  go_upto_region 5 with (first | ((with_reducible refine gate_dst (N := 1) rfl ?_); refine box_event ?hg (N := 1) ?hd (cs := #[.int .i64 a0_0, .string a0_1]) (t := 37) ?hr ?_; (case hd => rfl); (case hg => rfl); (case hr => first | (go_simp; done) | (go_simp; rfl)); intro gb185 hg w7 hbox hb; have n0_ := Aside0.mk (below_step (by repeat (first | (with_reducible first | exact HB.out | apply below_alloc | apply pw_below_drewN | apply below_drew1) | exact HB.out)) hb); have n1_ := Aside0.mk (hbox); have n2_ := Aside0.mk ((by rw [hg]; exact (below_size (by repeat (first | (with_reducible first | exact HB.out | apply below_alloc | apply pw_below_drewN | apply below_drew1) | exact HB.out))) : w.heap.size ≤ gb185)); have n3_ := Aside0.mk ((by rw [hg]; exact (below_size (by repeat (first | (with_reducible first | exact HB.out | apply below_alloc | apply pw_below_drewN | apply below_drew1) | exact HB.out))) : w.heap.size ≤ gb185)); clear HB; have HB := n0_; have BK185 := n1_; have GW185 := n2_; have GE185 := n3_; clear n0_ n1_ n2_ n3_; clear hb hbox hg) | ((with_reducible refine gate_callee (f := 25) rfl ?_); refine goesL_ (some 9) rfl rfl Tryd.func25 (by kernel_rfl) rfl #[] rfl (by (try simp only [List.map_toArray, List.map_cons, List.map_nil]); first | done | rfl | (simp only [List.length_drop, List.length_take]; rfl)) ?_; (with_reducible refine (arbiterlaw02_awake.calls  true _ A2.out).mono ?_); rintro e w8 ⟨rfl, hb⟩; refine ⟨_, rfl, ?_⟩; have n0_ := Aside0.mk (blk_below (g := gb185) (o := .cells #[.int .i64 a0_0, .string a0_1] 37 (0, 0)) (by (with_reducible repeat (first | refine blk_drewN ?_ _ | refine blk_drew ?_ | refine blk_alloc ?_ _)); exact BK185.out) hb); have n1_ := Aside0.mk (below_step (by repeat (first | (with_reducible first | exact HB.out | apply below_alloc | apply pw_below_drewN | apply below_drew1 | refine below_set ?_ GE185.out) | exact HB.out)) hb); clear BK185; clear HB; have BK185 := n0_; have HB := n1_; clear n0_ n1_; (try clear hb); (try clear hb2); (try clear hk); (try clear hi); have hcz9_0 : w8.cell? ⟨gb185, 0, none⟩ = some (.int .i64 a0_0) := (blk_cell BK185.out 0).trans rfl; have hcz9_1 : w8.cell? ⟨gb185, 1, none⟩ = some (.string a0_1) := (blk_cell BK185.out 1).trans rfl; have hfz9_0 := blk_frozen BK185.out 0; have hfz9_1 := blk_frozen BK185.out 1) | ((with_reducible refine gate_callee (f := 41) rfl ?_); refine goesL_ (some 13) rfl rfl Tryd.func41 (by kernel_rfl) rfl #[.agg #[.int .i64 a0_0, .string a0_1]] rfl (by (try simp only [List.map_toArray, List.map_cons, List.map_nil]); first | done | rfl | (simp only [List.length_drop, List.length_take]; rfl)) ?_; (with_reducible refine (types_Text.calls a0_0 a0_1 t187 t188 _ A4.out).mono ?_); rintro e w10 ⟨rfl, hb⟩; refine ⟨_, rfl, ?_⟩; have n0_ := Aside0.mk (blk_below (g := gb185) (o := .cells #[.int .i64 a0_0, .string a0_1] 37 (0, 0)) (by (with_reducible repeat (first | refine blk_drewN ?_ _ | refine blk_drew ?_ | refine blk_alloc ?_ _)); exact BK185.out) hb); have n1_ := Aside0.mk (below_step (by repeat (first | (with_reducible first | exact HB.out | apply below_alloc | apply pw_below_drewN | apply below_drew1 | refine below_set ?_ GE185.out) | exact HB.out)) hb); clear BK185; clear HB; have BK185 := n0_; have HB := n1_; clear n0_ n1_; (try clear hb); (try clear hb2); (try clear hk); (try clear hi); have hcz11_0 : w10.cell? ⟨gb185, 0, none⟩ = some (.int .i64 a0_0) := (blk_cell BK185.out 0).trans rfl; have hcz11_1 : w10.cell? ⟨gb185, 1, none⟩ = some (.string a0_1) := (blk_cell BK185.out 1).trans rfl; have hfz11_0 := blk_frozen BK185.out 0; have hfz11_1 := blk_frozen BK185.out 1) | ((with_reducible refine gate_callee (f := 42) rfl ?_); refine goesL_ (some 18) rfl rfl Tryd.func42 (by kernel_rfl) rfl #[.agg #[.int .i64 a0_0, .string a0_1]] rfl (by (try simp only [List.map_toArray, List.map_cons, List.map_nil]); first | done | rfl | (simp only [List.length_drop, List.length_take]; rfl)) ?_; (with_reducible refine (arbiterref02_Text.calls k a0_0 a0_1 t189 t190 _ A5.out).mono ?_); rintro e w12 ⟨rfl, hb⟩; refine ⟨_, rfl, ?_⟩; have n0_ := Aside0.mk (blk_below (g := gb185) (o := .cells #[.int .i64 a0_0, .string a0_1] 37 (0, 0)) (by (with_reducible repeat (first | refine blk_drewN ?_ _ | refine blk_drew ?_ | refine blk_alloc ?_ _)); exact BK185.out) hb); have n1_ := Aside0.mk (below_step (by repeat (first | (with_reducible first | exact HB.out | apply below_alloc | apply pw_below_drewN | apply below_drew1 | refine below_set ?_ GE185.out) | exact HB.out)) hb); clear BK185; clear HB; have BK185 := n0_; have HB := n1_; clear n0_ n1_; (try clear hb); (try clear hb2); (try clear hk); (try clear hi)))
  (try simp only [Act.put, List.setIfInBounds_toArray, List.set_cons_zero, List.set_cons_succ])
  go_cut [35] (fun v35 wc => ∃ (kq : Nat) (x35_5 : Bool), v35 = .bool x35_5 ∧ Aside0 (arbiterlaw02_TypesWrite.j0 kq x35_5 a0_0 a0_1 = some r) ∧ Aside0 (kq ≤ k) ∧ Aside0 (wc.heap[gb185]? = some (.cells #[.int .i64 a0_0, .string a0_1] 37 (0, 0))) ∧ Aside0 (Below w.heap.size w wc))
  case first =>
   have H := HC6.out
   clear HC6
   by_cases c13 : t187.toList = t189.toList
   ·
    rw [if_pos c13] at H
    have c13b0 : (t187.toList == t189.toList) = true := beq_iff_eq.mpr c13
    have c13b1 : (t187.toList != t189.toList) = false := bne_eq_false_iff_eq.mpr c13
    clear c13
    (first | rw [c13b0] | (simp only [i64_w, i32_w]; rw [c13b0]) | skip)
    by_cases c14 : t188 = t190
    ·
     rw [if_pos c14] at H
     have c14b0 : (t188 == t190) = true := beq_iff_eq.mpr c14
     have c14b1 : (t188 != t190) = false := bne_eq_false_iff_eq.mpr c14
     clear c14
     replace H := Option.bind_eq_some_iff.mp H
     obtain ⟨t191, A150, H⟩ := H
     replace H : ((arbiterref02_Check.f a0_0 a0_1).bind fun t192 => (arbiterlaw02_TypesWrite.j0 k (t191 != t192) a0_0 a0_1)) = some r := H
     have A15 := Aside0.mk A150
     clear A150
     replace H := Option.bind_eq_some_iff.mp H
     obtain ⟨t192, A160, H⟩ := H
     replace H : (arbiterlaw02_TypesWrite.j0 k (t191 != t192) a0_0 a0_1) = some r := H
     have A16 := Aside0.mk A160
     clear A160
     have H' := Aside0.mk H
     clear H
     try go_wp2
     have n0_ := Aside0.mk (blk_drew BK185.out)
     have n1_ := Aside0.mk (below_drew1 HB.out)
     clear BK185
     clear HB
     have BK185 := n0_
     have HB := n1_
     clear n0_ n1_
     refine start_ (n := 15) (S := fun w' => w'.cell? ⟨gb185, 0, none⟩ = some (.int .i64 a0_0) ∧ w'.cell? ⟨gb185, 1, none⟩ = some (.string a0_1)) (ds := []) #[false, false, false, false, false, false, false, false, false, false, false, false, false, false, false] (by kernel_rfl) rfl rfl ⟨(blk_cell BK185.out 0).trans rfl, (blk_cell BK185.out 1).trans rfl⟩ (fun hHeld => ?_); refine with_tabW arbiterlaw02_TypesWrite.tab5 arbiterlaw02_TypesWrite.bits5 (fun HT_ HW_ => ?_)
     generalize w12.drew = w17 at BK185 HB hHeld ⊢
     refine pure_ (i := 0) (N := some 21) (v := ?_) (a' := ?_) #[true, false, false, false, false, false, false, false, false, false, false, false, false, false, false] rfl rfl (any_of HT_.out (by kernel_rfl)) (fun _ _ _ h => h) (Or.inl ⟨by rfl, ?_⟩) ?_ ?_
     rotate_left
     ·
      intro w'
      go_simp
      with_reducible rfl
     rotate_left
     ·
      simp only [Act.put, List.setIfInBounds_toArray, List.set_cons_zero, List.set_cons_succ, i64_w, i32_w]
      rfl
     refine pure_ (i := 1) (N := some 22) (v := ?_) (a' := ?_) #[true, true, false, false, false, false, false, false, false, false, false, false, false, false, false] rfl rfl (any_of HT_.out (by kernel_rfl)) (fun _ _ _ h => h) (Or.inl ⟨by rfl, ?_⟩) ?_ ?_
     rotate_left
     ·
      intro w'
      go_simp
      with_reducible rfl
     rotate_left
     ·
      simp only [Act.put, List.setIfInBounds_toArray, List.set_cons_zero, List.set_cons_succ, i64_w, i32_w]
      rfl
     refine pure_ (i := 2) (N := some 23) (v := ?_) (a' := ?_) #[true, true, true, false, false, false, false, false, false, false, false, false, false, false, false] rfl rfl (any_of HT_.out (by kernel_rfl)) (fun _ _ _ h => h) (Or.inl ⟨by rfl, ?_⟩) ?_ ?_
     rotate_left
     ·
      intro w'
      go_simp
      with_reducible rfl
     rotate_left
     ·
      simp only [Act.put, List.setIfInBounds_toArray, List.set_cons_zero, List.set_cons_succ, i64_w, i32_w]
      rfl
     refine pure_ (i := 3) (N := some 24) (v := ?_) (a' := ?_) #[true, true, true, true, false, false, false, false, false, false, false, false, false, false, false] rfl rfl (any_of HT_.out (by kernel_rfl)) (fun _ _ _ h => h) (Or.inl ⟨by rfl, ?_⟩) ?_ ?_
     rotate_left
     ·
      intro w'
      go_simp
      with_reducible rfl
     rotate_left
     ·
      simp only [Act.put, List.setIfInBounds_toArray, List.set_cons_zero, List.set_cons_succ, i64_w, i32_w]
      rfl
     refine pure_ (i := 4) (N := some 25) (v := ?_) (a' := ?_) #[true, true, true, true, true, false, false, false, false, false, false, false, false, false, false] rfl rfl (any_of HT_.out (by kernel_rfl)) (fun _ _ _ h => h) (Or.inl ⟨by rfl, ?_⟩) ?_ ?_
     rotate_left
     ·
      intro w'
      go_simp
      with_reducible rfl
     rotate_left
     ·
      simp only [Act.put, List.setIfInBounds_toArray, List.set_cons_zero, List.set_cons_succ, i64_w, i32_w]
      rfl
     refine pure_ (i := 5) (N := some 26) (v := ?_) (a' := ?_) #[true, true, true, true, true, true, false, false, false, false, false, false, false, false, false] rfl rfl (any_of HT_.out (by kernel_rfl)) (fun _ _ _ h => h) (Or.inl ⟨by rfl, ?_⟩) ?_ ?_
     rotate_left
     ·
      intro w'
      go_simp
      with_reducible rfl
     rotate_left
     ·
      simp only [Act.put, List.setIfInBounds_toArray, List.set_cons_zero, List.set_cons_succ, i64_w, i32_w]
      rfl
     refine pure_ (i := 6) (N := some 27) (v := ?_) (a' := ?_) #[true, true, true, true, true, true, true, false, false, false, false, false, false, false, false] rfl rfl (any_of HT_.out (by kernel_rfl)) (fun _ _ _ h => h) (Or.inl ⟨by rfl, ?_⟩) ?_ ?_
     rotate_left
     ·
      intro w'
      go_simp
      with_reducible rfl
     rotate_left
     ·
      simp only [Act.put, List.setIfInBounds_toArray, List.set_cons_zero, List.set_cons_succ, i64_w, i32_w]
      rfl
     refine pure_ (i := 7) (N := some 28) (v := ?_) (a' := ?_) #[true, true, true, true, true, true, true, true, false, false, false, false, false, false, false] rfl rfl (any_of HT_.out (by kernel_rfl)) (fun _ _ _ h => h) (Or.inl ⟨by rfl, ?_⟩) ?_ ?_
     rotate_left
     ·
      intro w'
      go_simp
      with_reducible rfl
     rotate_left
     ·
      simp only [Act.put, List.setIfInBounds_toArray, List.set_cons_zero, List.set_cons_succ, i64_w, i32_w]
      rfl
     refine pure_ (i := 8) (N := some 29) (v := ?_) (a' := ?_) #[true, true, true, true, true, true, true, true, true, false, false, false, false, false, false] rfl rfl (any_of HT_.out (by kernel_rfl)) (fun _ _ _ h => h) (Or.inl ⟨by rfl, ?_⟩) ?_ ?_
     rotate_left
     ·
      intro w'
      go_simp
      with_reducible rfl
     rotate_left
     ·
      simp only [Act.put, List.setIfInBounds_toArray, List.set_cons_zero, List.set_cons_succ, i64_w, i32_w]
      rfl
     refine take_ (i := 9) (N := some 30) (v := ?_) (a' := ?_) #[true, true, true, true, true, true, true, true, true, true, false, false, false, false, false] rfl rfl (take_ofW HT_.out HW_.out (by kernel_rfl)) (fun _ _ _ h => h) (Or.inl ⟨by rfl, ?_⟩) hHeld ?_ ?_
     rotate_left
     ·
      rintro w' ⟨s0, s1⟩
      go_simp
      with_reducible rfl
     rotate_left
     ·
      simp only [Act.put, List.setIfInBounds_toArray, List.set_cons_zero, List.set_cons_succ, i64_w, i32_w]
      rfl
     refine take_ (i := 11) (N := some 32) (v := ?_) (a' := ?_) #[true, true, true, true, true, true, true, true, true, true, false, true, false, false, false] rfl rfl (take_ofW HT_.out HW_.out (by kernel_rfl)) (fun _ _ _ h => h) (Or.inl ⟨by rfl, ?_⟩) hHeld ?_ ?_
     rotate_left
     ·
      rintro w' ⟨s0, s1⟩
      go_simp
      with_reducible rfl
     rotate_left
     ·
      simp only [Act.put, List.setIfInBounds_toArray, List.set_cons_zero, List.set_cons_succ, i64_w, i32_w]
      rfl
     refine one_ (i := 10) (N := some 31) #[true, true, true, true, true, true, true, true, true, true, true, true, false, false, false] rfl rfl (one_of HT_.out (by kernel_rfl)) (by decide) (fun K hK => ?_)
     refine goes_ Tryd.func43 (by kernel_rfl) rfl #[.agg #[.int .i64 a0_0, .string a0_1]] (by rfl) rfl rfl (by (try simp only [List.map_toArray, List.map_cons, List.map_nil]); first | done | rfl | (simp only [List.length_drop, List.length_take]; rfl)) ?_
     with_reducible refine (types_Check.calls a0_0 a0_1 t191 _ A15.out).mono ?_
     rintro e w18 ⟨rfl, hb⟩
     refine ⟨_, rfl, ?_⟩
     have n0_ := Aside0.mk (blk_below (g := gb185) (o := .cells #[.int .i64 a0_0, .string a0_1] 37 (0, 0)) (by (with_reducible repeat (first | refine blk_drewN ?_ _ | refine blk_drew ?_ | refine blk_alloc ?_ _)); exact BK185.out) hb)
     have n1_ := Aside0.mk (below_step (by repeat (first | (with_reducible first | exact HB.out | apply below_alloc | apply pw_below_drewN | apply below_drew1 | refine below_set ?_ GE185.out) | exact HB.out)) hb)
     clear BK185
     clear HB
     have BK185 := n0_
     have HB := n1_
     clear n0_ n1_
     (try clear hb)
     (try clear hb2)
     (try clear hk)
     (try clear hi)
     refine hK.out _ _ ⟨(blk_cell BK185.out 0).trans rfl, (blk_cell BK185.out 1).trans rfl⟩ (fun hHeld => ?_)
     clear hK K
     refine norm_ (a' := ?_) ?_ ?_
     rotate_left
     ·
      show Act.put _ (some 31) _ = _
      simp only [Act.put, List.setIfInBounds_toArray, List.set_cons_zero, List.set_cons_succ, i64_w, i32_w]
      rfl
     refine one_ (i := 12) (N := some 33) #[true, true, true, true, true, true, true, true, true, true, true, true, true, false, false] rfl rfl (one_of HT_.out (by kernel_rfl)) (by decide) (fun K hK => ?_)
     refine goes_ Tryd.func44 (by kernel_rfl) rfl #[.agg #[.int .i64 a0_0, .string a0_1]] (by rfl) rfl rfl (by (try simp only [List.map_toArray, List.map_cons, List.map_nil]); first | done | rfl | (simp only [List.length_drop, List.length_take]; rfl)) ?_
     with_reducible refine (arbiterref02_Check.calls a0_0 a0_1 t192 _ A16.out).mono ?_
     rintro e w19 ⟨rfl, hb⟩
     refine ⟨_, rfl, ?_⟩
     have n0_ := Aside0.mk (blk_below (g := gb185) (o := .cells #[.int .i64 a0_0, .string a0_1] 37 (0, 0)) (by (with_reducible repeat (first | refine blk_drewN ?_ _ | refine blk_drew ?_ | refine blk_alloc ?_ _)); exact BK185.out) hb)
     have n1_ := Aside0.mk (below_step (by repeat (first | (with_reducible first | exact HB.out | apply below_alloc | apply pw_below_drewN | apply below_drew1 | refine below_set ?_ GE185.out) | exact HB.out)) hb)
     clear BK185
     clear HB
     have BK185 := n0_
     have HB := n1_
     clear n0_ n1_
     (try clear hb)
     (try clear hb2)
     (try clear hk)
     (try clear hi)
     refine hK.out _ _ ⟨(blk_cell BK185.out 0).trans rfl, (blk_cell BK185.out 1).trans rfl⟩ (fun hHeld => ?_)
     clear hK K
     refine norm_ (a' := ?_) ?_ ?_
     rotate_left
     ·
      show Act.put _ (some 33) _ = _
      simp only [Act.put, List.setIfInBounds_toArray, List.set_cons_zero, List.set_cons_succ, i64_w, i32_w]
      rfl
     refine pure_ (i := 13) (N := some 34) (v := ?_) (a' := ?_) #[true, true, true, true, true, true, true, true, true, true, true, true, true, true, false] rfl rfl (any_of HT_.out (by kernel_rfl)) (fun _ _ _ h => h) (Or.inl ⟨by rfl, ?_⟩) ?_ ?_
     rotate_left
     ·
      intro w'
      go_simp
      with_reducible rfl
     rotate_left
     ·
      simp only [Act.put, List.setIfInBounds_toArray, List.set_cons_zero, List.set_cons_succ, i64_w, i32_w]
      rfl
     refine pure_ (i := 14) (N := some 35) (v := ?_) (a' := ?_) #[true, true, true, true, true, true, true, true, true, true, true, true, true, true, true] rfl rfl (any_of HT_.out (by kernel_rfl)) (fun _ _ _ h => h) (Or.inl ⟨by rfl, ?_⟩) ?_ ?_
     rotate_left
     ·
      intro w'
      go_simp
      with_reducible rfl
     rotate_left
     ·
      simp only [Act.put, List.setIfInBounds_toArray, List.set_cons_zero, List.set_cons_succ, i64_w, i32_w]
      rfl
     refine done_ (done_of HT_.out (by kernel_rfl)) ?_
     try go_wp2
     go_meet
     case rel => exact ⟨_, ((t191 != t192)), (by first | rfl | (simp; done) | (simp [*]; done)), H', ⟨by first | omega | exact Nat.le_refl _⟩, ⟨by (with_reducible repeat (first | refine blk_drewN ?_ _ | refine blk_drew ?_ | refine blk_alloc ?_ _)); exact BK185.out⟩, ⟨by repeat (first | (with_reducible first | exact HB.out | apply below_alloc | apply pw_below_drewN | apply below_drew1 | refine below_set ?_ GE185.out) | exact HB.out)⟩⟩
    ·
     rw [if_neg c14] at H
     have c14b0 : (t188 == t190) = false := beq_eq_false_iff_ne.mpr c14
     have c14b1 : (t188 != t190) = true := bne_iff_ne.mpr c14
     have H' := Aside0.mk H
     clear H
     try go_wp2
     have n0_ := Aside0.mk (blk_drew BK185.out)
     have n1_ := Aside0.mk (below_drew1 HB.out)
     clear BK185
     clear HB
     have BK185 := n0_
     have HB := n1_
     clear n0_ n1_
     refine start_ (n := 15) (S := fun w' => True) (ds := []) #[false, false, false, false, false, false, false, false, false, false, false, false, false, false, false] (by kernel_rfl) rfl rfl trivial (fun hHeld => ?_); refine with_tabW arbiterlaw02_TypesWrite.tab5 arbiterlaw02_TypesWrite.bits5 (fun HT_ HW_ => ?_)
     generalize w12.drew = w20 at BK185 HB hHeld ⊢
     refine pure_ (i := 0) (N := some 21) (v := ?_) (a' := ?_) #[true, false, false, false, false, false, false, false, false, false, false, false, false, false, false] rfl rfl (any_of HT_.out (by kernel_rfl)) (fun _ _ _ h => h) (Or.inl ⟨by rfl, ?_⟩) ?_ ?_
     rotate_left
     ·
      intro w'
      go_simp
      with_reducible rfl
     rotate_left
     ·
      simp only [Act.put, List.setIfInBounds_toArray, List.set_cons_zero, List.set_cons_succ, i64_w, i32_w]
      rfl
     refine pure_ (i := 1) (N := some 22) (v := ?_) (a' := ?_) #[true, true, false, false, false, false, false, false, false, false, false, false, false, false, false] rfl rfl (any_of HT_.out (by kernel_rfl)) (fun _ _ _ h => h) (Or.inl ⟨by rfl, ?_⟩) ?_ ?_
     rotate_left
     ·
      intro w'
      go_simp
      with_reducible rfl
     rotate_left
     ·
      simp only [Act.put, List.setIfInBounds_toArray, List.set_cons_zero, List.set_cons_succ, i64_w, i32_w]
      rfl
     refine pure_ (i := 2) (N := some 23) (v := ?_) (a' := ?_) #[true, true, true, false, false, false, false, false, false, false, false, false, false, false, false] rfl rfl (any_of HT_.out (by kernel_rfl)) (fun _ _ _ h => h) (Or.inl ⟨by rfl, ?_⟩) ?_ ?_
     rotate_left
     ·
      intro w'
      go_simp
      with_reducible rfl
     rotate_left
     ·
      simp only [Act.put, List.setIfInBounds_toArray, List.set_cons_zero, List.set_cons_succ, i64_w, i32_w]
      rfl
     refine pure_ (i := 3) (N := some 24) (v := ?_) (a' := ?_) #[true, true, true, true, false, false, false, false, false, false, false, false, false, false, false] rfl rfl (any_of HT_.out (by kernel_rfl)) (fun _ _ _ h => h) (Or.inl ⟨by rfl, ?_⟩) ?_ ?_
     rotate_left
     ·
      intro w'
      go_simp
      with_reducible rfl
     rotate_left
     ·
      simp only [Act.put, List.setIfInBounds_toArray, List.set_cons_zero, List.set_cons_succ, i64_w, i32_w]
      rfl
     refine pure_ (i := 4) (N := some 25) (v := ?_) (a' := ?_) #[true, true, true, true, true, false, false, false, false, false, false, false, false, false, false] rfl rfl (any_of HT_.out (by kernel_rfl)) (fun _ _ _ h => h) (Or.inl ⟨by rfl, ?_⟩) ?_ ?_
     rotate_left
     ·
      intro w'
      go_simp
      with_reducible rfl
     rotate_left
     ·
      simp only [Act.put, List.setIfInBounds_toArray, List.set_cons_zero, List.set_cons_succ, i64_w, i32_w]
      rfl
     refine pure_ (i := 5) (N := some 26) (v := ?_) (a' := ?_) #[true, true, true, true, true, true, false, false, false, false, false, false, false, false, false] rfl rfl (any_of HT_.out (by kernel_rfl)) (fun _ _ _ h => h) (Or.inl ⟨by rfl, ?_⟩) ?_ ?_
     rotate_left
     ·
      intro w'
      go_simp
      with_reducible rfl
     rotate_left
     ·
      simp only [Act.put, List.setIfInBounds_toArray, List.set_cons_zero, List.set_cons_succ, i64_w, i32_w]
      rfl
     refine pure_ (i := 6) (N := some 27) (v := ?_) (a' := ?_) #[true, true, true, true, true, true, true, false, false, false, false, false, false, false, false] rfl rfl (any_of HT_.out (by kernel_rfl)) (fun _ _ _ h => h) (Or.inl ⟨by rfl, ?_⟩) ?_ ?_
     rotate_left
     ·
      intro w'
      go_simp
      with_reducible rfl
     rotate_left
     ·
      simp only [Act.put, List.setIfInBounds_toArray, List.set_cons_zero, List.set_cons_succ, i64_w, i32_w]
      rfl
     refine pure_ (i := 7) (N := some 28) (v := ?_) (a' := ?_) #[true, true, true, true, true, true, true, true, false, false, false, false, false, false, false] rfl rfl (any_of HT_.out (by kernel_rfl)) (fun _ _ _ h => h) (Or.inl ⟨by rfl, ?_⟩) ?_ ?_
     rotate_left
     ·
      intro w'
      go_simp
      with_reducible rfl
     rotate_left
     ·
      simp only [Act.put, List.setIfInBounds_toArray, List.set_cons_zero, List.set_cons_succ, i64_w, i32_w]
      rfl
     refine pure_ (i := 8) (N := some 29) (v := ?_) (a' := ?_) #[true, true, true, true, true, true, true, true, true, false, false, false, false, false, false] rfl rfl (any_of HT_.out (by kernel_rfl)) (fun _ _ _ h => h) (Or.inl ⟨by rfl, ?_⟩) ?_ ?_
     rotate_left
     ·
      intro w'
      go_simp
      with_reducible rfl
     rotate_left
     ·
      simp only [Act.put, List.setIfInBounds_toArray, List.set_cons_zero, List.set_cons_succ, i64_w, i32_w]
      rfl
     refine pure_ (i := 9) (N := some 30) (v := undef) (a' := ?_) #[true, true, true, true, true, true, true, true, true, true, false, false, false, false, false] rfl rfl (any_of HT_.out (by kernel_rfl)) (fun _ _ _ h => h) (Or.inr ⟨by rfl, rfl⟩) ?_ ?_
     rotate_left
     ·
      simp only [Act.put, List.setIfInBounds_toArray, List.set_cons_zero, List.set_cons_succ, i64_w, i32_w]
      rfl
     refine pure_ (i := 10) (N := some 31) (v := undef) (a' := ?_) #[true, true, true, true, true, true, true, true, true, true, true, false, false, false, false] rfl rfl (any_of HT_.out (by kernel_rfl)) (fun _ _ _ h => h) (Or.inr ⟨by rfl, rfl⟩) ?_ ?_
     rotate_left
     ·
      simp only [Act.put, List.setIfInBounds_toArray, List.set_cons_zero, List.set_cons_succ, i64_w, i32_w]
      rfl
     refine pure_ (i := 11) (N := some 32) (v := undef) (a' := ?_) #[true, true, true, true, true, true, true, true, true, true, true, true, false, false, false] rfl rfl (any_of HT_.out (by kernel_rfl)) (fun _ _ _ h => h) (Or.inr ⟨by rfl, rfl⟩) ?_ ?_
     rotate_left
     ·
      simp only [Act.put, List.setIfInBounds_toArray, List.set_cons_zero, List.set_cons_succ, i64_w, i32_w]
      rfl
     refine pure_ (i := 12) (N := some 33) (v := undef) (a' := ?_) #[true, true, true, true, true, true, true, true, true, true, true, true, true, false, false] rfl rfl (any_of HT_.out (by kernel_rfl)) (fun _ _ _ h => h) (Or.inr ⟨by rfl, rfl⟩) ?_ ?_
     rotate_left
     ·
      simp only [Act.put, List.setIfInBounds_toArray, List.set_cons_zero, List.set_cons_succ, i64_w, i32_w]
      rfl
     refine pure_ (i := 13) (N := some 34) (v := undef) (a' := ?_) #[true, true, true, true, true, true, true, true, true, true, true, true, true, true, false] rfl rfl (any_of HT_.out (by kernel_rfl)) (fun _ _ _ h => h) (Or.inr ⟨by rfl, rfl⟩) ?_ ?_
     rotate_left
     ·
      simp only [Act.put, List.setIfInBounds_toArray, List.set_cons_zero, List.set_cons_succ, i64_w, i32_w]
      rfl
     refine pure_ (i := 14) (N := some 35) (v := ?_) (a' := ?_) #[true, true, true, true, true, true, true, true, true, true, true, true, true, true, true] rfl rfl (any_of HT_.out (by kernel_rfl)) (fun _ _ _ h => h) (Or.inl ⟨by rfl, ?_⟩) ?_ ?_
     rotate_left
     ·
      intro w'
      go_simp
      with_reducible rfl
     rotate_left
     ·
      simp only [Act.put, List.setIfInBounds_toArray, List.set_cons_zero, List.set_cons_succ, i64_w, i32_w]
      rfl
     refine done_ (done_of HT_.out (by kernel_rfl)) ?_
     try go_wp2
     go_meet
     case rel => exact ⟨_, (true), (by first | rfl | (simp; done) | (simp [*]; done)), H', ⟨by first | omega | exact Nat.le_refl _⟩, ⟨by (with_reducible repeat (first | refine blk_drewN ?_ _ | refine blk_drew ?_ | refine blk_alloc ?_ _)); exact BK185.out⟩, ⟨by repeat (first | (with_reducible first | exact HB.out | apply below_alloc | apply pw_below_drewN | apply below_drew1 | refine below_set ?_ GE185.out) | exact HB.out)⟩⟩
   ·
    rw [if_neg c13] at H
    have c13b0 : (t187.toList == t189.toList) = false := beq_eq_false_iff_ne.mpr c13
    have c13b1 : (t187.toList != t189.toList) = true := bne_iff_ne.mpr c13
    (first | rw [c13b0] | (simp only [i64_w, i32_w]; rw [c13b0]) | skip)
    have H' := Aside0.mk H
    clear H
    try go_wp2
    have n0_ := Aside0.mk (blk_drew BK185.out)
    have n1_ := Aside0.mk (below_drew1 HB.out)
    clear BK185
    clear HB
    have BK185 := n0_
    have HB := n1_
    clear n0_ n1_
    refine start_ (n := 15) (S := fun w' => True) (ds := []) #[false, false, false, false, false, false, false, false, false, false, false, false, false, false, false] (by kernel_rfl) rfl rfl trivial (fun hHeld => ?_); refine with_tabW arbiterlaw02_TypesWrite.tab5 arbiterlaw02_TypesWrite.bits5 (fun HT_ HW_ => ?_)
    generalize w12.drew = w21 at BK185 HB hHeld ⊢
    refine pure_ (i := 0) (N := some 21) (v := ?_) (a' := ?_) #[true, false, false, false, false, false, false, false, false, false, false, false, false, false, false] rfl rfl (any_of HT_.out (by kernel_rfl)) (fun _ _ _ h => h) (Or.inl ⟨by rfl, ?_⟩) ?_ ?_
    rotate_left
    ·
     intro w'
     go_simp
     with_reducible rfl
    rotate_left
    ·
     simp only [Act.put, List.setIfInBounds_toArray, List.set_cons_zero, List.set_cons_succ, i64_w, i32_w]
     rfl
    refine pure_ (i := 1) (N := some 22) (v := ?_) (a' := ?_) #[true, true, false, false, false, false, false, false, false, false, false, false, false, false, false] rfl rfl (any_of HT_.out (by kernel_rfl)) (fun _ _ _ h => h) (Or.inl ⟨by rfl, ?_⟩) ?_ ?_
    rotate_left
    ·
     intro w'
     go_simp
     with_reducible rfl
    rotate_left
    ·
     simp only [Act.put, List.setIfInBounds_toArray, List.set_cons_zero, List.set_cons_succ, i64_w, i32_w]
     rfl
    refine pure_ (i := 2) (N := some 23) (v := ?_) (a' := ?_) #[true, true, true, false, false, false, false, false, false, false, false, false, false, false, false] rfl rfl (any_of HT_.out (by kernel_rfl)) (fun _ _ _ h => h) (Or.inl ⟨by rfl, ?_⟩) ?_ ?_
    rotate_left
    ·
     intro w'
     go_simp
     with_reducible rfl
    rotate_left
    ·
     simp only [Act.put, List.setIfInBounds_toArray, List.set_cons_zero, List.set_cons_succ, i64_w, i32_w]
     rfl
    refine pure_ (i := 3) (N := some 24) (v := ?_) (a' := ?_) #[true, true, true, true, false, false, false, false, false, false, false, false, false, false, false] rfl rfl (any_of HT_.out (by kernel_rfl)) (fun _ _ _ h => h) (Or.inl ⟨by rfl, ?_⟩) ?_ ?_
    rotate_left
    ·
     intro w'
     go_simp
     with_reducible rfl
    rotate_left
    ·
     simp only [Act.put, List.setIfInBounds_toArray, List.set_cons_zero, List.set_cons_succ, i64_w, i32_w]
     rfl
    refine pure_ (i := 4) (N := some 25) (v := undef) (a' := ?_) #[true, true, true, true, true, false, false, false, false, false, false, false, false, false, false] rfl rfl (any_of HT_.out (by kernel_rfl)) (fun _ _ _ h => h) (Or.inr ⟨by rfl, rfl⟩) ?_ ?_
    rotate_left
    ·
     simp only [Act.put, List.setIfInBounds_toArray, List.set_cons_zero, List.set_cons_succ, i64_w, i32_w]
     rfl
    refine pure_ (i := 5) (N := some 26) (v := undef) (a' := ?_) #[true, true, true, true, true, true, false, false, false, false, false, false, false, false, false] rfl rfl (any_of HT_.out (by kernel_rfl)) (fun _ _ _ h => h) (Or.inr ⟨by rfl, rfl⟩) ?_ ?_
    rotate_left
    ·
     simp only [Act.put, List.setIfInBounds_toArray, List.set_cons_zero, List.set_cons_succ, i64_w, i32_w]
     rfl
    refine pure_ (i := 6) (N := some 27) (v := undef) (a' := ?_) #[true, true, true, true, true, true, true, false, false, false, false, false, false, false, false] rfl rfl (any_of HT_.out (by kernel_rfl)) (fun _ _ _ h => h) (Or.inr ⟨by rfl, rfl⟩) ?_ ?_
    rotate_left
    ·
     simp only [Act.put, List.setIfInBounds_toArray, List.set_cons_zero, List.set_cons_succ, i64_w, i32_w]
     rfl
    refine pure_ (i := 7) (N := some 28) (v := ?_) (a' := ?_) #[true, true, true, true, true, true, true, true, false, false, false, false, false, false, false] rfl rfl (any_of HT_.out (by kernel_rfl)) (fun _ _ _ h => h) (Or.inl ⟨by rfl, ?_⟩) ?_ ?_
    rotate_left
    ·
     intro w'
     go_simp
     with_reducible rfl
    rotate_left
    ·
     simp only [Act.put, List.setIfInBounds_toArray, List.set_cons_zero, List.set_cons_succ, i64_w, i32_w]
     rfl
    refine pure_ (i := 8) (N := some 29) (v := ?_) (a' := ?_) #[true, true, true, true, true, true, true, true, true, false, false, false, false, false, false] rfl rfl (any_of HT_.out (by kernel_rfl)) (fun _ _ _ h => h) (Or.inl ⟨by rfl, ?_⟩) ?_ ?_
    rotate_left
    ·
     intro w'
     go_simp
     with_reducible rfl
    rotate_left
    ·
     simp only [Act.put, List.setIfInBounds_toArray, List.set_cons_zero, List.set_cons_succ, i64_w, i32_w]
     rfl
    refine pure_ (i := 9) (N := some 30) (v := undef) (a' := ?_) #[true, true, true, true, true, true, true, true, true, true, false, false, false, false, false] rfl rfl (any_of HT_.out (by kernel_rfl)) (fun _ _ _ h => h) (Or.inr ⟨by rfl, rfl⟩) ?_ ?_
    rotate_left
    ·
     simp only [Act.put, List.setIfInBounds_toArray, List.set_cons_zero, List.set_cons_succ, i64_w, i32_w]
     rfl
    refine pure_ (i := 10) (N := some 31) (v := undef) (a' := ?_) #[true, true, true, true, true, true, true, true, true, true, true, false, false, false, false] rfl rfl (any_of HT_.out (by kernel_rfl)) (fun _ _ _ h => h) (Or.inr ⟨by rfl, rfl⟩) ?_ ?_
    rotate_left
    ·
     simp only [Act.put, List.setIfInBounds_toArray, List.set_cons_zero, List.set_cons_succ, i64_w, i32_w]
     rfl
    refine pure_ (i := 11) (N := some 32) (v := undef) (a' := ?_) #[true, true, true, true, true, true, true, true, true, true, true, true, false, false, false] rfl rfl (any_of HT_.out (by kernel_rfl)) (fun _ _ _ h => h) (Or.inr ⟨by rfl, rfl⟩) ?_ ?_
    rotate_left
    ·
     simp only [Act.put, List.setIfInBounds_toArray, List.set_cons_zero, List.set_cons_succ, i64_w, i32_w]
     rfl
    refine pure_ (i := 12) (N := some 33) (v := undef) (a' := ?_) #[true, true, true, true, true, true, true, true, true, true, true, true, true, false, false] rfl rfl (any_of HT_.out (by kernel_rfl)) (fun _ _ _ h => h) (Or.inr ⟨by rfl, rfl⟩) ?_ ?_
    rotate_left
    ·
     simp only [Act.put, List.setIfInBounds_toArray, List.set_cons_zero, List.set_cons_succ, i64_w, i32_w]
     rfl
    refine pure_ (i := 13) (N := some 34) (v := undef) (a' := ?_) #[true, true, true, true, true, true, true, true, true, true, true, true, true, true, false] rfl rfl (any_of HT_.out (by kernel_rfl)) (fun _ _ _ h => h) (Or.inr ⟨by rfl, rfl⟩) ?_ ?_
    rotate_left
    ·
     simp only [Act.put, List.setIfInBounds_toArray, List.set_cons_zero, List.set_cons_succ, i64_w, i32_w]
     rfl
    refine pure_ (i := 14) (N := some 35) (v := ?_) (a' := ?_) #[true, true, true, true, true, true, true, true, true, true, true, true, true, true, true] rfl rfl (any_of HT_.out (by kernel_rfl)) (fun _ _ _ h => h) (Or.inl ⟨by rfl, ?_⟩) ?_ ?_
    rotate_left
    ·
     intro w'
     go_simp
     with_reducible rfl
    rotate_left
    ·
     simp only [Act.put, List.setIfInBounds_toArray, List.set_cons_zero, List.set_cons_succ, i64_w, i32_w]
     rfl
    refine done_ (done_of HT_.out (by kernel_rfl)) ?_
    try go_wp2
    go_meet
    case rel => exact ⟨_, (true), (by first | rfl | (simp; done) | (simp [*]; done)), H', ⟨by first | omega | exact Nat.le_refl _⟩, ⟨by (with_reducible repeat (first | refine blk_drewN ?_ _ | refine blk_drew ?_ | refine blk_alloc ?_ _)); exact BK185.out⟩, ⟨by repeat (first | (with_reducible first | exact HB.out | apply below_alloc | apply pw_below_drewN | apply below_drew1 | refine below_set ?_ GE185.out) | exact HB.out)⟩⟩
  case rest =>
   clear HC6
   try clear c1
   try clear c2
   try clear p2
   try clear c3
   try clear c4
   try clear c9
   try clear c13
   try clear c13b0
   try clear c13b1
   try clear c14
   try clear c14b0
   try clear c14b1
   try clear hcz11_0
   try clear hcz11_1
   try clear hcz9_0
   try clear hcz9_1
   try clear hfz11_0
   try clear hfz11_1
   try clear hfz9_0
   try clear hfz9_1
   obtain ⟨kq, x35_5, rfl, HA, HJ5, BK185, HB⟩ := hcut
   cases kq with
   | zero => exact absurd HA.out (by simp [arbiterlaw02_TypesWrite.j0])
   | succ kj5 =>
    have H := HA.out
    clear HA
    simp only [arbiterlaw02_TypesWrite.j0] at H
    by_cases c22 : x35_5 = true
    ·
     subst c22
     have H1 : (some false) = some r := by rw [if_pos rfl] at H; exact H
     clear H
     have H := H1
     clear H1
     obtain rfl := Option.some.inj H
     go_wp2
     go_ret
     exact ⟨by first | rfl | (simp [errW_none, errW_some] <;> rfl) | (simp [*, errW_none, errW_some] <;> rfl), by repeat (first | (with_reducible first | exact HB.out | apply below_alloc | apply pw_below_drewN | apply below_drew1 | refine below_set ?_ GE185.out) | exact HB.out)⟩
    ·
     replace c22 := Bool.eq_false_iff.mpr c22
     subst c22
     have H1 : ((types_RefText.f a0_0 a0_1).bind fun bt193 => ((arbiterref02_RefText.f kj5 a0_0 a0_1).bind fun bt195 => (if bt193.1.toList = bt195.1.toList then (arbiterlaw02_TypesWrite.j1 kj5 (bt193.2 != bt195.2) a0_0 a0_1) else (arbiterlaw02_TypesWrite.j1 kj5 true a0_0 a0_1)))) = some r := by rw [if_neg (show ¬ (false = true) by decide)] at H; exact H
     clear H
     have H := H1
     clear H1
     replace H := Option.bind_eq_some_iff.mp H
     obtain ⟨⟨t193, t194⟩, A230, H⟩ := H
     replace H : ((arbiterref02_RefText.f kj5 a0_0 a0_1).bind fun bt195 => (if t193.toList = bt195.1.toList then (arbiterlaw02_TypesWrite.j1 kj5 (t194 != bt195.2) a0_0 a0_1) else (arbiterlaw02_TypesWrite.j1 kj5 true a0_0 a0_1))) = some r := H
     have A23 := Aside0.mk A230
     clear A230
     replace H := Option.bind_eq_some_iff.mp H
     obtain ⟨⟨t195, t196⟩, A240, H⟩ := H
     replace H : (if t193.toList = t195.toList then (arbiterlaw02_TypesWrite.j1 kj5 (t194 != t196) a0_0 a0_1) else (arbiterlaw02_TypesWrite.j1 kj5 true a0_0 a0_1)) = some r := H
     have A24 := Aside0.mk A240
     clear A240
     have HC25 := Aside0.mk H
     clear H
     have hcz26_0 : wc.cell? ⟨gb185, 0, none⟩ = some (.int .i64 a0_0) := (blk_cell BK185.out 0).trans rfl
     have hcz26_1 : wc.cell? ⟨gb185, 1, none⟩ = some (.string a0_1) := (blk_cell BK185.out 1).trans rfl
     have hfz26_0 := blk_frozen BK185.out 0
     have hfz26_1 := blk_frozen BK185.out 1
     go_upto_region 9 with (first | ((with_reducible refine gate_callee (f := 45) rfl ?_); refine goesL_ (some 38) rfl rfl Tryd.func45 (by kernel_rfl) rfl #[.agg #[.int .i64 a0_0, .string a0_1]] rfl (by (try simp only [List.map_toArray, List.map_cons, List.map_nil]); first | done | rfl | (simp only [List.length_drop, List.length_take]; rfl)) ?_; (with_reducible refine (types_RefText.calls a0_0 a0_1 t193 t194 _ A23.out).mono ?_); rintro e w27 ⟨rfl, hb⟩; refine ⟨_, rfl, ?_⟩; have n0_ := Aside0.mk (blk_below (g := gb185) (o := .cells #[.int .i64 a0_0, .string a0_1] 37 (0, 0)) (by (with_reducible repeat (first | refine blk_drewN ?_ _ | refine blk_drew ?_ | refine blk_alloc ?_ _)); exact BK185.out) hb); have n1_ := Aside0.mk (below_step (by repeat (first | (with_reducible first | exact HB.out | apply below_alloc | apply pw_below_drewN | apply below_drew1 | refine below_set ?_ GE185.out) | exact HB.out)) hb); clear BK185; clear HB; have BK185 := n0_; have HB := n1_; clear n0_ n1_; (try clear hb); (try clear hb2); (try clear hk); (try clear hi); have hcz28_0 : w27.cell? ⟨gb185, 0, none⟩ = some (.int .i64 a0_0) := (blk_cell BK185.out 0).trans rfl; have hcz28_1 : w27.cell? ⟨gb185, 1, none⟩ = some (.string a0_1) := (blk_cell BK185.out 1).trans rfl; have hfz28_0 := blk_frozen BK185.out 0; have hfz28_1 := blk_frozen BK185.out 1) | ((with_reducible refine gate_callee (f := 46) rfl ?_); refine goesL_ (some 43) rfl rfl Tryd.func46 (by kernel_rfl) rfl #[.agg #[.int .i64 a0_0, .string a0_1]] rfl (by (try simp only [List.map_toArray, List.map_cons, List.map_nil]); first | done | rfl | (simp only [List.length_drop, List.length_take]; rfl)) ?_; (with_reducible refine (arbiterref02_RefText.calls kj5 a0_0 a0_1 t195 t196 _ A24.out).mono ?_); rintro e w29 ⟨rfl, hb⟩; refine ⟨_, rfl, ?_⟩; have n0_ := Aside0.mk (blk_below (g := gb185) (o := .cells #[.int .i64 a0_0, .string a0_1] 37 (0, 0)) (by (with_reducible repeat (first | refine blk_drewN ?_ _ | refine blk_drew ?_ | refine blk_alloc ?_ _)); exact BK185.out) hb); have n1_ := Aside0.mk (below_step (by repeat (first | (with_reducible first | exact HB.out | apply below_alloc | apply pw_below_drewN | apply below_drew1 | refine below_set ?_ GE185.out) | exact HB.out)) hb); clear BK185; clear HB; have BK185 := n0_; have HB := n1_; clear n0_ n1_; (try clear hb); (try clear hb2); (try clear hk); (try clear hi)))
     (try simp only [Act.put, List.setIfInBounds_toArray, List.set_cons_zero, List.set_cons_succ])
     go_cut [53] (fun v53 wc => ∃ (kq : Nat) (x53_24 : Bool), v53 = .bool x53_24 ∧ Aside0 (arbiterlaw02_TypesWrite.j1 kq x53_24 a0_0 a0_1 = some r) ∧ Aside0 (kq ≤ kj5) ∧ Aside0 (wc.heap[gb185]? = some (.cells #[.int .i64 a0_0, .string a0_1] 37 (0, 0))) ∧ Aside0 (Below w.heap.size w wc))
     case first =>
      have H := HC25.out
      clear HC25
      by_cases c30 : t193.toList = t195.toList
      ·
       rw [if_pos c30] at H
       have c30b0 : (t193.toList == t195.toList) = true := beq_iff_eq.mpr c30
       have c30b1 : (t193.toList != t195.toList) = false := bne_eq_false_iff_eq.mpr c30
       clear c30
       (first | rw [c30b0] | (simp only [i64_w, i32_w]; rw [c30b0]) | skip)
       have H' := Aside0.mk H
       clear H
       go_wp2
       go_meet
       case rel => exact ⟨_, ((t194 != t196)), (by first | rfl | (simp; done) | (simp [*]; done)), H', ⟨by have := HJ5.out; first | omega | exact Nat.le_refl _⟩, ⟨by (with_reducible repeat (first | refine blk_drewN ?_ _ | refine blk_drew ?_ | refine blk_alloc ?_ _)); exact BK185.out⟩, ⟨by repeat (first | (with_reducible first | exact HB.out | apply below_alloc | apply pw_below_drewN | apply below_drew1 | refine below_set ?_ GE185.out) | exact HB.out)⟩⟩
      ·
       rw [if_neg c30] at H
       have c30b0 : (t193.toList == t195.toList) = false := beq_eq_false_iff_ne.mpr c30
       have c30b1 : (t193.toList != t195.toList) = true := bne_iff_ne.mpr c30
       (first | rw [c30b0] | (simp only [i64_w, i32_w]; rw [c30b0]) | skip)
       have H' := Aside0.mk H
       clear H
       go_wp2
       go_meet
       case rel => exact ⟨_, (true), (by first | rfl | (simp; done) | (simp [*]; done)), H', ⟨by have := HJ5.out; first | omega | exact Nat.le_refl _⟩, ⟨by (with_reducible repeat (first | refine blk_drewN ?_ _ | refine blk_drew ?_ | refine blk_alloc ?_ _)); exact BK185.out⟩, ⟨by repeat (first | (with_reducible first | exact HB.out | apply below_alloc | apply pw_below_drewN | apply below_drew1 | refine below_set ?_ GE185.out) | exact HB.out)⟩⟩
     case rest =>
      clear HC25
      try clear c1
      try clear c2
      try clear p2
      try clear c3
      try clear c4
      try clear c9
      try clear c13
      try clear c13b0
      try clear c13b1
      try clear c14
      try clear c14b0
      try clear c14b1
      try clear c22
      try clear c25
      try clear c30
      try clear c30b0
      try clear c30b1
      try clear hcz11_0
      try clear hcz11_1
      try clear hcz26_0
      try clear hcz26_1
      try clear hcz28_0
      try clear hcz28_1
      try clear hcz9_0
      try clear hcz9_1
      try clear hfz11_0
      try clear hfz11_1
      try clear hfz26_0
      try clear hfz26_1
      try clear hfz28_0
      try clear hfz28_1
      try clear hfz9_0
      try clear hfz9_1
      try clear p2
      obtain ⟨kq, x53_24, rfl, HA, HJ24, BK185, HB⟩ := hcut
      cases kq with
      | zero => exact absurd HA.out (by simp [arbiterlaw02_TypesWrite.j1])
      | succ kj24 =>
       have H := HA.out
       clear HA
       simp only [arbiterlaw02_TypesWrite.j1] at H
       by_cases c31 : x53_24 = true
       ·
        subst c31
        have H1 : (some false) = some r := by rw [if_pos rfl] at H; exact H
        clear H
        have H := H1
        clear H1
        obtain rfl := Option.some.inj H
        go_wp2
        go_ret
        exact ⟨by first | rfl | (simp [errW_none, errW_some] <;> rfl) | (simp [*, errW_none, errW_some] <;> rfl), by repeat (first | (with_reducible first | exact HB.out | apply below_alloc | apply pw_below_drewN | apply below_drew1 | refine below_set ?_ GE185.out) | exact HB.out)⟩
       ·
        replace c31 := Bool.eq_false_iff.mpr c31
        subst c31
        have H1 : ((types_ArrayOf.f a0_0 a0_1).bind fun bt197 => ((arbiterref02_ArrayOf.f a0_0 a0_1).bind fun bt201 => (if bt197.2.2 = bt201.2.2 then ((arbiterref02_Same.f bt197.1 bt197.2.1 bt201.1 bt201.2.1).bind fun t205 => (arbiterlaw02_TypesWrite.j2 kj24 (!t205) a0_0 a0_1)) else (arbiterlaw02_TypesWrite.j2 kj24 true a0_0 a0_1)))) = some r := by rw [if_neg (show ¬ (false = true) by decide)] at H; exact H
        clear H
        have H := H1
        clear H1
        replace H := Option.bind_eq_some_iff.mp H
        obtain ⟨⟨t197, t198, t199⟩, A320, H⟩ := H
        replace H : ((arbiterref02_ArrayOf.f a0_0 a0_1).bind fun bt201 => (if t199 = bt201.2.2 then ((arbiterref02_Same.f t197 t198 bt201.1 bt201.2.1).bind fun t205 => (arbiterlaw02_TypesWrite.j2 kj24 (!t205) a0_0 a0_1)) else (arbiterlaw02_TypesWrite.j2 kj24 true a0_0 a0_1))) = some r := H
        have A32 := Aside0.mk A320
        clear A320
        replace H := Option.bind_eq_some_iff.mp H
        obtain ⟨⟨t201, t202, t203⟩, A330, H⟩ := H
        replace H : (if t199 = t203 then ((arbiterref02_Same.f t197 t198 t201 t202).bind fun t205 => (arbiterlaw02_TypesWrite.j2 kj24 (!t205) a0_0 a0_1)) else (arbiterlaw02_TypesWrite.j2 kj24 true a0_0 a0_1)) = some r := H
        have A33 := Aside0.mk A330
        clear A330
        have HC34 := Aside0.mk H
        clear H
        have hcz35_0 : wc.cell? ⟨gb185, 0, none⟩ = some (.int .i64 a0_0) := (blk_cell BK185.out 0).trans rfl
        have hcz35_1 : wc.cell? ⟨gb185, 1, none⟩ = some (.string a0_1) := (blk_cell BK185.out 1).trans rfl
        have hfz35_0 := blk_frozen BK185.out 0
        have hfz35_1 := blk_frozen BK185.out 1
        go_upto_region 13 with (first | ((with_reducible refine gate_callee (f := 47) rfl ?_); refine goesL_ (some 56) rfl rfl Tryd.func47 (by kernel_rfl) rfl #[.agg #[.int .i64 a0_0, .string a0_1]] rfl (by (try simp only [List.map_toArray, List.map_cons, List.map_nil]); first | done | rfl | (simp only [List.length_drop, List.length_take]; rfl)) ?_; (with_reducible refine (types_ArrayOf.calls a0_0 a0_1 t197 t198 t199 _ A32.out).mono ?_); rintro e w36 ⟨rfl, hb⟩; refine ⟨_, rfl, ?_⟩; have n0_ := Aside0.mk (blk_below (g := gb185) (o := .cells #[.int .i64 a0_0, .string a0_1] 37 (0, 0)) (by (with_reducible repeat (first | refine blk_drewN ?_ _ | refine blk_drew ?_ | refine blk_alloc ?_ _)); exact BK185.out) hb); have n1_ := Aside0.mk (below_step (by repeat (first | (with_reducible first | exact HB.out | apply below_alloc | apply pw_below_drewN | apply below_drew1 | refine below_set ?_ GE185.out) | exact HB.out)) hb); clear BK185; clear HB; have BK185 := n0_; have HB := n1_; clear n0_ n1_; (try clear hb); (try clear hb2); (try clear hk); (try clear hi)) | ((with_reducible refine gate_dst (N := 7) rfl ?_); refine box_event ?hg (N := 7) ?hd (cs := #[.int .i64 0, .string (⟨#[]⟩ : ByteArray)]) (t := 37) ?hr ?_; (case hd => rfl); (case hg => rfl); (case hr => first | (go_simp; done) | (go_simp; rfl)); intro gb200 hg w37 hbox hb; have n0_ := Aside0.mk (blk_below (g := gb185) (o := .cells #[.int .i64 a0_0, .string a0_1] 37 (0, 0)) (by (with_reducible repeat (first | refine blk_drewN ?_ _ | refine blk_drew ?_ | refine blk_alloc ?_ _)); exact BK185.out) hb); have n1_ := Aside0.mk (below_step (by repeat (first | (with_reducible first | exact HB.out | apply below_alloc | apply pw_below_drewN | apply below_drew1 | refine below_set ?_ GE185.out) | exact HB.out)) hb); have n2_ := Aside0.mk (hbox); have n3_ := Aside0.mk ((by rw [hg]; exact (below_size (by repeat (first | (with_reducible first | exact HB.out | apply below_alloc | apply pw_below_drewN | apply below_drew1 | refine below_set ?_ GE185.out) | exact HB.out))) : w.heap.size ≤ gb200)); have n4_ := Aside0.mk ((by rw [hg]; exact (below_size (by repeat (first | (with_reducible first | exact HB.out | apply below_alloc | apply pw_below_drewN | apply below_drew1 | refine below_set ?_ GE185.out) | exact HB.out))) : w.heap.size ≤ gb200)); have n5_ := Aside0.mk ((by rw [hg]; exact Nat.ne_of_lt (blk_lt (g := gb185) (o := .cells #[.int .i64 a0_0, .string a0_1] 37 (0, 0)) (by (with_reducible repeat (first | refine blk_drewN ?_ _ | refine blk_drew ?_ | refine blk_alloc ?_ _)); exact BK185.out)) : gb185 ≠ gb200)); have n6_ := Aside0.mk ((by rw [hg]; exact Nat.ne_of_gt (blk_lt (g := gb185) (o := .cells #[.int .i64 a0_0, .string a0_1] 37 (0, 0)) (by (with_reducible repeat (first | refine blk_drewN ?_ _ | refine blk_drew ?_ | refine blk_alloc ?_ _)); exact BK185.out)) : gb200 ≠ gb185)); clear BK185; clear HB; have BK185 := n0_; have HB := n1_; have BK200 := n2_; have GW200 := n3_; have GE200 := n4_; have NB185_200 := n5_; have NB200_185 := n6_; clear n0_ n1_ n2_ n3_ n4_ n5_ n6_; clear hb hbox hg; have hnb38 := NB200_185.out; have hnc38 := NB185_200.out; have hcz39_0 : w37.cell? ⟨gb200, 0, none⟩ = some (.int .i64 0) := (blk_cell BK200.out 0).trans rfl; have hcz39_1 : w37.cell? ⟨gb200, 1, none⟩ = some (.string (⟨#[]⟩ : ByteArray)) := (blk_cell BK200.out 1).trans rfl; have hfz39_0 := blk_frozen BK200.out 0; have hfz39_1 := blk_frozen BK200.out 1; have hcz40_0 : w37.cell? ⟨gb185, 0, none⟩ = some (.int .i64 a0_0) := (blk_cell BK185.out 0).trans rfl; have hcz40_1 : w37.cell? ⟨gb185, 1, none⟩ = some (.string a0_1) := (blk_cell BK185.out 1).trans rfl; have hfz40_0 := blk_frozen BK185.out 0; have hfz40_1 := blk_frozen BK185.out 1) | ((with_reducible refine gate_callee (f := 48) rfl ?_); refine goesL_ (some 61) rfl rfl Tryd.func48 (by kernel_rfl) rfl #[.agg #[.int .i64 a0_0, .string a0_1]] rfl (by (try simp only [List.map_toArray, List.map_cons, List.map_nil]); first | done | rfl | (simp only [List.length_drop, List.length_take]; rfl)) ?_; (with_reducible refine (arbiterref02_ArrayOf.calls a0_0 a0_1 t201 t202 t203 _ A33.out).mono ?_); rintro e w41 ⟨rfl, hb⟩; refine ⟨_, rfl, ?_⟩; have n0_ := Aside0.mk (blk_below (g := gb185) (o := .cells #[.int .i64 a0_0, .string a0_1] 37 (0, 0)) (by (with_reducible repeat (first | refine blk_drewN ?_ _ | refine blk_drew ?_ | refine blk_alloc ?_ _)); refine blk_far ?_ NB185_200.out _; (with_reducible repeat (first | refine blk_drewN ?_ _ | refine blk_drew ?_ | refine blk_alloc ?_ _)); refine blk_far ?_ NB185_200.out _; (with_reducible repeat (first | refine blk_drewN ?_ _ | refine blk_drew ?_ | refine blk_alloc ?_ _)); exact BK185.out) hb); have n1_ := Aside0.mk (blk_below (g := gb200) (o := .cells #[.int .i64 t197, .string t198] 37 (0, 0)) (by (with_reducible repeat (first | refine blk_drewN ?_ _ | refine blk_drew ?_ | refine blk_alloc ?_ _)); refine blk_put (cs := #[.int .i64 t197, .string (⟨#[]⟩ : ByteArray)]) ?_ 1 _ rfl; (with_reducible repeat (first | refine blk_drewN ?_ _ | refine blk_drew ?_ | refine blk_alloc ?_ _)); refine blk_put (cs := #[.int .i64 0, .string (⟨#[]⟩ : ByteArray)]) ?_ 0 _ rfl; (with_reducible repeat (first | refine blk_drewN ?_ _ | refine blk_drew ?_ | refine blk_alloc ?_ _)); exact BK200.out) hb); have n2_ := Aside0.mk (below_step (by repeat (first | (with_reducible first | exact HB.out | apply below_alloc | apply pw_below_drewN | apply below_drew1 | refine below_set ?_ GE185.out | refine below_set ?_ GE200.out) | exact HB.out)) hb); clear BK185; clear BK200; clear HB; have BK185 := n0_; have BK200 := n1_; have HB := n2_; clear n0_ n1_ n2_; (try clear hb); (try clear hb2); (try clear hk); (try clear hi)) | ((with_reducible refine gate_dst (N := 8) rfl ?_); refine box_event ?hg (N := 8) ?hd (cs := #[.int .i64 0, .string (⟨#[]⟩ : ByteArray)]) (t := 37) ?hr ?_; (case hd => rfl); (case hg => rfl); (case hr => first | (go_simp; done) | (go_simp; rfl)); intro gb204 hg w42 hbox hb; have n0_ := Aside0.mk (blk_below (g := gb185) (o := .cells #[.int .i64 a0_0, .string a0_1] 37 (0, 0)) (by (with_reducible repeat (first | refine blk_drewN ?_ _ | refine blk_drew ?_ | refine blk_alloc ?_ _)); exact BK185.out) hb); have n1_ := Aside0.mk (blk_below (g := gb200) (o := .cells #[.int .i64 t197, .string t198] 37 (0, 0)) (by (with_reducible repeat (first | refine blk_drewN ?_ _ | refine blk_drew ?_ | refine blk_alloc ?_ _)); exact BK200.out) hb); have n2_ := Aside0.mk (below_step (by repeat (first | (with_reducible first | exact HB.out | apply below_alloc | apply pw_below_drewN | apply below_drew1 | refine below_set ?_ GE185.out | refine below_set ?_ GE200.out) | exact HB.out)) hb); have n3_ := Aside0.mk (hbox); have n4_ := Aside0.mk ((by rw [hg]; exact (below_size (by repeat (first | (with_reducible first | exact HB.out | apply below_alloc | apply pw_below_drewN | apply below_drew1 | refine below_set ?_ GE185.out | refine below_set ?_ GE200.out) | exact HB.out))) : w.heap.size ≤ gb204)); have n5_ := Aside0.mk ((by rw [hg]; exact (below_size (by repeat (first | (with_reducible first | exact HB.out | apply below_alloc | apply pw_below_drewN | apply below_drew1 | refine below_set ?_ GE185.out | refine below_set ?_ GE200.out) | exact HB.out))) : w.heap.size ≤ gb204)); have n6_ := Aside0.mk ((by rw [hg]; exact Nat.ne_of_lt (blk_lt (g := gb185) (o := .cells #[.int .i64 a0_0, .string a0_1] 37 (0, 0)) (by (with_reducible repeat (first | refine blk_drewN ?_ _ | refine blk_drew ?_ | refine blk_alloc ?_ _)); exact BK185.out)) : gb185 ≠ gb204)); have n7_ := Aside0.mk ((by rw [hg]; exact Nat.ne_of_gt (blk_lt (g := gb185) (o := .cells #[.int .i64 a0_0, .string a0_1] 37 (0, 0)) (by (with_reducible repeat (first | refine blk_drewN ?_ _ | refine blk_drew ?_ | refine blk_alloc ?_ _)); exact BK185.out)) : gb204 ≠ gb185)); have n8_ := Aside0.mk ((by rw [hg]; exact Nat.ne_of_lt (blk_lt (g := gb200) (o := .cells #[.int .i64 t197, .string t198] 37 (0, 0)) (by (with_reducible repeat (first | refine blk_drewN ?_ _ | refine blk_drew ?_ | refine blk_alloc ?_ _)); exact BK200.out)) : gb200 ≠ gb204)); have n9_ := Aside0.mk ((by rw [hg]; exact Nat.ne_of_gt (blk_lt (g := gb200) (o := .cells #[.int .i64 t197, .string t198] 37 (0, 0)) (by (with_reducible repeat (first | refine blk_drewN ?_ _ | refine blk_drew ?_ | refine blk_alloc ?_ _)); exact BK200.out)) : gb204 ≠ gb200)); clear BK185; clear BK200; clear HB; have BK185 := n0_; have BK200 := n1_; have HB := n2_; have BK204 := n3_; have GW204 := n4_; have GE204 := n5_; have NB185_204 := n6_; have NB204_185 := n7_; have NB200_204 := n8_; have NB204_200 := n9_; clear n0_ n1_ n2_ n3_ n4_ n5_ n6_ n7_ n8_ n9_; clear hb hbox hg; have hnb43 := NB204_185.out; have hnc43 := NB185_204.out; have hnb44 := NB204_200.out; have hnc44 := NB200_204.out; have hcz45_0 : w42.cell? ⟨gb204, 0, none⟩ = some (.int .i64 0) := (blk_cell BK204.out 0).trans rfl; have hcz45_1 : w42.cell? ⟨gb204, 1, none⟩ = some (.string (⟨#[]⟩ : ByteArray)) := (blk_cell BK204.out 1).trans rfl; have hfz45_0 := blk_frozen BK204.out 0; have hfz45_1 := blk_frozen BK204.out 1))
        (try simp only [Act.put, List.setIfInBounds_toArray, List.set_cons_zero, List.set_cons_succ])
        go_cut [72] (fun v72 wc => ∃ (kq : Nat) (x72_33 : Bool), v72 = .bool x72_33 ∧ Aside0 (arbiterlaw02_TypesWrite.j2 kq x72_33 a0_0 a0_1 = some r) ∧ Aside0 (kq ≤ kj24) ∧ Aside0 (wc.heap[gb185]? = some (.cells #[.int .i64 a0_0, .string a0_1] 37 (0, 0))) ∧ Aside0 (wc.heap[gb200]? = some (.cells #[.int .i64 t197, .string t198] 37 (0, 0))) ∧ Aside0 (wc.heap[gb204]? = some (.cells #[.int .i64 t201, .string t202] 37 (0, 0))) ∧ Aside0 (Below w.heap.size w wc))
        case first =>
         have H := HC34.out
         clear HC34
         by_cases c46 : t199 = t203
         ·
          rw [if_pos c46] at H
          have c46b0 : (t199 == t203) = true := beq_iff_eq.mpr c46
          have c46b1 : (t199 != t203) = false := bne_eq_false_iff_eq.mpr c46
          clear c46
          (first | rw [c46b0] | (simp only [i64_w, i32_w]; rw [c46b0]) | skip)
          replace H := Option.bind_eq_some_iff.mp H
          obtain ⟨t205, A470, H⟩ := H
          replace H : (arbiterlaw02_TypesWrite.j2 kj24 (!t205) a0_0 a0_1) = some r := H
          have A47 := Aside0.mk A470
          clear A470
          have H' := Aside0.mk H
          clear H
          have hnb48 := NB200_185.out
          have hnc48 := NB185_200.out
          have hnb49 := NB200_204.out
          have hnc49 := NB204_200.out
          have hcz50_0 : w42.cell? ⟨gb200, 0, none⟩ = some (.int .i64 t197) := (blk_cell BK200.out 0).trans rfl
          have hcz50_1 : w42.cell? ⟨gb200, 1, none⟩ = some (.string t198) := (blk_cell BK200.out 1).trans rfl
          have hfz50_0 := blk_frozen BK200.out 0
          have hfz50_1 := blk_frozen BK200.out 1
          have hnb51 := NB204_185.out
          have hnc51 := NB185_204.out
          have hcz52_0 : w42.cell? ⟨gb204, 0, none⟩ = some (.int .i64 0) := (blk_cell BK204.out 0).trans rfl
          have hcz52_1 : w42.cell? ⟨gb204, 1, none⟩ = some (.string (⟨#[]⟩ : ByteArray)) := (blk_cell BK204.out 1).trans rfl
          have hfz52_0 := blk_frozen BK204.out 0
          have hfz52_1 := blk_frozen BK204.out 1
          go_wp2_with (first | (go_at_call 28; (with_reducible refine (arbiterref02_Same.calls t197 t198 t201 t202 t205 _ A47.out).mono ?_); rintro e w53 ⟨rfl, hb⟩; have n0_ := Aside0.mk (blk_below (g := gb185) (o := .cells #[.int .i64 a0_0, .string a0_1] 37 (0, 0)) (by (with_reducible repeat (first | refine blk_drewN ?_ _ | refine blk_drew ?_ | refine blk_alloc ?_ _)); refine blk_far ?_ NB185_204.out _; (with_reducible repeat (first | refine blk_drewN ?_ _ | refine blk_drew ?_ | refine blk_alloc ?_ _)); refine blk_far ?_ NB185_204.out _; (with_reducible repeat (first | refine blk_drewN ?_ _ | refine blk_drew ?_ | refine blk_alloc ?_ _)); exact BK185.out) hb); have n1_ := Aside0.mk (blk_below (g := gb200) (o := .cells #[.int .i64 t197, .string t198] 37 (0, 0)) (by (with_reducible repeat (first | refine blk_drewN ?_ _ | refine blk_drew ?_ | refine blk_alloc ?_ _)); refine blk_far ?_ NB200_204.out _; (with_reducible repeat (first | refine blk_drewN ?_ _ | refine blk_drew ?_ | refine blk_alloc ?_ _)); refine blk_far ?_ NB200_204.out _; (with_reducible repeat (first | refine blk_drewN ?_ _ | refine blk_drew ?_ | refine blk_alloc ?_ _)); exact BK200.out) hb); have n2_ := Aside0.mk (blk_below (g := gb204) (o := .cells #[.int .i64 t201, .string t202] 37 (0, 0)) (by (with_reducible repeat (first | refine blk_drewN ?_ _ | refine blk_drew ?_ | refine blk_alloc ?_ _)); refine blk_put (cs := #[.int .i64 t201, .string (⟨#[]⟩ : ByteArray)]) ?_ 1 _ rfl; (with_reducible repeat (first | refine blk_drewN ?_ _ | refine blk_drew ?_ | refine blk_alloc ?_ _)); refine blk_put (cs := #[.int .i64 0, .string (⟨#[]⟩ : ByteArray)]) ?_ 0 _ rfl; (with_reducible repeat (first | refine blk_drewN ?_ _ | refine blk_drew ?_ | refine blk_alloc ?_ _)); exact BK204.out) hb); have n3_ := Aside0.mk (below_step (by repeat (first | (with_reducible first | exact HB.out | apply below_alloc | apply pw_below_drewN | apply below_drew1 | refine below_set ?_ GE185.out | refine below_set ?_ GE200.out | refine below_set ?_ GE204.out) | exact HB.out)) hb); clear BK185; clear BK200; clear BK204; clear HB; have BK185 := n0_; have BK200 := n1_; have BK204 := n2_; have HB := n3_; clear n0_ n1_ n2_ n3_; (try clear hb); (try clear hb2); (try clear hk); (try clear hi)))
          go_meet
          case rel => exact ⟨_, (!t205), (by first | rfl | (simp; done) | (simp [*]; done)), H', ⟨by have := HJ5.out; have := HJ24.out; first | omega | exact Nat.le_refl _⟩, ⟨by (with_reducible repeat (first | refine blk_drewN ?_ _ | refine blk_drew ?_ | refine blk_alloc ?_ _)); exact BK185.out⟩, ⟨by (with_reducible repeat (first | refine blk_drewN ?_ _ | refine blk_drew ?_ | refine blk_alloc ?_ _)); exact BK200.out⟩, ⟨by (with_reducible repeat (first | refine blk_drewN ?_ _ | refine blk_drew ?_ | refine blk_alloc ?_ _)); exact BK204.out⟩, ⟨by repeat (first | (with_reducible first | exact HB.out | apply below_alloc | apply pw_below_drewN | apply below_drew1 | refine below_set ?_ GE185.out | refine below_set ?_ GE200.out | refine below_set ?_ GE204.out) | exact HB.out)⟩⟩
         ·
          rw [if_neg c46] at H
          have c46b0 : (t199 == t203) = false := beq_eq_false_iff_ne.mpr c46
          have c46b1 : (t199 != t203) = true := bne_iff_ne.mpr c46
          (first | rw [c46b0] | (simp only [i64_w, i32_w]; rw [c46b0]) | skip)
          have H' := Aside0.mk H
          clear H
          go_wp2
          go_meet
          case rel => exact ⟨_, (true), (by first | rfl | (simp; done) | (simp [*]; done)), H', ⟨by have := HJ5.out; have := HJ24.out; first | omega | exact Nat.le_refl _⟩, ⟨by (with_reducible repeat (first | refine blk_drewN ?_ _ | refine blk_drew ?_ | refine blk_alloc ?_ _)); refine blk_far ?_ NB185_204.out _; (with_reducible repeat (first | refine blk_drewN ?_ _ | refine blk_drew ?_ | refine blk_alloc ?_ _)); refine blk_far ?_ NB185_204.out _; (with_reducible repeat (first | refine blk_drewN ?_ _ | refine blk_drew ?_ | refine blk_alloc ?_ _)); exact BK185.out⟩, ⟨by (with_reducible repeat (first | refine blk_drewN ?_ _ | refine blk_drew ?_ | refine blk_alloc ?_ _)); refine blk_far ?_ NB200_204.out _; (with_reducible repeat (first | refine blk_drewN ?_ _ | refine blk_drew ?_ | refine blk_alloc ?_ _)); refine blk_far ?_ NB200_204.out _; (with_reducible repeat (first | refine blk_drewN ?_ _ | refine blk_drew ?_ | refine blk_alloc ?_ _)); exact BK200.out⟩, ⟨by (with_reducible repeat (first | refine blk_drewN ?_ _ | refine blk_drew ?_ | refine blk_alloc ?_ _)); refine blk_put (cs := #[.int .i64 t201, .string (⟨#[]⟩ : ByteArray)]) ?_ 1 _ rfl; (with_reducible repeat (first | refine blk_drewN ?_ _ | refine blk_drew ?_ | refine blk_alloc ?_ _)); refine blk_put (cs := #[.int .i64 0, .string (⟨#[]⟩ : ByteArray)]) ?_ 0 _ rfl; (with_reducible repeat (first | refine blk_drewN ?_ _ | refine blk_drew ?_ | refine blk_alloc ?_ _)); exact BK204.out⟩, ⟨by repeat (first | (with_reducible first | exact HB.out | apply below_alloc | apply pw_below_drewN | apply below_drew1 | refine below_set ?_ GE185.out | refine below_set ?_ GE200.out | refine below_set ?_ GE204.out) | exact HB.out)⟩⟩
        case rest =>
         clear HC34
         try clear c1
         try clear c2
         try clear p2
         try clear c3
         try clear c4
         try clear c5
         try clear c9
         try clear c13
         try clear c13b0
         try clear c13b1
         try clear c14
         try clear c14b0
         try clear c14b1
         try clear c22
         try clear c25
         try clear c30
         try clear c30b0
         try clear c30b1
         try clear c31
         try clear c38
         try clear c43
         try clear c44
         try clear c45
         try clear c46
         try clear c46b0
         try clear c46b1
         try clear c47
         try clear c48
         try clear c49
         try clear c51
         try clear hcz11_0
         try clear hcz11_1
         try clear hcz26_0
         try clear hcz26_1
         try clear hcz28_0
         try clear hcz28_1
         try clear hcz35_0
         try clear hcz35_1
         try clear hcz39_0
         try clear hcz39_1
         try clear hcz40_0
         try clear hcz40_1
         try clear hcz45_0
         try clear hcz45_1
         try clear hcz50_0
         try clear hcz50_1
         try clear hcz52_0
         try clear hcz52_1
         try clear hcz9_0
         try clear hcz9_1
         try clear hfz11_0
         try clear hfz11_1
         try clear hfz26_0
         try clear hfz26_1
         try clear hfz28_0
         try clear hfz28_1
         try clear hfz35_0
         try clear hfz35_1
         try clear hfz39_0
         try clear hfz39_1
         try clear hfz40_0
         try clear hfz40_1
         try clear hfz45_0
         try clear hfz45_1
         try clear hfz50_0
         try clear hfz50_1
         try clear hfz52_0
         try clear hfz52_1
         try clear hfz9_0
         try clear hfz9_1
         try clear p2
         obtain ⟨kq, x72_33, rfl, HA, HJ33, BK185, BK200, BK204, HB⟩ := hcut
         cases kq with
         | zero => exact absurd HA.out (by simp [arbiterlaw02_TypesWrite.j2])
         | succ kj33 =>
          have H := HA.out
          clear HA
          simp only [arbiterlaw02_TypesWrite.j2] at H
          by_cases c54 : x72_33 = true
          ·
           subst c54
           have H1 : (some false) = some r := by rw [if_pos rfl] at H; exact H
           clear H
           have H := H1
           clear H1
           obtain rfl := Option.some.inj H
           go_wp2
           go_ret
           exact ⟨by first | rfl | (simp [errW_none, errW_some] <;> rfl) | (simp [*, errW_none, errW_some] <;> rfl), by repeat (first | (with_reducible first | exact HB.out | apply below_alloc | apply pw_below_drewN | apply below_drew1 | refine below_set ?_ GE185.out | refine below_set ?_ GE200.out | refine below_set ?_ GE204.out) | exact HB.out)⟩
          ·
           replace c54 := Bool.eq_false_iff.mpr c54
           subst c54
           have H1 : ((types_Component.f a0_0 a0_1).bind fun bt206 => ((arbiterref02_Component.f a0_0 a0_1).bind fun bt209 => (if bt206.2.2 = bt209.2.2 then ((arbiterref02_Same.f bt206.1 bt206.2.1 bt209.1 bt209.2.1).bind fun t212 => (arbiterlaw02_TypesWrite.j3 kj33 (!t212) a0_0 a0_1)) else (arbiterlaw02_TypesWrite.j3 kj33 true a0_0 a0_1)))) = some r := by rw [if_neg (show ¬ (false = true) by decide)] at H; exact H
           clear H
           have H := H1
           clear H1
           replace H := Option.bind_eq_some_iff.mp H
           obtain ⟨⟨t206, t207, t208⟩, A550, H⟩ := H
           replace H : ((arbiterref02_Component.f a0_0 a0_1).bind fun bt209 => (if t208 = bt209.2.2 then ((arbiterref02_Same.f t206 t207 bt209.1 bt209.2.1).bind fun t212 => (arbiterlaw02_TypesWrite.j3 kj33 (!t212) a0_0 a0_1)) else (arbiterlaw02_TypesWrite.j3 kj33 true a0_0 a0_1))) = some r := H
           have A55 := Aside0.mk A550
           clear A550
           replace H := Option.bind_eq_some_iff.mp H
           obtain ⟨⟨t209, t210, t211⟩, A560, H⟩ := H
           replace H : (if t208 = t211 then ((arbiterref02_Same.f t206 t207 t209 t210).bind fun t212 => (arbiterlaw02_TypesWrite.j3 kj33 (!t212) a0_0 a0_1)) else (arbiterlaw02_TypesWrite.j3 kj33 true a0_0 a0_1)) = some r := H
           have A56 := Aside0.mk A560
           clear A560
           have HC57 := Aside0.mk H
           clear H
           have hnb58 := NB185_200.out
           have hnc58 := NB200_185.out
           have hnb59 := NB185_204.out
           have hnc59 := NB204_185.out
           have hcz60_0 : wc.cell? ⟨gb185, 0, none⟩ = some (.int .i64 a0_0) := (blk_cell BK185.out 0).trans rfl
           have hcz60_1 : wc.cell? ⟨gb185, 1, none⟩ = some (.string a0_1) := (blk_cell BK185.out 1).trans rfl
           have hfz60_0 := blk_frozen BK185.out 0
           have hfz60_1 := blk_frozen BK185.out 1
           go_upto_region 17 with (first | ((with_reducible refine gate_callee (f := 49) rfl ?_); refine goesL_ (some 75) rfl rfl Tryd.func49 (by kernel_rfl) rfl #[.agg #[.int .i64 a0_0, .string a0_1]] rfl (by (try simp only [List.map_toArray, List.map_cons, List.map_nil]); first | done | rfl | (simp only [List.length_drop, List.length_take]; rfl)) ?_; (with_reducible refine (types_Component.calls a0_0 a0_1 t206 t207 t208 _ A55.out).mono ?_); rintro e w61 ⟨rfl, hb⟩; refine ⟨_, rfl, ?_⟩; have n0_ := Aside0.mk (blk_below (g := gb185) (o := .cells #[.int .i64 a0_0, .string a0_1] 37 (0, 0)) (by (with_reducible repeat (first | refine blk_drewN ?_ _ | refine blk_drew ?_ | refine blk_alloc ?_ _)); exact BK185.out) hb); have n1_ := Aside0.mk (blk_below (g := gb200) (o := .cells #[.int .i64 t197, .string t198] 37 (0, 0)) (by (with_reducible repeat (first | refine blk_drewN ?_ _ | refine blk_drew ?_ | refine blk_alloc ?_ _)); exact BK200.out) hb); have n2_ := Aside0.mk (blk_below (g := gb204) (o := .cells #[.int .i64 t201, .string t202] 37 (0, 0)) (by (with_reducible repeat (first | refine blk_drewN ?_ _ | refine blk_drew ?_ | refine blk_alloc ?_ _)); exact BK204.out) hb); have n3_ := Aside0.mk (below_step (by repeat (first | (with_reducible first | exact HB.out | apply below_alloc | apply pw_below_drewN | apply below_drew1 | refine below_set ?_ GE185.out | refine below_set ?_ GE200.out | refine below_set ?_ GE204.out) | exact HB.out)) hb); clear BK185; clear BK200; clear BK204; clear HB; have BK185 := n0_; have BK200 := n1_; have BK204 := n2_; have HB := n3_; clear n0_ n1_ n2_ n3_; (try clear hb); (try clear hb2); (try clear hk); (try clear hi); have hnb62 := NB200_204.out; have hnc62 := NB204_200.out; have hcz63_0 : w61.cell? ⟨gb200, 0, none⟩ = some (.int .i64 t197) := (blk_cell BK200.out 0).trans rfl; have hcz63_1 : w61.cell? ⟨gb200, 1, none⟩ = some (.string t198) := (blk_cell BK200.out 1).trans rfl; have hfz63_0 := blk_frozen BK200.out 0; have hfz63_1 := blk_frozen BK200.out 1; have hcz64_0 : w61.cell? ⟨gb185, 0, none⟩ = some (.int .i64 a0_0) := (blk_cell BK185.out 0).trans rfl; have hcz64_1 : w61.cell? ⟨gb185, 1, none⟩ = some (.string a0_1) := (blk_cell BK185.out 1).trans rfl; have hfz64_0 := blk_frozen BK185.out 0; have hfz64_1 := blk_frozen BK185.out 1) | ((with_reducible refine gate_callee (f := 50) rfl ?_); refine goesL_ (some 80) rfl rfl Tryd.func50 (by kernel_rfl) rfl #[.agg #[.int .i64 a0_0, .string a0_1]] rfl (by (try simp only [List.map_toArray, List.map_cons, List.map_nil]); first | done | rfl | (simp only [List.length_drop, List.length_take]; rfl)) ?_; (with_reducible refine (arbiterref02_Component.calls a0_0 a0_1 t209 t210 t211 _ A56.out).mono ?_); rintro e w65 ⟨rfl, hb⟩; refine ⟨_, rfl, ?_⟩; have n0_ := Aside0.mk (blk_below (g := gb185) (o := .cells #[.int .i64 a0_0, .string a0_1] 37 (0, 0)) (by (with_reducible repeat (first | refine blk_drewN ?_ _ | refine blk_drew ?_ | refine blk_alloc ?_ _)); refine blk_far ?_ NB185_200.out _; (with_reducible repeat (first | refine blk_drewN ?_ _ | refine blk_drew ?_ | refine blk_alloc ?_ _)); refine blk_far ?_ NB185_200.out _; (with_reducible repeat (first | refine blk_drewN ?_ _ | refine blk_drew ?_ | refine blk_alloc ?_ _)); exact BK185.out) hb); have n1_ := Aside0.mk (blk_below (g := gb200) (o := .cells #[.int .i64 t206, .string t207] 37 (0, 0)) (by (with_reducible repeat (first | refine blk_drewN ?_ _ | refine blk_drew ?_ | refine blk_alloc ?_ _)); refine blk_put (cs := #[.int .i64 t206, .string t198]) ?_ 1 _ rfl; (with_reducible repeat (first | refine blk_drewN ?_ _ | refine blk_drew ?_ | refine blk_alloc ?_ _)); refine blk_put (cs := #[.int .i64 t197, .string t198]) ?_ 0 _ rfl; (with_reducible repeat (first | refine blk_drewN ?_ _ | refine blk_drew ?_ | refine blk_alloc ?_ _)); exact BK200.out) hb); have n2_ := Aside0.mk (blk_below (g := gb204) (o := .cells #[.int .i64 t201, .string t202] 37 (0, 0)) (by (with_reducible repeat (first | refine blk_drewN ?_ _ | refine blk_drew ?_ | refine blk_alloc ?_ _)); refine blk_far ?_ NB204_200.out _; (with_reducible repeat (first | refine blk_drewN ?_ _ | refine blk_drew ?_ | refine blk_alloc ?_ _)); refine blk_far ?_ NB204_200.out _; (with_reducible repeat (first | refine blk_drewN ?_ _ | refine blk_drew ?_ | refine blk_alloc ?_ _)); exact BK204.out) hb); have n3_ := Aside0.mk (below_step (by repeat (first | (with_reducible first | exact HB.out | apply below_alloc | apply pw_below_drewN | apply below_drew1 | refine below_set ?_ GE185.out | refine below_set ?_ GE200.out | refine below_set ?_ GE204.out) | exact HB.out)) hb); clear BK185; clear BK200; clear BK204; clear HB; have BK185 := n0_; have BK200 := n1_; have BK204 := n2_; have HB := n3_; clear n0_ n1_ n2_ n3_; (try clear hb); (try clear hb2); (try clear hk); (try clear hi); have hcz66_0 : w65.cell? ⟨gb204, 0, none⟩ = some (.int .i64 t201) := (blk_cell BK204.out 0).trans rfl; have hcz66_1 : w65.cell? ⟨gb204, 1, none⟩ = some (.string t202) := (blk_cell BK204.out 1).trans rfl; have hfz66_0 := blk_frozen BK204.out 0; have hfz66_1 := blk_frozen BK204.out 1))
           (try simp only [Act.put, List.setIfInBounds_toArray, List.set_cons_zero, List.set_cons_succ])
           go_cut [91] (fun v91 wc => ∃ (kq : Nat) (x91_56 : Bool), v91 = .bool x91_56 ∧ Aside0 (arbiterlaw02_TypesWrite.j3 kq x91_56 a0_0 a0_1 = some r) ∧ Aside0 (kq ≤ kj33) ∧ Aside0 (wc.heap[gb185]? = some (.cells #[.int .i64 a0_0, .string a0_1] 37 (0, 0))) ∧ Aside0 (wc.heap[gb200]? = some (.cells #[.int .i64 t206, .string t207] 37 (0, 0))) ∧ Aside0 (wc.heap[gb204]? = some (.cells #[.int .i64 t209, .string t210] 37 (0, 0))) ∧ Aside0 (Below w.heap.size w wc))
           case first =>
            have H := HC57.out
            clear HC57
            by_cases c67 : t208 = t211
            ·
             rw [if_pos c67] at H
             have c67b0 : (t208 == t211) = true := beq_iff_eq.mpr c67
             have c67b1 : (t208 != t211) = false := bne_eq_false_iff_eq.mpr c67
             clear c67
             (first | rw [c67b0] | (simp only [i64_w, i32_w]; rw [c67b0]) | skip)
             replace H := Option.bind_eq_some_iff.mp H
             obtain ⟨t212, A680, H⟩ := H
             replace H : (arbiterlaw02_TypesWrite.j3 kj33 (!t212) a0_0 a0_1) = some r := H
             have A68 := Aside0.mk A680
             clear A680
             have H' := Aside0.mk H
             clear H
             have hnb69 := NB200_185.out
             have hnc69 := NB185_200.out
             have hnb70 := NB200_204.out
             have hnc70 := NB204_200.out
             have hcz71_0 : w65.cell? ⟨gb200, 0, none⟩ = some (.int .i64 t206) := (blk_cell BK200.out 0).trans rfl
             have hcz71_1 : w65.cell? ⟨gb200, 1, none⟩ = some (.string t207) := (blk_cell BK200.out 1).trans rfl
             have hfz71_0 := blk_frozen BK200.out 0
             have hfz71_1 := blk_frozen BK200.out 1
             have hnb72 := NB204_185.out
             have hnc72 := NB185_204.out
             have hcz73_0 : w65.cell? ⟨gb204, 0, none⟩ = some (.int .i64 t201) := (blk_cell BK204.out 0).trans rfl
             have hcz73_1 : w65.cell? ⟨gb204, 1, none⟩ = some (.string t202) := (blk_cell BK204.out 1).trans rfl
             have hfz73_0 := blk_frozen BK204.out 0
             have hfz73_1 := blk_frozen BK204.out 1
             go_wp2_with (first | (go_at_call 28; (with_reducible refine (arbiterref02_Same.calls t206 t207 t209 t210 t212 _ A68.out).mono ?_); rintro e w74 ⟨rfl, hb⟩; have n0_ := Aside0.mk (blk_below (g := gb185) (o := .cells #[.int .i64 a0_0, .string a0_1] 37 (0, 0)) (by (with_reducible repeat (first | refine blk_drewN ?_ _ | refine blk_drew ?_ | refine blk_alloc ?_ _)); refine blk_far ?_ NB185_204.out _; (with_reducible repeat (first | refine blk_drewN ?_ _ | refine blk_drew ?_ | refine blk_alloc ?_ _)); refine blk_far ?_ NB185_204.out _; (with_reducible repeat (first | refine blk_drewN ?_ _ | refine blk_drew ?_ | refine blk_alloc ?_ _)); exact BK185.out) hb); have n1_ := Aside0.mk (blk_below (g := gb200) (o := .cells #[.int .i64 t206, .string t207] 37 (0, 0)) (by (with_reducible repeat (first | refine blk_drewN ?_ _ | refine blk_drew ?_ | refine blk_alloc ?_ _)); refine blk_far ?_ NB200_204.out _; (with_reducible repeat (first | refine blk_drewN ?_ _ | refine blk_drew ?_ | refine blk_alloc ?_ _)); refine blk_far ?_ NB200_204.out _; (with_reducible repeat (first | refine blk_drewN ?_ _ | refine blk_drew ?_ | refine blk_alloc ?_ _)); exact BK200.out) hb); have n2_ := Aside0.mk (blk_below (g := gb204) (o := .cells #[.int .i64 t209, .string t210] 37 (0, 0)) (by (with_reducible repeat (first | refine blk_drewN ?_ _ | refine blk_drew ?_ | refine blk_alloc ?_ _)); refine blk_put (cs := #[.int .i64 t209, .string t202]) ?_ 1 _ rfl; (with_reducible repeat (first | refine blk_drewN ?_ _ | refine blk_drew ?_ | refine blk_alloc ?_ _)); refine blk_put (cs := #[.int .i64 t201, .string t202]) ?_ 0 _ rfl; (with_reducible repeat (first | refine blk_drewN ?_ _ | refine blk_drew ?_ | refine blk_alloc ?_ _)); exact BK204.out) hb); have n3_ := Aside0.mk (below_step (by repeat (first | (with_reducible first | exact HB.out | apply below_alloc | apply pw_below_drewN | apply below_drew1 | refine below_set ?_ GE185.out | refine below_set ?_ GE200.out | refine below_set ?_ GE204.out) | exact HB.out)) hb); clear BK185; clear BK200; clear BK204; clear HB; have BK185 := n0_; have BK200 := n1_; have BK204 := n2_; have HB := n3_; clear n0_ n1_ n2_ n3_; (try clear hb); (try clear hb2); (try clear hk); (try clear hi)))
             go_meet
             case rel => exact ⟨_, (!t212), (by first | rfl | (simp; done) | (simp [*]; done)), H', ⟨by have := HJ5.out; have := HJ24.out; have := HJ33.out; first | omega | exact Nat.le_refl _⟩, ⟨by (with_reducible repeat (first | refine blk_drewN ?_ _ | refine blk_drew ?_ | refine blk_alloc ?_ _)); exact BK185.out⟩, ⟨by (with_reducible repeat (first | refine blk_drewN ?_ _ | refine blk_drew ?_ | refine blk_alloc ?_ _)); exact BK200.out⟩, ⟨by (with_reducible repeat (first | refine blk_drewN ?_ _ | refine blk_drew ?_ | refine blk_alloc ?_ _)); exact BK204.out⟩, ⟨by repeat (first | (with_reducible first | exact HB.out | apply below_alloc | apply pw_below_drewN | apply below_drew1 | refine below_set ?_ GE185.out | refine below_set ?_ GE200.out | refine below_set ?_ GE204.out) | exact HB.out)⟩⟩
            ·
             rw [if_neg c67] at H
             have c67b0 : (t208 == t211) = false := beq_eq_false_iff_ne.mpr c67
             have c67b1 : (t208 != t211) = true := bne_iff_ne.mpr c67
             (first | rw [c67b0] | (simp only [i64_w, i32_w]; rw [c67b0]) | skip)
             have H' := Aside0.mk H
             clear H
             go_wp2
             go_meet
             case rel => exact ⟨_, (true), (by first | rfl | (simp; done) | (simp [*]; done)), H', ⟨by have := HJ5.out; have := HJ24.out; have := HJ33.out; first | omega | exact Nat.le_refl _⟩, ⟨by (with_reducible repeat (first | refine blk_drewN ?_ _ | refine blk_drew ?_ | refine blk_alloc ?_ _)); refine blk_far ?_ NB185_204.out _; (with_reducible repeat (first | refine blk_drewN ?_ _ | refine blk_drew ?_ | refine blk_alloc ?_ _)); refine blk_far ?_ NB185_204.out _; (with_reducible repeat (first | refine blk_drewN ?_ _ | refine blk_drew ?_ | refine blk_alloc ?_ _)); exact BK185.out⟩, ⟨by (with_reducible repeat (first | refine blk_drewN ?_ _ | refine blk_drew ?_ | refine blk_alloc ?_ _)); refine blk_far ?_ NB200_204.out _; (with_reducible repeat (first | refine blk_drewN ?_ _ | refine blk_drew ?_ | refine blk_alloc ?_ _)); refine blk_far ?_ NB200_204.out _; (with_reducible repeat (first | refine blk_drewN ?_ _ | refine blk_drew ?_ | refine blk_alloc ?_ _)); exact BK200.out⟩, ⟨by (with_reducible repeat (first | refine blk_drewN ?_ _ | refine blk_drew ?_ | refine blk_alloc ?_ _)); refine blk_put (cs := #[.int .i64 t209, .string t202]) ?_ 1 _ rfl; (with_reducible repeat (first | refine blk_drewN ?_ _ | refine blk_drew ?_ | refine blk_alloc ?_ _)); refine blk_put (cs := #[.int .i64 t201, .string t202]) ?_ 0 _ rfl; (with_reducible repeat (first | refine blk_drewN ?_ _ | refine blk_drew ?_ | refine blk_alloc ?_ _)); exact BK204.out⟩, ⟨by repeat (first | (with_reducible first | exact HB.out | apply below_alloc | apply pw_below_drewN | apply below_drew1 | refine below_set ?_ GE185.out | refine below_set ?_ GE200.out | refine below_set ?_ GE204.out) | exact HB.out)⟩⟩
           case rest =>
            clear HC57
            try clear c1
            try clear c2
            try clear p2
            try clear c3
            try clear c4
            try clear c5
            try clear c6
            try clear c7
            try clear c9
            try clear c13
            try clear c13b0
            try clear c13b1
            try clear c14
            try clear c14b0
            try clear c14b1
            try clear c22
            try clear c25
            try clear c30
            try clear c30b0
            try clear c30b1
            try clear c31
            try clear c38
            try clear c43
            try clear c44
            try clear c45
            try clear c46
            try clear c46b0
            try clear c46b1
            try clear c47
            try clear c48
            try clear c49
            try clear c50
            try clear c51
            try clear c54
            try clear c58
            try clear c59
            try clear c62
            try clear c67
            try clear c67b0
            try clear c67b1
            try clear c69
            try clear c70
            try clear c72
            try clear hcz11_0
            try clear hcz11_1
            try clear hcz26_0
            try clear hcz26_1
            try clear hcz28_0
            try clear hcz28_1
            try clear hcz35_0
            try clear hcz35_1
            try clear hcz39_0
            try clear hcz39_1
            try clear hcz40_0
            try clear hcz40_1
            try clear hcz45_0
            try clear hcz45_1
            try clear hcz50_0
            try clear hcz50_1
            try clear hcz52_0
            try clear hcz52_1
            try clear hcz60_0
            try clear hcz60_1
            try clear hcz63_0
            try clear hcz63_1
            try clear hcz64_0
            try clear hcz64_1
            try clear hcz66_0
            try clear hcz66_1
            try clear hcz71_0
            try clear hcz71_1
            try clear hcz73_0
            try clear hcz73_1
            try clear hcz9_0
            try clear hcz9_1
            try clear hfz11_0
            try clear hfz11_1
            try clear hfz26_0
            try clear hfz26_1
            try clear hfz28_0
            try clear hfz28_1
            try clear hfz35_0
            try clear hfz35_1
            try clear hfz39_0
            try clear hfz39_1
            try clear hfz40_0
            try clear hfz40_1
            try clear hfz45_0
            try clear hfz45_1
            try clear hfz50_0
            try clear hfz50_1
            try clear hfz52_0
            try clear hfz52_1
            try clear hfz60_0
            try clear hfz60_1
            try clear hfz63_0
            try clear hfz63_1
            try clear hfz64_0
            try clear hfz64_1
            try clear hfz66_0
            try clear hfz66_1
            try clear hfz71_0
            try clear hfz71_1
            try clear hfz73_0
            try clear hfz73_1
            try clear hfz9_0
            try clear hfz9_1
            try clear p2
            obtain ⟨kq, x91_56, rfl, HA, HJ56, BK185, BK200, BK204, HB⟩ := hcut
            cases kq with
            | zero => exact absurd HA.out (by simp [arbiterlaw02_TypesWrite.j3])
            | succ kj56 =>
             have H := HA.out
             clear HA
             simp only [arbiterlaw02_TypesWrite.j3] at H
             by_cases c75 : x91_56 = true
             ·
              subst c75
              have H1 : (some false) = some r := by rw [if_pos rfl] at H; exact H
              clear H
              have H := H1
              clear H1
              obtain rfl := Option.some.inj H
              go_wp2
              go_ret
              exact ⟨by first | rfl | (simp [errW_none, errW_some] <;> rfl) | (simp [*, errW_none, errW_some] <;> rfl), by repeat (first | (with_reducible first | exact HB.out | apply below_alloc | apply pw_below_drewN | apply below_drew1 | refine below_set ?_ GE185.out | refine below_set ?_ GE200.out | refine below_set ?_ GE204.out) | exact HB.out)⟩
             ·
              replace c75 := Bool.eq_false_iff.mpr c75
              subst c75
              have H1 : ((types_Element.f a0_0 a0_1).bind fun bt213 => ((arbiterref02_Element.f a0_0 a0_1).bind fun bt216 => (if bt213.2.2 = bt216.2.2 then ((arbiterref02_Same.f bt213.1 bt213.2.1 bt216.1 bt216.2.1).bind fun t219 => (some t219)) else (some false)))) = some r := by rw [if_neg (show ¬ (false = true) by decide)] at H; exact H
              clear H
              have H := H1
              clear H1
              replace H := Option.bind_eq_some_iff.mp H
              obtain ⟨⟨t213, t214, t215⟩, A760, H⟩ := H
              replace H : ((arbiterref02_Element.f a0_0 a0_1).bind fun bt216 => (if t215 = bt216.2.2 then ((arbiterref02_Same.f t213 t214 bt216.1 bt216.2.1).bind fun t219 => (some t219)) else (some false))) = some r := H
              have A76 := Aside0.mk A760
              clear A760
              replace H := Option.bind_eq_some_iff.mp H
              obtain ⟨⟨t216, t217, t218⟩, A770, H⟩ := H
              replace H : (if t215 = t218 then ((arbiterref02_Same.f t213 t214 t216 t217).bind fun t219 => (some t219)) else (some false)) = some r := H
              have A77 := Aside0.mk A770
              clear A770
              by_cases c78 : t215 = t218
              ·
               rw [if_pos c78] at H
               have c78b0 : (t215 == t218) = true := beq_iff_eq.mpr c78
               have c78b1 : (t215 != t218) = false := bne_eq_false_iff_eq.mpr c78
               clear c78
               replace H := Option.bind_eq_some_iff.mp H
               obtain ⟨t219, A790, H⟩ := H
               replace H : (some t219) = some r := H
               have A79 := Aside0.mk A790
               clear A790
               obtain rfl := Option.some.inj H
               have hnb80 := NB185_200.out
               have hnc80 := NB200_185.out
               have hnb81 := NB185_204.out
               have hnc81 := NB204_185.out
               have hcz82_0 : wc.cell? ⟨gb185, 0, none⟩ = some (.int .i64 a0_0) := (blk_cell BK185.out 0).trans rfl
               have hcz82_1 : wc.cell? ⟨gb185, 1, none⟩ = some (.string a0_1) := (blk_cell BK185.out 1).trans rfl
               have hfz82_0 := blk_frozen BK185.out 0
               have hfz82_1 := blk_frozen BK185.out 1
               go_wp2_with (first | ((with_reducible refine gate_callee (f := 51) rfl ?_); refine goesL_ (some 94) rfl rfl Tryd.func51 (by kernel_rfl) rfl #[.agg #[.int .i64 a0_0, .string a0_1]] rfl (by (try simp only [List.map_toArray, List.map_cons, List.map_nil]); first | done | rfl | (simp only [List.length_drop, List.length_take]; rfl)) ?_; (with_reducible refine (types_Element.calls a0_0 a0_1 t213 t214 t215 _ A76.out).mono ?_); rintro e w83 ⟨rfl, hb⟩; refine ⟨_, rfl, ?_⟩; have n0_ := Aside0.mk (blk_below (g := gb185) (o := .cells #[.int .i64 a0_0, .string a0_1] 37 (0, 0)) (by (with_reducible repeat (first | refine blk_drewN ?_ _ | refine blk_drew ?_ | refine blk_alloc ?_ _)); exact BK185.out) hb); have n1_ := Aside0.mk (blk_below (g := gb200) (o := .cells #[.int .i64 t206, .string t207] 37 (0, 0)) (by (with_reducible repeat (first | refine blk_drewN ?_ _ | refine blk_drew ?_ | refine blk_alloc ?_ _)); exact BK200.out) hb); have n2_ := Aside0.mk (blk_below (g := gb204) (o := .cells #[.int .i64 t209, .string t210] 37 (0, 0)) (by (with_reducible repeat (first | refine blk_drewN ?_ _ | refine blk_drew ?_ | refine blk_alloc ?_ _)); exact BK204.out) hb); have n3_ := Aside0.mk (below_step (by repeat (first | (with_reducible first | exact HB.out | apply below_alloc | apply pw_below_drewN | apply below_drew1 | refine below_set ?_ GE185.out | refine below_set ?_ GE200.out | refine below_set ?_ GE204.out) | exact HB.out)) hb); clear BK185; clear BK200; clear BK204; clear HB; have BK185 := n0_; have BK200 := n1_; have BK204 := n2_; have HB := n3_; clear n0_ n1_ n2_ n3_; (try clear hb); (try clear hb2); (try clear hk); (try clear hi); have hnb84 := NB200_204.out; have hnc84 := NB204_200.out; have hcz85_0 : w83.cell? ⟨gb200, 0, none⟩ = some (.int .i64 t206) := (blk_cell BK200.out 0).trans rfl; have hcz85_1 : w83.cell? ⟨gb200, 1, none⟩ = some (.string t207) := (blk_cell BK200.out 1).trans rfl; have hfz85_0 := blk_frozen BK200.out 0; have hfz85_1 := blk_frozen BK200.out 1; have hcz86_0 : w83.cell? ⟨gb185, 0, none⟩ = some (.int .i64 a0_0) := (blk_cell BK185.out 0).trans rfl; have hcz86_1 : w83.cell? ⟨gb185, 1, none⟩ = some (.string a0_1) := (blk_cell BK185.out 1).trans rfl; have hfz86_0 := blk_frozen BK185.out 0; have hfz86_1 := blk_frozen BK185.out 1) | ((with_reducible refine gate_callee (f := 52) rfl ?_); refine goesL_ (some 99) rfl rfl Tryd.func52 (by kernel_rfl) rfl #[.agg #[.int .i64 a0_0, .string a0_1]] rfl (by (try simp only [List.map_toArray, List.map_cons, List.map_nil]); first | done | rfl | (simp only [List.length_drop, List.length_take]; rfl)) ?_; (with_reducible refine (arbiterref02_Element.calls a0_0 a0_1 t216 t217 t218 _ A77.out).mono ?_); rintro e w87 ⟨rfl, hb⟩; refine ⟨_, rfl, ?_⟩; have n0_ := Aside0.mk (blk_below (g := gb185) (o := .cells #[.int .i64 a0_0, .string a0_1] 37 (0, 0)) (by (with_reducible repeat (first | refine blk_drewN ?_ _ | refine blk_drew ?_ | refine blk_alloc ?_ _)); refine blk_far ?_ NB185_200.out _; (with_reducible repeat (first | refine blk_drewN ?_ _ | refine blk_drew ?_ | refine blk_alloc ?_ _)); refine blk_far ?_ NB185_200.out _; (with_reducible repeat (first | refine blk_drewN ?_ _ | refine blk_drew ?_ | refine blk_alloc ?_ _)); exact BK185.out) hb); have n1_ := Aside0.mk (blk_below (g := gb200) (o := .cells #[.int .i64 t213, .string t214] 37 (0, 0)) (by (with_reducible repeat (first | refine blk_drewN ?_ _ | refine blk_drew ?_ | refine blk_alloc ?_ _)); refine blk_put (cs := #[.int .i64 t213, .string t207]) ?_ 1 _ rfl; (with_reducible repeat (first | refine blk_drewN ?_ _ | refine blk_drew ?_ | refine blk_alloc ?_ _)); refine blk_put (cs := #[.int .i64 t206, .string t207]) ?_ 0 _ rfl; (with_reducible repeat (first | refine blk_drewN ?_ _ | refine blk_drew ?_ | refine blk_alloc ?_ _)); exact BK200.out) hb); have n2_ := Aside0.mk (blk_below (g := gb204) (o := .cells #[.int .i64 t209, .string t210] 37 (0, 0)) (by (with_reducible repeat (first | refine blk_drewN ?_ _ | refine blk_drew ?_ | refine blk_alloc ?_ _)); refine blk_far ?_ NB204_200.out _; (with_reducible repeat (first | refine blk_drewN ?_ _ | refine blk_drew ?_ | refine blk_alloc ?_ _)); refine blk_far ?_ NB204_200.out _; (with_reducible repeat (first | refine blk_drewN ?_ _ | refine blk_drew ?_ | refine blk_alloc ?_ _)); exact BK204.out) hb); have n3_ := Aside0.mk (below_step (by repeat (first | (with_reducible first | exact HB.out | apply below_alloc | apply pw_below_drewN | apply below_drew1 | refine below_set ?_ GE185.out | refine below_set ?_ GE200.out | refine below_set ?_ GE204.out) | exact HB.out)) hb); clear BK185; clear BK200; clear BK204; clear HB; have BK185 := n0_; have BK200 := n1_; have BK204 := n2_; have HB := n3_; clear n0_ n1_ n2_ n3_; (try clear hb); (try clear hb2); (try clear hk); (try clear hi); have hcz88_0 : w87.cell? ⟨gb204, 0, none⟩ = some (.int .i64 t209) := (blk_cell BK204.out 0).trans rfl; have hcz88_1 : w87.cell? ⟨gb204, 1, none⟩ = some (.string t210) := (blk_cell BK204.out 1).trans rfl; have hfz88_0 := blk_frozen BK204.out 0; have hfz88_1 := blk_frozen BK204.out 1; have hcz89_0 : w87.cell? ⟨gb200, 0, none⟩ = some (.int .i64 t213) := (blk_cell BK200.out 0).trans rfl; have hcz89_1 : w87.cell? ⟨gb200, 1, none⟩ = some (.string t214) := (blk_cell BK200.out 1).trans rfl; have hfz89_0 := blk_frozen BK200.out 0; have hfz89_1 := blk_frozen BK200.out 1) | (go_at_call 28; (with_reducible refine (arbiterref02_Same.calls t213 t214 t216 t217 t219 _ A79.out).mono ?_); rintro e w90 ⟨rfl, hb⟩; have n0_ := Aside0.mk (blk_below (g := gb185) (o := .cells #[.int .i64 a0_0, .string a0_1] 37 (0, 0)) (by (with_reducible repeat (first | refine blk_drewN ?_ _ | refine blk_drew ?_ | refine blk_alloc ?_ _)); refine blk_far ?_ NB185_204.out _; (with_reducible repeat (first | refine blk_drewN ?_ _ | refine blk_drew ?_ | refine blk_alloc ?_ _)); refine blk_far ?_ NB185_204.out _; (with_reducible repeat (first | refine blk_drewN ?_ _ | refine blk_drew ?_ | refine blk_alloc ?_ _)); exact BK185.out) hb); have n1_ := Aside0.mk (blk_below (g := gb200) (o := .cells #[.int .i64 t213, .string t214] 37 (0, 0)) (by (with_reducible repeat (first | refine blk_drewN ?_ _ | refine blk_drew ?_ | refine blk_alloc ?_ _)); refine blk_far ?_ NB200_204.out _; (with_reducible repeat (first | refine blk_drewN ?_ _ | refine blk_drew ?_ | refine blk_alloc ?_ _)); refine blk_far ?_ NB200_204.out _; (with_reducible repeat (first | refine blk_drewN ?_ _ | refine blk_drew ?_ | refine blk_alloc ?_ _)); exact BK200.out) hb); have n2_ := Aside0.mk (blk_below (g := gb204) (o := .cells #[.int .i64 t216, .string t217] 37 (0, 0)) (by (with_reducible repeat (first | refine blk_drewN ?_ _ | refine blk_drew ?_ | refine blk_alloc ?_ _)); refine blk_put (cs := #[.int .i64 t216, .string t210]) ?_ 1 _ rfl; (with_reducible repeat (first | refine blk_drewN ?_ _ | refine blk_drew ?_ | refine blk_alloc ?_ _)); refine blk_put (cs := #[.int .i64 t209, .string t210]) ?_ 0 _ rfl; (with_reducible repeat (first | refine blk_drewN ?_ _ | refine blk_drew ?_ | refine blk_alloc ?_ _)); exact BK204.out) hb); have n3_ := Aside0.mk (below_step (by repeat (first | (with_reducible first | exact HB.out | apply below_alloc | apply pw_below_drewN | apply below_drew1 | refine below_set ?_ GE185.out | refine below_set ?_ GE200.out | refine below_set ?_ GE204.out) | exact HB.out)) hb); clear BK185; clear BK200; clear BK204; clear HB; have BK185 := n0_; have BK200 := n1_; have BK204 := n2_; have HB := n3_; clear n0_ n1_ n2_ n3_; (try clear hb); (try clear hb2); (try clear hk); (try clear hi)))
               go_ret
               exact ⟨by first | rfl | (simp [errW_none, errW_some] <;> rfl) | (simp [*, errW_none, errW_some] <;> rfl), by repeat (first | (with_reducible first | exact HB.out | apply below_alloc | apply pw_below_drewN | apply below_drew1 | refine below_set ?_ GE185.out | refine below_set ?_ GE200.out | refine below_set ?_ GE204.out) | exact HB.out)⟩
              ·
               rw [if_neg c78] at H
               have c78b0 : (t215 == t218) = false := beq_eq_false_iff_ne.mpr c78
               have c78b1 : (t215 != t218) = true := bne_iff_ne.mpr c78
               obtain rfl := Option.some.inj H
               have hnb91 := NB185_200.out
               have hnc91 := NB200_185.out
               have hnb92 := NB185_204.out
               have hnc92 := NB204_185.out
               have hcz93_0 : wc.cell? ⟨gb185, 0, none⟩ = some (.int .i64 a0_0) := (blk_cell BK185.out 0).trans rfl
               have hcz93_1 : wc.cell? ⟨gb185, 1, none⟩ = some (.string a0_1) := (blk_cell BK185.out 1).trans rfl
               have hfz93_0 := blk_frozen BK185.out 0
               have hfz93_1 := blk_frozen BK185.out 1
               go_wp2_with (first | ((with_reducible refine gate_callee (f := 51) rfl ?_); refine goesL_ (some 94) rfl rfl Tryd.func51 (by kernel_rfl) rfl #[.agg #[.int .i64 a0_0, .string a0_1]] rfl (by (try simp only [List.map_toArray, List.map_cons, List.map_nil]); first | done | rfl | (simp only [List.length_drop, List.length_take]; rfl)) ?_; (with_reducible refine (types_Element.calls a0_0 a0_1 t213 t214 t215 _ A76.out).mono ?_); rintro e w94 ⟨rfl, hb⟩; refine ⟨_, rfl, ?_⟩; have n0_ := Aside0.mk (blk_below (g := gb185) (o := .cells #[.int .i64 a0_0, .string a0_1] 37 (0, 0)) (by (with_reducible repeat (first | refine blk_drewN ?_ _ | refine blk_drew ?_ | refine blk_alloc ?_ _)); exact BK185.out) hb); have n1_ := Aside0.mk (blk_below (g := gb200) (o := .cells #[.int .i64 t206, .string t207] 37 (0, 0)) (by (with_reducible repeat (first | refine blk_drewN ?_ _ | refine blk_drew ?_ | refine blk_alloc ?_ _)); exact BK200.out) hb); have n2_ := Aside0.mk (blk_below (g := gb204) (o := .cells #[.int .i64 t209, .string t210] 37 (0, 0)) (by (with_reducible repeat (first | refine blk_drewN ?_ _ | refine blk_drew ?_ | refine blk_alloc ?_ _)); exact BK204.out) hb); have n3_ := Aside0.mk (below_step (by repeat (first | (with_reducible first | exact HB.out | apply below_alloc | apply pw_below_drewN | apply below_drew1 | refine below_set ?_ GE185.out | refine below_set ?_ GE200.out | refine below_set ?_ GE204.out) | exact HB.out)) hb); clear BK185; clear BK200; clear BK204; clear HB; have BK185 := n0_; have BK200 := n1_; have BK204 := n2_; have HB := n3_; clear n0_ n1_ n2_ n3_; (try clear hb); (try clear hb2); (try clear hk); (try clear hi); have hnb95 := NB200_204.out; have hnc95 := NB204_200.out; have hcz96_0 : w94.cell? ⟨gb200, 0, none⟩ = some (.int .i64 t206) := (blk_cell BK200.out 0).trans rfl; have hcz96_1 : w94.cell? ⟨gb200, 1, none⟩ = some (.string t207) := (blk_cell BK200.out 1).trans rfl; have hfz96_0 := blk_frozen BK200.out 0; have hfz96_1 := blk_frozen BK200.out 1; have hcz97_0 : w94.cell? ⟨gb185, 0, none⟩ = some (.int .i64 a0_0) := (blk_cell BK185.out 0).trans rfl; have hcz97_1 : w94.cell? ⟨gb185, 1, none⟩ = some (.string a0_1) := (blk_cell BK185.out 1).trans rfl; have hfz97_0 := blk_frozen BK185.out 0; have hfz97_1 := blk_frozen BK185.out 1) | ((with_reducible refine gate_callee (f := 52) rfl ?_); refine goesL_ (some 99) rfl rfl Tryd.func52 (by kernel_rfl) rfl #[.agg #[.int .i64 a0_0, .string a0_1]] rfl (by (try simp only [List.map_toArray, List.map_cons, List.map_nil]); first | done | rfl | (simp only [List.length_drop, List.length_take]; rfl)) ?_; (with_reducible refine (arbiterref02_Element.calls a0_0 a0_1 t216 t217 t218 _ A77.out).mono ?_); rintro e w98 ⟨rfl, hb⟩; refine ⟨_, rfl, ?_⟩; have n0_ := Aside0.mk (blk_below (g := gb185) (o := .cells #[.int .i64 a0_0, .string a0_1] 37 (0, 0)) (by (with_reducible repeat (first | refine blk_drewN ?_ _ | refine blk_drew ?_ | refine blk_alloc ?_ _)); refine blk_far ?_ NB185_200.out _; (with_reducible repeat (first | refine blk_drewN ?_ _ | refine blk_drew ?_ | refine blk_alloc ?_ _)); refine blk_far ?_ NB185_200.out _; (with_reducible repeat (first | refine blk_drewN ?_ _ | refine blk_drew ?_ | refine blk_alloc ?_ _)); exact BK185.out) hb); have n1_ := Aside0.mk (blk_below (g := gb200) (o := .cells #[.int .i64 t213, .string t214] 37 (0, 0)) (by (with_reducible repeat (first | refine blk_drewN ?_ _ | refine blk_drew ?_ | refine blk_alloc ?_ _)); refine blk_put (cs := #[.int .i64 t213, .string t207]) ?_ 1 _ rfl; (with_reducible repeat (first | refine blk_drewN ?_ _ | refine blk_drew ?_ | refine blk_alloc ?_ _)); refine blk_put (cs := #[.int .i64 t206, .string t207]) ?_ 0 _ rfl; (with_reducible repeat (first | refine blk_drewN ?_ _ | refine blk_drew ?_ | refine blk_alloc ?_ _)); exact BK200.out) hb); have n2_ := Aside0.mk (blk_below (g := gb204) (o := .cells #[.int .i64 t209, .string t210] 37 (0, 0)) (by (with_reducible repeat (first | refine blk_drewN ?_ _ | refine blk_drew ?_ | refine blk_alloc ?_ _)); refine blk_far ?_ NB204_200.out _; (with_reducible repeat (first | refine blk_drewN ?_ _ | refine blk_drew ?_ | refine blk_alloc ?_ _)); refine blk_far ?_ NB204_200.out _; (with_reducible repeat (first | refine blk_drewN ?_ _ | refine blk_drew ?_ | refine blk_alloc ?_ _)); exact BK204.out) hb); have n3_ := Aside0.mk (below_step (by repeat (first | (with_reducible first | exact HB.out | apply below_alloc | apply pw_below_drewN | apply below_drew1 | refine below_set ?_ GE185.out | refine below_set ?_ GE200.out | refine below_set ?_ GE204.out) | exact HB.out)) hb); clear BK185; clear BK200; clear BK204; clear HB; have BK185 := n0_; have BK200 := n1_; have BK204 := n2_; have HB := n3_; clear n0_ n1_ n2_ n3_; (try clear hb); (try clear hb2); (try clear hk); (try clear hi); have hcz99_0 : w98.cell? ⟨gb204, 0, none⟩ = some (.int .i64 t209) := (blk_cell BK204.out 0).trans rfl; have hcz99_1 : w98.cell? ⟨gb204, 1, none⟩ = some (.string t210) := (blk_cell BK204.out 1).trans rfl; have hfz99_0 := blk_frozen BK204.out 0; have hfz99_1 := blk_frozen BK204.out 1))
               go_ret
               exact ⟨by first | rfl | (simp [errW_none, errW_some] <;> rfl) | (simp [*, errW_none, errW_some] <;> rfl), by repeat (first | (with_reducible first | exact HB.out | apply below_alloc | apply pw_below_drewN | apply below_drew1 | refine below_set ?_ GE185.out | refine below_set ?_ GE200.out | refine below_set ?_ GE204.out) | exact HB.out)⟩
 ·
  replace c3 := Bool.eq_false_iff.mpr c3
  subst c3
  have H1 : (some false) = some r := by rw [if_neg (show ¬ (false = true) by decide)] at H; exact H
  clear H
  have H := H1
  clear H1
  obtain rfl := Option.some.inj H
  go_enter Tryd.func9, Tryd.ntmps9
  go_wp2_with (first | ((with_reducible refine gate_dst (N := 1) rfl ?_); refine box_event ?hg (N := 1) ?hd (cs := #[.int .i64 a0_0, .string a0_1]) (t := 37) ?hr ?_; (case hd => rfl); (case hg => rfl); (case hr => first | (go_simp; done) | (go_simp; rfl)); intro gb185 hg w100 hbox hb; have n0_ := Aside0.mk (below_step (by repeat (first | (with_reducible first | exact HB.out | apply below_alloc | apply pw_below_drewN | apply below_drew1) | exact HB.out)) hb); have n1_ := Aside0.mk (hbox); have n2_ := Aside0.mk ((by rw [hg]; exact (below_size (by repeat (first | (with_reducible first | exact HB.out | apply below_alloc | apply pw_below_drewN | apply below_drew1) | exact HB.out))) : w.heap.size ≤ gb185)); have n3_ := Aside0.mk ((by rw [hg]; exact (below_size (by repeat (first | (with_reducible first | exact HB.out | apply below_alloc | apply pw_below_drewN | apply below_drew1) | exact HB.out))) : w.heap.size ≤ gb185)); clear HB; have HB := n0_; have BK185 := n1_; have GW185 := n2_; have GE185 := n3_; clear n0_ n1_ n2_ n3_; clear hb hbox hg) | ((with_reducible refine gate_callee (f := 25) rfl ?_); refine goesL_ (some 9) rfl rfl Tryd.func25 (by kernel_rfl) rfl #[] rfl (by (try simp only [List.map_toArray, List.map_cons, List.map_nil]); first | done | rfl | (simp only [List.length_drop, List.length_take]; rfl)) ?_; (with_reducible refine (arbiterlaw02_awake.calls  false _ A2.out).mono ?_); rintro e w101 ⟨rfl, hb⟩; refine ⟨_, rfl, ?_⟩; have n0_ := Aside0.mk (blk_below (g := gb185) (o := .cells #[.int .i64 a0_0, .string a0_1] 37 (0, 0)) (by (with_reducible repeat (first | refine blk_drewN ?_ _ | refine blk_drew ?_ | refine blk_alloc ?_ _)); exact BK185.out) hb); have n1_ := Aside0.mk (below_step (by repeat (first | (with_reducible first | exact HB.out | apply below_alloc | apply pw_below_drewN | apply below_drew1 | refine below_set ?_ GE185.out) | exact HB.out)) hb); clear BK185; clear HB; have BK185 := n0_; have HB := n1_; clear n0_ n1_; (try clear hb); (try clear hb2); (try clear hk); (try clear hi)))
  go_ret
  exact ⟨by first | rfl | (simp [errW_none, errW_some] <;> rfl) | (simp [*, errW_none, errW_some] <;> rfl), by repeat (first | (with_reducible first | exact HB.out | apply below_alloc | apply pw_below_drewN | apply below_drew1 | refine below_set ?_ GE185.out) | exact HB.out)⟩

end Go.Proofs.YtpcdfjifhoofjaaDoor.Pt

/- TypesWrite: what the printed functions say is true. -/
namespace Go.Proofs.YtpcdfjifhoofjaaDoor.Pt
open Go Go.RowKit Go.Proofs.YtpcdfjifhoofjaaDoor.Nm Go.Proofs.YtpcdfjifhoofjaaDoor.Ty Go.Proofs.YtpcdfjifhoofjaaDoorW.PrintWords
set_option linter.unusedVariables false
set_option linter.unusedSimpArgs false

theorem ba_ext {a b : ByteArray} (h : a.data.toList = b.data.toList) : a = b := by
  rw [← mk_data a, ← mk_data b, h]
theorem toList_data (a : ByteArray) : a.toList = a.data.toList := ByteArray.toList_eq a
theorem wrap_small {i : Int} (h0 : -9223372036854775808 ≤ i) (h : i ≤ 9223372036854775807) : wrap64 i = i := by
  unfold wrap64
  omega
theorem strOf_rep (d : Nat) : strOfNums (List.replicate d 91) = bs (List.replicate d 91) := by
  simp [strOfNums, bs]
  try rfl
theorem setRep (i d : Nat) (h : i < d) : (List.replicate i (91 : Int) ++ List.replicate (d - i) 0).set i 91 = List.replicate (i + 1) 91 ++ List.replicate (d - (i + 1)) 0 := by
  obtain ⟨m, rfl⟩ : ∃ m, d = i + 1 + m := ⟨d - (i + 1), by omega⟩
  rw [show i + 1 + m - i = m + 1 from by omega, show i + 1 + m - (i + 1) = m from by omega, List.replicate_succ, List.set_append_right _ _ (by simp), List.length_replicate, Nat.sub_self, List.set_cons_zero, List.replicate_succ' (n := i), List.append_assoc]
  rfl
theorem written_l0 (nm : ByteArray) (hn : nm.size ≤ 60) (d : Nat) (hd : d ≤ 255) (m : Nat) : ∀ (i k : Nat), i ≤ d → d - i = m → m < k →
    arbiterref02_written.l0 k (List.replicate i 91 ++ List.replicate (d - i) 0) i d nm = some (bs (wr d nm.data.toList)) := by
  induction m with
  | zero =>
    intro i k hi hm hk
    obtain ⟨k, rfl⟩ : ∃ j, k = j + 1 := ⟨k - 1, by omega⟩
    obtain rfl : i = d := by omega
    have hz : (strOfNums (List.replicate i 91)).size = i := by rw [strOf_rep, mk_size, List.length_replicate]
    simp only [arbiterref02_written.l0, Nat.sub_self, List.replicate_zero, List.append_nil]
    rw [if_neg (by omega)]
    by_cases h : nm.toList = []
    · rw [if_pos h, if_pos (by omega)]
      rw [toList_data] at h
      congr 1
      apply ba_ext
      rw [strOf_rep]
      simp [wr, base, h, mk_toList, bs]
    · rw [if_neg h, if_pos (by omega), if_pos (by rw [ByteArray.size_append, hz]; show i + 1 + _ ≤ _; omega), if_pos (by rw [ByteArray.size_append, ByteArray.size_append, hz]; show i + 1 + _ + 1 ≤ _; omega)]
      rw [toList_data] at h
      congr 1
      apply ba_ext
      rw [strOf_rep]
      simp [wr, base, h, mk_toList, bs]
  | succ m ih =>
    intro i k hi hm hk
    obtain ⟨k, rfl⟩ : ∃ j, k = j + 1 := ⟨k - 1, by omega⟩
    simp only [arbiterref02_written.l0]
    rw [if_pos (by omega), if_pos (by omega), if_pos (by rw [List.length_append, List.length_replicate, List.length_replicate]; omega)]
    rw [wrap_small (by omega) (by omega), Int.toNat_natCast, setRep i d (by omega)]
    exact ih (i + 1) k (by omega) (by omega) (by omega)
theorem written_f (d : Int) (h0 : 0 ≤ d) (h1 : d ≤ 255) (nm : ByteArray) (hn : nm.size ≤ 60) (k : Nat) (hk : 255 < k) : arbiterref02_written.f k d nm = some (bs (wr d.toNat nm.data.toList)) := by
  obtain ⟨n, rfl⟩ : ∃ n : Nat, d = n := ⟨d.toNat, by omega⟩
  unfold arbiterref02_written.f
  rw [if_pos h0, Int.toNat_natCast, if_pos (by omega)]
  exact written_l0 nm hn n (by omega) n 0 k (by omega) (by omega) (by omega)
theorem chk_size (d : Int) (nm : ByteArray) (h : chk d nm.data.toList = 0) : nm.size ≤ 60 := by
  have := chk_small d _ h
  rw [len_data] at this
  exact this
theorem rtext_f (d : Int) (nm : ByteArray) (k : Nat) (hk : 255 < k) : arbiterref02_Text.f k d nm = some (tup2 (textT d nm.data.toList)) := by
  unfold arbiterref02_Text.f arbiterref02_Check.f textT
  rw [Option.bind_some]
  rcases chk_cases d nm.data.toList with h | ⟨h, h0, h1⟩
  · rw [h]; rfl
  · rw [h, if_pos rfl, if_neg (by decide), written_f d h0 h1 nm (chk_size d nm h) k hk]; rfl
theorem rreftext_f (d : Int) (nm : ByteArray) (k : Nat) (hk : 255 < k) : arbiterref02_RefText.f k d nm = some (tup2 (refT d nm.data.toList)) := by
  unfold arbiterref02_RefText.f arbiterref02_Check.f refT
  rw [Option.bind_some]
  rcases chk_cases d nm.data.toList with h | ⟨h, h0, h1⟩
  · rw [h]; rfl
  · have e : ¬ ((0 : Int) ≠ 0) := by decide
    rw [h, if_pos rfl, if_neg e]
    by_cases hd : d = 0
    · rw [if_neg (show ¬ d > 0 by omega), if_pos hd, toList_data]
      by_cases hn : nm.data.toList = []
      · rw [if_pos hn, if_pos hn]; rfl
      · rw [if_neg hn, if_neg hn, tup2, mk_data]
    · rw [if_pos (show d > 0 by omega), if_neg hd, written_f d h0 h1 nm (chk_size d nm h) k hk]; rfl
theorem awake_f : arbiterlaw02_awake.f = some true := by decide +kernel
theorem same_self (d : Int) (nm : ByteArray) : arbiterref02_Same.f d nm d nm = some true := by simp [arbiterref02_Same.f]
theorem write_true (d : Int) (nm : ByteArray) : arbiterlaw02_TypesWrite.f 300 d nm = some true := by
  unfold arbiterlaw02_TypesWrite.f
  rw [awake_f]
  simp only [Option.bind_some, if_true, types_Text.f, rtext_f d nm 300 (by decide), types_Check.f, arbiterref02_Check.f]
  rw [show (300 : Nat) = 299 + 1 from rfl, bne_self_eq_false]
  simp only [arbiterlaw02_TypesWrite.j0]
  rw [if_neg (by decide)]
  simp only [Option.bind_some, if_true, types_RefText.f, rreftext_f d nm 299 (by decide)]
  rw [show (299 : Nat) = 298 + 1 from rfl, bne_self_eq_false]
  simp only [arbiterlaw02_TypesWrite.j1]
  rw [if_neg (by decide)]
  simp only [Option.bind_some, if_true, types_ArrayOf.f, arbiterref02_ArrayOf.f, same_self]
  rw [show (298 : Nat) = 297 + 1 from rfl]
  simp only [arbiterlaw02_TypesWrite.j2]
  rw [if_neg (by decide)]
  simp only [Option.bind_some, if_true, types_Component.f, arbiterref02_Component.f, same_self]
  rw [show (297 : Nat) = 296 + 1 from rfl]
  simp only [arbiterlaw02_TypesWrite.j3]
  rw [if_neg (by decide)]
  simp only [Option.bind_some, if_true, types_Element.f, arbiterref02_Element.f, same_self]
theorem write_any (d : Int) (nm : ByteArray) (w : World) : Calls Tryd.prog 9 #[.agg #[.int .i64 d, .string nm]] w fun e w' => e = .returned (.bool true) ∧ Below w.heap.size w w' :=
  arbiterlaw02_TypesWrite.calls 300 d nm true w (write_true d nm)
end Go.Proofs.YtpcdfjifhoofjaaDoor.Pt

/- Small plain lemmas that several texts on types use. -/
namespace Go.Proofs.YtpcdfjifhoofjaaDoor.Pt
open Go Go.RowKit Go.Proofs.YtpcdfjifhoofjaaDoor.Nm Go.Proofs.YtpcdfjifhoofjaaDoor.Ty
theorem took_cons (x : UInt8) (l : List UInt8) (c : UInt8) : took (x :: l) c = decide (x = c) := by
  unfold took
  by_cases h : x = c <;> simp [h]
end Go.Proofs.YtpcdfjifhoofjaaDoor.Pt

/- Plain facts on names: the package, the simple name, the parts and joining. No program in sight. -/
namespace Go.Proofs.YtpcdfjifhoofjaaDoor.Nm
open Go Go.RowKit
set_option linter.unusedVariables false
set_option linter.unusedSimpArgs false

theorem rparts_snd (s : ByteArray) (k : Nat) : ((rparts s k).2 : Int) = lastTo s k + 1 := by
  induction k with
  | zero => rfl
  | succ k ih =>
    rw [rparts_succ, lastTo_succ]
    by_cases h : bt s k = 47
    · rw [if_pos h, if_pos h]; rfl
    · rw [if_neg h, if_neg h, ih]
theorem lastTo_bd (s : ByteArray) (k : Nat) : -1 ≤ lastTo s k ∧ lastTo s k < k := by
  have h1 := rparts_snd s k
  have h2 := (rparts_le s k).1
  omega
theorem rparts_fst (s : ByteArray) (k : Nat) (hk : k ≤ s.size) :
    (lastTo s k < 0 → (rparts s k).1 = []) ∧ (∀ i : Nat, lastTo s k = i → (rparts s k).1.map (·.data.toList) = cutAt 47 (s.data.toList.take i)) := by
  induction k with
  | zero => exact ⟨fun _ => rfl, fun i h => by simp [lastTo] at h⟩
  | succ k ih =>
    have ih := ih (by omega)
    rw [rparts_succ, lastTo_succ]
    by_cases h : bt s k = 47
    · rw [if_pos h, if_pos h]
      refine ⟨fun h0 => by omega, fun i hi => ?_⟩
      obtain rfl : k = i := by omega
      rw [rparts_cut s k (by omega)]
      simp
    · rw [if_neg h, if_neg h]
      exact ih
/-- The parts ahead of the last one. -/
def front (s : ByteArray) : List ByteArray := (rparts s s.size).1
theorem simple_eq (s : ByteArray) : simpleB s = s.extract (rparts s s.size).2 s.size := by
  have := rparts_snd s s.size
  rw [lastTo_all] at this
  unfold simpleB
  rw [show (slash s + 1).toNat = (rparts s s.size).2 by omega]
theorem parts_front (s : ByteArray) : partsB s = front s ++ [simpleB s] := by
  rw [← rparts_all, simple_eq]
  rfl
theorem front_none (s : ByteArray) (h : slash s < 0) : front s = [] := (rparts_fst s s.size (Nat.le_refl _)).1 (by rw [lastTo_all]; exact h)
theorem front_pkg (s : ByteArray) (h : 0 ≤ slash s) : partsB (pkgB s) = front s := by
  have h1 := (rparts_fst s s.size (Nat.le_refl _)).2 (slash s).toNat (by rw [lastTo_all]; omega)
  apply map_inj
  rw [partsB_data, front, h1, pkgB, ex_data]
  simp [show max 0 (slash s) = slash s by omega]
theorem front_slash (s : ByteArray) : front s = [] ↔ slash s < 0 := by
  constructor
  · intro h
    by_cases h0 : slash s < 0
    · exact h0
    · have := front_pkg s (by omega)
      rw [h] at this
      have := congrArg List.length this
      rw [partsB_len] at this
      simp at this
  · exact front_none s
theorem pkg_none (s : ByteArray) (h : slash s < 0) : pkgB s = ⟨#[]⟩ := bytes_inj (by
  unfold pkgB
  rw [show (max 0 (slash s)).toNat = 0 by omega, ex_data]
  simp)

theorem jn_cutAt (l : List UInt8) : ∀ m : List ByteArray, m.map (·.data.toList) = cutAt 47 l → jn m = l := by
  induction l with
  | nil =>
    intro m h
    cases m with
    | nil => simp [cutAt] at h
    | cons a m =>
      simp only [cutAt, List.map_cons, List.cons.injEq, List.map_eq_nil_iff] at h
      obtain ⟨h1, rfl⟩ := h
      rw [jn_one, h1]
  | cons b r ih =>
    intro m h
    unfold cutAt at h
    cases m with
    | nil =>
      split at h
      · simp at h
      · split at h <;> simp at h
    | cons a m =>
      by_cases hb : b = 47
      · rw [if_pos hb] at h
        simp only [List.map_cons, List.cons.injEq] at h
        obtain ⟨h1, h2⟩ := h
        cases m with
        | nil => exact absurd h2.symm (cutAt_ne 47 r)
        | cons c m => rw [jn_cons2, h1, ih _ h2, hb]; rfl
      · rw [if_neg hb] at h
        cases hr : cutAt 47 r with
        | nil => exact absurd hr (cutAt_ne 47 r)
        | cons p ps =>
          rw [hr] at h
          simp only [List.map_cons, List.cons.injEq] at h
          obtain ⟨h1, h2⟩ := h
          have := ih (⟨p.toArray⟩ :: m) (by rw [hr]; simp [h2])
          cases m with
          | nil => rw [jn_one] at this ⊢; rw [h1, ← this]
          | cons c m => rw [jn_cons2] at this ⊢; rw [h1, ← this]; rfl
theorem jn_parts (s : ByteArray) : jn (partsB s) = s.data.toList := jn_cutAt _ _ (partsB_data s)
theorem jn_pkg (s : ByteArray) (h : 0 ≤ slash s) : (pkgB s).data.toList ++ 47 :: (simpleB s).data.toList = s.data.toList := by
  rw [← jn_parts s, parts_front, ← front_pkg s h, jn_snoc _ (by intro e; have := congrArg List.length e; rw [partsB_len] at this; simp at this), jn_parts]
theorem simple_none (s : ByteArray) (h : slash s < 0) : simpleB s = s := bytes_inj (by
  have := jn_parts s
  rw [parts_front, front_none s h] at this
  rw [← this]
  simp [jn_one])

theorem part_bytes (s : ByteArray) (h : partB s = true) : 1 ≤ s.size ∧ ∀ b ∈ s.data.toList, letB b.toNat false = true := by
  simp only [partB, Bool.and_eq_true, isEmpty_size, Bool.not_eq_true', decide_eq_false_iff_not, lets, List.all_eq_true, List.mem_range] at h
  refine ⟨by omega, fun b hb => ?_⟩
  obtain ⟨k, hk, e⟩ := List.mem_iff_getElem.1 hb
  have h1 := h.1 k (by rw [Array.length_toList] at hk; exact hk)
  have h2 : bt s k = (b.toNat : Int) := by simp only [bt, List.getD_eq_getElem?_getD, List.getElem?_eq_getElem hk, Option.getD_some, e]
  rw [h2] at h1
  cases hz : ((k : Int) == 0)
  · rwa [hz] at h1
  · rw [hz] at h1; exact letB_any _ _ h1
theorem mem_jn (l : List ByteArray) (b : UInt8) (h : b ∈ jn l) : b = 47 ∨ ∃ x ∈ l, b ∈ x.data.toList := by
  induction l with
  | nil => simp [jn, Lib.join_nil] at h
  | cons a l ih =>
    cases l with
    | nil => rw [jn_one] at h; exact .inr ⟨a, by simp, h⟩
    | cons c l =>
      rw [jn_cons2] at h
      rcases List.mem_append.1 h with h | h
      · exact .inr ⟨a, by simp, h⟩
      · rcases List.mem_cons.1 h with h | h
        · exact .inl h
        · rcases ih h with h | ⟨x, hx, h⟩
          · exact .inl h
          · exact .inr ⟨x, by simp [hx], h⟩
theorem valid_bytes (s : ByteArray) (h : validB s = true) (b : UInt8) (hb : b ∈ s.data.toList) : b = 47 ∨ letB b.toNat false = true := by
  simp only [validB, Bool.and_eq_true, List.all_eq_true] at h
  rw [← jn_parts] at hb
  rcases mem_jn _ _ hb with h1 | ⟨x, hx, h1⟩
  · exact .inl h1
  · exact .inr ((part_bytes x (h.2 x hx)).2 b h1)
theorem valid_size (s : ByteArray) (h : validB s = true) : 1 ≤ s.size ∧ s.size ≤ 60 := by
  simp only [validB, Bool.and_eq_true, List.all_eq_true, decide_eq_true_eq] at h
  have hm : simpleB s ∈ partsB s := by rw [parts_front]; simp
  have h1 := (part_bytes _ (h.2 _ hm)).1
  have h2 := partsB_size s _ hm
  omega
theorem valid_pkg (s : ByteArray) (h : validB s = true) : slash s < 0 ∨ validB (pkgB s) = true := by
  by_cases h0 : slash s < 0
  · exact .inl h0
  · refine .inr ?_
    simp only [validB, Bool.and_eq_true, List.all_eq_true, decide_eq_true_eq] at h ⊢
    refine ⟨?_, fun x hx => h.2 x (by rw [front_pkg s (by omega)] at hx; rw [parts_front]; simp [hx])⟩
    have h1 := congrArg List.length (jn_pkg s (by omega))
    have e1 : (pkgB s).data.size = (pkgB s).size := rfl
    have e2 : s.data.size = s.size := rfl
    simp only [List.length_append, Array.length_toList] at h1
    omega
theorem valid_simple (s : ByteArray) (h : validB s = true) : memberB (simpleB s) = true := by
  have hs := valid_size s h
  simp only [validB, Bool.and_eq_true, List.all_eq_true, decide_eq_true_eq] at h
  have hm : simpleB s ∈ partsB s := by rw [parts_front]; simp
  have h2 := partsB_size s _ hm
  simp only [memberB, Bool.or_eq_true, Bool.and_eq_true, decide_eq_true_eq]
  exact .inr ⟨by omega, h.2 _ hm⟩
theorem part_noslash (s : ByteArray) (h : partB s = true) : slash s < 0 := by
  by_cases h0 : slash s < 0
  · exact h0
  · have hm : (47 : UInt8) ∈ s.data.toList := by rw [← jn_pkg s (by omega)]; simp
    have := (part_bytes s h).2 47 hm
    exact absurd this (by decide)
theorem member_iff (s : ByteArray) : memberB s = ((s.toList == [60, 105, 110, 105, 116, 62]) || (validB s && (pkgB s).toList.isEmpty && (((partsB s).length : Int) == 1))) := by
  unfold memberB
  congr 1
  rw [Bool.eq_iff_iff]
  simp only [Bool.and_eq_true, decide_eq_true_eq, validB, List.all_eq_true, beq_iff_eq]
  constructor
  · rintro ⟨h1, h2⟩
    have h3 := part_noslash s h2
    have h4 : partsB s = [s] := by rw [parts_front, front_none s h3, simple_none s h3]; rfl
    rw [h4, pkg_none s h3]
    exact ⟨⟨⟨h1, by simp [h2]⟩, by rw [ByteArray.toList_eq]; rfl⟩, rfl⟩
  · rintro ⟨⟨⟨h1, h2⟩, h3⟩, h4⟩
    refine ⟨h1, ?_⟩
    have h5 : front s = [] := by rw [parts_front, List.length_append] at h4; exact List.length_eq_zero_iff.1 (by simp at h4; omega)
    have h6 := (front_slash s).1 h5
    have := h2 (simpleB s) (by rw [parts_front]; simp)
    rwa [simple_none s h6] at this
end Go.Proofs.YtpcdfjifhoofjaaDoor.Nm

/- Plain lemmas: what is written of a type is read as that type. -/
namespace Go.Proofs.YtpcdfjifhoofjaaDoor.Pt
open Go Go.RowKit Go.Proofs.YtpcdfjifhoofjaaDoor.Nm Go.Proofs.YtpcdfjifhoofjaaDoor.Ty
set_option linter.unusedVariables false
set_option linter.unusedSimpArgs false

theorem opens_rep (d : Nat) (l : List UInt8) (h : ∀ r, l ≠ 91 :: r) : opens (List.replicate d 91 ++ l) = d ∧ past (List.replicate d 91 ++ l) = l := by
  induction d with
  | zero => have := past_self l h; exact ⟨this.2, this.1⟩
  | succ d ih => rw [List.replicate_succ, List.cons_append, opens, past, if_pos rfl, if_pos rfl]; exact ⟨by rw [ih.1], ih.2⟩
theorem base_not (nm : List UInt8) : ∀ r, base nm ≠ 91 :: r := by
  intro r h
  unfold base at h
  split at h <;> cases h
theorem upTo_semi (nm : List UInt8) (h : ∀ x ∈ nm, x ≠ 59) : upTo (nm ++ [59]) = nm ∧ behind (nm ++ [59]) = some [] := by
  induction nm with
  | nil => exact ⟨rfl, rfl⟩
  | cons x l ih =>
    have hx : x ≠ 59 := h x (by simp)
    have := ih (fun y hy => h y (by simp [hy]))
    rw [List.cons_append, upTo, behind, if_neg hx, if_neg hx, this.1, this.2]
    exact ⟨rfl, rfl⟩
theorem valid_not (nm : List UInt8) (hv : validB (bs nm) = true) (x : UInt8) (hx : x ∈ nm) : x ≠ 59 ∧ x ≠ 91 := by
  have h := valid_bytes (bs nm) hv x (by rw [mk_toList]; exact hx)
  constructor
  · rintro rfl
    rcases h with h | h
    · cases h
    · revert h; decide
  · rintro rfl
    rcases h with h | h
    · cases h
    · revert h; decide
theorem chk_name (d : Int) (nm : List UInt8) (h : chk d nm = 0) : nm = [] ∨ validB (bs nm) = true := by
  unfold chk at h
  split at h
  · cases h
  · split at h
    · cases h
    · rename_i h1 h2
      by_cases hn : nm = []
      · exact .inl hn
      · right
        cases hv : validB (bs nm) with
        | true => rfl
        | false => exact absurd ⟨hn, hv⟩ h2
theorem chk_of (d : Int) (nm : List UInt8) (h0 : 0 ≤ d) (h1 : d ≤ 255) (h : nm = [] ∨ validB (bs nm) = true) : chk d nm = 0 := by
  unfold chk
  rw [if_neg (by omega), if_neg]
  rintro ⟨a, b⟩
  rcases h with h | h
  · exact a h
  · rw [h] at b; cases b
theorem rd_wr (d : Nat) (nm : List UInt8) (h : nm = [] ∨ validB (bs nm) = true) : rd (wr d nm) = ⟨d, nm, some []⟩ := by
  obtain ⟨h1, h2⟩ := opens_rep d (base nm) (base_not nm)
  unfold wr
  rw [rd, h2, h1]
  unfold base
  by_cases hn : nm = []
  · rw [if_pos hn, hn]; rfl
  · rw [if_neg hn]
    have hv : validB (bs nm) = true := by rcases h with h | h; exact absurd h hn; exact h
    obtain ⟨a, b⟩ := upTo_semi nm (fun x hx => (valid_not nm hv x hx).1)
    simp only
    rw [if_neg (by decide), if_pos trivial, a, b, hv]
    rfl
theorem wr_len (d : Nat) (nm : List UInt8) : d + 1 ≤ (wr d nm).length ∧ (wr d nm).length ≤ d + nm.length + 2 := by
  unfold wr base
  split
  · rw [List.length_append, List.length_replicate]
    simp only [List.length_cons, List.length_nil]
    omega
  · simp only [List.length_append, List.length_replicate, List.length_cons, List.length_nil]
    omega
theorem parse_wr (d : Nat) (hd : d ≤ 255) (nm : List UInt8) (h : nm = [] ∨ validB (bs nm) = true) (hl : nm.length ≤ 60) : parseT (wr d nm) = ((d : Int), nm, 0) := by
  have := (wr_len d nm).2
  unfold parseT
  rw [if_neg (by omega), rd_wr d nm h]
  simp only
  rw [if_neg (by simp), if_neg (by omega)]
theorem brk_wr (d : Nat) (hd : d ≠ 0) (nm : List UInt8) : brk (wr d nm) = true := by
  obtain ⟨m, rfl⟩ : ∃ m, d = m + 1 := ⟨d - 1, by omega⟩
  unfold brk wr
  rw [List.replicate_succ, List.cons_append, took_cons]
  rfl
theorem brk_name (nm : List UInt8) (hv : validB (bs nm) = true) : brk nm = false := by
  unfold brk
  cases nm with
  | nil => rfl
  | cons x l =>
    rw [took_cons]
    have := (valid_not (x :: l) hv x (by simp)).2
    simp [this]
end Go.Proofs.YtpcdfjifhoofjaaDoor.Pt

/- TypesBack: what the printed functions say is true. -/
namespace Go.Proofs.YtpcdfjifhoofjaaDoor.Pt
open Go Go.RowKit Go.Proofs.YtpcdfjifhoofjaaDoor.Nm Go.Proofs.YtpcdfjifhoofjaaDoor.Ty Go.Proofs.YtpcdfjifhoofjaaDoorW.PrintWords
set_option linter.unusedVariables false
set_option linter.unusedSimpArgs false

theorem back_last (n : Nat) (nm : List UInt8) (h : chk n nm = 0) (h1 : n ≤ 255) (hn : nm = [] ∨ validB (bs nm) = true) (k : Nat) : tBack.j2 (k + 1) n (bs nm) = some true := by
  have e0 : ¬ (chk n nm ≠ 0) := by rw [h]; decide
  simp only [tBack.j2, types_ArrayOf.f, Option.bind_some, mk_toList]
  by_cases h255 : n = 255
  · have ea : arrT n nm = (0, [], 5) := by unfold arrT; rw [if_neg e0, if_pos (by omega)]
    rw [ea, if_pos (show (n : Int) = 255 by omega)]
    simp only [tup3]
    decide
  · have ea : arrT n nm = ((n : Int) + 1, nm, 0) := by unfold arrT; rw [if_neg e0, if_neg (by omega)]
    have hc := chk_of ((n : Int) + 1) nm (by omega) (by omega) hn
    have e1 : ¬ (chk ((n : Int) + 1) nm ≠ 0) := by rw [hc]; decide
    have ec : cmpT ((n : Int) + 1) nm = ((n : Int), nm, 0) := by unfold cmpT; rw [if_neg e1, if_neg (by omega), Int.add_sub_cancel]
    have ee : eltT ((n : Int) + 1) nm = (0, nm, 0) := by unfold eltT; rw [if_neg e1]
    have ef : eltT n nm = (0, nm, 0) := by unfold eltT; rw [if_neg e0]
    rw [ea, if_neg (show ¬ (n : Int) = 255 by omega)]
    simp only [tup3, types_Component.f, types_Element.f, Option.bind_some, mk_toList, ec, ee, ef, if_true, same_self]
    decide
theorem back_ref0 (nm : List UInt8) (h : chk ((0 : Nat) : Int) nm = 0) (hn : nm = [] ∨ validB (bs nm) = true) (hl : nm.length ≤ 60) (k : Nat) : tBack.j0 (k + 3) false ((0 : Nat) : Int) (bs nm) = some true := by
  have e0 : ¬ (chk ((0 : Nat) : Int) nm ≠ 0) := by rw [h]; decide
  have L := back_last 0 nm h (by decide) hn k
  rw [show k + 3 = (k + 2) + 1 from rfl]
  simp only [tBack.j0, types_RefText.f, Option.bind_some, mk_toList]
  rw [if_neg (by decide), if_pos (show ((0 : Nat) : Int) = 0 from rfl)]
  rw [show k + 2 = (k + 1) + 1 from rfl]
  simp only [tBack.j1]
  by_cases hnm : nm = []
  · have er : refT ((0 : Nat) : Int) nm = ([], 2) := by unfold refT; rw [if_neg e0, if_pos (show ((0 : Nat) : Int) = 0 from rfl), if_pos hnm]
    rw [er, if_pos (by rw [toList_data, mk_toList, hnm]; decide)]
    simp only [tup2, if_true]
    exact L
  · have er : refT ((0 : Nat) : Int) nm = (nm, 0) := by unfold refT; rw [if_neg e0, if_pos (show ((0 : Nat) : Int) = 0 from rfl), if_neg hnm]
    have hv : validB (bs nm) = true := by rcases hn with hn | hn; exact absurd hn hnm; exact hn
    have ep : parseR nm = (((0 : Nat) : Int), nm, 0) := by unfold parseR; rw [if_neg (by omega), brk_name nm hv, if_neg (by decide), if_pos hv]; rfl
    rw [er, if_neg (by rw [toList_data, mk_toList]; simp [hnm])]
    simp only [tup2, types_ParseRef.f, Option.bind_some, mk_toList, ep, tup3, if_true, same_self]
    exact L
theorem back_refN (n : Nat) (h0 : n ≠ 0) (h1 : n ≤ 255) (nm : List UInt8) (h : chk n nm = 0) (hn : nm = [] ∨ validB (bs nm) = true) (hl : nm.length ≤ 60) (k : Nat) : tBack.j0 (k + 3) false n (bs nm) = some true := by
  have e0 : ¬ (chk n nm ≠ 0) := by rw [h]; decide
  have L := back_last n nm h h1 hn k
  have hlen := wr_len n nm
  rw [show k + 3 = (k + 2) + 1 from rfl]
  simp only [tBack.j0, types_RefText.f, Option.bind_some, mk_toList]
  rw [if_neg (by decide), if_neg (show ¬ (n : Int) = 0 by omega)]
  rw [show k + 2 = (k + 1) + 1 from rfl]
  simp only [tBack.j1]
  have er : refT n nm = (wr n nm, 0) := by unfold refT; rw [if_neg e0, if_neg (by omega), Int.toNat_natCast]
  have ep : parseR (wr n nm) = ((n : Int), nm, 0) := by unfold parseR; rw [if_neg (by omega), brk_wr n h0 nm, if_pos rfl, parse_wr n h1 nm hn hl]
  rw [er, if_neg (by decide)]
  simp only [tup2, types_ParseRef.f, Option.bind_some, mk_toList, ep, tup3, if_true, same_self]
  exact L
theorem back_of (K : Nat) (d : Int) (nm s : ByteArray) (hT : types_Text.f d nm = some (s, 0)) (hC : types_Check.f d nm = some 0) (hP : types_Parse.f s = some (d, nm, 0)) :
    tBack.f K d nm = tBack.j0 K (decide ((s.size : Int) < wrap64 (d + 1))) d nm := by
  unfold tBack.f
  rw [awake_f, hT, hC]
  simp only [Option.bind_some, if_true, hP, same_self]
theorem back_not (K : Nat) (d : Int) (nm : ByteArray) (hT : types_Text.f d nm = some (⟨#[]⟩, 1)) (hC : types_Check.f d nm = some 1) : tBack.f K d nm = some true := by
  unfold tBack.f
  rw [awake_f, hT, hC]
  simp only [Option.bind_some, if_true]
  rw [if_neg (by decide), toList_data]
  rfl
theorem back_true (k : Nat) (d : Int) (nm0 : ByteArray) : tBack.f (k + 3) d nm0 = some true := by
  obtain ⟨nm, rfl⟩ : ∃ nm, nm0 = bs nm := ⟨nm0.data.toList, (mk_data nm0).symm⟩
  rcases chk_cases d nm with h | ⟨h, h0, h1⟩
  · refine back_not _ _ _ ?_ ?_
    · unfold types_Text.f textT; rw [mk_toList, if_pos (by rw [h]; decide)]; rfl
    · unfold types_Check.f; rw [mk_toList, h]
  · have hn := chk_name d nm h
    have hl := chk_small d nm h
    obtain ⟨n, rfl⟩ : ∃ n : Nat, d = n := ⟨d.toNat, by omega⟩
    have e : textT n nm = (wr n nm, 0) := by unfold textT; rw [if_neg (by rw [h]; decide), Int.toNat_natCast]
    have e2 : types_Text.f n (bs nm) = some (bs (wr n nm), 0) := by unfold types_Text.f; rw [mk_toList, e]; rfl
    have e3 : types_Check.f n (bs nm) = some 0 := by unfold types_Check.f; rw [mk_toList, h]
    have e4 : types_Parse.f (bs (wr n nm)) = some ((n : Int), bs nm, 0) := by unfold types_Parse.f; rw [mk_toList, parse_wr n (by omega) nm hn hl]; rfl
    have hlen := wr_len n nm
    have ez : ((bs (wr n nm)).size : Int) = (wr n nm).length := by rw [mk_size]
    have ex : wrap64 ((n : Int) + 1) = (n : Int) + 1 := wrap_small (by omega) (by omega)
    rw [back_of _ _ _ _ e2 e3 e4, decide_eq_false (show ¬ (((bs (wr n nm)).size : Int) < wrap64 ((n : Int) + 1)) by rw [ez, ex]; omega)]
    by_cases hz : n = 0
    · subst hz
      exact back_ref0 nm h hn hl k
    · exact back_refN n hz (by omega) nm h hn hl k
theorem back_any (d : Int) (nm : ByteArray) (w : World) : Calls Tryd.prog 10 #[.agg #[.int .i64 d, .string nm]] w fun e w' => e = .returned (.bool true) ∧ Below w.heap.size w w' :=
  tBack.calls 3 d nm true w (back_true 0 d nm)
end Go.Proofs.YtpcdfjifhoofjaaDoor.Pt
