/- Lemmas and contracts for the statement of PwArraysSub: joined by program out of this session's texts. -/
import Derived.Test.YtmlifggklaeieaaGreatDoorBdPwArraysSub4
import Derived.Outline
namespace Go.Proofs.YtmlifggklaeieaaGreatDoor.Pt
open Go.RowKit Go.Proofs.YtmlifggklaeieaaGreatDoorW.PrintWords Go.Proofs.YtmlifggklaeieaaGreatDoorW.PrintLast Go.Proofs.YtmlifggklaeieaaGreatDoorW.PrintMore
attribute [local go_sem] max2_int min2_int max_two min_two max_three min_three max_four min_four   -- for this text's walks alone
set_option linter.unusedVariables false
set_option linter.unusedSimpArgs false
mutual
def arbiterref06_gather.j0 : Nat → List S69 → Int → List Int → Option (List Int)
 | 0, _, _, _ => none
 | k + 1, x0, x1, x2 => arbiterref06_gather.l0 k x0 x1 x2 0
def arbiterref06_gather.l0 : Nat → List S69 → Int → List Int → Int → Option (List Int)
 | 0, _, _, _, _ => none
 | k + 1, x0, x1, x2, x7 => if 0 ≤ x1 then (if x1 < (x0.length : Int) then (if x7 < (((rd_T69 x0 x1).f2).length : Int) then (if 0 ≤ x7 then ((arbiterref06_named.f k x0 (rdOf ByteArray.empty ((rd_T69 x0 x1).f2) x7)).bind fun t189 => ((arbiterref06_Has.f k x2 t189).bind fun t190 => (if t190 = true then (arbiterref06_gather.l0 k x0 x1 x2 (wrap64 (x7 + 1))) else ((arbiterref06_gather.f k x0 t189 x2).bind fun t191 => (if t191.length < 17592186044416 then (arbiterref06_gather.l0 k x0 x1 (t191 ++ [t189]) (wrap64 (x7 + 1))) else (none)))))) else (none)) else (some x2)) else (none)) else (none)
def arbiterref06_gather.f : Nat → List S69 → Int → List Int → Option (List Int)
 | 0, _, _, _ => none
 | k + 1, a0, a1, l2 => if a1 = 0 then (arbiterref06_gather.j0 k a0 a1 l2) else (if 0 ≤ a1 then (if a1 < (a0.length : Int) then ((arbiterref06_named.f k a0 ((rd_T69 a0 a1).f1)).bind fun t182 => ((arbiterref06_gather.f k a0 t182 l2).bind fun t183 => (arbiterref06_gather.j0 k a0 a1 t183))) else (none)) else (none))
end
set_option maxHeartbeats 8000000 in
set_option maxRecDepth 100000 in
theorem arbiterref06_gather.calls (k : Nat) : ∀ (G_ : Nat) (a0 : List S69) (a1 : Int) (P2_ : Nat → Prop) (u9000_ : Value) (l2 : List Int) (r : List Int) (w0 w : World) (hB : Below w0.heap.size w0 w) (hq0 : ROK w0 G_ a0) (ho2 : Kd.R (Kd.int .i64) 3 w w0.heap.size P2_ u9000_ l2) (h : arbiterref06_gather.f k a0 a1 l2 = some r),
  Calls Tryz.prog 83 #[.pointer (some ⟨G_, 0, none⟩), .int .i64 a1, u9000_] w fun e w' => ∃ v0_ : Value, e = .returned (v0_) ∧ Kd.R (Kd.int .i64) 3 w' w0.heap.size (fun k_ => (P2_ k_ ∨ w.heap.size ≤ k_)) v0_ r ∧ Below w0.heap.size w0 w' ∧ Kept w w' (fun k_ => P2_ k_) := by
 induction k using Nat.strongRecOn with
 | _ k ih =>
 intro G_ a0 a1 P2_ u9000_ l2 r w0 w hB hq0 ho2 h
 cases k with
 | zero => exact absurd h (by simp [arbiterref06_gather.f])
 | succ k =>
 simp only [arbiterref06_gather.f] at h; obtain ⟨AQa0, cQa0, hp0, hrq0, hcq0⟩ := ROK.open hq0; have HPa0 := Aside0.mk hp0; have HRqa0 := Aside0.mk hrq0; have HCqa0 := Aside0.mk hcq0; clear hp0 hrq0 hcq0; have HQa0 := Aside0.mk hq0; clear hq0; have HO2 := Aside0.mk (show Kd.R (Kd.int .i64) 3 w w0.heap.size (fun k_ => (P2_ k_ ∨ w.heap.size ≤ k_)) u9000_ l2 from Kd.R_mono ho2 (fun k_ hk => (.inl hk))); have HK := Aside0.mk (Kept.refl w (fun k_ => P2_ k_)); have HW0 := Aside0.mk hB.size; have HB := Aside0.mk hB; clear hB; have H : (if a1 = 0 then (arbiterref06_gather.j0 k a0 a1 l2) else (if 0 ≤ a1 then (if a1 < (a0.length : Int) then ((arbiterref06_named.f k a0 ((rd_T69 a0 a1).f1)).bind fun t182 => ((arbiterref06_gather.f k a0 t182 l2).bind fun t183 => (arbiterref06_gather.j0 k a0 a1 t183))) else (none)) else (none))) = some r := h; clear h; have HC4 := Aside0.mk H; clear H; go_enter Tryz.func83, Tryz.ntmps83
 go_upto_if 10 with (fail)
 go_cut [2] (fun v2 wc => ∃ (kq : Nat) (x2_3 : List Int), Aside0 (arbiterref06_gather.j0 kq a0 a1 x2_3 = some r) ∧ Aside0 (kq ≤ k) ∧ Aside0 (Kd.R (Kd.int .i64) 3 wc w0.heap.size (fun k_ => (P2_ k_ ∨ w.heap.size ≤ k_)) v2 x2_3) ∧ Aside0 (Kept w wc (fun k_ => P2_ k_)) ∧ Aside0 (Below w0.heap.size w0 wc))
 case first =>
  have H := HC4.out; clear HC4
  by_cases c5 : a1 = 0
  ·rw [if_pos c5] at H
   have c5b0 : (a1 == 0) = true := beq_iff_eq.mpr c5; have c5b1 : (a1 != 0) = false := bne_eq_false_iff_eq.mpr c5; clear c5
   (first | rw [c5b0] | (simp only [i64_w, i32_w]; rw [c5b0]) | skip)
   have H' := Aside0.mk H; clear H; go_wp2; go_meet
   case rel => exact ⟨_, (l2), H', ⟨by first | omega | exact Nat.le_refl _⟩, ⟨by (with_reducible repeat (first | apply Kd.R_alloc | apply Kd.R_drewN | apply Kd.R_drew)); exact HO2.out⟩, ⟨by repeat (first | (with_reducible first | exact HK.out | apply Kept.alloc | apply Kept.drewN | apply Kept.drew) | exact HK.out)⟩, ⟨bX HB⟩⟩
  ·rw [if_neg c5] at H
   have c5b0 : (a1 == 0) = false := beq_eq_false_iff_ne.mpr c5; have c5b1 : (a1 != 0) = true := bne_iff_ne.mpr c5
   (first | rw [c5b0] | (simp only [i64_w, i32_w]; rw [c5b0]) | skip)
   by_cases c6 : 0 ≤ a1
   ·rw [if_pos c6] at H
    have c6b0 : decide (0 ≤ a1) = true := decide_eq_true c6; clear c6
    by_cases c7 : a1 < (a0.length : Int)
    ·rw [if_pos c7] at H
     have c7b0 : decide (a1 < (a0.length : Int)) = true := decide_eq_true c7; clear c7; replace H := Option.bind_eq_some_iff.mp H; obtain ⟨t182, A80, H⟩ := H; replace H : ((arbiterref06_gather.f k a0 t182 l2).bind fun t183 => (arbiterref06_gather.j0 k a0 a1 t183)) = some r := H; have A8 := Aside0.mk A80; clear A80; replace H := Option.bind_eq_some_iff.mp H; obtain ⟨t183, A90, H⟩ := H; replace H : (arbiterref06_gather.j0 k a0 a1 t183) = some r := H; have A9 := Aside0.mk A90; clear A90; have H' := Aside0.mk H; clear H; have hcpq10 := pw_cell_below HB.out HPa0.out; have p181 : 0 ≤ (a1 : Int) := of_decide_eq_true (by first | (with_reducible assumption) | assumption); have q181 : a1 < (a0.length : Int) := of_decide_eq_true (by first | (with_reducible assumption) | assumption); obtain ⟨ad181, A181_2, c181_2, A181_5, c181_5, e181, hx181_0, hx181_1, hx181_2, hx181_3, hx181_4, hx181_5, hl181_2, hi181_2, hl181_5, hi181_5⟩ := at_T69 HRqa0.out a1 p181 q181
     cases e181
     replace hx181_0 := (HB.out.cell (World.block_lt_of_cell? w0 _ hx181_0)).trans hx181_0; replace hx181_1 := (HB.out.cell (World.block_lt_of_cell? w0 _ hx181_1)).trans hx181_1; replace hx181_2 := (HB.out.cell (World.block_lt_of_cell? w0 _ hx181_2)).trans hx181_2; replace hx181_3 := (HB.out.cell (World.block_lt_of_cell? w0 _ hx181_3)).trans hx181_3; replace hx181_4 := (HB.out.cell (World.block_lt_of_cell? w0 _ hx181_4)).trans hx181_4; replace hx181_5 := (HB.out.cell (World.block_lt_of_cell? w0 _ hx181_5)).trans hx181_5; have HR181_2 := Aside0.mk hi181_2; have HC181_2 := Aside0.mk hl181_2; clear hi181_2 hl181_2; have HR181_5 := Aside0.mk hi181_5; have HC181_5 := Aside0.mk hl181_5; clear hi181_5 hl181_5; replace p181 := eq_true p181; replace q181 := eq_true q181; go_wp2_with (first | ((with_reducible refine gate_callee (f := 67) rfl ?_); refine goesL_ (some 21) rfl rfl Tryz.func67 (by kernel_rfl) rfl #[.pointer (some ⟨G_, 0, none⟩), .string ((rd_T69 a0 a1).f1)] rfl (by (try simp only [List.map_toArray, List.map_cons, List.map_nil]); first | done | rfl | (simp only [List.length_drop, List.length_take]; rfl)) ?_; (with_reducible refine (arbiterref06_named.calls k G_ a0 ((rd_T69 a0 a1).f1) t182 _ ?side1 A8.out).mono ?_); (case side1 => repeat (first | (with_reducible exact HQa0.out) | (with_reducible refine ROK.alloc ?_ _) | (with_reducible refine ROK.drewN ?_ _) | (with_reducible refine ROK.drew ?_) | exact ROK.below HQa0.out HB.out | exact ROK.below HQa0.out (bX HB))); rintro e w' ⟨rfl, ⟨nd, rfl⟩⟩; refine ⟨_, rfl, ?_⟩; obtain ⟨Ao11, co11, eo11⟩ := Kd.R_slice HO2.out; subst eo11) | ((with_reducible refine gate_callee (f := 83) rfl ?_); refine goesL_ (some 23) rfl rfl Tryz.func83 (by kernel_rfl) rfl #[.pointer (some ⟨G_, 0, none⟩), .int .i64 t182, .slice Ao11 l2.length co11] rfl (by (try simp only [List.map_toArray, List.map_cons, List.map_nil]); first | done | rfl | (simp only [List.length_drop, List.length_take]; rfl)) ?_; (with_reducible refine (ih k (by omega) G_ a0 t182 (fun k_ => some k_ = (.slice Ao11 l2.length co11 : Value).ownBlock) (.slice Ao11 l2.length co11) l2 t183 w0 _ ?side1 HQa0.out ?side2 A9.out).mono ?_); (case side1 => repeat (first | (with_reducible first | exact HB.out | apply below_alloc | apply pw_below_drewN | apply below_drew1) | exact HB.out)); (case side2 => exact Kd.R_tight rfl HO2.out); rintro e w12 ⟨v184, rfl, ho0, hb, hkp⟩; refine ⟨_, rfl, ?_⟩; have n0_ := Aside0.mk (Kd.R_mono (ok' := fun k_ => (P2_ k_ ∨ w.heap.size ≤ k_)) ho0 (fun k_ hk_ => Or.elim hk_ (fun hs_ => (HO2.out.1 k_ (hs_).symm)) (fun hn_ => (.inr (Nat.le_trans (by first | exact HK.out.1 | exact (show Kept w _ (fun k_ => P2_ k_) from by repeat (first | (with_reducible first | exact HK.out | apply Kept.alloc | apply Kept.drewN | apply Kept.drew) | exact HK.out)).1) hn_))))); have n1_ := Aside0.mk (Kept.then_ (S := (fun k_ => P2_ k_)) (by repeat (first | (with_reducible first | exact HK.out | apply Kept.alloc | apply Kept.drewN | apply Kept.drew) | exact HK.out)) hkp (fun k_ hs_ => (fun e_ => (HO2.out.1 k_ e_.symm)) hs_)); have n2_ := Aside0.mk (hb); clear HK; clear HB; clear HO2; have HO185 := n0_; have HK := n1_; have HB := n2_; clear n0_ n1_ n2_; (try clear hb); (try clear hkp); (try clear ho0))); go_meet
     case rel => exact ⟨_, (t183), H', ⟨by first | omega | exact Nat.le_refl _⟩, ⟨by (with_reducible repeat (first | apply Kd.R_alloc | apply Kd.R_drewN | apply Kd.R_drew)); exact HO185.out⟩, ⟨by repeat (first | (with_reducible first | exact HK.out | apply Kept.alloc | apply Kept.drewN | apply Kept.drew) | exact HK.out)⟩, ⟨bX HB⟩⟩
    ·rw [if_neg c7] at H
     exact absurd H (by simp)
   ·rw [if_neg c6] at H
    exact absurd H (by simp)
 case rest =>
  clear HC4
  try clear c1
  try clear p1
  try clear q1
  try clear hx1
  try clear p2
  try clear c5
  try clear c5b0
  try clear c5b1
  try clear c6
  try clear c6b0
  try clear c7
  try clear c7b0
  try clear c8
  try clear q10
  try clear hx181_0
  try clear hx181_1
  try clear hx181_2
  try clear hx181_3
  try clear hx181_4
  try clear hx181_5
  try clear p181
  try clear q181
  obtain ⟨kq, x2_3, HA, HJ3, HO_2, HK, HB⟩ := hcut
  cases kq with
  | zero => exact absurd HA.out (by simp [arbiterref06_gather.j0])
  | succ kj3 =>
   have H := HA.out; clear HA; simp only [arbiterref06_gather.j0] at H; have H' := Aside0.mk H; clear H; go_wp2
   go_loopg [2, 7] kj3 (fun kq v2 v7 w' => ∃ (x2_2 : List Int) (x7_2 : Int), v7 = .int .i64 x7_2 ∧ Aside0 (arbiterref06_gather.l0 kq a0 a1 x2_2 x7_2 = some r) ∧ Aside0 (kq ≤ kj3) ∧ Aside0 (Kd.R (Kd.int .i64) 3 w' w0.heap.size (fun k_ => (P2_ k_ ∨ w.heap.size ≤ k_)) v2 x2_2) ∧ Aside0 (Kept w w' (fun k_ => P2_ k_)) ∧ Aside0 (Below w0.heap.size w0 w'))
   case atStart => exact ⟨(x2_3), (0), (by first | rfl | (simp; done) | (simp [*]; done)), H', ⟨Nat.le_refl _⟩, ⟨by (with_reducible repeat (first | apply Kd.R_alloc | apply Kd.R_drewN | apply Kd.R_drew)); exact HO_2.out⟩, ⟨by repeat (first | (with_reducible first | exact HK.out | apply Kept.alloc | apply Kept.drewN | apply Kept.drew) | exact HK.out)⟩, ⟨bX HB⟩⟩
   case round =>
    clear H'
    try clear c1
    try clear p1
    try clear q1
    try clear hx1
    try clear p2
    try clear c5
    try clear c5b0
    try clear c5b1
    try clear c6
    try clear c6b0
    try clear c7
    try clear c7b0
    try clear c8
    try clear q10
    try clear hx181_0
    try clear hx181_1
    try clear hx181_2
    try clear hx181_3
    try clear hx181_4
    try clear hx181_5
    try clear p1
    try clear p181
    try clear p2
    try clear q1
    try clear q10
    try clear q181
    obtain ⟨x2_2, x7_2, rfl, HA, HK2, HO_2, HK, HB⟩ := hrel
    cases gk with
    | zero => exact absurd HA.out (by simp [arbiterref06_gather.l0])
    | succ k2 =>
     have H := HA.out; clear HA; simp only [arbiterref06_gather.l0] at H
     by_cases c13 : 0 ≤ a1
     ·rw [if_pos c13] at H
      have c13b0 : decide (0 ≤ a1) = true := decide_eq_true c13; clear c13
      by_cases c14 : a1 < (a0.length : Int)
      ·rw [if_pos c14] at H
       have c14b0 : decide (a1 < (a0.length : Int)) = true := decide_eq_true c14; clear c14
       by_cases c15 : x7_2 < (((rd_T69 a0 a1).f2).length : Int)
       ·rw [if_pos c15] at H
        have c15b0 : decide (x7_2 < (((rd_T69 a0 a1).f2).length : Int)) = true := decide_eq_true c15; clear c15
        by_cases c16 : 0 ≤ x7_2
        ·rw [if_pos c16] at H
         have c16b0 : decide (0 ≤ x7_2) = true := decide_eq_true c16; clear c16; replace H := Option.bind_eq_some_iff.mp H; obtain ⟨t189, A170, H⟩ := H; replace H : ((arbiterref06_Has.f k2 x2_2 t189).bind fun t190 => (if t190 = true then (arbiterref06_gather.l0 k2 a0 a1 x2_2 (wrap64 (x7_2 + 1))) else ((arbiterref06_gather.f k2 a0 t189 x2_2).bind fun t191 => (if t191.length < 17592186044416 then (arbiterref06_gather.l0 k2 a0 a1 (t191 ++ [t189]) (wrap64 (x7_2 + 1))) else (none))))) = some r := H; have A17 := Aside0.mk A170; clear A170; replace H := Option.bind_eq_some_iff.mp H; obtain ⟨t190, A180, H⟩ := H; replace H : (if t190 = true then (arbiterref06_gather.l0 k2 a0 a1 x2_2 (wrap64 (x7_2 + 1))) else ((arbiterref06_gather.f k2 a0 t189 x2_2).bind fun t191 => (if t191.length < 17592186044416 then (arbiterref06_gather.l0 k2 a0 a1 (t191 ++ [t189]) (wrap64 (x7_2 + 1))) else (none)))) = some r := H; have A18 := Aside0.mk A180; clear A180
         by_cases c19 : t190 = true
         ·subst c19
          have H1 : (arbiterref06_gather.l0 k2 a0 a1 x2_2 (wrap64 (x7_2 + 1))) = some r := by rw [if_pos rfl] at H; exact H
          clear H; have H := H1; clear H1; have H' := Aside0.mk H; clear H; have hcpq20 := pw_cell_below HB.out HPa0.out; have p186 : 0 ≤ (a1 : Int) := of_decide_eq_true (by first | (with_reducible assumption) | assumption); have q186 : a1 < (a0.length : Int) := of_decide_eq_true (by first | (with_reducible assumption) | assumption); obtain ⟨ad186, A186_2, c186_2, A186_5, c186_5, e186, hx186_0, hx186_1, hx186_2, hx186_3, hx186_4, hx186_5, hl186_2, hi186_2, hl186_5, hi186_5⟩ := at_T69 HRqa0.out a1 p186 q186
          cases e186
          replace hx186_0 := (HB.out.cell (World.block_lt_of_cell? w0 _ hx186_0)).trans hx186_0; replace hx186_1 := (HB.out.cell (World.block_lt_of_cell? w0 _ hx186_1)).trans hx186_1; replace hx186_2 := (HB.out.cell (World.block_lt_of_cell? w0 _ hx186_2)).trans hx186_2; replace hx186_3 := (HB.out.cell (World.block_lt_of_cell? w0 _ hx186_3)).trans hx186_3; replace hx186_4 := (HB.out.cell (World.block_lt_of_cell? w0 _ hx186_4)).trans hx186_4; replace hx186_5 := (HB.out.cell (World.block_lt_of_cell? w0 _ hx186_5)).trans hx186_5; have HR186_2 := Aside0.mk hi186_2; have HC186_2 := Aside0.mk hl186_2; clear hi186_2 hl186_2; have HR186_5 := Aside0.mk hi186_5; have HC186_5 := Aside0.mk hl186_5; clear hi186_5 hl186_5; replace p186 := eq_true p186; replace q186 := eq_true q186; have hcpq21 := pw_cell_below HB.out HPa0.out; have p187 : 0 ≤ (a1 : Int) := of_decide_eq_true (by first | (with_reducible assumption) | assumption); have q187 : a1 < (a0.length : Int) := of_decide_eq_true (by first | (with_reducible assumption) | assumption); obtain ⟨ad187, A187_2, c187_2, A187_5, c187_5, e187, hx187_0, hx187_1, hx187_2, hx187_3, hx187_4, hx187_5, hl187_2, hi187_2, hl187_5, hi187_5⟩ := at_T69 HRqa0.out a1 p187 q187
          obtain rfl : ad186 = ad187 := (by injection e187)
          replace hx187_0 := (HB.out.cell (World.block_lt_of_cell? w0 _ hx187_0)).trans hx187_0; replace hx187_1 := (HB.out.cell (World.block_lt_of_cell? w0 _ hx187_1)).trans hx187_1; replace hx187_2 := (HB.out.cell (World.block_lt_of_cell? w0 _ hx187_2)).trans hx187_2; replace hx187_3 := (HB.out.cell (World.block_lt_of_cell? w0 _ hx187_3)).trans hx187_3; replace hx187_4 := (HB.out.cell (World.block_lt_of_cell? w0 _ hx187_4)).trans hx187_4; replace hx187_5 := (HB.out.cell (World.block_lt_of_cell? w0 _ hx187_5)).trans hx187_5; have HR187_2 := Aside0.mk hi187_2; have HC187_2 := Aside0.mk hl187_2; clear hi187_2 hl187_2; have HR187_5 := Aside0.mk hi187_5; have HC187_5 := Aside0.mk hl187_5; clear hi187_5 hl187_5; replace p187 := eq_true p187; replace q187 := eq_true q187; have ea_ := Option.some.inj (hx186_2.symm.trans hx187_2); injection ea_ with ea_ en_ ec_; subst ea_; subst ec_; clear en_; have ea_ := Option.some.inj (hx186_5.symm.trans hx187_5); injection ea_ with ea_ en_ ec_; subst ea_; subst ec_; clear en_; have p188 : 0 ≤ (x7_2 : Int) := of_decide_eq_true (by first | (with_reducible assumption) | assumption); have q188 : x7_2 < (((rd_T69 a0 a1).f2).length : Int) := of_decide_eq_true (by first | (with_reducible assumption) | assumption); obtain ⟨ad188, e188, hx188_0⟩ := Kd.at_string HR187_2.out x7_2 p188 q188
          cases e188
          replace hx188_0 := (HB.out.cell (World.block_lt_of_cell? w0 _ hx188_0)).trans hx188_0; replace p188 := eq_true p188; replace q188 := eq_true q188; go_wp2_with (first | ((with_reducible refine gate_callee (f := 67) rfl ?_); refine goesL_ (some 49) rfl rfl Tryz.func67 (by kernel_rfl) rfl #[.pointer (some ⟨G_, 0, none⟩), .string (rdOf ByteArray.empty ((rd_T69 a0 a1).f2) x7_2)] rfl (by (try simp only [List.map_toArray, List.map_cons, List.map_nil]); first | done | rfl | (simp only [List.length_drop, List.length_take]; rfl)) ?_; (with_reducible refine (arbiterref06_named.calls k2 G_ a0 (rdOf ByteArray.empty ((rd_T69 a0 a1).f2) x7_2) t189 _ ?side1 A17.out).mono ?_); (case side1 => repeat (first | (with_reducible exact HQa0.out) | (with_reducible refine ROK.alloc ?_ _) | (with_reducible refine ROK.drewN ?_ _) | (with_reducible refine ROK.drew ?_) | exact ROK.below HQa0.out HB.out | exact ROK.below HQa0.out (bX HB))); rintro e w' ⟨rfl, ⟨nd, rfl⟩⟩; refine ⟨_, rfl, ?_⟩; obtain ⟨Ao22, co22, eo22⟩ := Kd.R_slice HO_2.out; subst eo22) | ((with_reducible refine gate_callee (f := 82) rfl ?_); refine goesL_ (some 52) rfl rfl Tryz.func82 (by kernel_rfl) rfl #[.slice Ao22 x2_2.length co22, .int .i64 t189] rfl (by (try simp only [List.map_toArray, List.map_cons, List.map_nil]); first | done | rfl | (simp only [List.length_drop, List.length_take]; rfl)) ?_; (with_reducible refine (arbiterref06_Has.calls k2 _ _ x2_2 t189 true _ ?side1 ?side2 A18.out).mono ?_); (case side1 => repeat (first | exact (Kd.R_reads' HO_2.out).2.2 | (with_reducible refine Kd.C_alloc ?_ _) | (with_reducible refine Kd.C_drewN ?_ _) | (with_reducible refine Kd.C_drew ?_))); (case side2 => exact (Kd.R_reads' HO_2.out).2.1); rintro e w' ⟨rfl, ⟨nd, rfl⟩⟩; refine ⟨_, rfl, ?_⟩))
          go_roundg k2
          case measure => have := HJ3.out; have := HK2.out; omega
          case rel => exact ⟨(x2_2), (wrap64 (x7_2 + 1)), (by first | rfl | (simp; done) | (simp [*]; done)), H', ⟨by have := HJ3.out; have := HK2.out; omega⟩, ⟨by (with_reducible repeat (first | apply Kd.R_alloc | apply Kd.R_drewN | apply Kd.R_drew)); exact HO_2.out⟩, ⟨by repeat (first | (with_reducible first | exact HK.out | apply Kept.alloc | apply Kept.drewN | apply Kept.drew) | exact HK.out)⟩, ⟨bX HB⟩⟩
         ·replace c19 := Bool.eq_false_iff.mpr c19
          subst c19
          have H1 : ((arbiterref06_gather.f k2 a0 t189 x2_2).bind fun t191 => (if t191.length < 17592186044416 then (arbiterref06_gather.l0 k2 a0 a1 (t191 ++ [t189]) (wrap64 (x7_2 + 1))) else (none))) = some r := by rw [if_neg (show ¬ (false = true) by decide)] at H; exact H
          clear H; have H := H1; clear H1; replace H := Option.bind_eq_some_iff.mp H; obtain ⟨t191, A230, H⟩ := H; replace H : (if t191.length < 17592186044416 then (arbiterref06_gather.l0 k2 a0 a1 (t191 ++ [t189]) (wrap64 (x7_2 + 1))) else (none)) = some r := H; have A23 := Aside0.mk A230; clear A230
          by_cases c24 : t191.length < 17592186044416
          ·rw [if_pos c24] at H
           have LMc24 := Aside0.mk c24; clear c24
           obtain ⟨y194, hy194⟩ : ∃ y_ : List Int, y_ = (t191 ++ [t189]) := ⟨_, rfl⟩
           replace H : (arbiterref06_gather.l0 k2 a0 a1 y194 (wrap64 (x7_2 + 1))) = some r := by first | (rw [hy194]; with_reducible exact H) | (have H2_ := (Option.bind_some _ _).symm.trans H; rw [hy194]; with_reducible exact H2_) | (have H2_ := (Option.bind_some _ _).symm.trans H; with_reducible exact H2_) | with_reducible exact H | (rw [hy194]; exact H) | exact H
           have Ny194 := Aside0.mk hy194; clear hy194; have H' := Aside0.mk H; clear H; have hcpq25 := pw_cell_below HB.out HPa0.out; have p186 : 0 ≤ (a1 : Int) := of_decide_eq_true (by first | (with_reducible assumption) | assumption); have q186 : a1 < (a0.length : Int) := of_decide_eq_true (by first | (with_reducible assumption) | assumption); obtain ⟨ad186, A186_2, c186_2, A186_5, c186_5, e186, hx186_0, hx186_1, hx186_2, hx186_3, hx186_4, hx186_5, hl186_2, hi186_2, hl186_5, hi186_5⟩ := at_T69 HRqa0.out a1 p186 q186
           cases e186
           replace hx186_0 := (HB.out.cell (World.block_lt_of_cell? w0 _ hx186_0)).trans hx186_0; replace hx186_1 := (HB.out.cell (World.block_lt_of_cell? w0 _ hx186_1)).trans hx186_1; replace hx186_2 := (HB.out.cell (World.block_lt_of_cell? w0 _ hx186_2)).trans hx186_2; replace hx186_3 := (HB.out.cell (World.block_lt_of_cell? w0 _ hx186_3)).trans hx186_3; replace hx186_4 := (HB.out.cell (World.block_lt_of_cell? w0 _ hx186_4)).trans hx186_4; replace hx186_5 := (HB.out.cell (World.block_lt_of_cell? w0 _ hx186_5)).trans hx186_5; have HR186_2 := Aside0.mk hi186_2; have HC186_2 := Aside0.mk hl186_2; clear hi186_2 hl186_2; have HR186_5 := Aside0.mk hi186_5; have HC186_5 := Aside0.mk hl186_5; clear hi186_5 hl186_5; replace p186 := eq_true p186; replace q186 := eq_true q186; have hcpq26 := pw_cell_below HB.out HPa0.out; have p187 : 0 ≤ (a1 : Int) := of_decide_eq_true (by first | (with_reducible assumption) | assumption); have q187 : a1 < (a0.length : Int) := of_decide_eq_true (by first | (with_reducible assumption) | assumption); obtain ⟨ad187, A187_2, c187_2, A187_5, c187_5, e187, hx187_0, hx187_1, hx187_2, hx187_3, hx187_4, hx187_5, hl187_2, hi187_2, hl187_5, hi187_5⟩ := at_T69 HRqa0.out a1 p187 q187
           obtain rfl : ad186 = ad187 := (by injection e187)
           replace hx187_0 := (HB.out.cell (World.block_lt_of_cell? w0 _ hx187_0)).trans hx187_0; replace hx187_1 := (HB.out.cell (World.block_lt_of_cell? w0 _ hx187_1)).trans hx187_1; replace hx187_2 := (HB.out.cell (World.block_lt_of_cell? w0 _ hx187_2)).trans hx187_2; replace hx187_3 := (HB.out.cell (World.block_lt_of_cell? w0 _ hx187_3)).trans hx187_3; replace hx187_4 := (HB.out.cell (World.block_lt_of_cell? w0 _ hx187_4)).trans hx187_4; replace hx187_5 := (HB.out.cell (World.block_lt_of_cell? w0 _ hx187_5)).trans hx187_5; have HR187_2 := Aside0.mk hi187_2; have HC187_2 := Aside0.mk hl187_2; clear hi187_2 hl187_2; have HR187_5 := Aside0.mk hi187_5; have HC187_5 := Aside0.mk hl187_5; clear hi187_5 hl187_5; replace p187 := eq_true p187; replace q187 := eq_true q187; have ea_ := Option.some.inj (hx186_2.symm.trans hx187_2); injection ea_ with ea_ en_ ec_; subst ea_; subst ec_; clear en_; have ea_ := Option.some.inj (hx186_5.symm.trans hx187_5); injection ea_ with ea_ en_ ec_; subst ea_; subst ec_; clear en_; have p188 : 0 ≤ (x7_2 : Int) := of_decide_eq_true (by first | (with_reducible assumption) | assumption); have q188 : x7_2 < (((rd_T69 a0 a1).f2).length : Int) := of_decide_eq_true (by first | (with_reducible assumption) | assumption); obtain ⟨ad188, e188, hx188_0⟩ := Kd.at_string HR187_2.out x7_2 p188 q188
           cases e188
           replace hx188_0 := (HB.out.cell (World.block_lt_of_cell? w0 _ hx188_0)).trans hx188_0; replace p188 := eq_true p188; replace q188 := eq_true q188; go_wp2_with (first | ((with_reducible refine gate_callee (f := 67) rfl ?_); refine goesL_ (some 49) rfl rfl Tryz.func67 (by kernel_rfl) rfl #[.pointer (some ⟨G_, 0, none⟩), .string (rdOf ByteArray.empty ((rd_T69 a0 a1).f2) x7_2)] rfl (by (try simp only [List.map_toArray, List.map_cons, List.map_nil]); first | done | rfl | (simp only [List.length_drop, List.length_take]; rfl)) ?_; (with_reducible refine (arbiterref06_named.calls k2 G_ a0 (rdOf ByteArray.empty ((rd_T69 a0 a1).f2) x7_2) t189 _ ?side1 A17.out).mono ?_); (case side1 => repeat (first | (with_reducible exact HQa0.out) | (with_reducible refine ROK.alloc ?_ _) | (with_reducible refine ROK.drewN ?_ _) | (with_reducible refine ROK.drew ?_) | exact ROK.below HQa0.out HB.out | exact ROK.below HQa0.out (bX HB))); rintro e w' ⟨rfl, ⟨nd, rfl⟩⟩; refine ⟨_, rfl, ?_⟩; obtain ⟨Ao27, co27, eo27⟩ := Kd.R_slice HO_2.out; subst eo27) | ((with_reducible refine gate_callee (f := 82) rfl ?_); refine goesL_ (some 52) rfl rfl Tryz.func82 (by kernel_rfl) rfl #[.slice Ao27 x2_2.length co27, .int .i64 t189] rfl (by (try simp only [List.map_toArray, List.map_cons, List.map_nil]); first | done | rfl | (simp only [List.length_drop, List.length_take]; rfl)) ?_; (with_reducible refine (arbiterref06_Has.calls k2 _ _ x2_2 t189 false _ ?side1 ?side2 A18.out).mono ?_); (case side1 => repeat (first | exact (Kd.R_reads' HO_2.out).2.2 | (with_reducible refine Kd.C_alloc ?_ _) | (with_reducible refine Kd.C_drewN ?_ _) | (with_reducible refine Kd.C_drew ?_))); (case side2 => exact (Kd.R_reads' HO_2.out).2.1); rintro e w' ⟨rfl, ⟨nd, rfl⟩⟩; refine ⟨_, rfl, ?_⟩) | ((with_reducible refine gate_callee (f := 83) rfl ?_); refine goesL_ (some 57) rfl rfl Tryz.func83 (by kernel_rfl) rfl #[.pointer (some ⟨G_, 0, none⟩), .int .i64 t189, .slice Ao27 x2_2.length co27] rfl (by (try simp only [List.map_toArray, List.map_cons, List.map_nil]); first | done | rfl | (simp only [List.length_drop, List.length_take]; rfl)) ?_; (with_reducible refine (ih k2 (by have := HJ3.out; have := HK2.out; omega) G_ a0 t189 (fun k_ => some k_ = (.slice Ao27 x2_2.length co27 : Value).ownBlock) (.slice Ao27 x2_2.length co27) x2_2 t191 w0 _ ?side1 HQa0.out ?side2 A23.out).mono ?_); (case side1 => repeat (first | (with_reducible first | exact HB.out | apply below_alloc | apply pw_below_drewN | apply below_drew1) | exact HB.out)); (case side2 => exact Kd.R_tight rfl HO_2.out); rintro e w28 ⟨v192, rfl, ho0, hb, hkp⟩; refine ⟨_, rfl, ?_⟩; have n0_ := Aside0.mk (Kd.R_mono (ok' := fun k_ => (P2_ k_ ∨ w.heap.size ≤ k_)) ho0 (fun k_ hk_ => Or.elim hk_ (fun hs_ => (HO_2.out.1 k_ (hs_).symm)) (fun hn_ => (.inr (Nat.le_trans (by first | exact HK.out.1 | exact (show Kept w _ (fun k_ => P2_ k_) from by repeat (first | (with_reducible first | exact HK.out | apply Kept.alloc | apply Kept.drewN | apply Kept.drew) | exact HK.out)).1) hn_))))); have n1_ := Aside0.mk (Kept.then_ (S := (fun k_ => P2_ k_)) (by repeat (first | (with_reducible first | exact HK.out | apply Kept.alloc | apply Kept.drewN | apply Kept.drew) | exact HK.out)) hkp (fun k_ hs_ => (fun e_ => (HO_2.out.1 k_ e_.symm)) hs_)); have n2_ := Aside0.mk (hb); clear HK; clear HB; clear HO_2; have HO193 := n0_; have HK := n1_; have HB := n2_; clear n0_ n1_ n2_; (try clear hb); (try clear hkp); (try clear ho0)) | ((with_reducible refine gate_builtin (b := .append) (xs := #[.tmp 57, .tmp 59]) rfl ?_); at_builtin; refine Kd.R_append (Kd.int .i64) (w0 := w0) w0.heap.size rfl (.tmp 57) (.tmp 59) 110 3 (.int .i64 0) 8 rfl Tryz.underlying110 info3 rfl (by decide) (by omega) v192 t191 t189 [.int .i64 t189] (fun k_ => (P2_ k_ ∨ w.heap.size ≤ k_)) (fun _ => False) rfl rfl ?aP (fun _ hk => hk.elim) ?aF ?aO ?aB ?aS ?aL ?_; (case aP => exact rfl); (case aB => exact (bX HB)); (case aF => exact (fun k_ hk => (.inr (Nat.le_trans (by first | exact HK.out.1 | exact (show Kept w _ (fun k_ => P2_ k_) from by repeat (first | (with_reducible first | exact HK.out | apply Kept.alloc | apply Kept.drewN | apply Kept.drew) | exact HK.out)).1) hk)))); (case aO => exact (by (with_reducible repeat (first | apply Kd.R_alloc | apply Kd.R_drewN | apply Kd.R_drew)); exact HO193.out)); (case aS => exact (below_size (bX HB))); (case aL => have := LMc24.out; omega); intro v195 w29 ho hb hg hat; rw [← Ny194.out] at ho; have n0_ := Aside0.mk (hb); have n1_ := Aside0.mk (Kept.of_grown (S := (fun k_ => P2_ k_)) hg (by repeat (first | (with_reducible first | exact HK.out | apply Kept.alloc | apply Kept.drewN | apply Kept.drew) | exact HK.out)) (fun k_ e_ => (HO193.out.1 k_ e_))); have n2_ := Aside0.mk (ho); clear HB; clear HK; clear HO193; have HB := n0_; have HK := n1_; have HO196 := n2_; clear n0_ n1_ n2_; clear ho hb hg hat))
           go_roundg k2
           case measure => have := HJ3.out; have := HK2.out; omega
           case rel => exact ⟨(y194), (wrap64 (x7_2 + 1)), (by first | rfl | (simp; done) | (simp [*]; done)), H', ⟨by have := HJ3.out; have := HK2.out; omega⟩, ⟨by (with_reducible repeat (first | apply Kd.R_alloc | apply Kd.R_drewN | apply Kd.R_drew)); exact HO196.out⟩, ⟨by repeat (first | (with_reducible first | exact HK.out | apply Kept.alloc | apply Kept.drewN | apply Kept.drew) | exact HK.out)⟩, ⟨bX HB⟩⟩
          ·rw [if_neg c24] at H
           exact absurd H (by simp)
        ·rw [if_neg c16] at H
         exact absurd H (by simp)
       ·rw [if_neg c15] at H
        have c15b0 : decide (x7_2 < (((rd_T69 a0 a1).f2).length : Int)) = false := decide_eq_false c15; clear c15; obtain rfl := Option.some.inj H; have hcpq30 := pw_cell_below HB.out HPa0.out; have p186 : 0 ≤ (a1 : Int) := of_decide_eq_true (by first | (with_reducible assumption) | assumption); have q186 : a1 < (a0.length : Int) := of_decide_eq_true (by first | (with_reducible assumption) | assumption); obtain ⟨ad186, A186_2, c186_2, A186_5, c186_5, e186, hx186_0, hx186_1, hx186_2, hx186_3, hx186_4, hx186_5, hl186_2, hi186_2, hl186_5, hi186_5⟩ := at_T69 HRqa0.out a1 p186 q186
        cases e186
        replace hx186_0 := (HB.out.cell (World.block_lt_of_cell? w0 _ hx186_0)).trans hx186_0; replace hx186_1 := (HB.out.cell (World.block_lt_of_cell? w0 _ hx186_1)).trans hx186_1; replace hx186_2 := (HB.out.cell (World.block_lt_of_cell? w0 _ hx186_2)).trans hx186_2; replace hx186_3 := (HB.out.cell (World.block_lt_of_cell? w0 _ hx186_3)).trans hx186_3; replace hx186_4 := (HB.out.cell (World.block_lt_of_cell? w0 _ hx186_4)).trans hx186_4; replace hx186_5 := (HB.out.cell (World.block_lt_of_cell? w0 _ hx186_5)).trans hx186_5; have HR186_2 := Aside0.mk hi186_2; have HC186_2 := Aside0.mk hl186_2; clear hi186_2 hl186_2; have HR186_5 := Aside0.mk hi186_5; have HC186_5 := Aside0.mk hl186_5; clear hi186_5 hl186_5; replace p186 := eq_true p186; replace q186 := eq_true q186; go_wp2; go_ret
        exact ⟨_, by first | rfl | (simp [errW_none, errW_some] <;> rfl) | (simp [*, errW_none, errW_some] <;> rfl), by (with_reducible repeat (first | apply Kd.R_alloc | apply Kd.R_drewN | apply Kd.R_drew)); exact HO_2.out, bX HB, by repeat (first | (with_reducible first | exact HK.out | apply Kept.alloc | apply Kept.drewN | apply Kept.drew) | exact HK.out)⟩
      ·rw [if_neg c14] at H
       exact absurd H (by simp)
     ·rw [if_neg c13] at H
      exact absurd H (by simp)
def arbiterref06_Extends.j0 : Nat → List S69 → Int → Int → Bool → Option (Bool)
 | 0, _, _, _, _ => none
 | k + 1, x0, x1, x2, x18 => if x18 = true then (some false) else ((arbiterref06_Chain.f k x0 x1).bind fun bt199 => ((arbiterref06_Has.f k bt199.1 x2).bind fun t203 => (if t203 = true then (some true) else ((arbiterref06_gather.f k x0 x1 ([] : List Int)).bind fun t204 => ((arbiterref06_Has.f k t204 x2).bind fun t207 => (some t207))))))
def arbiterref06_Extends.f (k : Nat) (a0 : List S69) (a1 : Int) (a2 : Int) : Option (Bool) := (arbiterref06_In.f a0 a1).bind fun t197 => (if t197 = true then ((arbiterref06_In.f a0 a2).bind fun t198 => (arbiterref06_Extends.j0 k a0 a1 a2 (!t198))) else (arbiterref06_Extends.j0 k a0 a1 a2 true))
set_option maxHeartbeats 8000000 in
set_option maxRecDepth 100000 in
theorem arbiterref06_Extends.calls (k : Nat) (G_ : Nat) (a0 : List S69) (a1 : Int) (a2 : Int) (r : Bool) (w : World) (hq0 : ROK w G_ a0) (h : arbiterref06_Extends.f k a0 a1 a2 = some r) :
  Calls Tryz.prog 56 #[.pointer (some ⟨G_, 0, none⟩), .int .i64 a1, .int .i64 a2] w fun e w' => e = .returned (.bool r) ∧ Below w.heap.size w w' := by
 obtain ⟨AQa0, cQa0, hp0, hrq0, hcq0⟩ := ROK.open hq0; have HPa0 := Aside0.mk hp0; have HRqa0 := Aside0.mk hrq0; have HCqa0 := Aside0.mk hcq0; clear hp0 hrq0 hcq0; have HQa0 := Aside0.mk hq0; clear hq0; have HB := Aside0.mk (Below.refl w.heap.size w); have H : ((arbiterref06_In.f a0 a1).bind fun t197 => (if t197 = true then ((arbiterref06_In.f a0 a2).bind fun t198 => (arbiterref06_Extends.j0 k a0 a1 a2 (!t198))) else (arbiterref06_Extends.j0 k a0 a1 a2 true))) = some r := h; clear h; have HC4 := Aside0.mk H; clear H; go_enter Tryz.func56, Tryz.ntmps56
 go_upto_region 1 with (fail)
 go_cut [18] (fun v18 wc => ∃ (kq : Nat) (x18_3 : Bool), v18 = .bool x18_3 ∧ Aside0 (arbiterref06_Extends.j0 kq a0 a1 a2 x18_3 = some r) ∧ Aside0 (kq ≤ k) ∧ Aside0 (Below w.heap.size w wc))
 case first =>
  have H := HC4.out; clear HC4; replace H := Option.bind_eq_some_iff.mp H; obtain ⟨t197, A50, H⟩ := H; replace H : (if t197 = true then ((arbiterref06_In.f a0 a2).bind fun t198 => (arbiterref06_Extends.j0 k a0 a1 a2 (!t198))) else (arbiterref06_Extends.j0 k a0 a1 a2 true)) = some r := H; have A5 := Aside0.mk A50; clear A50
  by_cases c6 : t197 = true
  ·subst c6
   have H1 : ((arbiterref06_In.f a0 a2).bind fun t198 => (arbiterref06_Extends.j0 k a0 a1 a2 (!t198))) = some r := by rw [if_pos rfl] at H; exact H
   clear H; have H := H1; clear H1; replace H := Option.bind_eq_some_iff.mp H; obtain ⟨t198, A70, H⟩ := H; replace H : (arbiterref06_Extends.j0 k a0 a1 a2 (!t198)) = some r := H; have A7 := Aside0.mk A70; clear A70; have H' := Aside0.mk H; clear H; go_wp2_with (first | ((with_reducible refine gate_callee (f := 44) rfl ?_); refine goesL_ (some 11) rfl rfl Tryz.func44 (by kernel_rfl) rfl #[.pointer (some ⟨G_, 0, none⟩), .int .i64 a1] rfl (by (try simp only [List.map_toArray, List.map_cons, List.map_nil]); first | done | rfl | (simp only [List.length_drop, List.length_take]; rfl)) ?_; (with_reducible refine (arbiterref06_In.calls G_ a0 a1 true _ ?side1 A5.out).mono ?_); (case side1 => repeat (first | (with_reducible exact HQa0.out) | (with_reducible refine ROK.alloc ?_ _) | (with_reducible refine ROK.drewN ?_ _) | (with_reducible refine ROK.drew ?_) | exact ROK.below HQa0.out HB.out | exact ROK.below HQa0.out (bX HB))); rintro e w' ⟨rfl, ⟨nd, rfl⟩⟩; refine ⟨_, rfl, ?_⟩) | (go_at_call 44; (with_reducible refine (arbiterref06_In.calls G_ a0 a2 t198 _ ?side1 A7.out).mono ?_); (case side1 => repeat (first | (with_reducible exact HQa0.out) | (with_reducible refine ROK.alloc ?_ _) | (with_reducible refine ROK.drewN ?_ _) | (with_reducible refine ROK.drew ?_) | exact ROK.below HQa0.out HB.out | exact ROK.below HQa0.out (bX HB))); rintro e w' ⟨rfl, ⟨nd, rfl⟩⟩)); go_meet
   case rel => exact ⟨_, (!t198), (by first | rfl | (simp; done) | (simp [*]; done)), H', ⟨by first | omega | exact Nat.le_refl _⟩, ⟨bX HB⟩⟩
  ·replace c6 := Bool.eq_false_iff.mpr c6
   subst c6
   have H1 : (arbiterref06_Extends.j0 k a0 a1 a2 true) = some r := by rw [if_neg (show ¬ (false = true) by decide)] at H; exact H
   clear H; have H := H1; clear H1; have H' := Aside0.mk H; clear H; go_wp2_with (first | ((with_reducible refine gate_callee (f := 44) rfl ?_); refine goesL_ (some 11) rfl rfl Tryz.func44 (by kernel_rfl) rfl #[.pointer (some ⟨G_, 0, none⟩), .int .i64 a1] rfl (by (try simp only [List.map_toArray, List.map_cons, List.map_nil]); first | done | rfl | (simp only [List.length_drop, List.length_take]; rfl)) ?_; (with_reducible refine (arbiterref06_In.calls G_ a0 a1 false _ ?side1 A5.out).mono ?_); (case side1 => repeat (first | (with_reducible exact HQa0.out) | (with_reducible refine ROK.alloc ?_ _) | (with_reducible refine ROK.drewN ?_ _) | (with_reducible refine ROK.drew ?_) | exact ROK.below HQa0.out HB.out | exact ROK.below HQa0.out (bX HB))); rintro e w' ⟨rfl, ⟨nd, rfl⟩⟩; refine ⟨_, rfl, ?_⟩)); go_meet
   case rel => exact ⟨_, (true), (by first | rfl | (simp; done) | (simp [*]; done)), H', ⟨by first | omega | exact Nat.le_refl _⟩, ⟨bX HB⟩⟩
 case rest =>
  clear HC4
  try clear p2
  try clear c4
  try clear c5
  try clear c6
  obtain ⟨kq, x18_3, rfl, HA, HJ3, HB⟩ := hcut
  cases kq with
  | zero => exact absurd HA.out (by simp [arbiterref06_Extends.j0])
  | succ kj3 =>
   have H := HA.out; clear HA; simp only [arbiterref06_Extends.j0] at H
   by_cases c8 : x18_3 = true
   ·subst c8
    have H1 : (some false) = some r := by rw [if_pos rfl] at H; exact H
    clear H; have H := H1; clear H1; obtain rfl := Option.some.inj H; go_wp2; go_ret
    exact ⟨by first | rfl | (simp [errW_none, errW_some] <;> rfl) | (simp [*, errW_none, errW_some] <;> rfl), bX HB⟩
   ·replace c8 := Bool.eq_false_iff.mpr c8
    subst c8
    have H1 : ((arbiterref06_Chain.f kj3 a0 a1).bind fun bt199 => ((arbiterref06_Has.f kj3 bt199.1 a2).bind fun t203 => (if t203 = true then (some true) else ((arbiterref06_gather.f kj3 a0 a1 ([] : List Int)).bind fun t204 => ((arbiterref06_Has.f kj3 t204 a2).bind fun t207 => (some t207)))))) = some r := by rw [if_neg (show ¬ (false = true) by decide)] at H; exact H
    clear H; have H := H1; clear H1; replace H := Option.bind_eq_some_iff.mp H; obtain ⟨⟨t199, t200⟩, A90, H⟩ := H; replace H : ((arbiterref06_Has.f kj3 t199 a2).bind fun t203 => (if t203 = true then (some true) else ((arbiterref06_gather.f kj3 a0 a1 ([] : List Int)).bind fun t204 => ((arbiterref06_Has.f kj3 t204 a2).bind fun t207 => (some t207))))) = some r := H; have A9 := Aside0.mk A90; clear A90; replace H := Option.bind_eq_some_iff.mp H; obtain ⟨t203, A100, H⟩ := H; replace H : (if t203 = true then (some true) else ((arbiterref06_gather.f kj3 a0 a1 ([] : List Int)).bind fun t204 => ((arbiterref06_Has.f kj3 t204 a2).bind fun t207 => (some t207)))) = some r := H; have A10 := Aside0.mk A100; clear A100
    by_cases c11 : t203 = true
    ·subst c11
     have H1 : (some true) = some r := by rw [if_pos rfl] at H; exact H
     clear H; have H := H1; clear H1; obtain rfl := Option.some.inj H; go_wp2_with (first | ((with_reducible refine gate_callee (f := 81) rfl ?_); refine goesL_ (some 22) rfl rfl Tryz.func81 (by kernel_rfl) rfl #[.pointer (some ⟨G_, 0, none⟩), .int .i64 a1] rfl (by (try simp only [List.map_toArray, List.map_cons, List.map_nil]); first | done | rfl | (simp only [List.length_drop, List.length_take]; rfl)) ?_; (with_reducible refine (arbiterref06_Chain.calls kj3 G_ a0 a1 t199 t200 _ ?side1 A9.out).mono ?_); (case side1 => repeat (first | (with_reducible exact HQa0.out) | (with_reducible refine ROK.alloc ?_ _) | (with_reducible refine ROK.drewN ?_ _) | (with_reducible refine ROK.drew ?_) | exact ROK.below HQa0.out HB.out | exact ROK.below HQa0.out (bX HB))); rintro e w12 ⟨v201, rfl, ho0, hb⟩; refine ⟨_, rfl, ?_⟩; have n0_ := Aside0.mk (Kd.R_lower ho0 (below_size (bX HB))); have n1_ := Aside0.mk (below_step (bX HB) hb); clear HB; have HO202 := n0_; have HB := n1_; clear n0_ n1_; (try clear hb); (try clear hb2); (try clear hk); (try clear hi); (try clear ho0); obtain ⟨Ao13, co13, eo13⟩ := Kd.R_slice HO202.out; subst eo13) | ((with_reducible refine gate_callee (f := 82) rfl ?_); refine goesL_ (some 27) rfl rfl Tryz.func82 (by kernel_rfl) rfl #[.slice Ao13 t199.length co13, .int .i64 a2] rfl (by (try simp only [List.map_toArray, List.map_cons, List.map_nil]); first | done | rfl | (simp only [List.length_drop, List.length_take]; rfl)) ?_; (with_reducible refine (arbiterref06_Has.calls kj3 _ _ t199 a2 true _ ?side1 ?side2 A10.out).mono ?_); (case side1 => repeat (first | exact (Kd.R_reads' HO202.out).2.2 | (with_reducible refine Kd.C_alloc ?_ _) | (with_reducible refine Kd.C_drewN ?_ _) | (with_reducible refine Kd.C_drew ?_))); (case side2 => exact (Kd.R_reads' HO202.out).2.1); rintro e w' ⟨rfl, ⟨nd, rfl⟩⟩; refine ⟨_, rfl, ?_⟩)); go_ret
     exact ⟨by first | rfl | (simp [errW_none, errW_some] <;> rfl) | (simp [*, errW_none, errW_some] <;> rfl), bX HB⟩
    ·replace c11 := Bool.eq_false_iff.mpr c11
     subst c11
     have H1 : ((arbiterref06_gather.f kj3 a0 a1 ([] : List Int)).bind fun t204 => ((arbiterref06_Has.f kj3 t204 a2).bind fun t207 => (some t207))) = some r := by rw [if_neg (show ¬ (false = true) by decide)] at H; exact H
     clear H; have H := H1; clear H1; replace H := Option.bind_eq_some_iff.mp H; obtain ⟨t204, A140, H⟩ := H; replace H : ((arbiterref06_Has.f kj3 t204 a2).bind fun t207 => (some t207)) = some r := H; have A14 := Aside0.mk A140; clear A140; replace H := Option.bind_eq_some_iff.mp H; obtain ⟨t207, A150, H⟩ := H; replace H : (some t207) = some r := H; have A15 := Aside0.mk A150; clear A150; obtain rfl := Option.some.inj H; go_wp2_with (first | ((with_reducible refine gate_callee (f := 81) rfl ?_); refine goesL_ (some 22) rfl rfl Tryz.func81 (by kernel_rfl) rfl #[.pointer (some ⟨G_, 0, none⟩), .int .i64 a1] rfl (by (try simp only [List.map_toArray, List.map_cons, List.map_nil]); first | done | rfl | (simp only [List.length_drop, List.length_take]; rfl)) ?_; (with_reducible refine (arbiterref06_Chain.calls kj3 G_ a0 a1 t199 t200 _ ?side1 A9.out).mono ?_); (case side1 => repeat (first | (with_reducible exact HQa0.out) | (with_reducible refine ROK.alloc ?_ _) | (with_reducible refine ROK.drewN ?_ _) | (with_reducible refine ROK.drew ?_) | exact ROK.below HQa0.out HB.out | exact ROK.below HQa0.out (bX HB))); rintro e w16 ⟨v201, rfl, ho0, hb⟩; refine ⟨_, rfl, ?_⟩; have n0_ := Aside0.mk (Kd.R_lower ho0 (below_size (bX HB))); have n1_ := Aside0.mk (below_step (bX HB) hb); clear HB; have HO202 := n0_; have HB := n1_; clear n0_ n1_; (try clear hb); (try clear hb2); (try clear hk); (try clear hi); (try clear ho0); obtain ⟨Ao17, co17, eo17⟩ := Kd.R_slice HO202.out; subst eo17) | ((with_reducible refine gate_callee (f := 82) rfl ?_); refine goesL_ (some 27) rfl rfl Tryz.func82 (by kernel_rfl) rfl #[.slice Ao17 t199.length co17, .int .i64 a2] rfl (by (try simp only [List.map_toArray, List.map_cons, List.map_nil]); first | done | rfl | (simp only [List.length_drop, List.length_take]; rfl)) ?_; (with_reducible refine (arbiterref06_Has.calls kj3 _ _ t199 a2 false _ ?side1 ?side2 A10.out).mono ?_); (case side1 => repeat (first | exact (Kd.R_reads' HO202.out).2.2 | (with_reducible refine Kd.C_alloc ?_ _) | (with_reducible refine Kd.C_drewN ?_ _) | (with_reducible refine Kd.C_drew ?_))); (case side2 => exact (Kd.R_reads' HO202.out).2.1); rintro e w' ⟨rfl, ⟨nd, rfl⟩⟩; refine ⟨_, rfl, ?_⟩) | (go_at_call 83; (refine (arbiterref06_gather.calls kj3 G_ a0 a1 (fun k_ => some k_ = (.slice none 0 0 : Value).ownBlock) (.slice none 0 0) ([] : List Int) t204 w _ ?side1 HQa0.out ?side2 A14.out).mono ?_); (case side1 => repeat (first | (with_reducible first | exact HB.out | apply below_alloc | apply pw_below_drewN | apply below_drew1) | exact HB.out)); (case side2 => exact Kd.R_nil _ _ _ _ _); rintro e w18 ⟨v205, rfl, ho0, hb, hkp⟩; have n0_ := Aside0.mk (Kd.R_mono (ok' := fun k_ => some k_ ≠ (v205 : Value).ownBlock) (Kd.R_keptB (HO202.out) hkp (fun k_ hk_ hs_ => (fun e_ => by simp [Value.ownBlock] at e_) hs_)) (fun k_ hk_ => fun e_ => Or.elim (ho0.1 k_ e_.symm) (fun hs_ => hk_.2.1 hs_) (fun hn_ => Nat.not_le.2 hk_.2.2 hn_))); have n1_ := Aside0.mk (Kd.R_mono (ok' := fun k_ => some k_ ≠ (.slice Ao17 t199.length co17 : Value).ownBlock) ho0 (fun k_ hk_ => Or.elim hk_ (fun hs_ => absurd hs_ (by simp [Value.ownBlock])) (fun hn_ => (Kd.fresh' (Kd.R_lt (by (with_reducible repeat (first | apply Kd.R_alloc | apply Kd.R_drewN | apply Kd.R_drew)); exact HO202.out)) k_ hn_)))); have n2_ := Aside0.mk (hb); clear HO202; clear HB; have HO202 := n0_; have HO206 := n1_; have HB := n2_; clear n0_ n1_ n2_; (try clear hb); (try clear hkp); (try clear ho0); obtain ⟨Ao19, co19, eo19⟩ := Kd.R_slice HO206.out; subst eo19) | (go_at_call 82; (with_reducible refine (arbiterref06_Has.calls kj3 _ _ t204 a2 t207 _ ?side1 ?side2 A15.out).mono ?_); (case side1 => repeat (first | exact (Kd.R_reads' HO206.out).2.2 | (with_reducible refine Kd.C_alloc ?_ _) | (with_reducible refine Kd.C_drewN ?_ _) | (with_reducible refine Kd.C_drew ?_))); (case side2 => exact (Kd.R_reads' HO206.out).2.1); rintro e w' ⟨rfl, ⟨nd, rfl⟩⟩)); go_ret
     exact ⟨by first | rfl | (simp [errW_none, errW_some] <;> rfl) | (simp [*, errW_none, errW_some] <;> rfl), bX HB⟩
def arbiterref06_ByName.f (k : Nat) (a0 : List S69) (a1 : ByteArray) : Option (Int × Int) := (arbiterref06_named.f k a0 a1).bind fun t208 => (if t208 < 0 then (some (0, 6)) else (some (t208, 0)))
set_option maxHeartbeats 8000000 in
set_option maxRecDepth 100000 in
theorem arbiterref06_ByName.calls (k : Nat) (G_ : Nat) (a0 : List S69) (a1 : ByteArray) (r1 : Int) (r2 : Int) (w : World) (hq0 : ROK w G_ a0) (h : arbiterref06_ByName.f k a0 a1 = some (r1, r2)) :
  Calls Tryz.prog 42 #[.pointer (some ⟨G_, 0, none⟩), .string a1] w fun e w' => e = .returned (.tuple #[.int .i64 r1, .int .i64 r2]) ∧ Drawn0 w w' := by
 obtain ⟨AQa0, cQa0, hp0, hrq0, hcq0⟩ := ROK.open hq0; have HPa0 := Aside0.mk hp0; have HRqa0 := Aside0.mk hrq0; have HCqa0 := Aside0.mk hcq0; clear hp0 hrq0 hcq0; have HQa0 := Aside0.mk hq0; clear hq0; have H : ((arbiterref06_named.f k a0 a1).bind fun t208 => (if t208 < 0 then (some (0, 6)) else (some (t208, 0)))) = some (r1, r2) := h; clear h; replace H := Option.bind_eq_some_iff.mp H; obtain ⟨t208, A30, H⟩ := H; replace H : (if t208 < 0 then (some (0, 6)) else (some (t208, 0))) = some (r1, r2) := H; have A3 := Aside0.mk A30; clear A30
 by_cases c4 : t208 < 0
 ·rw [if_pos c4] at H
  have c4b0 : decide (t208 < 0) = true := decide_eq_true c4; clear c4; simp only [Option.some.injEq, Prod.mk.injEq] at H; obtain ⟨rfl, rfl⟩ := H; go_enter Tryz.func42, Tryz.ntmps42; go_wp2_with (first | ((with_reducible refine gate_callee (f := 67) rfl ?_); refine goesL_ (some 9) rfl rfl Tryz.func67 (by kernel_rfl) rfl #[.pointer (some ⟨G_, 0, none⟩), .string a1] rfl (by (try simp only [List.map_toArray, List.map_cons, List.map_nil]); first | done | rfl | (simp only [List.length_drop, List.length_take]; rfl)) ?_; (with_reducible refine (arbiterref06_named.calls k G_ a0 a1 t208 _ ?side1 A3.out).mono ?_); (case side1 => repeat (first | (with_reducible exact HQa0.out) | (with_reducible refine ROK.alloc ?_ _) | (with_reducible refine ROK.drewN ?_ _) | (with_reducible refine ROK.drew ?_) | exact ROK.below HQa0.out HB.out | exact ROK.below HQa0.out (bX HB))); rintro e w' ⟨rfl, ⟨nd, rfl⟩⟩; refine ⟨_, rfl, ?_⟩)); go_ret2
  exact ⟨by first | rfl | (simp; done) | (simp [*]; done), by repeat (first | exact Drawn0.refl _ | apply Drawn0.step)⟩
 ·rw [if_neg c4] at H
  have c4b0 : decide (t208 < 0) = false := decide_eq_false c4; clear c4; simp only [Option.some.injEq, Prod.mk.injEq] at H; obtain ⟨rfl, rfl⟩ := H; go_enter Tryz.func42, Tryz.ntmps42; go_wp2_with (first | ((with_reducible refine gate_callee (f := 67) rfl ?_); refine goesL_ (some 9) rfl rfl Tryz.func67 (by kernel_rfl) rfl #[.pointer (some ⟨G_, 0, none⟩), .string a1] rfl (by (try simp only [List.map_toArray, List.map_cons, List.map_nil]); first | done | rfl | (simp only [List.length_drop, List.length_take]; rfl)) ?_; (with_reducible refine (arbiterref06_named.calls k G_ a0 a1 t208 _ ?side1 A3.out).mono ?_); (case side1 => repeat (first | (with_reducible exact HQa0.out) | (with_reducible refine ROK.alloc ?_ _) | (with_reducible refine ROK.drewN ?_ _) | (with_reducible refine ROK.drew ?_) | exact ROK.below HQa0.out HB.out | exact ROK.below HQa0.out (bX HB))); rintro e w' ⟨rfl, ⟨nd, rfl⟩⟩; refine ⟨_, rfl, ?_⟩)); go_ret2
  exact ⟨by first | rfl | (simp; done) | (simp [*]; done), by repeat (first | exact Drawn0.refl _ | apply Drawn0.step)⟩
end Go.Proofs.YtmlifggklaeieaaGreatDoor.Pt

namespace Go.Proofs.YtmlifggklaeieaaGreatDoor.Pt
open Go Go.RowKit Go.Proofs.YtmlifggklaeieaaGreatDoor.Nm Go.Proofs.YtmlifggklaeieaaGreatDoor.Ty Go.Proofs.YtmlifggklaeieaaGreatDoor.Hi Go.Proofs.YtmlifggklaeieaaGreatDoorW.PrintWords
set_option linter.unusedVariables false
set_option linter.unusedSimpArgs false
theorem byname_ok (es : List Ent) (hl : es.length ≤ 1000) (s : ByteArray) (k : Nat) (hk : es.length < k) : arbiterref06_ByName.f k (csOf es) s = some (nameF es s) := by
 unfold arbiterref06_ByName.f; rw [named_ok es hl s k hk, Option.bind_some]
 by_cases h : (nameF es s).2 = 0
 ·rw [if_neg (fun h2 => (rnm_neg es s).1 h2 h)]
  have e : rnm es s = (nameF es s).1 := if_pos h; rw [e, ← h]
 ·rw [if_pos ((rnm_neg es s).2 h), (nameF_not h).1]
theorem has_l0 (l : List Int) (hl : l.length ≤ 1000) (a : Int) : ∀ (d i k : Nat), i ≤ l.length → l.length - i ≤ d → d < k → arbiterref06_Has.l0 k l a i = some (decide (a ∈ l.drop i)) := by
 intro d
 induction d with
 | zero =>
  intro i k hi hd hk
  obtain ⟨k, rfl⟩ : ∃ m, k = m + 1 := ⟨k - 1, by omega⟩
  simp only [arbiterref06_Has.l0]; rw [if_neg (by omega), List.drop_eq_nil_of_le (by omega)]; simp
 | succ d ih =>
  intro i k hi hd hk
  obtain ⟨k, rfl⟩ : ∃ m, k = m + 1 := ⟨k - 1, by omega⟩
  simp only [arbiterref06_Has.l0]
  by_cases hlt : i < l.length
  ·rw [if_pos (by omega), if_pos (by omega), List.drop_eq_getElem_cons hlt]
   have he : Go.Proofs.YtmlifggklaeieaaGreatDoorW.PrintWords.rd l (i : Int) = l[i] := by
    simp [Go.Proofs.YtmlifggklaeieaaGreatDoorW.PrintWords.rd, List.getD_eq_getElem?_getD, List.getElem?_eq_getElem hlt]
   rw [he]
   by_cases h : l[i] = a
   ·rw [if_pos h, decide_eq_true (by rw [h]; exact List.mem_cons_self)]
   ·rw [if_neg h, num_wrap (by omega), ih (i + 1) k (by omega) (by omega) (by omega)]
    congr 1
    rw [decide_eq_decide, List.mem_cons]
    exact ⟨.inr, fun h2 => h2.resolve_left (fun e => h e.symm)⟩
  ·rw [if_neg (by omega), List.drop_eq_nil_of_le (by omega)]
   simp
theorem has_ok (l : List Int) (hl : l.length ≤ 1000) (a : Int) (k : Nat) (hk : l.length < k) : arbiterref06_Has.f k l a = some (decide (a ∈ l)) := by
 unfold arbiterref06_Has.f; have := has_l0 l hl a l.length 0 k (by omega) (by omega) hk; rw [show ((0 : Nat) : Int) = 0 from rfl, List.drop_zero] at this
 exact this
theorem rnm_of {es : List Ent} (h : Thy es) {i : Int} (h0 : 0 ≤ i) (h1 : i < es.length) : rnm es (ent es i).c.f0 = i := by
 unfold rnm; rw [nameF_of h h0 h1, if_pos rfl]
theorem rnm_sup {es : List Ent} (h : Thy es) {i : Int} (h0 : 1 ≤ i) (h1 : i < es.length) : rnm es (ent es i).c.f1 = (ent es i).above ∧ 0 ≤ (ent es i).above ∧ (ent es i).above < i := by
 obtain ⟨a1, a2, _, _⟩ := h.sup _ _ (get_ent (by omega) h1) (by omega); rw [← (h.src_ (by omega) h1).sup h0, rnm_of h a1 (by omega)]
 exact ⟨rfl, a1, by omega⟩
theorem anc_up {es : List Ent} (h : Thy es) {i b : Int} (h0 : 1 ≤ i) (h1 : i < es.length) : Anc es i b ↔ b = i ∨ Anc es (ent es i).above b := by
 constructor
 ·intro ha
  cases ha with
  | refl => exact .inl rfl
  | up _ _ _ h2 => exact .inr h2
 ·rintro (rfl | h2)
  ·exact .refl _
  ·exact .up _ _ (rnm_sup h h0 h1).2.1 h2
theorem anc_zero {es : List Ent} (h : Thy es) {b : Int} : Anc es 0 b ↔ b = 0 := by
 constructor
 ·intro ha
  cases ha with
  | refl => rfl
  | up _ _ h2 _ =>
   rw [h.obj.1] at h2
   exact absurd h2 (by decide)
 ·rintro rfl
  exact .refl _
theorem chain_l0 {es : List Ent} (h : Thy es) (hl : es.length ≤ 1000) : ∀ (n : Nat) (i : Int) (acc : List Int) (k : Nat), 0 ≤ i → i < es.length → i.toNat ≤ n → n + es.length + 2 < k → acc.length + n ≤ 10000 →
  ∃ t : List Int, arbiterref06_Chain.l0 k (csOf es) i acc = some (acc ++ t, 0) ∧ t.length ≤ n ∧ ∀ b, (b = i ∨ b ∈ t) ↔ Anc es i b := by
 intro n
 induction n with
 | zero =>
  intro i acc k h0 h1 hn hk ha
  obtain ⟨k, rfl⟩ : ∃ m, k = m + 1 := ⟨k - 1, by omega⟩
  have e0 : i = 0 := by omega
  subst e0; refine ⟨[], ?_, by simp, fun b => ?_⟩
  ·simp only [arbiterref06_Chain.l0]
   rw [if_pos trivial, List.append_nil]
  ·rw [anc_zero h]; simp
 | succ n ih =>
  intro i acc k h0 h1 hn hk ha
  obtain ⟨k, rfl⟩ : ∃ m, k = m + 1 := ⟨k - 1, by omega⟩
  by_cases e0 : i = 0
  ·subst e0
   refine ⟨[], ?_, by simp, fun b => ?_⟩
   ·simp only [arbiterref06_Chain.l0]
    rw [if_pos trivial, List.append_nil]
   ·rw [anc_zero h]; simp
  ·obtain ⟨r1, r2, r3⟩ := rnm_sup h (by omega : 1 ≤ i) h1
   obtain ⟨t, e, ht, hb⟩ := ih (ent es i).above (acc ++ [(ent es i).above]) k r2 (by omega) (by omega) (by omega) (by simp; omega); refine ⟨(ent es i).above :: t, ?_, by simp; omega, fun b => ?_⟩
   ·simp only [arbiterref06_Chain.l0]
    rw [if_neg e0, if_pos h0, cs_len, if_pos h1, cs_rd h0 h1, named_ok es hl _ k (by omega), Option.bind_some, r1, if_pos (by omega), e]; simp
   ·rw [anc_up h (by omega) h1, ← hb b, List.mem_cons]
theorem chain_ok {es : List Ent} (h : Thy es) (hl : es.length ≤ 1000) {i : Int} (h0 : 0 ≤ i) (h1 : i < es.length) (k : Nat) (hk : 2 * es.length + 2 < k) :
  ∃ t : List Int, arbiterref06_Chain.f k (csOf es) i = some (t, 0) ∧ t.length ≤ es.length ∧ ∀ b, b ∈ t ↔ Anc es i b := by
 obtain ⟨t, e, ht, hb⟩ := chain_l0 h hl i.toNat i [i] k h0 h1 (Nat.le_refl _) (by omega) (by simp; omega); refine ⟨i :: t, ?_, by simp; omega, fun b => by rw [List.mem_cons]; exact hb b⟩; unfold arbiterref06_Chain.f; rw [in_ok, Option.bind_some, show inB es i = true from decide_eq_true ⟨h0, h1⟩, if_pos rfl, e]
 rfl
structure Shut (es : List Ent) (l : List Int) : Prop where
 rng : Rng es.length l
 up : ∀ j ∈ l, ∀ k ∈ (ent es j).clo, k ∈ l
theorem rng_snoc {n : Nat} {l : List Int} (h : Rng n l) {i : Int} (h0 : 0 ≤ i) (h1 : i < n) (hi : i ∉ l) : Rng n (l ++ [i]) := by
 have := h.add h0 h1; unfold addI at this
 rwa [if_neg (by simpa using hi)] at this
theorem gather_ok {es : List Ent} (h : Thy es) (hl : es.length ≤ 1000) : ∀ (n : Nat) (i : Int) (l : List Int) (k : Nat), 0 ≤ i → i < es.length → i.toNat ≤ n → 30 * n + 2000 < k → Shut es l →
    ∃ r : List Int, arbiterref06_gather.f k (csOf es) i l = some r ∧ Shut es r ∧ ∀ b, b ∈ r ↔ b ∈ l ∨ b ∈ (ent es i).clo := by
  intro n
  induction n with
  | zero =>
    intro i l k h0 h1 hn hk hs
    obtain ⟨k, rfl⟩ : ∃ m, k = m + 3 := ⟨k - 3, by omega⟩
    have e0 : i = 0 := by omega
    subst e0
    refine ⟨l, ?_, hs, fun b => by rw [h.obj.1]; simp⟩
    rw [arbiterref06_gather.f, if_pos rfl, arbiterref06_gather.j0, arbiterref06_gather.l0, if_pos h0, cs_len, if_pos h1, cs_rd h0 h1, h.obj.1, if_neg (by decide)]
  | succ n ih =>
    intro i l k h0 h1 hn hk hs
    by_cases e0 : i = 0
    · obtain ⟨k, rfl⟩ : ∃ m, k = m + 3 := ⟨k - 3, by omega⟩
      subst e0
      refine ⟨l, ?_, hs, fun b => by rw [h.obj.1]; simp⟩
      rw [arbiterref06_gather.f, if_pos rfl, arbiterref06_gather.j0, arbiterref06_gather.l0, if_pos h0, cs_len, if_pos h1, cs_rd h0 h1, h.obj.1, if_neg (by decide)]
    · obtain ⟨k, rfl⟩ : ∃ m, k = m + 2 := ⟨k - 2, by omega⟩
      obtain ⟨r1, r2, r3⟩ := rnm_sup h (by omega : 1 ≤ i) h1
      obtain ⟨u, eu, su, mu⟩ := ih (ent es i).above l (k + 1) r2 (by omega) (by omega) (by omega) hs
      have S := h.src_ h0 h1
      have hx := get_ent h0 h1
      -- the rounds over the interfaces
      have hloop : ∀ (d j kk : Nat) (acc : List Int), j ≤ (ent es i).c.f2.length → (ent es i).c.f2.length - j ≤ d → 30 * n + 2000 + d < kk → Shut es acc → (∀ b, b ∈ acc → b ∈ l ∨ b ∈ (ent es i).clo) → (∀ b, b ∈ u → b ∈ acc) →
          (∀ m ∈ (ent es i).c.f2.take j, ∀ q, 0 ≤ q → q < i → (ent es q).c.f0 = m → q ∈ acc) →
          ∃ r : List Int, arbiterref06_gather.l0 kk (csOf es) i acc j = some r ∧ Shut es r ∧ (∀ b, b ∈ r → b ∈ l ∨ b ∈ (ent es i).clo) ∧ (∀ b, b ∈ u → b ∈ r) ∧ (∀ m ∈ (ent es i).c.f2, ∀ q, 0 ≤ q → q < i → (ent es q).c.f0 = m → q ∈ r) := by
        intro d
        induction d with
        | zero =>
          intro j kk acc hj hd hkk hsa hin hu htk
          obtain ⟨kk, rfl⟩ : ∃ m, kk = m + 1 := ⟨kk - 1, by omega⟩
          have hje : j = (ent es i).c.f2.length := by omega
          refine ⟨acc, ?_, hsa, hin, hu, fun m hm => htk m (by rw [hje, List.take_length]; exact hm)⟩
          rw [arbiterref06_gather.l0, if_pos h0, cs_len, if_pos h1, cs_rd h0 h1, if_neg (by omega)]
        | succ d ihd =>
          intro j kk acc hj hd hkk hsa hin hu htk
          obtain ⟨kk, rfl⟩ : ∃ m, kk = m + 1 := ⟨kk - 1, by omega⟩
          by_cases hlt : j < (ent es i).c.f2.length
          · have hm : rdOf ByteArray.empty (ent es i).c.f2 (j : Int) = (ent es i).c.f2[j] := by
              simp [rdOf, List.getD_eq_getElem?_getD, List.getElem?_eq_getElem hlt]
            obtain ⟨q, q0, q1, q2, q3, q4⟩ := S.ifs _ (List.getElem_mem hlt)
            have hq : rnm es ((ent es i).c.f2[j]) = q := by rw [← q2]; exact rnm_of h q0 (by omega)
            have hacc : acc.length ≤ es.length := hsa.rng.len
            rw [arbiterref06_gather.l0, if_pos h0, cs_len, if_pos h1, cs_rd h0 h1, if_pos (by omega), if_pos (by omega), hm, named_ok es hl _ kk (by omega), Option.bind_some, hq, has_ok acc (by omega) q kk (by omega), Option.bind_some]
            have hnew : ∀ acc' : List Int, (∀ b, b ∈ acc → b ∈ acc') → q ∈ acc' → ∀ m ∈ (ent es i).c.f2.take (j + 1), ∀ p, 0 ≤ p → p < i → (ent es p).c.f0 = m → p ∈ acc' := by
              intro acc' hsub hqa m hm2 p p0 p1 p2
              rw [List.take_succ_eq_append_getElem hlt, List.mem_append, List.mem_singleton] at hm2
              rcases hm2 with hm2 | rfl
              · exact hsub _ (htk m hm2 p p0 p1 p2)
              · have : p = q := h.name_inj p0 (by omega) q0 (by omega) (by rw [p2, q2])
                rw [this]; exact hqa
            by_cases hc : q ∈ acc
            · rw [decide_eq_true hc, if_pos rfl, num_wrap (by have := S.len; omega)]
              exact ihd (j + 1) kk acc (by omega) (by omega) (by omega) hsa hin hu (hnew acc (fun _ hb => hb) hc)
            · rw [decide_eq_false hc, if_neg (by decide)]
              obtain ⟨v, ev, sv, mv⟩ := ih q acc kk q0 (by omega) (by omega) (by omega) hsa
              rw [ev, Option.bind_some]
              have hv := sv.rng.len
              rw [if_pos (by omega), num_wrap (by have := S.len; omega)]
              have hqv : q ∉ v := by
                intro hqv
                rcases (mv q).1 hqv with h3 | h3
                · exact hc h3
                · have := h.clo _ _ (get_ent q0 (by omega)) q h3
                  omega
              refine ihd (j + 1) kk (v ++ [q]) (by omega) (by omega) (by omega) ⟨rng_snoc sv.rng q0 (by omega) hqv, fun a ha b hb => ?_⟩ (fun b hb => ?_) (fun b hb => ?_) (hnew _ (fun b hb => ?_) (by simp))
              · rw [List.mem_append, List.mem_singleton] at ha ⊢
                rcases ha with ha | rfl
                · exact .inl (sv.up a ha b hb)
                · exact .inl ((mv b).2 (.inr hb))
              · rw [List.mem_append, List.mem_singleton] at hb
                rcases hb with hb | rfl
                · rcases (mv b).1 hb with hb | hb
                  · exact hin b hb
                  · exact .inr ((h.clo _ _ hx q q4).2.2.2 b hb)
                · exact .inr q4
              · exact List.mem_append_left _ ((mv b).2 (.inl (hu b hb)))
              · exact List.mem_append_left _ ((mv b).2 (.inl hb))
          · have hje : j = (ent es i).c.f2.length := by omega
            refine ⟨acc, ?_, hsa, hin, hu, fun m hm => htk m (by rw [hje, List.take_length]; exact hm)⟩
            rw [arbiterref06_gather.l0, if_pos h0, cs_len, if_pos h1, cs_rd h0 h1, if_neg (by omega)]
      have hsl := S.len
      obtain ⟨r, er, sr, rin, ru, rifs⟩ := hloop (ent es i).c.f2.length 0 k u (by omega) (by omega) (by omega) su (fun b hb => ((mu b).1 hb).imp id (fun hb => h.up _ _ hx (by omega) b hb)) (fun b hb => hb) (fun m hm => by simp at hm)
      refine ⟨r, ?_, sr, fun b => ⟨rin b, ?_⟩⟩
      · rw [arbiterref06_gather.f, if_neg e0, if_pos h0, cs_len, if_pos h1, cs_rd h0 h1, named_ok es hl _ (k + 1) (by omega), Option.bind_some, r1, eu, Option.bind_some, arbiterref06_gather.j0]
        exact er
      · rintro (hb | hb)
        · exact ru b ((mu b).2 (.inl hb))
        · rcases S.clo (by omega) b hb with hb | ⟨m, hm, q, q0, q1, q2, hb⟩
          · exact ru b ((mu b).2 (.inr hb))
          · have hq := rifs m hm q q0 q1 q2
            rcases hb with rfl | hb
            · exact hq
            · exact sr.up q hq b hb
theorem anc_class {es : List Ent} (h : Thy es) {a b : Int} (hab : Anc es a b) : 0 ≤ a → a < es.length → b = a ∨ isI (ent es b).c = false := by
 induction hab with
 | refl => exact fun _ _ => .inl rfl
 | up a b h2 _ ih =>
  intro h0 h1
  by_cases e0 : a = 0
  ·subst e0
   rw [h.obj.1] at h2
   exact absurd h2 (by decide)
  ·obtain ⟨a1, a2, a3, a4⟩ := h.sup _ _ (get_ent h0 h1) (by omega)
   rcases ih a1 (by omega) with rfl | h3
   ·exact .inr a3
   ·exact .inr h3
theorem ext_ok {es : List Ent} (h : Thy es) (hl : es.length ≤ 1000) (a b : Int) (k : Nat) (hk : 30 * es.length + 2010 < k) : arbiterref06_Extends.f k (csOf es) a b = some (extF es a b) := by
 unfold arbiterref06_Extends.f
 obtain ⟨k, rfl⟩ : ∃ m, k = m + 1 := ⟨k - 1, by omega⟩
 rw [in_ok, Option.bind_some]
 by_cases ha : 0 ≤ a ∧ a < es.length
 ·rw [show inB es a = true from decide_eq_true ha, if_pos rfl, in_ok, Option.bind_some]
  by_cases hb : 0 ≤ b ∧ b < es.length
  ·rw [show inB es b = true from decide_eq_true hb, arbiterref06_Extends.j0, if_neg (by decide)]
   obtain ⟨t, et, lt, mt⟩ := chain_ok h hl ha.1 ha.2 k (by omega); rw [et, Option.bind_some]
   show (arbiterref06_Has.f k t b).bind _ = _
   rw [has_ok t (by omega) b k (by omega), Option.bind_some]; have hE := extF_iff h.good.tree ha.1 ha.2 hb.1 hb.2
   by_cases hc : b ∈ t
   ·rw [decide_eq_true hc, if_pos rfl]
    have hA := (mt b).1 hc
    congr 1
    symm; rw [hE]
    rcases anc_class h hA ha.1 ha.2 with rfl | hn
    ·exact h.ext_refl _
    ·exact .inr ⟨hn, hA⟩
   ·rw [decide_eq_false hc, if_neg (by decide)]
    obtain ⟨r, er, sr, mr⟩ := gather_ok h hl a.toNat a [] k ha.1 ha.2 (Nat.le_refl _) (by omega) ⟨Rng.nil _, fun j hj => by cases hj⟩; have hrl := sr.rng.len; rw [er, Option.bind_some, has_ok r (by omega) b k (by omega), Option.bind_some]
    congr 1
    rw [Bool.eq_iff_iff, decide_eq_true_iff, hE, mr b]
    constructor
    ·rintro (h3 | h3)
     ·cases h3
     ·exact .inl ⟨(h.clo _ _ (get_ent ha.1 ha.2) b h3).2.2.1, .inr h3⟩
    ·rintro (⟨_, rfl | h3⟩ | ⟨_, h3⟩)
     ·exact absurd ((mt _).2 (.refl _)) hc
     ·exact .inr h3
     ·exact absurd ((mt b).2 h3) hc
  ·rw [show inB es b = false from decide_eq_false hb, arbiterref06_Extends.j0]
   unfold extF; rw [show inB es b = false from decide_eq_false hb, Bool.and_false]
   rfl
 ·rw [show inB es a = false from decide_eq_false ha, if_neg (by decide), arbiterref06_Extends.j0]
  unfold extF; rw [show inB es a = false from decide_eq_false ha, Bool.false_and]
  rfl
end Go.Proofs.YtmlifggklaeieaaGreatDoor.Pt

namespace Go.Proofs.YtmlifggklaeieaaGreatDoor.Pt
open Go.RowKit Go.Proofs.YtmlifggklaeieaaGreatDoorW.PrintWords Go.Proofs.YtmlifggklaeieaaGreatDoorW.PrintLast Go.Proofs.YtmlifggklaeieaaGreatDoorW.PrintMore
attribute [local go_sem] max2_int min2_int max_two min_two max_three min_three max_four min_four   -- for this text's walks alone
set_option linter.unusedVariables false
set_option linter.unusedSimpArgs false
def arbiterref07_Loaded.f (k : Nat) (a0 : List S69) (a1_0 : Int) (a1_1 : ByteArray) : Option (Int) := (arbiterref02_Check.f a1_0 a1_1).bind fun t210 => (if t210 = 0 then (if a1_1.toList = ([] : List UInt8) then (some 0) else ((arbiterref06_ByName.f k a0 a1_1).bind fun bt211 => (if bt211.2 = 0 then (some 0) else (some 20)))) else (some 1))
set_option maxHeartbeats 8000000 in
set_option maxRecDepth 100000 in
theorem arbiterref07_Loaded.calls (k : Nat) (G_ : Nat) (a0 : List S69) (a1_0 : Int) (a1_1 : ByteArray) (r : Int) (w : World) (hq0 : ROK w G_ a0) (h : arbiterref07_Loaded.f k a0 a1_0 a1_1 = some r) :
  Calls Tryz.prog 14 #[.pointer (some ⟨G_, 0, none⟩), .agg #[.int .i64 a1_0, .string a1_1]] w fun e w' => e = .returned (.int .i64 r) ∧ Below w.heap.size w w' := by
 have hu24 := Tryz.underlying24; obtain ⟨AQa0, cQa0, hp0, hrq0, hcq0⟩ := ROK.open hq0; have HPa0 := Aside0.mk hp0; have HRqa0 := Aside0.mk hrq0; have HCqa0 := Aside0.mk hcq0; clear hp0 hrq0 hcq0; have HQa0 := Aside0.mk hq0; clear hq0; have HB := Aside0.mk (Below.refl w.heap.size w); have H : ((arbiterref02_Check.f a1_0 a1_1).bind fun t210 => (if t210 = 0 then (if a1_1.toList = ([] : List UInt8) then (some 0) else ((arbiterref06_ByName.f k a0 a1_1).bind fun bt211 => (if bt211.2 = 0 then (some 0) else (some 20)))) else (some 1))) = some r := h; clear h; replace H := Option.bind_eq_some_iff.mp H; obtain ⟨t210, A30, H⟩ := H; replace H : (if t210 = 0 then (if a1_1.toList = ([] : List UInt8) then (some 0) else ((arbiterref06_ByName.f k a0 a1_1).bind fun bt211 => (if bt211.2 = 0 then (some 0) else (some 20)))) else (some 1)) = some r := H; have A3 := Aside0.mk A30; clear A30
 by_cases c4 : t210 = 0
 ·rw [if_pos c4] at H
  have c4b0 : (t210 == 0) = true := beq_iff_eq.mpr c4; have c4b1 : (t210 != 0) = false := bne_eq_false_iff_eq.mpr c4; clear c4
  by_cases c5 : a1_1.toList = ([] : List UInt8)
  ·rw [if_pos c5] at H
   have c5b0 : (a1_1.toList == ([] : List UInt8)) = true := beq_iff_eq.mpr c5; have c5b1 : (a1_1.toList != ([] : List UInt8)) = false := bne_eq_false_iff_eq.mpr c5; clear c5; obtain rfl := Option.some.inj H; go_enter Tryz.func14, Tryz.ntmps14; go_wp2_with (first | ((with_reducible refine gate_dst (N := 3) rfl ?_); refine box_event ?hg (N := 3) ?hd (cs := #[.int .i64 a1_0, .string a1_1]) (t := 24) ?hr ?_; (case hd => rfl); (case hg => rfl); (case hr => first | (go_simp; done) | (go_simp; rfl)); intro gb209 hg w6 hbox hb; have n0_ := Aside0.mk (below_step (bX HB) hb); have n1_ := Aside0.mk (hbox); have n2_ := Aside0.mk ((by rw [hg]; exact (below_size (bX HB)) : w.heap.size ≤ gb209)); have n3_ := Aside0.mk ((by rw [hg]; exact (below_size (bX HB)) : w.heap.size ≤ gb209)); clear HB; have HB := n0_; have BK209 := n1_; have GW209 := n2_; have GE209 := n3_; clear n0_ n1_ n2_ n3_; clear hb hbox hg; have hcz7_0 : w6.cell? ⟨gb209, 0, none⟩ = some (.int .i64 a1_0) := (blk_cell BK209.out 0).trans rfl; have hcz7_1 : w6.cell? ⟨gb209, 1, none⟩ = some (.string a1_1) := (blk_cell BK209.out 1).trans rfl; have hfz7_0 := blk_frozen BK209.out 0; have hfz7_1 := blk_frozen BK209.out 1) | ((with_reducible refine gate_callee (f := 41) rfl ?_); refine goesL_ (some 8) rfl rfl Tryz.func41 (by kernel_rfl) rfl #[.agg #[.int .i64 a1_0, .string a1_1]] rfl (by (try simp only [List.map_toArray, List.map_cons, List.map_nil]); first | done | rfl | (simp only [List.length_drop, List.length_take]; rfl)) ?_; (with_reducible refine (arbiterref02_Check.calls a1_0 a1_1 t210 _ A3.out).mono ?_); rintro e w8 ⟨rfl, hb⟩; refine ⟨_, rfl, ?_⟩; have n0_ := Aside0.mk (blk_below (kX BK209) hb); have n1_ := Aside0.mk (below_step (bX1 HB GE209) hb); clear BK209; clear HB; have BK209 := n0_; have HB := n1_; clear n0_ n1_; (try clear hb); (try clear hb2); (try clear hk); (try clear hi); have hcz9_0 : w8.cell? ⟨gb209, 0, none⟩ = some (.int .i64 a1_0) := (blk_cell BK209.out 0).trans rfl; have hcz9_1 : w8.cell? ⟨gb209, 1, none⟩ = some (.string a1_1) := (blk_cell BK209.out 1).trans rfl; have hfz9_0 := blk_frozen BK209.out 0; have hfz9_1 := blk_frozen BK209.out 1)); go_ret
   exact ⟨by first | rfl | (simp [errW_none, errW_some] <;> rfl) | (simp [*, errW_none, errW_some] <;> rfl), bX1 HB GE209⟩
  ·rw [if_neg c5] at H
   have c5b0 : (a1_1.toList == ([] : List UInt8)) = false := beq_eq_false_iff_ne.mpr c5; have c5b1 : (a1_1.toList != ([] : List UInt8)) = true := bne_iff_ne.mpr c5; replace H := Option.bind_eq_some_iff.mp H; obtain ⟨⟨t211, t212⟩, A100, H⟩ := H; replace H : (if t212 = 0 then (some 0) else (some 20)) = some r := H; have A10 := Aside0.mk A100; clear A100
   by_cases c11 : t212 = 0
   ·rw [if_pos c11] at H
    have c11b0 : (t212 == 0) = true := beq_iff_eq.mpr c11; have c11b1 : (t212 != 0) = false := bne_eq_false_iff_eq.mpr c11; clear c11; obtain rfl := Option.some.inj H; go_enter Tryz.func14, Tryz.ntmps14; go_wp2_with (first | ((with_reducible refine gate_dst (N := 3) rfl ?_); refine box_event ?hg (N := 3) ?hd (cs := #[.int .i64 a1_0, .string a1_1]) (t := 24) ?hr ?_; (case hd => rfl); (case hg => rfl); (case hr => first | (go_simp; done) | (go_simp; rfl)); intro gb209 hg w12 hbox hb; have n0_ := Aside0.mk (below_step (bX HB) hb); have n1_ := Aside0.mk (hbox); have n2_ := Aside0.mk ((by rw [hg]; exact (below_size (bX HB)) : w.heap.size ≤ gb209)); have n3_ := Aside0.mk ((by rw [hg]; exact (below_size (bX HB)) : w.heap.size ≤ gb209)); clear HB; have HB := n0_; have BK209 := n1_; have GW209 := n2_; have GE209 := n3_; clear n0_ n1_ n2_ n3_; clear hb hbox hg; have hcz13_0 : w12.cell? ⟨gb209, 0, none⟩ = some (.int .i64 a1_0) := (blk_cell BK209.out 0).trans rfl; have hcz13_1 : w12.cell? ⟨gb209, 1, none⟩ = some (.string a1_1) := (blk_cell BK209.out 1).trans rfl; have hfz13_0 := blk_frozen BK209.out 0; have hfz13_1 := blk_frozen BK209.out 1) | ((with_reducible refine gate_callee (f := 41) rfl ?_); refine goesL_ (some 8) rfl rfl Tryz.func41 (by kernel_rfl) rfl #[.agg #[.int .i64 a1_0, .string a1_1]] rfl (by (try simp only [List.map_toArray, List.map_cons, List.map_nil]); first | done | rfl | (simp only [List.length_drop, List.length_take]; rfl)) ?_; (with_reducible refine (arbiterref02_Check.calls a1_0 a1_1 t210 _ A3.out).mono ?_); rintro e w14 ⟨rfl, hb⟩; refine ⟨_, rfl, ?_⟩; have n0_ := Aside0.mk (blk_below (kX BK209) hb); have n1_ := Aside0.mk (below_step (bX1 HB GE209) hb); clear BK209; clear HB; have BK209 := n0_; have HB := n1_; clear n0_ n1_; (try clear hb); (try clear hb2); (try clear hk); (try clear hi); have hcz15_0 : w14.cell? ⟨gb209, 0, none⟩ = some (.int .i64 a1_0) := (blk_cell BK209.out 0).trans rfl; have hcz15_1 : w14.cell? ⟨gb209, 1, none⟩ = some (.string a1_1) := (blk_cell BK209.out 1).trans rfl; have hfz15_0 := blk_frozen BK209.out 0; have hfz15_1 := blk_frozen BK209.out 1) | ((with_reducible refine gate_callee (f := 42) rfl ?_); refine goesL_ (some 17) rfl rfl Tryz.func42 (by kernel_rfl) rfl #[.pointer (some ⟨G_, 0, none⟩), .string a1_1] rfl (by (try simp only [List.map_toArray, List.map_cons, List.map_nil]); first | done | rfl | (simp only [List.length_drop, List.length_take]; rfl)) ?_; (with_reducible refine (arbiterref06_ByName.calls k G_ a0 a1_1 t211 t212 _ ?side1 A10.out).mono ?_); (case side1 => repeat (first | (with_reducible exact HQa0.out) | (with_reducible refine ROK.alloc ?_ _) | (with_reducible refine ROK.drewN ?_ _) | (with_reducible refine ROK.drew ?_) | exact ROK.below HQa0.out HB.out | exact ROK.below HQa0.out (bX1 HB GE209))); rintro e w' ⟨rfl, ⟨nd, rfl⟩⟩; refine ⟨_, rfl, ?_⟩)); go_ret
    exact ⟨by first | rfl | (simp [errW_none, errW_some] <;> rfl) | (simp [*, errW_none, errW_some] <;> rfl), bX1 HB GE209⟩
   ·rw [if_neg c11] at H
    have c11b0 : (t212 == 0) = false := beq_eq_false_iff_ne.mpr c11; have c11b1 : (t212 != 0) = true := bne_iff_ne.mpr c11; obtain rfl := Option.some.inj H; go_enter Tryz.func14, Tryz.ntmps14; go_wp2_with (first | ((with_reducible refine gate_dst (N := 3) rfl ?_); refine box_event ?hg (N := 3) ?hd (cs := #[.int .i64 a1_0, .string a1_1]) (t := 24) ?hr ?_; (case hd => rfl); (case hg => rfl); (case hr => first | (go_simp; done) | (go_simp; rfl)); intro gb209 hg w16 hbox hb; have n0_ := Aside0.mk (below_step (bX HB) hb); have n1_ := Aside0.mk (hbox); have n2_ := Aside0.mk ((by rw [hg]; exact (below_size (bX HB)) : w.heap.size ≤ gb209)); have n3_ := Aside0.mk ((by rw [hg]; exact (below_size (bX HB)) : w.heap.size ≤ gb209)); clear HB; have HB := n0_; have BK209 := n1_; have GW209 := n2_; have GE209 := n3_; clear n0_ n1_ n2_ n3_; clear hb hbox hg; have hcz17_0 : w16.cell? ⟨gb209, 0, none⟩ = some (.int .i64 a1_0) := (blk_cell BK209.out 0).trans rfl; have hcz17_1 : w16.cell? ⟨gb209, 1, none⟩ = some (.string a1_1) := (blk_cell BK209.out 1).trans rfl; have hfz17_0 := blk_frozen BK209.out 0; have hfz17_1 := blk_frozen BK209.out 1) | ((with_reducible refine gate_callee (f := 41) rfl ?_); refine goesL_ (some 8) rfl rfl Tryz.func41 (by kernel_rfl) rfl #[.agg #[.int .i64 a1_0, .string a1_1]] rfl (by (try simp only [List.map_toArray, List.map_cons, List.map_nil]); first | done | rfl | (simp only [List.length_drop, List.length_take]; rfl)) ?_; (with_reducible refine (arbiterref02_Check.calls a1_0 a1_1 t210 _ A3.out).mono ?_); rintro e w18 ⟨rfl, hb⟩; refine ⟨_, rfl, ?_⟩; have n0_ := Aside0.mk (blk_below (kX BK209) hb); have n1_ := Aside0.mk (below_step (bX1 HB GE209) hb); clear BK209; clear HB; have BK209 := n0_; have HB := n1_; clear n0_ n1_; (try clear hb); (try clear hb2); (try clear hk); (try clear hi); have hcz19_0 : w18.cell? ⟨gb209, 0, none⟩ = some (.int .i64 a1_0) := (blk_cell BK209.out 0).trans rfl; have hcz19_1 : w18.cell? ⟨gb209, 1, none⟩ = some (.string a1_1) := (blk_cell BK209.out 1).trans rfl; have hfz19_0 := blk_frozen BK209.out 0; have hfz19_1 := blk_frozen BK209.out 1) | ((with_reducible refine gate_callee (f := 42) rfl ?_); refine goesL_ (some 17) rfl rfl Tryz.func42 (by kernel_rfl) rfl #[.pointer (some ⟨G_, 0, none⟩), .string a1_1] rfl (by (try simp only [List.map_toArray, List.map_cons, List.map_nil]); first | done | rfl | (simp only [List.length_drop, List.length_take]; rfl)) ?_; (with_reducible refine (arbiterref06_ByName.calls k G_ a0 a1_1 t211 t212 _ ?side1 A10.out).mono ?_); (case side1 => repeat (first | (with_reducible exact HQa0.out) | (with_reducible refine ROK.alloc ?_ _) | (with_reducible refine ROK.drewN ?_ _) | (with_reducible refine ROK.drew ?_) | exact ROK.below HQa0.out HB.out | exact ROK.below HQa0.out (bX1 HB GE209))); rintro e w' ⟨rfl, ⟨nd, rfl⟩⟩; refine ⟨_, rfl, ?_⟩)); go_ret
    exact ⟨by first | rfl | (simp [errW_none, errW_some] <;> rfl) | (simp [*, errW_none, errW_some] <;> rfl), bX1 HB GE209⟩
 ·rw [if_neg c4] at H
  have c4b0 : (t210 == 0) = false := beq_eq_false_iff_ne.mpr c4; have c4b1 : (t210 != 0) = true := bne_iff_ne.mpr c4; obtain rfl := Option.some.inj H; go_enter Tryz.func14, Tryz.ntmps14; go_wp2_with (first | ((with_reducible refine gate_dst (N := 3) rfl ?_); refine box_event ?hg (N := 3) ?hd (cs := #[.int .i64 a1_0, .string a1_1]) (t := 24) ?hr ?_; (case hd => rfl); (case hg => rfl); (case hr => first | (go_simp; done) | (go_simp; rfl)); intro gb209 hg w20 hbox hb; have n0_ := Aside0.mk (below_step (bX HB) hb); have n1_ := Aside0.mk (hbox); have n2_ := Aside0.mk ((by rw [hg]; exact (below_size (bX HB)) : w.heap.size ≤ gb209)); have n3_ := Aside0.mk ((by rw [hg]; exact (below_size (bX HB)) : w.heap.size ≤ gb209)); clear HB; have HB := n0_; have BK209 := n1_; have GW209 := n2_; have GE209 := n3_; clear n0_ n1_ n2_ n3_; clear hb hbox hg; have hcz21_0 : w20.cell? ⟨gb209, 0, none⟩ = some (.int .i64 a1_0) := (blk_cell BK209.out 0).trans rfl; have hcz21_1 : w20.cell? ⟨gb209, 1, none⟩ = some (.string a1_1) := (blk_cell BK209.out 1).trans rfl; have hfz21_0 := blk_frozen BK209.out 0; have hfz21_1 := blk_frozen BK209.out 1) | ((with_reducible refine gate_callee (f := 41) rfl ?_); refine goesL_ (some 8) rfl rfl Tryz.func41 (by kernel_rfl) rfl #[.agg #[.int .i64 a1_0, .string a1_1]] rfl (by (try simp only [List.map_toArray, List.map_cons, List.map_nil]); first | done | rfl | (simp only [List.length_drop, List.length_take]; rfl)) ?_; (with_reducible refine (arbiterref02_Check.calls a1_0 a1_1 t210 _ A3.out).mono ?_); rintro e w22 ⟨rfl, hb⟩; refine ⟨_, rfl, ?_⟩; have n0_ := Aside0.mk (blk_below (kX BK209) hb); have n1_ := Aside0.mk (below_step (bX1 HB GE209) hb); clear BK209; clear HB; have BK209 := n0_; have HB := n1_; clear n0_ n1_; (try clear hb); (try clear hb2); (try clear hk); (try clear hi))); go_ret
  exact ⟨by first | rfl | (simp [errW_none, errW_some] <;> rfl) | (simp [*, errW_none, errW_some] <;> rfl), bX1 HB GE209⟩
def arbiterref07_IsInt.f (a0_0 : Int) (a0_1 : ByteArray) : Option (Bool) := if a0_0 = 0 then (some (a0_1.toList == ([] : List UInt8))) else (some false)
set_option maxHeartbeats 8000000 in
set_option maxRecDepth 100000 in
theorem arbiterref07_IsInt.calls (a0_0 : Int) (a0_1 : ByteArray) (r : Bool) (w : World) (h : arbiterref07_IsInt.f a0_0 a0_1 = some r) :
  Calls Tryz.prog 58 #[.agg #[.int .i64 a0_0, .string a0_1]] w fun e w' => e = .returned (.bool r) ∧ Below w.heap.size w w' := by
 have hu24 := Tryz.underlying24; have HB := Aside0.mk (Below.refl w.heap.size w); have H : (if a0_0 = 0 then (some (a0_1.toList == ([] : List UInt8))) else (some false)) = some r := h; clear h
 by_cases c2 : a0_0 = 0
 ·rw [if_pos c2] at H
  have c2b0 : (a0_0 == 0) = true := beq_iff_eq.mpr c2; have c2b1 : (a0_0 != 0) = false := bne_eq_false_iff_eq.mpr c2; clear c2; obtain rfl := Option.some.inj H; go_enter Tryz.func58, Tryz.ntmps58; go_wp2_with (first | ((with_reducible refine gate_dst (N := 1) rfl ?_); refine box_event ?hg (N := 1) ?hd (cs := #[.int .i64 a0_0, .string a0_1]) (t := 24) ?hr ?_; (case hd => rfl); (case hg => rfl); (case hr => first | (go_simp; done) | (go_simp; rfl)); intro gb213 hg w3 hbox hb; have n0_ := Aside0.mk (below_step (bX HB) hb); have n1_ := Aside0.mk (hbox); have n2_ := Aside0.mk ((by rw [hg]; exact (below_size (bX HB)) : w.heap.size ≤ gb213)); have n3_ := Aside0.mk ((by rw [hg]; exact (below_size (bX HB)) : w.heap.size ≤ gb213)); clear HB; have HB := n0_; have BK213 := n1_; have GW213 := n2_; have GE213 := n3_; clear n0_ n1_ n2_ n3_; clear hb hbox hg; have hcz4_0 : w3.cell? ⟨gb213, 0, none⟩ = some (.int .i64 a0_0) := (blk_cell BK213.out 0).trans rfl; have hcz4_1 : w3.cell? ⟨gb213, 1, none⟩ = some (.string a0_1) := (blk_cell BK213.out 1).trans rfl; have hfz4_0 := blk_frozen BK213.out 0; have hfz4_1 := blk_frozen BK213.out 1)); go_ret
  exact ⟨by first | rfl | (simp [errW_none, errW_some] <;> rfl) | (simp [*, errW_none, errW_some] <;> rfl), bX1 HB GE213⟩
 ·rw [if_neg c2] at H
  have c2b0 : (a0_0 == 0) = false := beq_eq_false_iff_ne.mpr c2; have c2b1 : (a0_0 != 0) = true := bne_iff_ne.mpr c2; obtain rfl := Option.some.inj H; go_enter Tryz.func58, Tryz.ntmps58; go_wp2_with (first | ((with_reducible refine gate_dst (N := 1) rfl ?_); refine box_event ?hg (N := 1) ?hd (cs := #[.int .i64 a0_0, .string a0_1]) (t := 24) ?hr ?_; (case hd => rfl); (case hg => rfl); (case hr => first | (go_simp; done) | (go_simp; rfl)); intro gb213 hg w5 hbox hb; have n0_ := Aside0.mk (below_step (bX HB) hb); have n1_ := Aside0.mk (hbox); have n2_ := Aside0.mk ((by rw [hg]; exact (below_size (bX HB)) : w.heap.size ≤ gb213)); have n3_ := Aside0.mk ((by rw [hg]; exact (below_size (bX HB)) : w.heap.size ≤ gb213)); clear HB; have HB := n0_; have BK213 := n1_; have GW213 := n2_; have GE213 := n3_; clear n0_ n1_ n2_ n3_; clear hb hbox hg; have hcz6_0 : w5.cell? ⟨gb213, 0, none⟩ = some (.int .i64 a0_0) := (blk_cell BK213.out 0).trans rfl; have hcz6_1 : w5.cell? ⟨gb213, 1, none⟩ = some (.string a0_1) := (blk_cell BK213.out 1).trans rfl; have hfz6_0 := blk_frozen BK213.out 0; have hfz6_1 := blk_frozen BK213.out 1)); go_ret
  exact ⟨by first | rfl | (simp [errW_none, errW_some] <;> rfl) | (simp [*, errW_none, errW_some] <;> rfl), bX1 HB GE213⟩
def arbiterref07_lower.f (a0_0 : Int) (a0_1 : ByteArray) : Option (Int × ByteArray) := some (wrap64 (a0_0 - 1), a0_1)
set_option maxHeartbeats 8000000 in
set_option maxRecDepth 100000 in
theorem arbiterref07_lower.calls (a0_0 : Int) (a0_1 : ByteArray) (r1 : Int) (r2 : ByteArray) (w : World) (h : arbiterref07_lower.f a0_0 a0_1 = some (r1, r2)) :
  Calls Tryz.prog 71 #[.agg #[.int .i64 a0_0, .string a0_1]] w fun e w' => e = .returned (.agg #[.int .i64 r1, .string r2]) ∧ Below w.heap.size w w' := by
 have hu24 := Tryz.underlying24; have HB := Aside0.mk (Below.refl w.heap.size w); have H : (some (wrap64 (a0_0 - 1), a0_1)) = some (r1, r2) := h; clear h; simp only [Option.some.injEq, Prod.mk.injEq] at H; obtain ⟨rfl, rfl⟩ := H; go_enter Tryz.func71, Tryz.ntmps71; go_wp2_with (first | ((with_reducible refine gate_dst (N := 1) rfl ?_); refine box_event ?hg (N := 1) ?hd (cs := #[.int .i64 a0_0, .string a0_1]) (t := 24) ?hr ?_; (case hd => rfl); (case hg => rfl); (case hr => first | (go_simp; done) | (go_simp; rfl)); intro gb214 hg w2 hbox hb; have n0_ := Aside0.mk (below_step (bX HB) hb); have n1_ := Aside0.mk (hbox); have n2_ := Aside0.mk ((by rw [hg]; exact (below_size (bX HB)) : w.heap.size ≤ gb214)); have n3_ := Aside0.mk ((by rw [hg]; exact (below_size (bX HB)) : w.heap.size ≤ gb214)); clear HB; have HB := n0_; have BK214 := n1_; have GW214 := n2_; have GE214 := n3_; clear n0_ n1_ n2_ n3_; clear hb hbox hg) | ((with_reducible refine gate_dst (N := 2) rfl ?_); refine box_event ?hg (N := 2) ?hd (cs := #[.int .i64 0, .string (⟨#[]⟩ : ByteArray)]) (t := 24) ?hr ?_; (case hd => rfl); (case hg => rfl); (case hr => first | (go_simp; done) | (go_simp; rfl)); intro gb215 hg w3 hbox hb; have n0_ := Aside0.mk (blk_below (kX BK214) hb); have n1_ := Aside0.mk (below_step (bX1 HB GE214) hb); have n2_ := Aside0.mk (hbox); have n3_ := Aside0.mk ((by rw [hg]; exact (below_size (bX1 HB GE214)) : w.heap.size ≤ gb215)); have n4_ := Aside0.mk ((by rw [hg]; exact (below_size (bX1 HB GE214)) : w.heap.size ≤ gb215)); have n5_ := Aside0.mk ((by rw [hg]; exact Nat.ne_of_lt (blk_lt (kX BK214)) : gb214 ≠ gb215)); have n6_ := Aside0.mk ((by rw [hg]; exact Nat.ne_of_gt (blk_lt (kX BK214)) : gb215 ≠ gb214)); clear BK214; clear HB; have BK214 := n0_; have HB := n1_; have BK215 := n2_; have GW215 := n3_; have GE215 := n4_; have NB214_215 := n5_; have NB215_214 := n6_; clear n0_ n1_ n2_ n3_ n4_ n5_ n6_; clear hb hbox hg; have hnb4 := NB214_215.out; have hnc4 := NB215_214.out; have hcz5_0 : w3.cell? ⟨gb214, 0, none⟩ = some (.int .i64 a0_0) := (blk_cell BK214.out 0).trans rfl; have hcz5_1 : w3.cell? ⟨gb214, 1, none⟩ = some (.string a0_1) := (blk_cell BK214.out 1).trans rfl; have hfz5_0 := blk_frozen BK214.out 0; have hfz5_1 := blk_frozen BK214.out 1; have hcz6_0 : w3.cell? ⟨gb215, 0, none⟩ = some (.int .i64 0) := (blk_cell BK215.out 0).trans rfl; have hcz6_1 : w3.cell? ⟨gb215, 1, none⟩ = some (.string (⟨#[]⟩ : ByteArray)) := (blk_cell BK215.out 1).trans rfl; have hfz6_0 := blk_frozen BK215.out 0; have hfz6_1 := blk_frozen BK215.out 1)); refine bodyPost_ret (results_cell_row rfl _ _ gb215 24 #[.int .i64 (wrap64 (a0_0 - 1)), .string a0_1] (0, 0) _ rfl (by (with_reducible repeat (first | refine blk_drewN ?_ _ | refine blk_drew ?_ | refine blk_alloc ?_ _)); refine blk_put (cs := #[.int .i64 (wrap64 (a0_0 - 1)), .string (⟨#[]⟩ : ByteArray)]) ?_ 1 _ rfl; (with_reducible repeat (first | refine blk_drewN ?_ _ | refine blk_drew ?_ | refine blk_alloc ?_ _)); refine blk_put (cs := #[.int .i64 0, .string (⟨#[]⟩ : ByteArray)]) ?_ 0 _ rfl; (with_reducible repeat (first | refine blk_drewN ?_ _ | refine blk_drew ?_ | refine blk_alloc ?_ _)); exact BK215.out) Tryz.underlying24 rfl (by kernel_rfl)) rfl ?_
 exact ⟨by first | rfl | (simp [errW_none, errW_some] <;> rfl) | (simp [*, errW_none, errW_some] <;> rfl), bX2 HB GE214 GE215⟩
mutual
def arbiterref07_below.j0 : Nat → List S69 → Bool → Int → ByteArray → Int → ByteArray → Option (Bool)
 | 0, _, _, _, _, _, _ => none
 | k + 1, x0, x16, x217000, x217001, x218000, x218001 => if x16 = true then ((arbiterref07_IsInt.f x217000 x217001).bind fun t220 => (if t220 = true then ((arbiterref07_IsInt.f x218000 x218001).bind fun t221 => (some t221)) else (some false))) else (if x217000 = 0 then (arbiterref07_below.j1 k x0 (x218000 == 0) x217000 x217001 x218000 x218001) else (arbiterref07_below.j1 k x0 false x217000 x217001 x218000 x218001))
def arbiterref07_below.j1 : Nat → List S69 → Bool → Int → ByteArray → Int → ByteArray → Option (Bool)
 | 0, _, _, _, _, _, _ => none
 | k + 1, x0, x30, x217000, x217001, x218000, x218001 => if x30 = true then ((arbiterref06_ByName.f k x0 x217001).bind fun bt222 => ((arbiterref06_ByName.f k x0 x218001).bind fun bt224 => ((arbiterref06_Extends.f k x0 bt222.1 bt224.1).bind fun t226 => (some t226)))) else (if x217000 = 0 then (some false) else (if x218000 = 0 then (if x218001.toList = ([79, 98, 106, 101, 99, 116] : List UInt8) then (some true) else (if x218001.toList = ([67, 108, 111, 110, 101, 97, 98, 108, 101] : List UInt8) then (some true) else (some (x218001.toList == ([83, 101, 114, 105, 97, 108, 105, 122, 97, 98, 108, 101] : List UInt8))))) else ((arbiterref07_lower.f x217000 x217001).bind fun bt227 => ((arbiterref07_lower.f x218000 x218001).bind fun bt229 => ((arbiterref07_below.f k x0 bt227.1 bt227.2 bt229.1 bt229.2).bind fun t231 => (some t231))))))
def arbiterref07_below.f : Nat → List S69 → Int → ByteArray → Int → ByteArray → Option (Bool)
 | 0, _, _, _, _, _ => none
 | k + 1, a0, a1_0, a1_1, a2_0, a2_1 => (arbiterref07_IsInt.f a1_0 a1_1).bind fun t218 => (if t218 = true then (arbiterref07_below.j0 k a0 true a1_0 a1_1 a2_0 a2_1) else ((arbiterref07_IsInt.f a2_0 a2_1).bind fun t219 => (arbiterref07_below.j0 k a0 t219 a1_0 a1_1 a2_0 a2_1)))
end
set_option maxHeartbeats 8000000 in
set_option maxRecDepth 100000 in
theorem arbiterref07_below.calls (k : Nat) : ∀ (G_ : Nat) (a0 : List S69) (a1_0 : Int) (a1_1 : ByteArray) (a2_0 : Int) (a2_1 : ByteArray) (r : Bool) (w : World) (hq0 : ROK w G_ a0) (h : arbiterref07_below.f k a0 a1_0 a1_1 a2_0 a2_1 = some r),
  Calls Tryz.prog 38 #[.pointer (some ⟨G_, 0, none⟩), .agg #[.int .i64 a1_0, .string a1_1], .agg #[.int .i64 a2_0, .string a2_1]] w fun e w' => e = .returned (.bool r) ∧ Below w.heap.size w w' := by
 induction k using Nat.strongRecOn with
 | _ k ih =>
 intro G_ a0 a1_0 a1_1 a2_0 a2_1 r w hq0 h
 cases k with
 | zero => exact absurd h (by simp [arbiterref07_below.f])
 | succ k =>
 simp only [arbiterref07_below.f] at h; have hu24 := Tryz.underlying24; obtain ⟨AQa0, cQa0, hp0, hrq0, hcq0⟩ := ROK.open hq0; have HPa0 := Aside0.mk hp0; have HRqa0 := Aside0.mk hrq0; have HCqa0 := Aside0.mk hcq0; clear hp0 hrq0 hcq0; have HQa0 := Aside0.mk hq0; clear hq0; have HB := Aside0.mk (Below.refl w.heap.size w); have H : ((arbiterref07_IsInt.f a1_0 a1_1).bind fun t218 => (if t218 = true then (arbiterref07_below.j0 k a0 true a1_0 a1_1 a2_0 a2_1) else ((arbiterref07_IsInt.f a2_0 a2_1).bind fun t219 => (arbiterref07_below.j0 k a0 t219 a1_0 a1_1 a2_0 a2_1)))) = some r := h; clear h; have HC4 := Aside0.mk H; clear H; go_enter Tryz.func38, Tryz.ntmps38
 go_upto_region 1 with (first | ((with_reducible refine gate_dst (N := 4) rfl ?_); refine box_event ?hg (N := 4) ?hd (cs := #[.int .i64 a1_0, .string a1_1]) (t := 24) ?hr ?_; (case hd => rfl); (case hg => rfl); (case hr => first | (go_simp; done) | (go_simp; rfl)); intro gb216 hg w5 hbox hb; have n0_ := Aside0.mk (below_step (bX HB) hb); have n1_ := Aside0.mk (hbox); have n2_ := Aside0.mk ((by rw [hg]; exact (below_size (bX HB)) : w.heap.size ≤ gb216)); have n3_ := Aside0.mk ((by rw [hg]; exact (below_size (bX HB)) : w.heap.size ≤ gb216)); clear HB; have HB := n0_; have BK216 := n1_; have GW216 := n2_; have GE216 := n3_; clear n0_ n1_ n2_ n3_; clear hb hbox hg) | ((with_reducible refine gate_dst (N := 5) rfl ?_); refine box_event ?hg (N := 5) ?hd (cs := #[.int .i64 a2_0, .string a2_1]) (t := 24) ?hr ?_; (case hd => rfl); (case hg => rfl); (case hr => first | (go_simp; done) | (go_simp; rfl)); intro gb217 hg w6 hbox hb; have n0_ := Aside0.mk (blk_below (kX BK216) hb); have n1_ := Aside0.mk (below_step (bX1 HB GE216) hb); have n2_ := Aside0.mk (hbox); have n3_ := Aside0.mk ((by rw [hg]; exact (below_size (bX1 HB GE216)) : w.heap.size ≤ gb217)); have n4_ := Aside0.mk ((by rw [hg]; exact (below_size (bX1 HB GE216)) : w.heap.size ≤ gb217)); have n5_ := Aside0.mk ((by rw [hg]; exact Nat.ne_of_lt (blk_lt (kX BK216)) : gb216 ≠ gb217)); have n6_ := Aside0.mk ((by rw [hg]; exact Nat.ne_of_gt (blk_lt (kX BK216)) : gb217 ≠ gb216)); clear BK216; clear HB; have BK216 := n0_; have HB := n1_; have BK217 := n2_; have GW217 := n3_; have GE217 := n4_; have NB216_217 := n5_; have NB217_216 := n6_; clear n0_ n1_ n2_ n3_ n4_ n5_ n6_; clear hb hbox hg))
 (try simp only [Act.put, List.setIfInBounds_toArray, List.set_cons_zero, List.set_cons_succ])
 go_cut [16] (fun v16 wc => ∃ (kq : Nat) (x16_3 : Bool), v16 = .bool x16_3 ∧ Aside0 (arbiterref07_below.j0 kq a0 x16_3 a1_0 a1_1 a2_0 a2_1 = some r) ∧ Aside0 (kq ≤ k) ∧ Aside0 (wc.heap[gb216]? = some (.cells #[.int .i64 a1_0, .string a1_1] 24 (0, 0))) ∧ Aside0 (wc.heap[gb217]? = some (.cells #[.int .i64 a2_0, .string a2_1] 24 (0, 0))) ∧ Aside0 (Below w.heap.size w wc))
 case first =>
  have H := HC4.out; clear HC4; replace H := Option.bind_eq_some_iff.mp H; obtain ⟨t218, A70, H⟩ := H; replace H : (if t218 = true then (arbiterref07_below.j0 k a0 true a1_0 a1_1 a2_0 a2_1) else ((arbiterref07_IsInt.f a2_0 a2_1).bind fun t219 => (arbiterref07_below.j0 k a0 t219 a1_0 a1_1 a2_0 a2_1))) = some r := H; have A7 := Aside0.mk A70; clear A70
  by_cases c8 : t218 = true
  ·subst c8
   have H1 : (arbiterref07_below.j0 k a0 true a1_0 a1_1 a2_0 a2_1) = some r := by rw [if_pos rfl] at H; exact H
   clear H; have H := H1; clear H1; have H' := Aside0.mk H; clear H; have hnb9 := NB216_217.out; have hnc9 := NB217_216.out; have hcz10_0 : w6.cell? ⟨gb216, 0, none⟩ = some (.int .i64 a1_0) := (blk_cell BK216.out 0).trans rfl; have hcz10_1 : w6.cell? ⟨gb216, 1, none⟩ = some (.string a1_1) := (blk_cell BK216.out 1).trans rfl; have hfz10_0 := blk_frozen BK216.out 0; have hfz10_1 := blk_frozen BK216.out 1; go_wp2_with (first | ((with_reducible refine gate_callee (f := 58) rfl ?_); refine goesL_ (some 12) rfl rfl Tryz.func58 (by kernel_rfl) rfl #[.agg #[.int .i64 a1_0, .string a1_1]] rfl (by (try simp only [List.map_toArray, List.map_cons, List.map_nil]); first | done | rfl | (simp only [List.length_drop, List.length_take]; rfl)) ?_; (with_reducible refine (arbiterref07_IsInt.calls a1_0 a1_1 true _ A7.out).mono ?_); rintro e w11 ⟨rfl, hb⟩; refine ⟨_, rfl, ?_⟩; have n0_ := Aside0.mk (blk_below (kX BK216) hb); have n1_ := Aside0.mk (blk_below (kX BK217) hb); have n2_ := Aside0.mk (below_step (bX2 HB GE216 GE217) hb); clear BK216; clear BK217; clear HB; have BK216 := n0_; have BK217 := n1_; have HB := n2_; clear n0_ n1_ n2_; (try clear hb); (try clear hb2); (try clear hk); (try clear hi))); go_meet
   case rel => exact ⟨_, (true), (by first | rfl | (simp; done) | (simp [*]; done)), H', ⟨by first | omega | exact Nat.le_refl _⟩, ⟨by (with_reducible repeat (first | refine blk_drewN ?_ _ | refine blk_drew ?_ | refine blk_alloc ?_ _)); exact BK216.out⟩, ⟨by (with_reducible repeat (first | refine blk_drewN ?_ _ | refine blk_drew ?_ | refine blk_alloc ?_ _)); exact BK217.out⟩, ⟨bX2 HB GE216 GE217⟩⟩
  ·replace c8 := Bool.eq_false_iff.mpr c8
   subst c8
   have H1 : ((arbiterref07_IsInt.f a2_0 a2_1).bind fun t219 => (arbiterref07_below.j0 k a0 t219 a1_0 a1_1 a2_0 a2_1)) = some r := by rw [if_neg (show ¬ (false = true) by decide)] at H; exact H
   clear H; have H := H1; clear H1; replace H := Option.bind_eq_some_iff.mp H; obtain ⟨t219, A120, H⟩ := H; replace H : (arbiterref07_below.j0 k a0 t219 a1_0 a1_1 a2_0 a2_1) = some r := H; have A12 := Aside0.mk A120; clear A120; have H' := Aside0.mk H; clear H; have hnb13 := NB216_217.out; have hnc13 := NB217_216.out; have hcz14_0 : w6.cell? ⟨gb216, 0, none⟩ = some (.int .i64 a1_0) := (blk_cell BK216.out 0).trans rfl; have hcz14_1 : w6.cell? ⟨gb216, 1, none⟩ = some (.string a1_1) := (blk_cell BK216.out 1).trans rfl; have hfz14_0 := blk_frozen BK216.out 0; have hfz14_1 := blk_frozen BK216.out 1; go_wp2_with (first | ((with_reducible refine gate_callee (f := 58) rfl ?_); refine goesL_ (some 12) rfl rfl Tryz.func58 (by kernel_rfl) rfl #[.agg #[.int .i64 a1_0, .string a1_1]] rfl (by (try simp only [List.map_toArray, List.map_cons, List.map_nil]); first | done | rfl | (simp only [List.length_drop, List.length_take]; rfl)) ?_; (with_reducible refine (arbiterref07_IsInt.calls a1_0 a1_1 false _ A7.out).mono ?_); rintro e w15 ⟨rfl, hb⟩; refine ⟨_, rfl, ?_⟩; have n0_ := Aside0.mk (blk_below (kX BK216) hb); have n1_ := Aside0.mk (blk_below (kX BK217) hb); have n2_ := Aside0.mk (below_step (bX2 HB GE216 GE217) hb); clear BK216; clear BK217; clear HB; have BK216 := n0_; have BK217 := n1_; have HB := n2_; clear n0_ n1_ n2_; (try clear hb); (try clear hb2); (try clear hk); (try clear hi); have hcz16_0 : w15.cell? ⟨gb217, 0, none⟩ = some (.int .i64 a2_0) := (blk_cell BK217.out 0).trans rfl; have hcz16_1 : w15.cell? ⟨gb217, 1, none⟩ = some (.string a2_1) := (blk_cell BK217.out 1).trans rfl; have hfz16_0 := blk_frozen BK217.out 0; have hfz16_1 := blk_frozen BK217.out 1) | (go_at_call 58; (with_reducible refine (arbiterref07_IsInt.calls a2_0 a2_1 t219 _ A12.out).mono ?_); rintro e w17 ⟨rfl, hb⟩; have n0_ := Aside0.mk (blk_below (kX BK216) hb); have n1_ := Aside0.mk (blk_below (kX BK217) hb); have n2_ := Aside0.mk (below_step (bX2 HB GE216 GE217) hb); clear BK216; clear BK217; clear HB; have BK216 := n0_; have BK217 := n1_; have HB := n2_; clear n0_ n1_ n2_; (try clear hb); (try clear hb2); (try clear hk); (try clear hi))); go_meet
   case rel => exact ⟨_, (t219), (by first | rfl | (simp; done) | (simp [*]; done)), H', ⟨by first | omega | exact Nat.le_refl _⟩, ⟨by (with_reducible repeat (first | refine blk_drewN ?_ _ | refine blk_drew ?_ | refine blk_alloc ?_ _)); exact BK216.out⟩, ⟨by (with_reducible repeat (first | refine blk_drewN ?_ _ | refine blk_drew ?_ | refine blk_alloc ?_ _)); exact BK217.out⟩, ⟨bX2 HB GE216 GE217⟩⟩
 case rest =>
  clear HC4
  try clear c1
  try clear p2
  try clear c3
  try clear c5
  try clear c8
  try clear c9
  try clear c13
  try clear hcz10_0
  try clear hcz10_1
  try clear hcz14_0
  try clear hcz14_1
  try clear hcz16_0
  try clear hcz16_1
  try clear hfz10_0
  try clear hfz10_1
  try clear hfz14_0
  try clear hfz14_1
  try clear hfz16_0
  try clear hfz16_1
  obtain ⟨kq, x16_3, rfl, HA, HJ3, BK216, BK217, HB⟩ := hcut
  cases kq with
  | zero => exact absurd HA.out (by simp [arbiterref07_below.j0])
  | succ kj3 =>
   have H := HA.out; clear HA; simp only [arbiterref07_below.j0] at H
   by_cases c18 : x16_3 = true
   ·subst c18
    have H1 : ((arbiterref07_IsInt.f a1_0 a1_1).bind fun t220 => (if t220 = true then ((arbiterref07_IsInt.f a2_0 a2_1).bind fun t221 => (some t221)) else (some false))) = some r := by rw [if_pos rfl] at H; exact H
    clear H; have H := H1; clear H1; replace H := Option.bind_eq_some_iff.mp H; obtain ⟨t220, A190, H⟩ := H; replace H : (if t220 = true then ((arbiterref07_IsInt.f a2_0 a2_1).bind fun t221 => (some t221)) else (some false)) = some r := H; have A19 := Aside0.mk A190; clear A190
    by_cases c20 : t220 = true
    ·subst c20
     have H1 : ((arbiterref07_IsInt.f a2_0 a2_1).bind fun t221 => (some t221)) = some r := by rw [if_pos rfl] at H; exact H
     clear H; have H := H1; clear H1; replace H := Option.bind_eq_some_iff.mp H; obtain ⟨t221, A210, H⟩ := H; replace H : (some t221) = some r := H; have A21 := Aside0.mk A210; clear A210; obtain rfl := Option.some.inj H; have hnb22 := NB216_217.out; have hnc22 := NB217_216.out; have hcz23_0 : wc.cell? ⟨gb216, 0, none⟩ = some (.int .i64 a1_0) := (blk_cell BK216.out 0).trans rfl; have hcz23_1 : wc.cell? ⟨gb216, 1, none⟩ = some (.string a1_1) := (blk_cell BK216.out 1).trans rfl; have hfz23_0 := blk_frozen BK216.out 0; have hfz23_1 := blk_frozen BK216.out 1; go_wp2_with (first | ((with_reducible refine gate_callee (f := 58) rfl ?_); refine goesL_ (some 18) rfl rfl Tryz.func58 (by kernel_rfl) rfl #[.agg #[.int .i64 a1_0, .string a1_1]] rfl (by (try simp only [List.map_toArray, List.map_cons, List.map_nil]); first | done | rfl | (simp only [List.length_drop, List.length_take]; rfl)) ?_; (with_reducible refine (arbiterref07_IsInt.calls a1_0 a1_1 true _ A19.out).mono ?_); rintro e w24 ⟨rfl, hb⟩; refine ⟨_, rfl, ?_⟩; have n0_ := Aside0.mk (blk_below (kX BK216) hb); have n1_ := Aside0.mk (blk_below (kX BK217) hb); have n2_ := Aside0.mk (below_step (bX2 HB GE216 GE217) hb); clear BK216; clear BK217; clear HB; have BK216 := n0_; have BK217 := n1_; have HB := n2_; clear n0_ n1_ n2_; (try clear hb); (try clear hb2); (try clear hk); (try clear hi); have hcz25_0 : w24.cell? ⟨gb217, 0, none⟩ = some (.int .i64 a2_0) := (blk_cell BK217.out 0).trans rfl; have hcz25_1 : w24.cell? ⟨gb217, 1, none⟩ = some (.string a2_1) := (blk_cell BK217.out 1).trans rfl; have hfz25_0 := blk_frozen BK217.out 0; have hfz25_1 := blk_frozen BK217.out 1) | (go_at_call 58; (with_reducible refine (arbiterref07_IsInt.calls a2_0 a2_1 t221 _ A21.out).mono ?_); rintro e w26 ⟨rfl, hb⟩; have n0_ := Aside0.mk (blk_below (kX BK216) hb); have n1_ := Aside0.mk (blk_below (kX BK217) hb); have n2_ := Aside0.mk (below_step (bX2 HB GE216 GE217) hb); clear BK216; clear BK217; clear HB; have BK216 := n0_; have BK217 := n1_; have HB := n2_; clear n0_ n1_ n2_; (try clear hb); (try clear hb2); (try clear hk); (try clear hi))); go_ret
     exact ⟨by first | rfl | (simp [errW_none, errW_some] <;> rfl) | (simp [*, errW_none, errW_some] <;> rfl), bX2 HB GE216 GE217⟩
    ·replace c20 := Bool.eq_false_iff.mpr c20
     subst c20
     have H1 : (some false) = some r := by rw [if_neg (show ¬ (false = true) by decide)] at H; exact H
     clear H; have H := H1; clear H1; obtain rfl := Option.some.inj H; have hnb27 := NB216_217.out; have hnc27 := NB217_216.out; have hcz28_0 : wc.cell? ⟨gb216, 0, none⟩ = some (.int .i64 a1_0) := (blk_cell BK216.out 0).trans rfl; have hcz28_1 : wc.cell? ⟨gb216, 1, none⟩ = some (.string a1_1) := (blk_cell BK216.out 1).trans rfl; have hfz28_0 := blk_frozen BK216.out 0; have hfz28_1 := blk_frozen BK216.out 1; go_wp2_with (first | ((with_reducible refine gate_callee (f := 58) rfl ?_); refine goesL_ (some 18) rfl rfl Tryz.func58 (by kernel_rfl) rfl #[.agg #[.int .i64 a1_0, .string a1_1]] rfl (by (try simp only [List.map_toArray, List.map_cons, List.map_nil]); first | done | rfl | (simp only [List.length_drop, List.length_take]; rfl)) ?_; (with_reducible refine (arbiterref07_IsInt.calls a1_0 a1_1 false _ A19.out).mono ?_); rintro e w29 ⟨rfl, hb⟩; refine ⟨_, rfl, ?_⟩; have n0_ := Aside0.mk (blk_below (kX BK216) hb); have n1_ := Aside0.mk (blk_below (kX BK217) hb); have n2_ := Aside0.mk (below_step (bX2 HB GE216 GE217) hb); clear BK216; clear BK217; clear HB; have BK216 := n0_; have BK217 := n1_; have HB := n2_; clear n0_ n1_ n2_; (try clear hb); (try clear hb2); (try clear hk); (try clear hi))); go_ret
     exact ⟨by first | rfl | (simp [errW_none, errW_some] <;> rfl) | (simp [*, errW_none, errW_some] <;> rfl), bX2 HB GE216 GE217⟩
   ·replace c18 := Bool.eq_false_iff.mpr c18
    subst c18
    have H1 : (if a1_0 = 0 then (arbiterref07_below.j1 kj3 a0 (a2_0 == 0) a1_0 a1_1 a2_0 a2_1) else (arbiterref07_below.j1 kj3 a0 false a1_0 a1_1 a2_0 a2_1)) = some r := by rw [if_neg (show ¬ (false = true) by decide)] at H; exact H
    clear H; have H := H1; clear H1; have HC30 := Aside0.mk H; clear H
    go_upto_region 3 with (fail)
    go_cut [30] (fun v30 wc => ∃ (kq : Nat) (x30_29 : Bool), v30 = .bool x30_29 ∧ Aside0 (arbiterref07_below.j1 kq a0 x30_29 a1_0 a1_1 a2_0 a2_1 = some r) ∧ Aside0 (kq ≤ kj3) ∧ Aside0 (wc.heap[gb216]? = some (.cells #[.int .i64 a1_0, .string a1_1] 24 (0, 0))) ∧ Aside0 (wc.heap[gb217]? = some (.cells #[.int .i64 a2_0, .string a2_1] 24 (0, 0))) ∧ Aside0 (Below w.heap.size w wc))
    case first =>
     have H := HC30.out; clear HC30
     by_cases c31 : a1_0 = 0
     ·rw [if_pos c31] at H
      have c31b0 : (a1_0 == 0) = true := beq_iff_eq.mpr c31; have c31b1 : (a1_0 != 0) = false := bne_eq_false_iff_eq.mpr c31; clear c31
      (first | rw [c31b0] | (simp only [i64_w, i32_w]; rw [c31b0]) | skip)
      have H' := Aside0.mk H; clear H; have hnb32 := NB216_217.out; have hnc32 := NB217_216.out; have hcz33_0 : wc.cell? ⟨gb216, 0, none⟩ = some (.int .i64 a1_0) := (blk_cell BK216.out 0).trans rfl; have hcz33_1 : wc.cell? ⟨gb216, 1, none⟩ = some (.string a1_1) := (blk_cell BK216.out 1).trans rfl; have hfz33_0 := blk_frozen BK216.out 0; have hfz33_1 := blk_frozen BK216.out 1; have hcz34_0 : wc.cell? ⟨gb217, 0, none⟩ = some (.int .i64 a2_0) := (blk_cell BK217.out 0).trans rfl; have hcz34_1 : wc.cell? ⟨gb217, 1, none⟩ = some (.string a2_1) := (blk_cell BK217.out 1).trans rfl; have hfz34_0 := blk_frozen BK217.out 0; have hfz34_1 := blk_frozen BK217.out 1; go_wp2; go_meet
      case rel => exact ⟨_, ((a2_0 == 0)), (by first | rfl | (simp; done) | (simp [*]; done)), H', ⟨by have := HJ3.out; first | omega | exact Nat.le_refl _⟩, ⟨by (with_reducible repeat (first | refine blk_drewN ?_ _ | refine blk_drew ?_ | refine blk_alloc ?_ _)); exact BK216.out⟩, ⟨by (with_reducible repeat (first | refine blk_drewN ?_ _ | refine blk_drew ?_ | refine blk_alloc ?_ _)); exact BK217.out⟩, ⟨bX2 HB GE216 GE217⟩⟩
     ·rw [if_neg c31] at H
      have c31b0 : (a1_0 == 0) = false := beq_eq_false_iff_ne.mpr c31; have c31b1 : (a1_0 != 0) = true := bne_iff_ne.mpr c31
      (first | rw [c31b0] | (simp only [i64_w, i32_w]; rw [c31b0]) | skip)
      have H' := Aside0.mk H; clear H; have hnb35 := NB216_217.out; have hnc35 := NB217_216.out; have hcz36_0 : wc.cell? ⟨gb216, 0, none⟩ = some (.int .i64 a1_0) := (blk_cell BK216.out 0).trans rfl; have hcz36_1 : wc.cell? ⟨gb216, 1, none⟩ = some (.string a1_1) := (blk_cell BK216.out 1).trans rfl; have hfz36_0 := blk_frozen BK216.out 0; have hfz36_1 := blk_frozen BK216.out 1; go_wp2; go_meet
      case rel => exact ⟨_, (false), (by first | rfl | (simp; done) | (simp [*]; done)), H', ⟨by have := HJ3.out; first | omega | exact Nat.le_refl _⟩, ⟨by (with_reducible repeat (first | refine blk_drewN ?_ _ | refine blk_drew ?_ | refine blk_alloc ?_ _)); exact BK216.out⟩, ⟨by (with_reducible repeat (first | refine blk_drewN ?_ _ | refine blk_drew ?_ | refine blk_alloc ?_ _)); exact BK217.out⟩, ⟨bX2 HB GE216 GE217⟩⟩
    case rest =>
     clear HC30
     try clear c1
     try clear c2
     try clear p2
     try clear c3
     try clear c5
     try clear c8
     try clear c9
     try clear c13
     try clear c18
     try clear c20
     try clear c22
     try clear c27
     try clear c31
     try clear c31b0
     try clear c31b1
     try clear c32
     try clear c35
     try clear hcz10_0
     try clear hcz10_1
     try clear hcz14_0
     try clear hcz14_1
     try clear hcz16_0
     try clear hcz16_1
     try clear hcz23_0
     try clear hcz23_1
     try clear hcz25_0
     try clear hcz25_1
     try clear hcz28_0
     try clear hcz28_1
     try clear hcz33_0
     try clear hcz33_1
     try clear hcz34_0
     try clear hcz34_1
     try clear hcz36_0
     try clear hcz36_1
     try clear hfz10_0
     try clear hfz10_1
     try clear hfz14_0
     try clear hfz14_1
     try clear hfz16_0
     try clear hfz16_1
     try clear hfz23_0
     try clear hfz23_1
     try clear hfz25_0
     try clear hfz25_1
     try clear hfz28_0
     try clear hfz28_1
     try clear hfz33_0
     try clear hfz33_1
     try clear hfz34_0
     try clear hfz34_1
     try clear hfz36_0
     try clear hfz36_1
     try clear p2
     obtain ⟨kq, x30_29, rfl, HA, HJ29, BK216, BK217, HB⟩ := hcut
     cases kq with
     | zero => exact absurd HA.out (by simp [arbiterref07_below.j1])
     | succ kj29 =>
      have H := HA.out; clear HA; simp only [arbiterref07_below.j1] at H
      by_cases c37 : x30_29 = true
      ·subst c37
       have H1 : ((arbiterref06_ByName.f kj29 a0 a1_1).bind fun bt222 => ((arbiterref06_ByName.f kj29 a0 a2_1).bind fun bt224 => ((arbiterref06_Extends.f kj29 a0 bt222.1 bt224.1).bind fun t226 => (some t226)))) = some r := by rw [if_pos rfl] at H; exact H
       clear H; have H := H1; clear H1; replace H := Option.bind_eq_some_iff.mp H; obtain ⟨⟨t222, t223⟩, A380, H⟩ := H; replace H : ((arbiterref06_ByName.f kj29 a0 a2_1).bind fun bt224 => ((arbiterref06_Extends.f kj29 a0 t222 bt224.1).bind fun t226 => (some t226))) = some r := H; have A38 := Aside0.mk A380; clear A380; replace H := Option.bind_eq_some_iff.mp H; obtain ⟨⟨t224, t225⟩, A390, H⟩ := H; replace H : ((arbiterref06_Extends.f kj29 a0 t222 t224).bind fun t226 => (some t226)) = some r := H; have A39 := Aside0.mk A390; clear A390; replace H := Option.bind_eq_some_iff.mp H; obtain ⟨t226, A400, H⟩ := H; replace H : (some t226) = some r := H; have A40 := Aside0.mk A400; clear A400; obtain rfl := Option.some.inj H; have hnb41 := NB216_217.out; have hnc41 := NB217_216.out; have hcz42_0 : wc.cell? ⟨gb216, 0, none⟩ = some (.int .i64 a1_0) := (blk_cell BK216.out 0).trans rfl; have hcz42_1 : wc.cell? ⟨gb216, 1, none⟩ = some (.string a1_1) := (blk_cell BK216.out 1).trans rfl; have hfz42_0 := blk_frozen BK216.out 0; have hfz42_1 := blk_frozen BK216.out 1; go_wp2_with (first | ((with_reducible refine gate_callee (f := 42) rfl ?_); refine goesL_ (some 35) rfl rfl Tryz.func42 (by kernel_rfl) rfl #[.pointer (some ⟨G_, 0, none⟩), .string a1_1] rfl (by (try simp only [List.map_toArray, List.map_cons, List.map_nil]); first | done | rfl | (simp only [List.length_drop, List.length_take]; rfl)) ?_; (with_reducible refine (arbiterref06_ByName.calls kj29 G_ a0 a1_1 t222 t223 _ ?side1 A38.out).mono ?_); (case side1 => repeat (first | (with_reducible exact HQa0.out) | (with_reducible refine ROK.alloc ?_ _) | (with_reducible refine ROK.drewN ?_ _) | (with_reducible refine ROK.drew ?_) | exact ROK.below HQa0.out HB.out | exact ROK.below HQa0.out (bX2 HB GE216 GE217))); rintro e w' ⟨rfl, ⟨nd, rfl⟩⟩; refine ⟨_, rfl, ?_⟩; have hcz43_0 : wc.cell? ⟨gb217, 0, none⟩ = some (.int .i64 a2_0) := (blk_cell BK217.out 0).trans rfl; have hcz43_1 : wc.cell? ⟨gb217, 1, none⟩ = some (.string a2_1) := (blk_cell BK217.out 1).trans rfl; have hfz43_0 := blk_frozen BK217.out 0; have hfz43_1 := blk_frozen BK217.out 1) | ((with_reducible refine gate_callee (f := 42) rfl ?_); refine goesL_ (some 42) rfl rfl Tryz.func42 (by kernel_rfl) rfl #[.pointer (some ⟨G_, 0, none⟩), .string a2_1] rfl (by (try simp only [List.map_toArray, List.map_cons, List.map_nil]); first | done | rfl | (simp only [List.length_drop, List.length_take]; rfl)) ?_; (with_reducible refine (arbiterref06_ByName.calls kj29 G_ a0 a2_1 t224 t225 _ ?side1 A39.out).mono ?_); (case side1 => repeat (first | (with_reducible exact HQa0.out) | (with_reducible refine ROK.alloc ?_ _) | (with_reducible refine ROK.drewN ?_ _) | (with_reducible refine ROK.drew ?_) | exact ROK.below HQa0.out HB.out | exact ROK.below HQa0.out (bX2 HB GE216 GE217))); rintro e w' ⟨rfl, ⟨nd, rfl⟩⟩; refine ⟨_, rfl, ?_⟩) | ((with_reducible refine gate_callee (f := 56) rfl ?_); refine goesL_ (some 48) rfl rfl Tryz.func56 (by kernel_rfl) rfl #[.pointer (some ⟨G_, 0, none⟩), .int .i64 t222, .int .i64 t224] rfl (by (try simp only [List.map_toArray, List.map_cons, List.map_nil]); first | done | rfl | (simp only [List.length_drop, List.length_take]; rfl)) ?_; (with_reducible refine (arbiterref06_Extends.calls kj29 G_ a0 t222 t224 t226 _ ?side1 A40.out).mono ?_); (case side1 => repeat (first | (with_reducible exact HQa0.out) | (with_reducible refine ROK.alloc ?_ _) | (with_reducible refine ROK.drewN ?_ _) | (with_reducible refine ROK.drew ?_) | exact ROK.below HQa0.out HB.out | exact ROK.below HQa0.out (bX2 HB GE216 GE217))); rintro e w44 ⟨rfl, hb⟩; refine ⟨_, rfl, ?_⟩; have n0_ := Aside0.mk (blk_below (kX BK216) hb); have n1_ := Aside0.mk (blk_below (kX BK217) hb); have n2_ := Aside0.mk (below_step (bX2 HB GE216 GE217) hb); clear BK216; clear BK217; clear HB; have BK216 := n0_; have BK217 := n1_; have HB := n2_; clear n0_ n1_ n2_; (try clear hb); (try clear hb2); (try clear hk); (try clear hi))); go_ret
       exact ⟨by first | rfl | (simp [errW_none, errW_some] <;> rfl) | (simp [*, errW_none, errW_some] <;> rfl), bX2 HB GE216 GE217⟩
      ·replace c37 := Bool.eq_false_iff.mpr c37
       subst c37
       have H1 : (if a1_0 = 0 then (some false) else (if a2_0 = 0 then (if a2_1.toList = ([79, 98, 106, 101, 99, 116] : List UInt8) then (some true) else (if a2_1.toList = ([67, 108, 111, 110, 101, 97, 98, 108, 101] : List UInt8) then (some true) else (some (a2_1.toList == ([83, 101, 114, 105, 97, 108, 105, 122, 97, 98, 108, 101] : List UInt8))))) else ((arbiterref07_lower.f a1_0 a1_1).bind fun bt227 => ((arbiterref07_lower.f a2_0 a2_1).bind fun bt229 => ((arbiterref07_below.f kj29 a0 bt227.1 bt227.2 bt229.1 bt229.2).bind fun t231 => (some t231)))))) = some r := by rw [if_neg (show ¬ (false = true) by decide)] at H; exact H
       clear H; have H := H1; clear H1
       by_cases c45 : a1_0 = 0
       ·rw [if_pos c45] at H
        have c45b0 : (a1_0 == 0) = true := beq_iff_eq.mpr c45; have c45b1 : (a1_0 != 0) = false := bne_eq_false_iff_eq.mpr c45; clear c45; obtain rfl := Option.some.inj H; have hnb46 := NB216_217.out; have hnc46 := NB217_216.out; have hcz47_0 : wc.cell? ⟨gb216, 0, none⟩ = some (.int .i64 a1_0) := (blk_cell BK216.out 0).trans rfl; have hcz47_1 : wc.cell? ⟨gb216, 1, none⟩ = some (.string a1_1) := (blk_cell BK216.out 1).trans rfl; have hfz47_0 := blk_frozen BK216.out 0; have hfz47_1 := blk_frozen BK216.out 1; go_wp2; go_ret
        exact ⟨by first | rfl | (simp [errW_none, errW_some] <;> rfl) | (simp [*, errW_none, errW_some] <;> rfl), bX2 HB GE216 GE217⟩
       ·rw [if_neg c45] at H
        have c45b0 : (a1_0 == 0) = false := beq_eq_false_iff_ne.mpr c45; have c45b1 : (a1_0 != 0) = true := bne_iff_ne.mpr c45
        by_cases c48 : a2_0 = 0
        ·rw [if_pos c48] at H
         have c48b0 : (a2_0 == 0) = true := beq_iff_eq.mpr c48; have c48b1 : (a2_0 != 0) = false := bne_eq_false_iff_eq.mpr c48; clear c48
         by_cases c49 : a2_1.toList = ([79, 98, 106, 101, 99, 116] : List UInt8)
         ·rw [if_pos c49] at H
          have c49b0 : (a2_1.toList == ([79, 98, 106, 101, 99, 116] : List UInt8)) = true := beq_iff_eq.mpr c49; have c49b1 : (a2_1.toList != ([79, 98, 106, 101, 99, 116] : List UInt8)) = false := bne_eq_false_iff_eq.mpr c49; clear c49; obtain rfl := Option.some.inj H; have hnb50 := NB216_217.out; have hnc50 := NB217_216.out; have hcz51_0 : wc.cell? ⟨gb216, 0, none⟩ = some (.int .i64 a1_0) := (blk_cell BK216.out 0).trans rfl; have hcz51_1 : wc.cell? ⟨gb216, 1, none⟩ = some (.string a1_1) := (blk_cell BK216.out 1).trans rfl; have hfz51_0 := blk_frozen BK216.out 0; have hfz51_1 := blk_frozen BK216.out 1; have hcz52_0 : wc.cell? ⟨gb217, 0, none⟩ = some (.int .i64 a2_0) := (blk_cell BK217.out 0).trans rfl; have hcz52_1 : wc.cell? ⟨gb217, 1, none⟩ = some (.string a2_1) := (blk_cell BK217.out 1).trans rfl; have hfz52_0 := blk_frozen BK217.out 0; have hfz52_1 := blk_frozen BK217.out 1; go_wp2; go_ret
          exact ⟨by first | rfl | (simp [errW_none, errW_some] <;> rfl) | (simp [*, errW_none, errW_some] <;> rfl), bX2 HB GE216 GE217⟩
         ·rw [if_neg c49] at H
          have c49b0 : (a2_1.toList == ([79, 98, 106, 101, 99, 116] : List UInt8)) = false := beq_eq_false_iff_ne.mpr c49; have c49b1 : (a2_1.toList != ([79, 98, 106, 101, 99, 116] : List UInt8)) = true := bne_iff_ne.mpr c49
          by_cases c53 : a2_1.toList = ([67, 108, 111, 110, 101, 97, 98, 108, 101] : List UInt8)
          ·rw [if_pos c53] at H
           have c53b0 : (a2_1.toList == ([67, 108, 111, 110, 101, 97, 98, 108, 101] : List UInt8)) = true := beq_iff_eq.mpr c53; have c53b1 : (a2_1.toList != ([67, 108, 111, 110, 101, 97, 98, 108, 101] : List UInt8)) = false := bne_eq_false_iff_eq.mpr c53; clear c53; obtain rfl := Option.some.inj H; have hnb54 := NB216_217.out; have hnc54 := NB217_216.out; have hcz55_0 : wc.cell? ⟨gb216, 0, none⟩ = some (.int .i64 a1_0) := (blk_cell BK216.out 0).trans rfl; have hcz55_1 : wc.cell? ⟨gb216, 1, none⟩ = some (.string a1_1) := (blk_cell BK216.out 1).trans rfl; have hfz55_0 := blk_frozen BK216.out 0; have hfz55_1 := blk_frozen BK216.out 1; have hcz56_0 : wc.cell? ⟨gb217, 0, none⟩ = some (.int .i64 a2_0) := (blk_cell BK217.out 0).trans rfl; have hcz56_1 : wc.cell? ⟨gb217, 1, none⟩ = some (.string a2_1) := (blk_cell BK217.out 1).trans rfl; have hfz56_0 := blk_frozen BK217.out 0; have hfz56_1 := blk_frozen BK217.out 1; go_wp2; go_ret
           exact ⟨by first | rfl | (simp [errW_none, errW_some] <;> rfl) | (simp [*, errW_none, errW_some] <;> rfl), bX2 HB GE216 GE217⟩
          ·rw [if_neg c53] at H
           have c53b0 : (a2_1.toList == ([67, 108, 111, 110, 101, 97, 98, 108, 101] : List UInt8)) = false := beq_eq_false_iff_ne.mpr c53; have c53b1 : (a2_1.toList != ([67, 108, 111, 110, 101, 97, 98, 108, 101] : List UInt8)) = true := bne_iff_ne.mpr c53; obtain rfl := Option.some.inj H; have hnb57 := NB216_217.out; have hnc57 := NB217_216.out; have hcz58_0 : wc.cell? ⟨gb216, 0, none⟩ = some (.int .i64 a1_0) := (blk_cell BK216.out 0).trans rfl; have hcz58_1 : wc.cell? ⟨gb216, 1, none⟩ = some (.string a1_1) := (blk_cell BK216.out 1).trans rfl; have hfz58_0 := blk_frozen BK216.out 0; have hfz58_1 := blk_frozen BK216.out 1; have hcz59_0 : wc.cell? ⟨gb217, 0, none⟩ = some (.int .i64 a2_0) := (blk_cell BK217.out 0).trans rfl; have hcz59_1 : wc.cell? ⟨gb217, 1, none⟩ = some (.string a2_1) := (blk_cell BK217.out 1).trans rfl; have hfz59_0 := blk_frozen BK217.out 0; have hfz59_1 := blk_frozen BK217.out 1; go_wp2; go_ret
           exact ⟨by first | rfl | (simp [errW_none, errW_some] <;> rfl) | (simp [*, errW_none, errW_some] <;> rfl), bX2 HB GE216 GE217⟩
        ·rw [if_neg c48] at H
         have c48b0 : (a2_0 == 0) = false := beq_eq_false_iff_ne.mpr c48; have c48b1 : (a2_0 != 0) = true := bne_iff_ne.mpr c48; replace H := Option.bind_eq_some_iff.mp H; obtain ⟨⟨t227, t228⟩, A600, H⟩ := H; replace H : ((arbiterref07_lower.f a2_0 a2_1).bind fun bt229 => ((arbiterref07_below.f kj29 a0 t227 t228 bt229.1 bt229.2).bind fun t231 => (some t231))) = some r := H; have A60 := Aside0.mk A600; clear A600; replace H := Option.bind_eq_some_iff.mp H; obtain ⟨⟨t229, t230⟩, A610, H⟩ := H; replace H : ((arbiterref07_below.f kj29 a0 t227 t228 t229 t230).bind fun t231 => (some t231)) = some r := H; have A61 := Aside0.mk A610; clear A610; replace H := Option.bind_eq_some_iff.mp H; obtain ⟨t231, A620, H⟩ := H; replace H : (some t231) = some r := H; have A62 := Aside0.mk A620; clear A620; obtain rfl := Option.some.inj H; have hnb63 := NB216_217.out; have hnc63 := NB217_216.out; have hcz64_0 : wc.cell? ⟨gb216, 0, none⟩ = some (.int .i64 a1_0) := (blk_cell BK216.out 0).trans rfl; have hcz64_1 : wc.cell? ⟨gb216, 1, none⟩ = some (.string a1_1) := (blk_cell BK216.out 1).trans rfl; have hfz64_0 := blk_frozen BK216.out 0; have hfz64_1 := blk_frozen BK216.out 1; have hcz65_0 : wc.cell? ⟨gb217, 0, none⟩ = some (.int .i64 a2_0) := (blk_cell BK217.out 0).trans rfl; have hcz65_1 : wc.cell? ⟨gb217, 1, none⟩ = some (.string a2_1) := (blk_cell BK217.out 1).trans rfl; have hfz65_0 := blk_frozen BK217.out 0; have hfz65_1 := blk_frozen BK217.out 1
         try go_wp2
         have n0_ := Aside0.mk (blk_drew BK216.out); have n1_ := Aside0.mk (blk_drew BK217.out); have n2_ := Aside0.mk (below_drew1 HB.out); clear BK216; clear BK217; clear HB; have BK216 := n0_; have BK217 := n1_; have HB := n2_; clear n0_ n1_ n2_; refine start_ (n := 7) (S := fun w' => w'.cell? ⟨gb216, 0, none⟩ = some (.int .i64 a1_0) ∧ w'.cell? ⟨gb216, 1, none⟩ = some (.string a1_1) ∧ w'.cell? ⟨gb217, 0, none⟩ = some (.int .i64 a2_0) ∧ w'.cell? ⟨gb217, 1, none⟩ = some (.string a2_1)) (ds := []) #[false, false, false, false, false, false, false] (by kernel_rfl) rfl rfl ⟨(blk_cell BK216.out 0).trans rfl, (blk_cell BK216.out 1).trans rfl, (blk_cell BK217.out 0).trans rfl, (blk_cell BK217.out 1).trans rfl⟩ (fun hHeld => ?_); generalize wc.drew = w66 at BK216 BK217 HB hHeld ⊢; refine pure_ (i := 0) (N := some 68) (v := ?_) (a' := ?_) #[true, false, false, false, false, false, false] rfl rfl (by kernel_rfl) (fun _ _ _ h => h) (Or.inl ⟨by rfl, ?_⟩) ?_ ?_; rotate_left
         ·intro w'
          go_simp
          with_reducible rfl
         rotate_left
         ·simp only [Act.put, List.setIfInBounds_toArray, List.set_cons_zero, List.set_cons_succ, i64_w, i32_w]
          rfl
         refine take_ (i := 1) (N := some 69) (v := ?_) (a' := ?_) #[true, true, false, false, false, false, false] rfl rfl (by kernel_rfl) (fun _ _ _ h => h) (Or.inl ⟨by rfl, ?_⟩) hHeld ?_ ?_; rotate_left
         ·rintro w' ⟨s0, s1, s2, s3⟩
          go_simp
          with_reducible rfl
         rotate_left
         ·simp only [Act.put, List.setIfInBounds_toArray, List.set_cons_zero, List.set_cons_succ, i64_w, i32_w]
          rfl
         refine take_ (i := 3) (N := some 71) (v := ?_) (a' := ?_) #[true, true, false, true, false, false, false] rfl rfl (by kernel_rfl) (fun _ _ _ h => h) (Or.inl ⟨by rfl, ?_⟩) hHeld ?_ ?_; rotate_left
         ·rintro w' ⟨s0, s1, s2, s3⟩
          go_simp
          with_reducible rfl
         rotate_left
         ·simp only [Act.put, List.setIfInBounds_toArray, List.set_cons_zero, List.set_cons_succ, i64_w, i32_w]
          rfl
         refine one_ (i := 2) (N := some 70) #[true, true, true, true, false, false, false] rfl rfl (by kernel_rfl) (by decide) (fun K hK => ?_); refine goes_ Tryz.func71 (by kernel_rfl) rfl #[.agg #[.int .i64 a1_0, .string a1_1]] (by rfl) rfl rfl (by (try simp only [List.map_toArray, List.map_cons, List.map_nil]); first | done | rfl | (simp only [List.length_drop, List.length_take]; rfl)) ?_
         with_reducible refine (arbiterref07_lower.calls a1_0 a1_1 t227 t228 _ A60.out).mono ?_
         rintro e w67 ⟨rfl, hb⟩; refine ⟨_, rfl, ?_⟩; have n0_ := Aside0.mk (blk_below (kX BK216) hb); have n1_ := Aside0.mk (blk_below (kX BK217) hb); have n2_ := Aside0.mk (below_step (bX2 HB GE216 GE217) hb); clear BK216; clear BK217; clear HB; have BK216 := n0_; have BK217 := n1_; have HB := n2_; clear n0_ n1_ n2_
         (try clear hb)
         (try clear hb2)
         (try clear hk)
         (try clear hi)
         refine hK.out _ _ ⟨(blk_cell BK216.out 0).trans rfl, (blk_cell BK216.out 1).trans rfl, (blk_cell BK217.out 0).trans rfl, (blk_cell BK217.out 1).trans rfl⟩ (fun hHeld => ?_); clear hK K; refine norm_ (a' := ?_) ?_ ?_; rotate_left
         ·show Act.put _ (some 70) _ = _
          simp only [Act.put, List.setIfInBounds_toArray, List.set_cons_zero, List.set_cons_succ, i64_w, i32_w]
          rfl
         refine one_ (i := 4) (N := some 72) #[true, true, true, true, true, false, false] rfl rfl (by kernel_rfl) (by decide) (fun K hK => ?_); refine goes_ Tryz.func71 (by kernel_rfl) rfl #[.agg #[.int .i64 a2_0, .string a2_1]] (by rfl) rfl rfl (by (try simp only [List.map_toArray, List.map_cons, List.map_nil]); first | done | rfl | (simp only [List.length_drop, List.length_take]; rfl)) ?_
         with_reducible refine (arbiterref07_lower.calls a2_0 a2_1 t229 t230 _ A61.out).mono ?_
         rintro e w68 ⟨rfl, hb⟩; refine ⟨_, rfl, ?_⟩; have n0_ := Aside0.mk (blk_below (kX BK216) hb); have n1_ := Aside0.mk (blk_below (kX BK217) hb); have n2_ := Aside0.mk (below_step (bX2 HB GE216 GE217) hb); clear BK216; clear BK217; clear HB; have BK216 := n0_; have BK217 := n1_; have HB := n2_; clear n0_ n1_ n2_
         (try clear hb)
         (try clear hb2)
         (try clear hk)
         (try clear hi)
         refine hK.out _ _ ⟨(blk_cell BK216.out 0).trans rfl, (blk_cell BK216.out 1).trans rfl, (blk_cell BK217.out 0).trans rfl, (blk_cell BK217.out 1).trans rfl⟩ (fun hHeld => ?_); clear hK K; refine norm_ (a' := ?_) ?_ ?_; rotate_left
         ·show Act.put _ (some 72) _ = _
          simp only [Act.put, List.setIfInBounds_toArray, List.set_cons_zero, List.set_cons_succ, i64_w, i32_w]
          rfl
         refine one_ (i := 5) (N := some 73) #[true, true, true, true, true, true, false] rfl rfl (by kernel_rfl) (by decide) (fun K hK => ?_); refine goes_ Tryz.func38 (by kernel_rfl) rfl #[.pointer (some ⟨G_, 0, none⟩), .agg #[.int .i64 t227, .string t228], .agg #[.int .i64 t229, .string t230]] (by rfl) rfl rfl (by (try simp only [List.map_toArray, List.map_cons, List.map_nil]); first | done | rfl | (simp only [List.length_drop, List.length_take]; rfl)) ?_
         with_reducible refine (ih kj29 (by have := HJ3.out; have := HJ29.out; omega) G_ a0 t227 t228 t229 t230 t231 _ ?side1 A62.out).mono ?_
         (case side1 => repeat (first | (with_reducible exact HQa0.out) | (with_reducible refine ROK.alloc ?_ _) | (with_reducible refine ROK.drewN ?_ _) | (with_reducible refine ROK.drew ?_) | exact ROK.below HQa0.out HB.out | exact ROK.below HQa0.out (bX2 HB GE216 GE217)))
         rintro e w69 ⟨rfl, hb⟩; refine ⟨_, rfl, ?_⟩; have n0_ := Aside0.mk (blk_below (kX BK216) hb); have n1_ := Aside0.mk (blk_below (kX BK217) hb); have n2_ := Aside0.mk (below_step (bX2 HB GE216 GE217) hb); clear BK216; clear BK217; clear HB; have BK216 := n0_; have BK217 := n1_; have HB := n2_; clear n0_ n1_ n2_
         (try clear hb)
         (try clear hb2)
         (try clear hk)
         (try clear hi)
         refine hK.out _ _ ⟨(blk_cell BK216.out 0).trans rfl, (blk_cell BK216.out 1).trans rfl, (blk_cell BK217.out 0).trans rfl, (blk_cell BK217.out 1).trans rfl⟩ (fun hHeld => ?_); clear hK K; refine norm_ (a' := ?_) ?_ ?_; rotate_left
         ·show Act.put _ (some 73) _ = _
          simp only [Act.put, List.setIfInBounds_toArray, List.set_cons_zero, List.set_cons_succ, i64_w, i32_w]
          rfl
         refine pure_ (i := 6) (N := some 6) (v := ?_) (a' := ?_) #[true, true, true, true, true, true, true] rfl rfl (by kernel_rfl) (fun _ _ _ h => h) (Or.inl ⟨by rfl, ?_⟩) ?_ ?_; rotate_left
         ·intro w'
          go_simp
          with_reducible rfl
         rotate_left
         ·simp only [Act.put, List.setIfInBounds_toArray, List.set_cons_zero, List.set_cons_succ, i64_w, i32_w]
          rfl
         refine done_ (by kernel_rfl) ?_
         try go_wp2
         go_ret
         exact ⟨by first | rfl | (simp [errW_none, errW_some] <;> rfl) | (simp [*, errW_none, errW_some] <;> rfl), bX2 HB GE216 GE217⟩
def arbiterref07_Sub.f (k : Nat) (a0 : List S69) (a1_0 : Int) (a1_1 : ByteArray) (a2_0 : Int) (a2_1 : ByteArray) : Option (Bool × Int) := (arbiterref07_Loaded.f k a0 a1_0 a1_1).bind fun t234 => (if t234 = 0 then ((arbiterref07_Loaded.f k a0 a2_0 a2_1).bind fun t235 => (if t235 = 0 then ((arbiterref07_below.f k a0 a1_0 a1_1 a2_0 a2_1).bind fun t236 => (some (t236, 0))) else (some (false, t235)))) else (some (false, t234)))
set_option maxHeartbeats 8000000 in
set_option maxRecDepth 100000 in
theorem arbiterref07_Sub.calls (k : Nat) (G_ : Nat) (a0 : List S69) (a1_0 : Int) (a1_1 : ByteArray) (a2_0 : Int) (a2_1 : ByteArray) (r1 : Bool) (r2 : Int) (w : World) (hq0 : ROK w G_ a0) (h : arbiterref07_Sub.f k a0 a1_0 a1_1 a2_0 a2_1 = some (r1, r2)) :
  Calls Tryz.prog 12 #[.pointer (some ⟨G_, 0, none⟩), .agg #[.int .i64 a1_0, .string a1_1], .agg #[.int .i64 a2_0, .string a2_1]] w fun e w' => e = .returned (.tuple #[.bool r1, .int .i64 r2]) ∧ Below w.heap.size w w' := by
 have hu24 := Tryz.underlying24; obtain ⟨AQa0, cQa0, hp0, hrq0, hcq0⟩ := ROK.open hq0; have HPa0 := Aside0.mk hp0; have HRqa0 := Aside0.mk hrq0; have HCqa0 := Aside0.mk hcq0; clear hp0 hrq0 hcq0; have HQa0 := Aside0.mk hq0; clear hq0; have HB := Aside0.mk (Below.refl w.heap.size w); have H : ((arbiterref07_Loaded.f k a0 a1_0 a1_1).bind fun t234 => (if t234 = 0 then ((arbiterref07_Loaded.f k a0 a2_0 a2_1).bind fun t235 => (if t235 = 0 then ((arbiterref07_below.f k a0 a1_0 a1_1 a2_0 a2_1).bind fun t236 => (some (t236, 0))) else (some (false, t235)))) else (some (false, t234)))) = some (r1, r2) := h; clear h; replace H := Option.bind_eq_some_iff.mp H; obtain ⟨t234, A40, H⟩ := H; replace H : (if t234 = 0 then ((arbiterref07_Loaded.f k a0 a2_0 a2_1).bind fun t235 => (if t235 = 0 then ((arbiterref07_below.f k a0 a1_0 a1_1 a2_0 a2_1).bind fun t236 => (some (t236, 0))) else (some (false, t235)))) else (some (false, t234))) = some (r1, r2) := H; have A4 := Aside0.mk A40; clear A40
 by_cases c5 : t234 = 0
 ·rw [if_pos c5] at H
  have c5b0 : (t234 == 0) = true := beq_iff_eq.mpr c5; have c5b1 : (t234 != 0) = false := bne_eq_false_iff_eq.mpr c5; clear c5; replace H := Option.bind_eq_some_iff.mp H; obtain ⟨t235, A60, H⟩ := H; replace H : (if t235 = 0 then ((arbiterref07_below.f k a0 a1_0 a1_1 a2_0 a2_1).bind fun t236 => (some (t236, 0))) else (some (false, t235))) = some (r1, r2) := H; have A6 := Aside0.mk A60; clear A60
  by_cases c7 : t235 = 0
  ·rw [if_pos c7] at H
   have c7b0 : (t235 == 0) = true := beq_iff_eq.mpr c7; have c7b1 : (t235 != 0) = false := bne_eq_false_iff_eq.mpr c7; clear c7; replace H := Option.bind_eq_some_iff.mp H; obtain ⟨t236, A80, H⟩ := H; replace H : (some (t236, 0)) = some (r1, r2) := H; have A8 := Aside0.mk A80; clear A80; simp only [Option.some.injEq, Prod.mk.injEq] at H; obtain ⟨rfl, rfl⟩ := H; go_enter Tryz.func12, Tryz.ntmps12; go_wp2_with (first | ((with_reducible refine gate_dst (N := 4) rfl ?_); refine box_event ?hg (N := 4) ?hd (cs := #[.int .i64 a1_0, .string a1_1]) (t := 24) ?hr ?_; (case hd => rfl); (case hg => rfl); (case hr => first | (go_simp; done) | (go_simp; rfl)); intro gb232 hg w9 hbox hb; have n0_ := Aside0.mk (below_step (bX HB) hb); have n1_ := Aside0.mk (hbox); have n2_ := Aside0.mk ((by rw [hg]; exact (below_size (bX HB)) : w.heap.size ≤ gb232)); have n3_ := Aside0.mk ((by rw [hg]; exact (below_size (bX HB)) : w.heap.size ≤ gb232)); clear HB; have HB := n0_; have BK232 := n1_; have GW232 := n2_; have GE232 := n3_; clear n0_ n1_ n2_ n3_; clear hb hbox hg) | ((with_reducible refine gate_dst (N := 5) rfl ?_); refine box_event ?hg (N := 5) ?hd (cs := #[.int .i64 a2_0, .string a2_1]) (t := 24) ?hr ?_; (case hd => rfl); (case hg => rfl); (case hr => first | (go_simp; done) | (go_simp; rfl)); intro gb233 hg w10 hbox hb; have n0_ := Aside0.mk (blk_below (kX BK232) hb); have n1_ := Aside0.mk (below_step (bX1 HB GE232) hb); have n2_ := Aside0.mk (hbox); have n3_ := Aside0.mk ((by rw [hg]; exact (below_size (bX1 HB GE232)) : w.heap.size ≤ gb233)); have n4_ := Aside0.mk ((by rw [hg]; exact (below_size (bX1 HB GE232)) : w.heap.size ≤ gb233)); have n5_ := Aside0.mk ((by rw [hg]; exact Nat.ne_of_lt (blk_lt (kX BK232)) : gb232 ≠ gb233)); have n6_ := Aside0.mk ((by rw [hg]; exact Nat.ne_of_gt (blk_lt (kX BK232)) : gb233 ≠ gb232)); clear BK232; clear HB; have BK232 := n0_; have HB := n1_; have BK233 := n2_; have GW233 := n3_; have GE233 := n4_; have NB232_233 := n5_; have NB233_232 := n6_; clear n0_ n1_ n2_ n3_ n4_ n5_ n6_; clear hb hbox hg; have hnb11 := NB232_233.out; have hnc11 := NB233_232.out; have hcz12_0 : w10.cell? ⟨gb232, 0, none⟩ = some (.int .i64 a1_0) := (blk_cell BK232.out 0).trans rfl; have hcz12_1 : w10.cell? ⟨gb232, 1, none⟩ = some (.string a1_1) := (blk_cell BK232.out 1).trans rfl; have hfz12_0 := blk_frozen BK232.out 0; have hfz12_1 := blk_frozen BK232.out 1) | ((with_reducible refine gate_callee (f := 14) rfl ?_); refine goesL_ (some 11) rfl rfl Tryz.func14 (by kernel_rfl) rfl #[.pointer (some ⟨G_, 0, none⟩), .agg #[.int .i64 a1_0, .string a1_1]] rfl (by (try simp only [List.map_toArray, List.map_cons, List.map_nil]); first | done | rfl | (simp only [List.length_drop, List.length_take]; rfl)) ?_; (with_reducible refine (arbiterref07_Loaded.calls k G_ a0 a1_0 a1_1 t234 _ ?side1 A4.out).mono ?_); (case side1 => repeat (first | (with_reducible exact HQa0.out) | (with_reducible refine ROK.alloc ?_ _) | (with_reducible refine ROK.drewN ?_ _) | (with_reducible refine ROK.drew ?_) | exact ROK.below HQa0.out HB.out | exact ROK.below HQa0.out (bX2 HB GE232 GE233))); rintro e w13 ⟨rfl, hb⟩; refine ⟨_, rfl, ?_⟩; have n0_ := Aside0.mk (blk_below (kX BK232) hb); have n1_ := Aside0.mk (blk_below (kX BK233) hb); have n2_ := Aside0.mk (below_step (bX2 HB GE232 GE233) hb); clear BK232; clear BK233; clear HB; have BK232 := n0_; have BK233 := n1_; have HB := n2_; clear n0_ n1_ n2_; (try clear hb); (try clear hb2); (try clear hk); (try clear hi); have hcz14_0 : w13.cell? ⟨gb233, 0, none⟩ = some (.int .i64 a2_0) := (blk_cell BK233.out 0).trans rfl; have hcz14_1 : w13.cell? ⟨gb233, 1, none⟩ = some (.string a2_1) := (blk_cell BK233.out 1).trans rfl; have hfz14_0 := blk_frozen BK233.out 0; have hfz14_1 := blk_frozen BK233.out 1) | ((with_reducible refine gate_callee (f := 14) rfl ?_); refine goesL_ (some 16) rfl rfl Tryz.func14 (by kernel_rfl) rfl #[.pointer (some ⟨G_, 0, none⟩), .agg #[.int .i64 a2_0, .string a2_1]] rfl (by (try simp only [List.map_toArray, List.map_cons, List.map_nil]); first | done | rfl | (simp only [List.length_drop, List.length_take]; rfl)) ?_; (with_reducible refine (arbiterref07_Loaded.calls k G_ a0 a2_0 a2_1 t235 _ ?side1 A6.out).mono ?_); (case side1 => repeat (first | (with_reducible exact HQa0.out) | (with_reducible refine ROK.alloc ?_ _) | (with_reducible refine ROK.drewN ?_ _) | (with_reducible refine ROK.drew ?_) | exact ROK.below HQa0.out HB.out | exact ROK.below HQa0.out (bX2 HB GE232 GE233))); rintro e w15 ⟨rfl, hb⟩; refine ⟨_, rfl, ?_⟩; have n0_ := Aside0.mk (blk_below (kX BK232) hb); have n1_ := Aside0.mk (blk_below (kX BK233) hb); have n2_ := Aside0.mk (below_step (bX2 HB GE232 GE233) hb); clear BK232; clear BK233; clear HB; have BK232 := n0_; have BK233 := n1_; have HB := n2_; clear n0_ n1_ n2_; (try clear hb); (try clear hb2); (try clear hk); (try clear hi); have hcz16_0 : w15.cell? ⟨gb232, 0, none⟩ = some (.int .i64 a1_0) := (blk_cell BK232.out 0).trans rfl; have hcz16_1 : w15.cell? ⟨gb232, 1, none⟩ = some (.string a1_1) := (blk_cell BK232.out 1).trans rfl; have hfz16_0 := blk_frozen BK232.out 0; have hfz16_1 := blk_frozen BK232.out 1; have hcz17_0 : w15.cell? ⟨gb233, 0, none⟩ = some (.int .i64 a2_0) := (blk_cell BK233.out 0).trans rfl; have hcz17_1 : w15.cell? ⟨gb233, 1, none⟩ = some (.string a2_1) := (blk_cell BK233.out 1).trans rfl; have hfz17_0 := blk_frozen BK233.out 0; have hfz17_1 := blk_frozen BK233.out 1) | ((with_reducible refine gate_callee (f := 38) rfl ?_); refine goesL_ (some 23) rfl rfl Tryz.func38 (by kernel_rfl) rfl #[.pointer (some ⟨G_, 0, none⟩), .agg #[.int .i64 a1_0, .string a1_1], .agg #[.int .i64 a2_0, .string a2_1]] rfl (by (try simp only [List.map_toArray, List.map_cons, List.map_nil]); first | done | rfl | (simp only [List.length_drop, List.length_take]; rfl)) ?_; (with_reducible refine (arbiterref07_below.calls k G_ a0 a1_0 a1_1 a2_0 a2_1 t236 _ ?side1 A8.out).mono ?_); (case side1 => repeat (first | (with_reducible exact HQa0.out) | (with_reducible refine ROK.alloc ?_ _) | (with_reducible refine ROK.drewN ?_ _) | (with_reducible refine ROK.drew ?_) | exact ROK.below HQa0.out HB.out | exact ROK.below HQa0.out (bX2 HB GE232 GE233))); rintro e w18 ⟨rfl, hb⟩; refine ⟨_, rfl, ?_⟩; have n0_ := Aside0.mk (blk_below (kX BK232) hb); have n1_ := Aside0.mk (blk_below (kX BK233) hb); have n2_ := Aside0.mk (below_step (bX2 HB GE232 GE233) hb); clear BK232; clear BK233; clear HB; have BK232 := n0_; have BK233 := n1_; have HB := n2_; clear n0_ n1_ n2_; (try clear hb); (try clear hb2); (try clear hk); (try clear hi)))
   go_ret2
   exact ⟨by first | rfl | (simp [errW_none, errW_some] <;> rfl) | (simp [*, errW_none, errW_some] <;> rfl), bX2 HB GE232 GE233⟩
  ·rw [if_neg c7] at H
   have c7b0 : (t235 == 0) = false := beq_eq_false_iff_ne.mpr c7; have c7b1 : (t235 != 0) = true := bne_iff_ne.mpr c7; simp only [Option.some.injEq, Prod.mk.injEq] at H; obtain ⟨rfl, rfl⟩ := H; go_enter Tryz.func12, Tryz.ntmps12; go_wp2_with (first | ((with_reducible refine gate_dst (N := 4) rfl ?_); refine box_event ?hg (N := 4) ?hd (cs := #[.int .i64 a1_0, .string a1_1]) (t := 24) ?hr ?_; (case hd => rfl); (case hg => rfl); (case hr => first | (go_simp; done) | (go_simp; rfl)); intro gb232 hg w19 hbox hb; have n0_ := Aside0.mk (below_step (bX HB) hb); have n1_ := Aside0.mk (hbox); have n2_ := Aside0.mk ((by rw [hg]; exact (below_size (bX HB)) : w.heap.size ≤ gb232)); have n3_ := Aside0.mk ((by rw [hg]; exact (below_size (bX HB)) : w.heap.size ≤ gb232)); clear HB; have HB := n0_; have BK232 := n1_; have GW232 := n2_; have GE232 := n3_; clear n0_ n1_ n2_ n3_; clear hb hbox hg) | ((with_reducible refine gate_dst (N := 5) rfl ?_); refine box_event ?hg (N := 5) ?hd (cs := #[.int .i64 a2_0, .string a2_1]) (t := 24) ?hr ?_; (case hd => rfl); (case hg => rfl); (case hr => first | (go_simp; done) | (go_simp; rfl)); intro gb233 hg w20 hbox hb; have n0_ := Aside0.mk (blk_below (kX BK232) hb); have n1_ := Aside0.mk (below_step (bX1 HB GE232) hb); have n2_ := Aside0.mk (hbox); have n3_ := Aside0.mk ((by rw [hg]; exact (below_size (bX1 HB GE232)) : w.heap.size ≤ gb233)); have n4_ := Aside0.mk ((by rw [hg]; exact (below_size (bX1 HB GE232)) : w.heap.size ≤ gb233)); have n5_ := Aside0.mk ((by rw [hg]; exact Nat.ne_of_lt (blk_lt (kX BK232)) : gb232 ≠ gb233)); have n6_ := Aside0.mk ((by rw [hg]; exact Nat.ne_of_gt (blk_lt (kX BK232)) : gb233 ≠ gb232)); clear BK232; clear HB; have BK232 := n0_; have HB := n1_; have BK233 := n2_; have GW233 := n3_; have GE233 := n4_; have NB232_233 := n5_; have NB233_232 := n6_; clear n0_ n1_ n2_ n3_ n4_ n5_ n6_; clear hb hbox hg; have hnb21 := NB232_233.out; have hnc21 := NB233_232.out; have hcz22_0 : w20.cell? ⟨gb232, 0, none⟩ = some (.int .i64 a1_0) := (blk_cell BK232.out 0).trans rfl; have hcz22_1 : w20.cell? ⟨gb232, 1, none⟩ = some (.string a1_1) := (blk_cell BK232.out 1).trans rfl; have hfz22_0 := blk_frozen BK232.out 0; have hfz22_1 := blk_frozen BK232.out 1) | ((with_reducible refine gate_callee (f := 14) rfl ?_); refine goesL_ (some 11) rfl rfl Tryz.func14 (by kernel_rfl) rfl #[.pointer (some ⟨G_, 0, none⟩), .agg #[.int .i64 a1_0, .string a1_1]] rfl (by (try simp only [List.map_toArray, List.map_cons, List.map_nil]); first | done | rfl | (simp only [List.length_drop, List.length_take]; rfl)) ?_; (with_reducible refine (arbiterref07_Loaded.calls k G_ a0 a1_0 a1_1 t234 _ ?side1 A4.out).mono ?_); (case side1 => repeat (first | (with_reducible exact HQa0.out) | (with_reducible refine ROK.alloc ?_ _) | (with_reducible refine ROK.drewN ?_ _) | (with_reducible refine ROK.drew ?_) | exact ROK.below HQa0.out HB.out | exact ROK.below HQa0.out (bX2 HB GE232 GE233))); rintro e w23 ⟨rfl, hb⟩; refine ⟨_, rfl, ?_⟩; have n0_ := Aside0.mk (blk_below (kX BK232) hb); have n1_ := Aside0.mk (blk_below (kX BK233) hb); have n2_ := Aside0.mk (below_step (bX2 HB GE232 GE233) hb); clear BK232; clear BK233; clear HB; have BK232 := n0_; have BK233 := n1_; have HB := n2_; clear n0_ n1_ n2_; (try clear hb); (try clear hb2); (try clear hk); (try clear hi); have hcz24_0 : w23.cell? ⟨gb233, 0, none⟩ = some (.int .i64 a2_0) := (blk_cell BK233.out 0).trans rfl; have hcz24_1 : w23.cell? ⟨gb233, 1, none⟩ = some (.string a2_1) := (blk_cell BK233.out 1).trans rfl; have hfz24_0 := blk_frozen BK233.out 0; have hfz24_1 := blk_frozen BK233.out 1) | ((with_reducible refine gate_callee (f := 14) rfl ?_); refine goesL_ (some 16) rfl rfl Tryz.func14 (by kernel_rfl) rfl #[.pointer (some ⟨G_, 0, none⟩), .agg #[.int .i64 a2_0, .string a2_1]] rfl (by (try simp only [List.map_toArray, List.map_cons, List.map_nil]); first | done | rfl | (simp only [List.length_drop, List.length_take]; rfl)) ?_; (with_reducible refine (arbiterref07_Loaded.calls k G_ a0 a2_0 a2_1 t235 _ ?side1 A6.out).mono ?_); (case side1 => repeat (first | (with_reducible exact HQa0.out) | (with_reducible refine ROK.alloc ?_ _) | (with_reducible refine ROK.drewN ?_ _) | (with_reducible refine ROK.drew ?_) | exact ROK.below HQa0.out HB.out | exact ROK.below HQa0.out (bX2 HB GE232 GE233))); rintro e w25 ⟨rfl, hb⟩; refine ⟨_, rfl, ?_⟩; have n0_ := Aside0.mk (blk_below (kX BK232) hb); have n1_ := Aside0.mk (blk_below (kX BK233) hb); have n2_ := Aside0.mk (below_step (bX2 HB GE232 GE233) hb); clear BK232; clear BK233; clear HB; have BK232 := n0_; have BK233 := n1_; have HB := n2_; clear n0_ n1_ n2_; (try clear hb); (try clear hb2); (try clear hk); (try clear hi))); go_ret2
   exact ⟨by first | rfl | (simp [errW_none, errW_some] <;> rfl) | (simp [*, errW_none, errW_some] <;> rfl), bX2 HB GE232 GE233⟩
 ·rw [if_neg c5] at H
  have c5b0 : (t234 == 0) = false := beq_eq_false_iff_ne.mpr c5; have c5b1 : (t234 != 0) = true := bne_iff_ne.mpr c5; simp only [Option.some.injEq, Prod.mk.injEq] at H; obtain ⟨rfl, rfl⟩ := H; go_enter Tryz.func12, Tryz.ntmps12; go_wp2_with (first | ((with_reducible refine gate_dst (N := 4) rfl ?_); refine box_event ?hg (N := 4) ?hd (cs := #[.int .i64 a1_0, .string a1_1]) (t := 24) ?hr ?_; (case hd => rfl); (case hg => rfl); (case hr => first | (go_simp; done) | (go_simp; rfl)); intro gb232 hg w26 hbox hb; have n0_ := Aside0.mk (below_step (bX HB) hb); have n1_ := Aside0.mk (hbox); have n2_ := Aside0.mk ((by rw [hg]; exact (below_size (bX HB)) : w.heap.size ≤ gb232)); have n3_ := Aside0.mk ((by rw [hg]; exact (below_size (bX HB)) : w.heap.size ≤ gb232)); clear HB; have HB := n0_; have BK232 := n1_; have GW232 := n2_; have GE232 := n3_; clear n0_ n1_ n2_ n3_; clear hb hbox hg) | ((with_reducible refine gate_dst (N := 5) rfl ?_); refine box_event ?hg (N := 5) ?hd (cs := #[.int .i64 a2_0, .string a2_1]) (t := 24) ?hr ?_; (case hd => rfl); (case hg => rfl); (case hr => first | (go_simp; done) | (go_simp; rfl)); intro gb233 hg w27 hbox hb; have n0_ := Aside0.mk (blk_below (kX BK232) hb); have n1_ := Aside0.mk (below_step (bX1 HB GE232) hb); have n2_ := Aside0.mk (hbox); have n3_ := Aside0.mk ((by rw [hg]; exact (below_size (bX1 HB GE232)) : w.heap.size ≤ gb233)); have n4_ := Aside0.mk ((by rw [hg]; exact (below_size (bX1 HB GE232)) : w.heap.size ≤ gb233)); have n5_ := Aside0.mk ((by rw [hg]; exact Nat.ne_of_lt (blk_lt (kX BK232)) : gb232 ≠ gb233)); have n6_ := Aside0.mk ((by rw [hg]; exact Nat.ne_of_gt (blk_lt (kX BK232)) : gb233 ≠ gb232)); clear BK232; clear HB; have BK232 := n0_; have HB := n1_; have BK233 := n2_; have GW233 := n3_; have GE233 := n4_; have NB232_233 := n5_; have NB233_232 := n6_; clear n0_ n1_ n2_ n3_ n4_ n5_ n6_; clear hb hbox hg; have hnb28 := NB232_233.out; have hnc28 := NB233_232.out; have hcz29_0 : w27.cell? ⟨gb232, 0, none⟩ = some (.int .i64 a1_0) := (blk_cell BK232.out 0).trans rfl; have hcz29_1 : w27.cell? ⟨gb232, 1, none⟩ = some (.string a1_1) := (blk_cell BK232.out 1).trans rfl; have hfz29_0 := blk_frozen BK232.out 0; have hfz29_1 := blk_frozen BK232.out 1) | ((with_reducible refine gate_callee (f := 14) rfl ?_); refine goesL_ (some 11) rfl rfl Tryz.func14 (by kernel_rfl) rfl #[.pointer (some ⟨G_, 0, none⟩), .agg #[.int .i64 a1_0, .string a1_1]] rfl (by (try simp only [List.map_toArray, List.map_cons, List.map_nil]); first | done | rfl | (simp only [List.length_drop, List.length_take]; rfl)) ?_; (with_reducible refine (arbiterref07_Loaded.calls k G_ a0 a1_0 a1_1 t234 _ ?side1 A4.out).mono ?_); (case side1 => repeat (first | (with_reducible exact HQa0.out) | (with_reducible refine ROK.alloc ?_ _) | (with_reducible refine ROK.drewN ?_ _) | (with_reducible refine ROK.drew ?_) | exact ROK.below HQa0.out HB.out | exact ROK.below HQa0.out (bX2 HB GE232 GE233))); rintro e w30 ⟨rfl, hb⟩; refine ⟨_, rfl, ?_⟩; have n0_ := Aside0.mk (blk_below (kX BK232) hb); have n1_ := Aside0.mk (blk_below (kX BK233) hb); have n2_ := Aside0.mk (below_step (bX2 HB GE232 GE233) hb); clear BK232; clear BK233; clear HB; have BK232 := n0_; have BK233 := n1_; have HB := n2_; clear n0_ n1_ n2_; (try clear hb); (try clear hb2); (try clear hk); (try clear hi))); go_ret2
  exact ⟨by first | rfl | (simp [errW_none, errW_some] <;> rfl) | (simp [*, errW_none, errW_some] <;> rfl), bX2 HB GE232 GE233⟩
end Go.Proofs.YtmlifggklaeieaaGreatDoor.Pt

namespace Go.Proofs.YtmlifggklaeieaaGreatDoor.Pt
open Go Go.RowKit Go.Proofs.YtmlifggklaeieaaGreatDoor.Nm Go.Proofs.YtmlifggklaeieaaGreatDoor.Ty Go.Proofs.YtmlifggklaeieaaGreatDoor.Hi Go.Proofs.YtmlifggklaeieaaGreatDoorW.PrintWords
set_option linter.unusedVariables false
set_option linter.unusedSimpArgs false
theorem chk_two (d : Int) (s : ByteArray) : chk d s.data.toList = 0 ∨ chk d s.data.toList = 1 := by
 unfold chk
 by_cases h1 : d < 0 ∨ 255 < d
 ·exact .inr (if_pos h1)
 ·rw [if_neg h1]
  by_cases h2 : s.data.toList ≠ [] ∧ validB (bs s.data.toList) = false
  ·exact .inr (if_pos h2)
  ·exact .inl (if_neg h2)
theorem rload_ok (es : List Ent) (hl : es.length ≤ 1000) (d : Int) (s : ByteArray) (k : Nat) (hk : es.length < k) : arbiterref07_Loaded.f k (csOf es) d s = some (loadF es d s) := by
 unfold arbiterref07_Loaded.f loadF; rw [show arbiterref02_Check.f d s = some (chk d s.data.toList) from rfl, Option.bind_some, byname_ok es hl s k hk, Option.bind_some]
 by_cases h0 : chk d s.data.toList = 0
 ·rw [if_pos h0, if_pos h0]
  by_cases h1 : s.toList = []
  ·rw [if_pos h1, if_pos h1]
  ·rw [if_neg h1, if_neg h1]
   by_cases h2 : (nameF es s).2 = 0
   ·rw [if_pos h2, if_pos h2]
   ·rw [if_neg h2, if_neg h2]
 ·rw [if_neg h0, if_neg h0, (chk_two d s).resolve_left h0]
theorem isint_ok (d : Int) (s : ByteArray) : arbiterref07_IsInt.f d s = some (intT d s) := by
 unfold arbiterref07_IsInt.f intT
 by_cases h : d = 0
 ·rw [if_pos h, beq_iff_eq.2 h, Bool.true_and]
 ·rw [if_neg h, beq_eq_false_iff_ne.2 h, Bool.false_and]
theorem rtop_ok (t : ByteArray) : (if t.toList = ([79, 98, 106, 101, 99, 116] : List UInt8) then (some true) else (if t.toList = ([67, 108, 111, 110, 101, 97, 98, 108, 101] : List UInt8) then (some true) else (some (t.toList == ([83, 101, 114, 105, 97, 108, 105, 122, 97, 98, 108, 101] : List UInt8))))) = some (topB t) := by
 unfold topB
 by_cases c1 : t.toList = ([79, 98, 106, 101, 99, 116] : List UInt8)
 ·rw [if_pos c1, if_pos c1]
 ·rw [if_neg c1, if_neg c1]
  by_cases c2 : t.toList = ([67, 108, 111, 110, 101, 97, 98, 108, 101] : List UInt8)
  ·rw [if_pos c2, if_pos c2]
  ·rw [if_neg c2, if_neg c2]
theorem int_name {d : Int} {s : ByteArray} (h : intT d s = true) : d = 0 ∧ s.toList = [] := by
 unfold intT at h; rw [Bool.and_eq_true] at h
 exact ⟨beq_iff_eq.1 h.1, beq_iff_eq.1 h.2⟩
theorem rred_ok {es : List Ent} (h : Thy es) (hl : es.length ≤ 1000) (a b : Int) (s t : ByteArray) (ha : 0 ≤ a) (hb : 0 ≤ b) (hab : a = 0 ∨ b = 0) (k : Nat) (hk : 30 * es.length + 2020 < k) : arbiterref07_below.f (k + 3) (csOf es) a s b t = some (redF es a s b t) := by
 have hj0 : ∀ x : Bool, x = (intT a s || intT b t) → arbiterref07_below.j0 (k + 2) (csOf es) x a s b t = some (redF es a s b t) := by
  rintro x rfl; rw [arbiterref07_below.j0]; unfold redF
  by_cases hi : (intT a s || intT b t) = true
  ·rw [if_pos hi, if_pos hi, isint_ok, Option.bind_some, isint_ok, Option.bind_some]
   by_cases h1 : intT a s = true
   ·rw [if_pos h1]
    congr 1
    rw [(int_name h1).1, (int_name h1).2]; unfold intT; rw [Bool.eq_iff_iff]; simp only [Bool.and_eq_true, beq_iff_eq]
    exact ⟨fun h => ⟨h.1.symm, h.2.symm⟩, fun h => ⟨h.1.symm, h.2.symm⟩⟩
   ·rw [if_neg h1]
    have h2 : intT b t = true := by
     rw [Bool.or_eq_true] at hi
     exact hi.resolve_left h1
    congr 1
    symm; rw [(int_name h2).1, (int_name h2).2]
    exact Bool.eq_false_iff.2 h1
  ·rw [if_neg hi, if_neg hi]
   by_cases h0 : a = 0
   ·rw [if_pos h0, if_neg (show ¬ a > 0 by omega)]
    by_cases h1 : b = 0
    ·rw [beq_iff_eq.2 h1, arbiterref07_below.j1, if_pos rfl, byname_ok es hl s k (by omega), Option.bind_some, byname_ok es hl t k (by omega), Option.bind_some, ext_ok h hl _ _ k (by omega), Option.bind_some, if_neg (show ¬ b > 0 by omega)]
    ·rw [beq_eq_false_iff_ne.2 h1, arbiterref07_below.j1, if_neg (by decide), if_pos h0, if_pos (show b > 0 by omega)]
   ·have h1 : b = 0 := hab.resolve_left h0
    rw [if_neg h0, arbiterref07_below.j1, if_neg (by decide), if_neg h0, if_pos h1, if_pos (show a > 0 by omega)]
    exact rtop_ok t
 rw [show k + 3 = (k + 2) + 1 by rfl, arbiterref07_below.f, isint_ok, Option.bind_some]
 by_cases h1 : intT a s = true
 ·rw [if_pos h1]
  exact hj0 true (by rw [h1]; rfl)
 ·rw [if_neg h1, isint_ok, Option.bind_some]
  exact hj0 _ (by rw [Bool.eq_false_iff.2 h1]; rfl)
theorem rbelow_ok {es : List Ent} (h : Thy es) (hl : es.length ≤ 1000) (s t : ByteArray) : ∀ (n : Nat) (a b : Int) (k : Nat), 0 ≤ a → 0 ≤ b → a ≤ 255 → b ≤ 255 → min a b ≤ n → 30 * es.length + 2030 + 3 * n < k → arbiterref07_below.f k (csOf es) a s b t = some (belowF es a s b t) := by
 intro n
 induction n with
 | zero =>
  intro a b k ha hb ha2 hb2 hn hk
  obtain ⟨k, rfl⟩ : ∃ m, k = m + 3 := ⟨k - 3, by omega⟩
  rw [rred_ok h hl a b s t ha hb (by omega) k (by omega)]; unfold belowF; rw [show min a b = 0 by omega, Int.sub_zero, Int.sub_zero]
 | succ n ih =>
  intro a b k ha hb ha2 hb2 hn hk
  obtain ⟨k, rfl⟩ : ∃ m, k = m + 3 := ⟨k - 3, by omega⟩
  by_cases hz : a = 0 ∨ b = 0
  ·rw [rred_ok h hl a b s t ha hb hz k (by omega)]
   unfold belowF; rw [show min a b = 0 by omega, Int.sub_zero, Int.sub_zero]
  ·have h0 : ¬ a = 0 := fun e => hz (.inl e)
   have h1 : ¬ b = 0 := fun e => hz (.inr e)
   have i0 : intT a s = false := by unfold intT; rw [beq_eq_false_iff_ne.2 h0, Bool.false_and]
   have i1 : intT b t = false := by unfold intT; rw [beq_eq_false_iff_ne.2 h1, Bool.false_and]
   rw [arbiterref07_below.f, isint_ok, i0, Option.bind_some, if_neg (by decide), isint_ok, i1, Option.bind_some, arbiterref07_below.j0, if_neg (by decide), if_neg h0, arbiterref07_below.j1, if_neg (by decide), if_neg h0, if_neg h1]; rw [show arbiterref07_lower.f a s = some (wrap64 (a - 1), s) from rfl, show arbiterref07_lower.f b t = some (wrap64 (b - 1), t) from rfl, Option.bind_some, Option.bind_some]; rw [show wrap64 (a - 1) = a - 1 by unfold wrap64; omega, show wrap64 (b - 1) = b - 1 by unfold wrap64; omega]; rw [ih (a - 1) (b - 1) k (by omega) (by omega) (by omega) (by omega) (by omega) (by omega), Option.bind_some]; unfold belowF; rw [show a - 1 - min (a - 1) (b - 1) = a - min a b by omega, show b - 1 - min (a - 1) (b - 1) = b - min a b by omega]
theorem rsub_ok {es : List Ent} (h : Thy es) (hl : es.length ≤ 1000) (a b : Int) (s t : ByteArray) (k : Nat) (hk : 30 * es.length + 3000 < k) : arbiterref07_Sub.f k (csOf es) a s b t = some (subF es a s b t) := by
 unfold arbiterref07_Sub.f subF; rw [rload_ok es hl a s k (by omega), Option.bind_some]
 by_cases h1 : loadF es a s = 0
 ·rw [if_pos h1, if_neg (fun h => h h1), rload_ok es hl b t k (by omega), Option.bind_some]
  by_cases h2 : loadF es b t = 0
  ·obtain ⟨s1, s2, s3⟩ := load_size h1
   obtain ⟨t1, t2, t3⟩ := load_size h2; rw [if_pos h2, if_neg (fun h3 => h3 h2), rbelow_ok h hl s t 255 a b k s2 t2 s3 t3 (by omega) (by omega), Option.bind_some]
  ·rw [if_neg h2, if_pos h2]
 ·rw [if_neg h1, if_pos h1]
end Go.Proofs.YtmlifggklaeieaaGreatDoor.Pt

namespace Go.Proofs.YtmlifggklaeieaaGreatDoor.Pt
open Go Go.RowKit Go.Proofs.YtmlifggklaeieaaGreatDoor.Nm Go.Proofs.YtmlifggklaeieaaGreatDoor.Hi Go.Proofs.YtmlifggklaeieaaGreatDoorW.PrintWords Go.Proofs.YtmlifggklaeieaaGreatDoorW.PrintLast Go.Proofs.YtmlifggklaeieaaGreatDoorW.PrintMore
set_option linter.unusedVariables false
set_option linter.unusedSimpArgs false
set_option maxHeartbeats 2000000
set_option maxRecDepth 100000
theorem index_two (a : Int) (s : ByteArray) (b : Int) (t : ByteArray) (w : World) : (Instr.index 72 (.agg #[.int .i64 a, .string s, .int .i64 b, .string t]) (.int .i64 0)).run Tryz.prog w = .ok (.agg #[.int .i64 a, .string s]) w := by rfl
theorem index_two1 (a : Int) (s : ByteArray) (b : Int) (t : ByteArray) (w : World) : (Instr.index 72 (.agg #[.int .i64 a, .string s, .int .i64 b, .string t]) (.int .i64 1)).run Tryz.prog w = .ok (.agg #[.int .i64 b, .string t]) w := by rfl
def arrays_Sub.f (a0 : List Hi.Ent) (a1_0 : Int) (a1_1 : ByteArray) (a2_0 : Int) (a2_1 : ByteArray) : Option (Bool × Int) := some (subF a0 a1_0 a1_1 a2_0 a2_1)
theorem arrays_Sub.calls (G_ : Nat) (a0 : List Hi.Ent) (a1_0 : Int) (a1_1 : ByteArray) (a2_0 : Int) (a2_1 : ByteArray) (r1 : Bool) (r2 : Int) (w : World) (hq0 : WOK w G_ a0) (h : arrays_Sub.f a0 a1_0 a1_1 a2_0 a2_1 = some (r1, r2)) :
  Calls Tryz.prog 11 #[.pointer (some ⟨G_, 0, none⟩), .agg #[.int .i64 a1_0, .string a1_1], .agg #[.int .i64 a2_0, .string a2_1]] w fun e w' => e = .returned (.tuple #[.bool r1, .int .i64 r2]) ∧ Below w.heap.size w w' := by
 have hF := Lib.hid (Option.some.inj h); have B0 := heap_alloc2_old w (.cells #[.int .i64 a1_0, .string a1_1] 24) (.cells #[.int .i64 a2_0, .string a2_1] 24); have B1 := heap_alloc2_new w (.cells #[.int .i64 a1_0, .string a1_1] 24) (.cells #[.int .i64 a2_0, .string a2_1] 24); have BB := ((Below.refl w.heap.size w).alloc (Nat.le_refl _) (.cells #[.int .i64 a1_0, .string a1_1] 24)).alloc (by simp) (.cells #[.int .i64 a2_0, .string a2_1] 24); replace B0 := Lib.hid B0; replace B1 := Lib.hid B1; replace BB := Lib.hid BB; have LD := Lib.hid (fun (W : World) (hb : Below w.heap.size w W) (d : Int) (s : ByteArray) => arrays_Loaded.calls G_ a0 d s _ W (hq0.below hb) (load_tot a0 d s)); have BL := Lib.hid (fun (W : World) (hb : Below w.heap.size w W) (h1 : loadF a0 a1_0 a1_1 = 0) (h2 : loadF a0 a2_0 a2_1 = 0) => arrays_below.calls 300 G_ a0 a1_0 a1_1 a2_0 a2_1 _ W (hq0.below hb) (below_all h1 h2)); have I0 := fun w => index_two a1_0 a1_1 a2_0 a2_1 w; have I1 := fun w => index_two1 a1_0 a1_1 a2_0 a2_1 w; clear h hq0; unfold subF at hF; go_enter Tryz.func11, Tryz.ntmps11; go_wp2_with fail; change Code.wp _ _ _ _ ((w.alloc (.cells #[.int .i64 a1_0, .string a1_1] 24)).alloc (.cells #[.int .i64 a2_0, .string a2_1] 24)); generalize (w.alloc (.cells #[.int .i64 a1_0, .string a1_1] 24)).alloc (.cells #[.int .i64 a2_0, .string a2_1] 24) = w0 at *; have Z1 := Lib.hid ((Below.refl w0.heap.size w0).alloc (Nat.le_refl _) (.cells #[.int .i64 a1_0, .string a1_1] 24)); have N1 := Lib.hid (BB.out.alloc BB.out.size (.cells #[.int .i64 a1_0, .string a1_1] 24)); have L1 := Lib.hid (LD.out _ N1.out a1_0 a1_1); refine wp_loop_rounds 3 ?_; rw [rounds_succ]; go_wp2_with fail; refine L1.out.mono ?_; rintro e w1 ⟨rfl, hb1⟩; have M1 := Lib.hid (N1.out.trans (hb1.mono N1.out.size)); have Z2 := Lib.hid (Z1.out.trans (hb1.mono Z1.out.size)); clear L1 hb1 N1 Z1
 by_cases he1 : loadF a0 a1_0 a1_1 = 0
 ·rw [if_neg (fun h => h he1)] at hF
  have hk1 := Lib.hid he1; rw [he1]; clear he1; go_wp2_with fail; rw [rounds_succ]; have N2 := Lib.hid (M1.out.alloc M1.out.size (.cells #[.int .i64 a2_0, .string a2_1] 24)); have Z3 := Lib.hid (Z2.out.alloc Z2.out.size (.cells #[.int .i64 a2_0, .string a2_1] 24)); have L2 := Lib.hid (LD.out _ N2.out a2_0 a2_1); go_wp2_with fail; refine L2.out.mono ?_; rintro e w2 ⟨rfl, hb2⟩; have M2 := Lib.hid (N2.out.trans (hb2.mono N2.out.size)); have Z4 := Lib.hid (Z3.out.trans (hb2.mono Z3.out.size)); clear L2 hb2 N2 M1 Z2 Z3
  by_cases he2 : loadF a0 a2_0 a2_1 = 0
  ·rw [if_neg (fun h => h he2)] at hF
   have hk2 := Lib.hid he2; rw [he2]; clear he2; have C0 := Lib.hid (blk_below B0.out Z4.out); have C1 := Lib.hid (blk_below B1.out Z4.out); have q0 : w2.cell? ⟨w.heap.size, 0, none⟩ = some (.int .i64 a1_0) := (blk_cell C0.out 0).trans rfl; have q1 : w2.cell? ⟨w.heap.size, 1, none⟩ = some (.string a1_1) := (blk_cell C0.out 1).trans rfl; have q2 : w2.cell? ⟨w.heap.size + 1, 0, none⟩ = some (.int .i64 a2_0) := (blk_cell C1.out 0).trans rfl; have q3 : w2.cell? ⟨w.heap.size + 1, 1, none⟩ = some (.string a2_1) := (blk_cell C1.out 1).trans rfl; have L3 := Lib.hid (BL.out _ M2.out hk1.out hk2.out); go_wp2_with fail; rw [rounds_succ]; go_wp2_with fail; refine L3.out.mono ?_; rintro e w3 ⟨rfl, hb3⟩; have M3 := Lib.hid (M2.out.trans (hb3.mono M2.out.size)); clear L3 hb3 M2; go_wp2; go_ret2; have := hF.out
   cases this
   exact ⟨rfl, M3.out⟩
  ·have hne : (loadF a0 a2_0 a2_1 != 0) = true := bne_iff_ne.2 he2
   rw [if_pos he2] at hF; clear he2; go_wp2; go_ret2; have := hF.out
   cases this
   exact ⟨rfl, M2.out⟩
 ·have hne : (loadF a0 a1_0 a1_1 != 0) = true := bne_iff_ne.2 he1
  rw [if_pos he1] at hF; clear he1; go_wp2; go_ret2; have := hF.out
  cases this
  exact ⟨rfl, M1.out⟩
end Go.Proofs.YtmlifggklaeieaaGreatDoor.Pt

namespace Go.Proofs.YtmlifggklaeieaaGreatDoor.Pt
open Go Go.RowKit Go.Proofs.YtmlifggklaeieaaGreatDoor.Nm Go.Proofs.YtmlifggklaeieaaGreatDoor.Hi Go.Proofs.YtmlifggklaeieaaGreatDoorW.PrintWords Go.Proofs.YtmlifggklaeieaaGreatDoorW.PrintLast Go.Proofs.YtmlifggklaeieaaGreatDoorW.PrintMore
set_option linter.unusedVariables false
set_option linter.unusedSimpArgs false
set_option maxHeartbeats 2000000
set_option maxRecDepth 100000
theorem sub_new : arrays_Sub.f newE 1 ⟨#[]⟩ 0 ⟨#[67, 108, 111, 110, 101, 97, 98, 108, 101]⟩ = some (true, 0) := by
 unfold arrays_Sub.f
 decide +kernel
def arbiterlaw07_awake.f : Option Bool := some true
theorem arbiterlaw07_awake.calls (r : Bool) (w : World) (h : arbiterlaw07_awake.f = some r) : Calls Tryz.prog 8 #[] w fun e w' => e = .returned (.bool r) ∧ Below w.heap.size w w' := by
 obtain rfl := Option.some.inj h; go_enter Tryz.func8, Tryz.ntmps8; go_wp2_with fail; refine (new_any _).mono ?_; rintro e w1 ⟨g, v, mb, ps, rfl, hI, hb⟩; have HO := Lib.hid (arrays_Sub.calls g newE 1 ⟨#[]⟩ 0 ⟨#[67, 108, 111, 110, 101, 97, 98, 108, 101]⟩ true 0 w1 (wok_new hI) sub_new); have HB := Lib.hid hb; clear hI hb; go_wp2_with fail; refine HO.out.mono ?_; rintro e w2 ⟨rfl, hb2⟩; have HB2 := Lib.hid (HB.out.trans (hb2.mono HB.out.size)); clear hb2; go_wp2; go_ret
 exact ⟨rfl, HB2.out⟩
end Go.Proofs.YtmlifggklaeieaaGreatDoor.Pt

namespace Go.Proofs.YtmlifggklaeieaaGreatDoor.Pt
open Go Go.RowKit Go.Proofs.YtmlifggklaeieaaGreatDoor.Nm Go.Proofs.YtmlifggklaeieaaGreatDoor.Hi Go.Proofs.YtmlifggklaeieaaGreatDoorW.PrintWords Go.Proofs.YtmlifggklaeieaaGreatDoorW.PrintLast Go.Proofs.YtmlifggklaeieaaGreatDoorW.PrintMore
set_option linter.unusedVariables false
set_option linter.unusedSimpArgs false
set_option maxHeartbeats 2000000
set_option maxRecDepth 100000
theorem rd44 {l : List S69} {i : Nat} (h : i < l.length) : l[i]? = some (rd_T69 l (i : Int)) := by
 simp [rd_T69, List.getD_eq_getElem?_getD, List.getElem?_eq_getElem h]
def arbiterlaw07_built.f (l0 : List (S69)) : Option (List Hi.Ent) := some (builtF l0)
theorem arbiterlaw07_built.calls (A0 : Option Addr) (c0 : Nat) (l0 : List (S69)) (r : List Hi.Ent) (w : World) (hr0 : Kd.C k69 w A0 l0.length l0) (hc0 : l0.length ≤ c0) (h : arbiterlaw07_built.f l0 = some r) :
  Calls Tryz.prog 9 #[.slice A0 l0.length c0] w fun e w' => ∃ G_, e = .returned (.pointer (some ⟨G_, 0, none⟩)) ∧ WOK w' G_ r ∧ Below w.heap.size w w' := by
 obtain rfl := Option.some.inj h; have HR := Lib.hid hr0; have hmax := Kd.C_max hr0; clear h hr0; go_enter Tryz.func9, Tryz.ntmps9; go_wp2_with fail; refine (new_any _).mono ?_; rintro e w1 ⟨g, v, mb, ps, rfl, hI, hb⟩; have HI := Lib.hid hI; have HB := Lib.hid hb; clear hI hb; go_wp2_with fail
 go_loopw [4] (fun v4 wr => ∃ j : Nat, j ≤ l0.length ∧ v4 = .int .i64 j ∧ Hid (∃ v ps, WIn wr w.heap.size g v mb ps (builtF (l0.take j))) ∧ Hid (Below w.heap.size w wr)) (fun v4 _ => l0.length - (intOf v4).toNat)
 case atStart => exact ⟨0, Nat.zero_le _, rfl, Lib.hid ⟨_, _, HI.out⟩, HB⟩
 case round =>
  clear HI HB; obtain ⟨j, hj, rfl, HI, HB⟩ := hrel
  by_cases hlt : j < l0.length
  ·have hjd : decide (j < l0.length) = true := decide_eq_true hlt
   obtain ⟨ad, A2, c2, A5, c5, rfl, q0, q1, q2, q3, q4, q5, hc2, K2, hc5, K5⟩ := at_T69 (Kd.C_below HR.out HB.out) (j : Int) (by omega) (by omega); have hx := rd44 hlt; rw [Int.toNat_natCast] at q0 q1 q2 q3 q4 q5; generalize rd_T69 l0 (j : Int) = x at *; obtain ⟨v, ps, hI⟩ := HI.out
   have hst : Hid (builtF (l0.take (j + 1)) = stepF (builtF (l0.take j)) x) := Lib.hid (by
    unfold builtF; rw [List.take_add_one, hx, List.foldl_append]
    rfl)
   have DF := Lib.hid (define_any wr w.heap.size g v mb ps _ hI HB.out.size (good_made (made_built _)) x.f0 x.f1 A2 c2 x.f2 x.f3 x.f4 A5 c5 x.f5 K2 hc2 K5 hc5 (chkC x) rfl (fun h => by
    obtain ⟨s0, s1, s2, s3, s5⟩ := sound_sizes h
    exact ⟨by omega, by omega, by omega, fun n hn => by have := s3 n hn; omega, s5⟩))
   clear K2 K5 hI HI hx; obtain ⟨n0, n1, n2, n3, n4, n5⟩ := x; go_wp2_with fail; refine DF.out.mono ?_; rintro e w2 ⟨rfl, v', ps', I2, hb2, hk2⟩; replace I2 := Lib.hid I2; have HB2 := Lib.hid (HB.out.trans hb2); clear hb2 hk2 DF HB q0 q1 q2 q3 q4 q5; go_wp2
   exact ⟨⟨j + 1, by omega, by push_cast; rfl, Lib.hid ⟨_, _, by rw [hst.out]; exact I2.out⟩, HB2⟩, by simp [intOf]; omega⟩
  ·have hjd : decide (j < l0.length) = false := decide_eq_false hlt
   have e1 : j = l0.length := by omega
   subst e1; rw [List.take_length] at HI; go_wp2; go_ret; obtain ⟨v, ps, hI⟩ := HI.out; have hg := good_made (made_built l0)
   exact ⟨g, rfl, ⟨⟨_, _, _, _, hI⟩, hg.fine, hg.tree, by have := hg.len; omega⟩, HB.out⟩
def arbiterlaw08_built.f (l0 : List (S69)) : Option (List Hi.Ent) := some (builtF l0)
end Go.Proofs.YtmlifggklaeieaaGreatDoor.Pt

namespace Go.Proofs.YtmlifggklaeieaaGreatDoor.Pt
open Go Go.RowKit Go.Proofs.YtmlifggklaeieaaGreatDoor.Nm Go.Proofs.YtmlifggklaeieaaGreatDoor.Ty Go.Proofs.YtmlifggklaeieaaGreatDoor.Cd Go.Proofs.YtmlifggklaeieaaGreatDoorW.PrintWords Go.Proofs.YtmlifggklaeieaaGreatDoorW.PrintLast Go.Proofs.YtmlifggklaeieaaGreatDoorW.PrintMore
set_option linter.unusedVariables false
set_option linter.unusedSimpArgs false
set_option maxHeartbeats 2000000
set_option maxRecDepth 100000
theorem rpdesc_any (a0 : ByteArray) (w : World) : Calls Tryz.prog 116 #[.string a0] w fun e w' => ∃ v0_ : Value, e = .returned (.tuple #[.agg #[v0_, .bool (parseD a0.data.toList).1.void, .int .i64 (parseD a0.data.toList).1.rdims, .string (bs (parseD a0.data.toList).1.rname)], .int .i64 (parseD a0.data.toList).2]) ∧
  Kd.R k24 24 w' w.heap.size (fun _ => True) v0_ ((parseD a0.data.toList).1.args.map toS) ∧ Below w.heap.size w w' :=
 arbiterref02_ParseDesc.calls 5000 a0 _ _ _ _ _ w (pdesc_f a0 5000 (Nat.le_refl _))
theorem roper_any (op : Int) (w : World) : Calls Tryz.prog 135 #[.int .i64 op] w fun e w' => e = .returned (.int .i64 (Cd.opnd op)) ∧ w' = w := by
 have ht : ∀ k : Nat, k < 41 → k = 0 ∨ k = 1 ∨ k = 2 ∨ k = 3 ∨ k = 4 ∨ k = 5 ∨ k = 11 ∨ k = 12 ∨ k = 13 ∨ k = 14 ∨ k = 15 ∨ k = 16 ∨ k = 17 ∨ k = 18 ∨ k = 22 ∨ k = 23 ∨ k = 24 ∨ k = 30 ∨ k = 31 ∨ k = 32 ∨ k = 33 ∨ k = 34 ∨ k = 35 ∨ Cd.opTab.getD k 0 = 0 := by decide
 replace ht := Lib.hid ht; go_enter Tryz.func135, Tryz.ntmps135; go_wp2
 all_goals
  go_ret; refine ⟨ret_eq ?_, rfl⟩; simp only [beq_iff_eq, beq_eq_false_iff_ne, ne_eq, decide_eq_true_eq, decide_eq_false_iff_not, Bool.or_eq_true, Bool.or_eq_false_iff] at *
 all_goals first
  | (subst_vars; rfl)
  | (unfold Cd.opnd; rw [if_pos (by omega)])
  | (unfold Cd.opnd; rw [if_neg (by omega)]; have := ht.out op.toNat (by omega); omega)
def noRefB (ri : Bool) (rc rn rd : ByteArray) : Bool := !ri && (rc.toList == [] && (rn.toList == [] && rd.toList == []))
theorem noref_any (ri : Bool) (rc rn rd : ByteArray) (w : World) : Calls Tryz.prog 142 #[.agg #[.bool ri, .string rc, .string rn, .string rd]] w fun e w' => e = .returned (.bool (noRefB ri rc rn rd)) ∧ Below w.heap.size w w' := by
 have AB := Lib.hid ((Below.refl w.heap.size w).alloc (Nat.le_refl _) (.cells #[.bool ri, .string rc, .string rn, .string rd] 113)); generalize hr : noRefB ri rc rn rd = r; replace hr := Lib.hid hr; unfold noRefB at hr
 cases ri
 all_goals
  go_enter Tryz.func142, Tryz.ntmps142; go_wp2
  all_goals
   go_ret; refine ⟨?_, AB.out⟩; rw [← hr.out]
   simp_all
theorem rrefck_any (ri : Bool) (rc rn rd : ByteArray) (w : World) : Calls Tryz.prog 145 #[.agg #[.bool ri, .string rc, .string rn, .string rd]] w fun e w' => e = .returned (.int .i64 (refV rc rn rd)) ∧ Below w.heap.size w w' := by
 have B0 := Lib.hid (blk_new w (.cells #[.bool ri, .string rc, .string rn, .string rd] 113)); have AB := Lib.hid ((Below.refl w.heap.size w).alloc (Nat.le_refl _) (.cells #[.bool ri, .string rc, .string rn, .string rd] 113)); have C1 := Lib.hid (arbiterref02_ParseRef.calls rc _ _ _ (w.alloc (.cells #[.bool ri, .string rc, .string rn, .string rd] 113)) rfl); have C2 := Lib.hid (fun W => rpdesc_any rd W); have C3 := Lib.hid (fun W => arbiterref01_Member.calls rn _ W rfl); generalize hr : refV rc rn rd = r at *; replace hr := Lib.hid hr; unfold refV at hr; generalize parseR rc.data.toList = p1 at *; generalize parseD rd.data.toList = p2 at *; generalize memberB rn = mb at *; obtain ⟨d1, s1, e1⟩ := p1; obtain ⟨d2, e2⟩ := p2; go_enter Tryz.func145, Tryz.ntmps145; go_wp2_with fail; refine C1.out.mono ?_; rintro e w1 ⟨rfl, hb1⟩; have B1 := blk_below B0.out hb1; have q2 : w1.cell? ⟨w.heap.size, 2, none⟩ = some (.string rn) := (blk_cell B1 2).trans rfl; have q2 := cell_allocs q2; have H1 := Lib.hid (AB.out.trans (hb1.mono AB.out.size)); replace B1 := Lib.hid B1; clear B0 AB C1 hb1
 by_cases h1 : e1 = 0
 ·subst h1
  go_wp2_with fail; refine (C3.out _).mono ?_; rintro e w2 ⟨rfl, hb2⟩; have q3 : w2.cell? ⟨w.heap.size, 3, none⟩ = some (.string rd) := pw_cell_below hb2 (cell_allocs ((blk_cell B1.out 3).trans rfl) _); have H2 := Lib.hid ((H1.out.alloc H1.out.size _).trans (hb2.mono (H1.out.alloc H1.out.size _).size)); clear hb2 C3 H1 B1 q2
  cases mb with
  | false =>
   go_wp2; go_ret; have := hr.out; simp at this; subst this
   exact ⟨rfl, H2.out⟩
  | true =>
   go_wp2_with fail; refine (C2.out _).mono ?_; rintro e w3 ⟨v0, rfl, R0, hb3⟩; obtain ⟨A0, c0, rfl⟩ := Kd.R_slice R0; have H3 := Lib.hid (H2.out.trans (hb3.mono H2.out.size)); clear hb3 H2 C2 q3 R0
   by_cases h2 : e2 = 0
   ·subst h2
    go_wp2; go_ret; have := hr.out; simp at this; subst this
    exact ⟨rfl, H3.out.alloc H3.out.size _⟩
   ·have hne : (e2 != 0) = true := bne_iff_ne.2 h2
    go_wp2; go_ret; have := hr.out; simp [h2] at this; subst this
    exact ⟨rfl, H3.out.alloc H3.out.size _⟩
 ·have hne : (e1 != 0) = true := bne_iff_ne.2 h1
  go_wp2; go_ret; have := hr.out; simp [h1] at this; subst this
  exact ⟨rfl, H1.out.alloc H1.out.size _⟩
def rbare (k n : Int) (ty : ByteArray) (nr : Bool) : Bool := decide (0 ≤ k) && ((k == 8 || nr) && ((!(k == 0 || k == 4 || k == 5 || k == 6 || k == 8) || n == 0) && (!(decide (k < 4) || k == 8) || ty.toList == [])))
theorem toList_nil (s : ByteArray) : ((⟨#[]⟩ : ByteArray).toList == s.toList) = (s.toList == []) := by
 rw [show (⟨#[]⟩ : ByteArray).toList = [] from by rw [ByteArray.toList_eq]]
 cases s.toList <;> rfl
theorem rins_eq (op n : Int) (ty : ByteArray) (ri : Bool) (rc rn rd : ByteArray) : insV ⟨op, n, ty, ⟨ri, rc, rn, rd⟩⟩ = if (rbare (Cd.opnd op) n ty (noRefB ri rc rn rd) && opB op n ty rc rn rd) = true then 0 else 1 := by
 have hs : ∀ s : ByteArray, (s.toList == s.toList) = true := fun s => beq_self_eq_true _
 have hb : (bareOk op n ty ri rc rn rd && opB op n ty rc rn rd) = (rbare (Cd.opnd op) n ty (noRefB ri rc rn rd) && opB op n ty rc rn rd) := by
  unfold bareOk rbare sameI noRefB opB; have hn : (0 == n) = (n == 0) := Bool.beq_comm
  rcases opnd_cases op with h | h | h | h | h | h | h | h | h | h
  all_goals
   rw [h]; simp only [bareN, bareT, bareS, bareB]; simp [hs, toList_nil, hn, Bool.and_assoc, Bool.and_left_comm, Bool.and_comm]
 unfold insV; simp only; rw [← hb]
 cases bareOk op n ty ri rc rn rd <;> cases opB op n ty rc rn rd <;> rfl
theorem rcdck_any (op n : Int) (ty : ByteArray) (ri : Bool) (rc rn rd : ByteArray) (w : World) :
  Calls Tryz.prog 136 #[.agg #[.int .i64 op, .int .i64 n, .string ty, .bool ri, .string rc, .string rn, .string rd]] w fun e w' => e = .returned (.int .i64 (insV ⟨op, n, ty, ⟨ri, rc, rn, rd⟩⟩)) ∧ Below w.heap.size w w' := by
 have B0 := Lib.hid (blk_new w (.cells #[.int .i64 op, .int .i64 n, .string ty, .bool ri, .string rc, .string rn, .string rd] 115)); have AB := Lib.hid ((Below.refl w.heap.size w).alloc (Nat.le_refl _) (.cells #[.int .i64 op, .int .i64 n, .string ty, .bool ri, .string rc, .string rn, .string rd] 115)); have OP := Lib.hid (fun W => roper_any op W); have CN := Lib.hid (fun W => noref_any ri rc rn rd W); have CV := Lib.hid (fun W => arbiterref01_Valid.calls ty _ W rfl); have CR := Lib.hid (fun W => arbiterref02_ParseRef.calls ty _ _ _ W rfl); have CP := Lib.hid (fun W => arbiterref02_Parse.calls ty _ _ _ W rfl); have CF := Lib.hid (fun W => rrefck_any ri rc rn rd W); have K := opnd_cases op; generalize hr : insV ⟨op, n, ty, ⟨ri, rc, rn, rd⟩⟩ = r; rw [rins_eq] at hr; unfold opB rbare wthB at hr; generalize noRefB ri rc rn rd = nr at *; generalize Cd.opnd op = k at *; generalize parseR ty.data.toList = p1 at *; generalize parseT ty.data.toList = p2 at *; generalize refV rc rn rd = fv at *; generalize validB ty = vb at *; obtain ⟨d1, s1, e1⟩ := p1; obtain ⟨d2, s2, e2⟩ := p2; replace hr := Lib.hid hr; go_enter Tryz.func136, Tryz.ntmps136; go_wp2_with fail; refine (OP.out _).mono ?_; rintro e w1 ⟨rfl, rfl⟩
 by_cases h8 : k = 8
 ·subst h8
  clear CN CV CR CP K; go_wp2_with (go_at_call 145; refine (CF.out _).mono ?_; rintro e w2 ⟨rfl, hb2⟩; replace hb2 := Lib.hid (AB.out.trans (hb2.mono AB.out.size)))
  all_goals
   go_ret
  all_goals first
   | exact ⟨by rw [← hr.out]; first | (simp_all; done) | (simp_all; omega), hb2.out⟩
   | exact ⟨by rw [← hr.out]; first | (simp_all; done) | (simp_all; omega), AB.out⟩
 ·have h8b : (k != 8) = true := bne_iff_ne.2 h8
  go_wp2_with fail; refine (CN.out _).mono ?_; rintro e w2 ⟨rfl, hb2⟩; have B2 := Lib.hid (blk_below B0.out hb2); have H2 := Lib.hid (AB.out.trans (hb2.mono AB.out.size)); have q1 : w2.cell? ⟨w.heap.size, 1, none⟩ = some (.int .i64 n) := (blk_cell B2.out 1).trans rfl; have q2 : w2.cell? ⟨w.heap.size, 2, none⟩ = some (.string ty) := (blk_cell B2.out 2).trans rfl; clear CN AB hb2 OP CF
  rcases K with rfl | rfl | rfl | rfl | rfl | rfl | rfl | rfl | rfl | rfl
  case inr.inr.inr.inr.inr.inr.inr.inr.inr => exact absurd rfl h8
  case inr.inr.inr.inr.inr.inl =>
   go_wp2_with (go_at_call 73; refine (CV.out _).mono ?_; rintro e w3 ⟨rfl, hb3⟩; replace hb3 := Lib.hid (H2.out.trans (hb3.mono H2.out.size)))
   all_goals
    go_ret
   all_goals first
    | exact ⟨by rw [← hr.out]; first | (simp_all; done) | (simp_all; omega), hb3.out⟩
    | exact ⟨by rw [← hr.out]; first | (simp_all; done) | (simp_all; omega), H2.out⟩
  case inr.inr.inr.inr.inr.inr.inl =>
   go_wp2_with (go_at_call 143; refine (CR.out _).mono ?_; rintro e w3 ⟨rfl, hb3⟩; replace hb3 := Lib.hid (H2.out.trans (hb3.mono H2.out.size)))
   all_goals
    go_ret
   all_goals first
    | exact ⟨by rw [← hr.out]; first | (simp_all; done) | (simp_all; omega), hb3.out.alloc hb3.out.size _⟩
    | exact ⟨by rw [← hr.out]; first | (simp_all; done) | (simp_all; omega), H2.out⟩
  case inr.inr.inr.inr.inr.inr.inr.inl =>
   go_wp2_with (go_at_call 144; refine (CP.out _).mono ?_; rintro e w3 ⟨rfl, hb3⟩; replace hb3 := Lib.hid (H2.out.trans (hb3.mono H2.out.size)))
   all_goals
    go_ret
   all_goals first
    | exact ⟨by rw [← hr.out]; first | (simp_all; done) | (simp_all; omega), hb3.out.alloc hb3.out.size _⟩
    | exact ⟨by rw [← hr.out]; first | (simp_all; done) | (simp_all; omega), H2.out⟩
  case inr.inr.inr.inr.inr.inr.inr.inr.inl =>
   go_wp2_with (go_at_call 143; refine (CR.out _).mono ?_; rintro e w3 ⟨rfl, hb3⟩; have r1 := cell_allocs (pw_cell_below hb3 q1); replace hb3 := Lib.hid (H2.out.trans (hb3.mono H2.out.size)))
   all_goals
    go_ret
   all_goals first
    | exact ⟨by rw [← hr.out]; first | (simp_all; done) | (simp_all; omega), hb3.out.alloc hb3.out.size _⟩
    | exact ⟨by rw [← hr.out]; first | (simp_all; done) | (simp_all; omega), H2.out⟩
  all_goals
   go_wp2
   all_goals
    go_ret
    exact ⟨by rw [← hr.out]; first | (simp_all; done) | (simp_all; omega), H2.out⟩
end Go.Proofs.YtmlifggklaeieaaGreatDoor.Pt

namespace Go.Proofs.YtmlifggklaeieaaGreatDoor.Pt
open Go.RowKit Go.Proofs.YtmlifggklaeieaaGreatDoorW.PrintWords Go.Proofs.YtmlifggklaeieaaGreatDoorW.PrintLast Go.Proofs.YtmlifggklaeieaaGreatDoorW.PrintMore
attribute [local go_sem] max2_int min2_int max_two min_two max_three min_three max_four min_four   -- for this text's walks alone
set_option linter.unusedVariables false
set_option linter.unusedSimpArgs false
def arbiterref02_Args.f (k : Nat) (a0 : ByteArray) : Option (Int × Int) := (arbiterref02_ParseDesc.f k a0).bind fun bt117 => (some ((bt117.1.length : Int), bt117.2.2.2.2))
set_option maxHeartbeats 8000000 in
set_option maxRecDepth 100000 in
theorem arbiterref02_Args.calls (k : Nat) (a0 : ByteArray) (r1 : Int) (r2 : Int) (w : World) (h : arbiterref02_Args.f k a0 = some (r1, r2)) :
  Calls Tryz.prog 134 #[.string a0] w fun e w' => e = .returned (.tuple #[.int .i64 r1, .int .i64 r2]) ∧ Below w.heap.size w w' := by
 have hu145 := Tryz.underlying145; have HB := Aside0.mk (Below.refl w.heap.size w); have H : ((arbiterref02_ParseDesc.f k a0).bind fun bt117 => (some ((bt117.1.length : Int), bt117.2.2.2.2))) = some (r1, r2) := h; clear h; replace H := Option.bind_eq_some_iff.mp H; obtain ⟨⟨t117, t120, t121, t122, t123⟩, A20, H⟩ := H; replace H : (some ((t117.length : Int), t123)) = some (r1, r2) := H; have A2 := Aside0.mk A20; clear A20; simp only [Option.some.injEq, Prod.mk.injEq] at H; obtain ⟨rfl, rfl⟩ := H; go_enter Tryz.func134, Tryz.ntmps134; go_wp2_with (first | ((with_reducible refine gate_callee (f := 116) rfl ?_); refine goesL_ (some 8) rfl rfl Tryz.func116 (by kernel_rfl) rfl #[.string a0] rfl (by (try simp only [List.map_toArray, List.map_cons, List.map_nil]); first | done | rfl | (simp only [List.length_drop, List.length_take]; rfl)) ?_; (with_reducible refine (arbiterref02_ParseDesc.calls k a0 t117 t120 t121 t122 t123 _ A2.out).mono ?_); rintro e w3 ⟨v118, rfl, ho0, hb⟩; refine ⟨_, rfl, ?_⟩; have n0_ := Aside0.mk (Kd.R_lower ho0 (below_size (bX HB))); have n1_ := Aside0.mk (below_step (bX HB) hb); clear HB; have HO119 := n0_; have HB := n1_; clear n0_ n1_; (try clear hb); (try clear hb2); (try clear hk); (try clear hi); (try clear ho0)) | ((with_reducible refine gate_dst (N := 4) rfl ?_); refine box_event ?hg (N := 4) ?hd (cs := #[.slice none 0 0, .bool false, .int .i64 0, .string (⟨#[]⟩ : ByteArray)]) (t := 145) ?hr ?_; (case hd => rfl); (case hg => rfl); (case hr => first | (go_simp; done) | (go_simp; rfl)); intro gb124 hg w4 hbox hb; have n0_ := Aside0.mk (Kd.R_below (by (with_reducible repeat (first | apply Kd.R_alloc | apply Kd.R_drewN | apply Kd.R_drew)); exact HO119.out) hb); have n1_ := Aside0.mk (below_step (bX HB) hb); have n2_ := Aside0.mk (hbox); have n3_ := Aside0.mk ((by rw [hg]; exact (below_size (bX HB)) : w.heap.size ≤ gb124)); have n4_ := Aside0.mk ((by rw [hg]; exact (below_size (bX HB)) : w.heap.size ≤ gb124)); clear HO119; clear HB; have HO119 := n0_; have HB := n1_; have BK124 := n2_; have GW124 := n3_; have GE124 := n4_; clear n0_ n1_ n2_ n3_ n4_; clear hb hbox hg; obtain ⟨Ao5, co5, eo5⟩ := Kd.R_slice HO119.out; subst eo5; have hcz6_0 : w4.cell? ⟨gb124, 0, none⟩ = some (.slice none 0 0) := (blk_cell BK124.out 0).trans rfl; have hcz6_1 : w4.cell? ⟨gb124, 1, none⟩ = some (.bool false) := (blk_cell BK124.out 1).trans rfl; have hcz6_2 : w4.cell? ⟨gb124, 2, none⟩ = some (.int .i64 0) := (blk_cell BK124.out 2).trans rfl; have hcz6_3 : w4.cell? ⟨gb124, 3, none⟩ = some (.string (⟨#[]⟩ : ByteArray)) := (blk_cell BK124.out 3).trans rfl; have hfz6_0 := blk_frozen BK124.out 0; have hfz6_1 := blk_frozen BK124.out 1; have hfz6_2 := blk_frozen BK124.out 2; have hfz6_3 := blk_frozen BK124.out 3)); go_ret2
 exact ⟨by first | rfl | (simp [errW_none, errW_some] <;> rfl) | (simp [*, errW_none, errW_some] <;> rfl), bX1 HB GE124⟩
end Go.Proofs.YtmlifggklaeieaaGreatDoor.Pt

namespace Go.Proofs.YtmlifggklaeieaaGreatDoor.Pt
open Go Go.RowKit Go.Proofs.YtmlifggklaeieaaGreatDoor.Nm Go.Proofs.YtmlifggklaeieaaGreatDoor.Ty Go.Proofs.YtmlifggklaeieaaGreatDoor.Cd Go.Proofs.YtmlifggklaeieaaGreatDoorW.PrintWords Go.Proofs.YtmlifggklaeieaaGreatDoorW.PrintLast Go.Proofs.YtmlifggklaeieaaGreatDoorW.PrintMore
set_option linter.unusedVariables false
set_option linter.unusedSimpArgs false
set_option maxHeartbeats 2000000
set_option maxRecDepth 100000
theorem rargs_any (a0 : ByteArray) (w : World) : Calls Tryz.prog 134 #[.string a0] w fun e w' => e = .returned (.tuple #[.int .i64 ((parseD a0.data.toList).1.args.length : Int), .int .i64 (parseD a0.data.toList).2]) ∧ Below w.heap.size w w' :=
 arbiterref02_Args.calls 5000 a0 _ _ w (by unfold arbiterref02_Args.f; rw [pdesc_f a0 5000 (Nat.le_refl _)]; simp only [Option.bind_some, tup5, List.length_map])
theorem rwords_any (f0 d : ByteArray) (f f3 f4 : Int) (v5 : Value) (h5 : ∃ A n c, v5 = .slice A n c) (w : World) (hp : (parseD d.data.toList).2 = 0) :
  Calls Tryz.prog 117 #[.agg #[.string f0, .string d, .int .i64 f, .int .i64 f3, .int .i64 f4, v5]] w fun e w' => e = .returned (.tuple #[.int .i64 (wordsV d f), .int .i64 0]) ∧ Below w.heap.size w w' := by
 obtain ⟨A, n, c, rfl⟩ := h5; have B0 := Lib.hid (blk_new w (.cells #[.string f0, .string d, .int .i64 f, .int .i64 f3, .int .i64 f4, .slice A n c] 92)); have AB := Lib.hid ((Below.refl w.heap.size w).alloc (Nat.le_refl _) (.cells #[.string f0, .string d, .int .i64 f, .int .i64 f3, .int .i64 f4, .slice A n c] 92)); have C1 := Lib.hid (rargs_any d (w.alloc (.cells #[.string f0, .string d, .int .i64 f, .int .i64 f3, .int .i64 f4, .slice A n c] 92))); have CH := Lib.hid (fun W => Fl.has_any f 8 W); generalize hr : wordsV d f = r; replace hr := Lib.hid hr; unfold wordsV at hr; rw [hp] at C1; clear hp; generalize ((parseD d.data.toList).1.args.length : Int) = m at *; unfold Fl.band at CH; go_enter Tryz.func117, Tryz.ntmps117; go_wp2_with fail; refine C1.out.mono ?_; rintro e w2 ⟨rfl, hb2⟩; have q2 : w2.cell? ⟨w.heap.size, 2, none⟩ = some (.int .i64 f) := (blk_cell (blk_below B0.out hb2) 2).trans rfl; have H2 := Lib.hid (AB.out.trans (hb2.mono AB.out.size)); clear C1 hb2 B0 AB; go_wp2_with fail; refine (CH.out _).mono ?_; rintro e w3 ⟨rfl, rfl⟩
 by_cases h8 : Go.bits .and .i64 f 8 = 0
 ·have hd : (Go.bits .and .i64 f 8 != 0) = false := bne_eq_false_iff_eq.2 h8
  rw [if_pos h8] at hr; clear h8; rw [hd]; go_wp2; go_ret2
  exact ⟨by rw [← hr.out]; rfl, H2.out⟩
 ·have hd : (Go.bits .and .i64 f 8 != 0) = true := bne_iff_ne.2 h8
  rw [if_neg h8] at hr; clear h8; rw [hd]; go_wp2; go_ret2
  exact ⟨by rw [← hr.out]; rfl, H2.out⟩
theorem rfind_any (f0 f1 : ByteArray) (v2 : Value) (f3 f4 : Int) (A5 : Option Addr) (c5 : Nat) (l5 : List S92) (nm ds : ByteArray) (w : World) (h2 : ∃ A n c, v2 = .slice A n c) (hk5 : Kd.C k92 w A5 l5.length l5) (hl : l5.length ≤ 4611686018427387904) :
  Calls Tryz.prog 94 #[.agg #[.string f0, .string f1, v2, .int .i64 f3, .int .i64 f4, .slice A5 l5.length c5], .string nm, .string ds] w fun e w' => e = .returned (.int .i64 (findM 0 l5 nm ds)) ∧ Below w.heap.size w w' := by
 obtain ⟨A2, n2, c2, rfl⟩ := h2; have B0 := Lib.hid (blk_new w (.cells #[.string f0, .string f1, .slice A2 n2 c2, .int .i64 f3, .int .i64 f4, .slice A5 l5.length c5] 69)); have AB := Lib.hid ((Below.refl w.heap.size w).alloc (Nat.le_refl _) (.cells #[.string f0, .string f1, .slice A2 n2 c2, .int .i64 f3, .int .i64 f4, .slice A5 l5.length c5] 69)); have HK := Lib.hid (Kd.C_below hk5 AB.out); clear hk5; go_enter Tryz.func94, Tryz.ntmps94; go_wp2_with fail; have q5 : (w.alloc (.cells #[.string f0, .string f1, .slice A2 n2 c2, .int .i64 f3, .int .i64 f4, .slice A5 l5.length c5] 69)).cell? ⟨w.heap.size, 5, none⟩ = some (.slice A5 l5.length c5) := (blk_cell B0.out 5).trans rfl; change Code.wp _ _ _ _ (w.alloc (.cells #[.string f0, .string f1, .slice A2 n2 c2, .int .i64 f3, .int .i64 f4, .slice A5 l5.length c5] 69)); generalize w.alloc (.cells #[.string f0, .string f1, .slice A2 n2 c2, .int .i64 f3, .int .i64 f4, .slice A5 l5.length c5] 69) = W at *
 go_loop [7] (fun v7 => ∃ j : Nat, j ≤ l5.length ∧ v7 = .int .i64 j ∧ Hid (findM 0 l5 nm ds = findM j (l5.drop j) nm ds)) (fun v7 => l5.length - (intOf v7).toNat)
 case atStart => exact ⟨0, Nat.zero_le _, rfl, Lib.hid rfl⟩
 case round =>
  obtain ⟨j, hj, rfl, HT⟩ := hrel
  by_cases hlt : j < l5.length
  ·have hjd : decide (j < l5.length) = true := decide_eq_true hlt
   have hst := Lib.hid (HT.out.trans (findM_step l5 j hlt nm ds)); obtain ⟨ad, A6, c6, rfl, p0, p1, p2, p3, p4, p5, hc6, K6⟩ := at_T92 HK.out (j : Int) (by omega) (by omega); rw [Int.toNat_natCast] at p0 p1 p2 p3 p4 p5; clear K6 p2 p3 p4 p5 HT; have hs : Hid (sameM (rd_T92 l5 (j : Int)) nm ds = (((rd_T92 l5 (j : Int)).f0.toList == nm.toList) && ((rd_T92 l5 (j : Int)).f1.toList == ds.toList))) := Lib.hid rfl; generalize sameM (rd_T92 l5 (j : Int)) nm ds = sm at *; generalize rd_T92 l5 (j : Int) = x at *
   cases e1 : (x.f0.toList == nm.toList)
   ·have h := hs.out
    rw [e1, Bool.false_and] at h; subst h; go_wp2
    exact ⟨⟨j + 1, by omega, by push_cast; rfl, hst⟩, by simp [intOf]; omega⟩
   ·have h := hs.out
    rw [e1, Bool.true_and] at h
    cases e2 : (x.f1.toList == ds.toList)
    ·rw [e2] at h
     subst h; go_wp2
     exact ⟨⟨j + 1, by omega, by push_cast; rfl, hst⟩, by simp [intOf]; omega⟩
    ·rw [e2] at h
     subst h; go_wp2; go_ret
     exact ⟨by rw [hst.out]; rfl, AB.out⟩
  ·have hjd : decide (j < l5.length) = false := decide_eq_false hlt
   have h1 := HT.out; rw [findM_end _ _ (by omega)] at h1; go_wp2; go_ret
   exact ⟨rfl, AB.out⟩
theorem rcode_any (A : Option Addr) (c : Nat) (l : List S115) (a : Int) (w : World) (hk : Kd.C k115 w A l.length l) (hc : l.length ≤ c) :
  Calls Tryz.prog 118 #[.slice A l.length c, .int .i64 a] w fun e w' => e = .returned (.int .i64 (if codeB l a = true then 0 else 1)) ∧ Below w.heap.size w w' := by
 have HK := Lib.hid hk; have hmx := Kd.C_max hk; clear hk; generalize hr : (if codeB l a = true then (0 : Int) else 1) = r; replace hr := Lib.hid hr; unfold codeB wthB at hr
 by_cases h1 : (l.length : Int) < 1
 ·have d1 : decide ((l.length : Int) < 1) = true := decide_eq_true h1
  have h := hr.out; rw [decide_eq_false (show ¬ (1 : Int) ≤ l.length by omega)] at h; simp at h; subst h; clear h1; go_enter Tryz.func118, Tryz.ntmps118; go_wp2; go_ret
  exact ⟨rfl, Below.refl _ _⟩
 ·have d1 : decide ((l.length : Int) < 1) = false := decide_eq_false h1
  rw [decide_eq_true (show (1 : Int) ≤ l.length by omega), Bool.true_and] at hr
  by_cases h2 : (l.length : Int) > 200
  ·have d2 : decide ((l.length : Int) > 200) = true := decide_eq_true h2
   have h := hr.out; rw [decide_eq_false (show ¬ (l.length : Int) ≤ 200 by omega)] at h; simp at h; subst h; clear h1 h2; go_enter Tryz.func118, Tryz.ntmps118; go_wp2; go_ret
   exact ⟨rfl, Below.refl _ _⟩
  ·have d2 : decide ((l.length : Int) > 200) = false := decide_eq_false h2
   rw [decide_eq_true (show (l.length : Int) ≤ 200 by omega), Bool.true_and] at hr; go_enter Tryz.func118, Tryz.ntmps118; go_wp2_with fail
   go_loopw [5] (fun v5 wr => ∃ j : Nat, j ≤ l.length ∧ v5 = .int .i64 j ∧ Hid ((l.take j).all (fun x => insOk x a l.length) = true) ∧ Hid (Below w.heap.size w wr)) (fun v5 _ => l.length - (intOf v5).toNat)
   case atStart => exact ⟨0, Nat.zero_le _, rfl, Lib.hid (by simp), Lib.hid (Below.refl _ _)⟩
   case round =>
    obtain ⟨j, hj, rfl, HT, HB⟩ := hrel
    by_cases hlt : j < l.length
    ·have hjd : decide (j < l.length) = true := decide_eq_true hlt
     obtain ⟨ad, rfl, p0, p1, p2, p3, p4, p5, p6⟩ := at_T115 (Kd.C_below HK.out HB.out) (j : Int) (by omega) (by omega); have hx := rd83 hlt; rw [Int.toNat_natCast] at p0 p1 p2 p3 p4 p5 p6; have OPc := Lib.hid (fun W => roper_any (rd_T115 l (j : Int)).f0 W); have CK := Lib.hid (fun W => rcdck_any (rd_T115 l (j : Int)).f0 (rd_T115 l (j : Int)).f1 (rd_T115 l (j : Int)).f2 (rd_T115 l (j : Int)).f3.f0 (rd_T115 l (j : Int)).f3.f1 (rd_T115 l (j : Int)).f3.f2 (rd_T115 l (j : Int)).f3.f3 W); generalize rd_T115 l (j : Int) = x at *; have hV : Hid (insOk x a l.length = (insV x == 0 && (!(opnd x.f0 == 2 && decide (a ≤ x.f1)) && !(opnd x.f0 == 3 && decide ((l.length : Int) ≤ x.f1))))) := Lib.hid rfl; have hbad : Hid (insOk x a l.length = false → (1 : Int) = r) := Lib.hid (fun h => by rw [← hr.out, bad_all hx h]; rfl); have hgood : Hid (insOk x a l.length = true → (l.take (j + 1)).all (fun x => insOk x a l.length) = true) := Lib.hid (fun h => all_take hx h HT.out); clear hx; generalize insOk x a l.length = ok at *; obtain ⟨x0, x1, x2, ⟨x3, x4, x5, x6⟩⟩ := x; simp only at hV OPc CK p0 p1 p2 p3 p4 p5 p6; generalize insV ⟨x0, x1, x2, ⟨x3, x4, x5, x6⟩⟩ = iv at *; generalize opnd x0 = kk at *; clear HT; go_wp2_with fail; refine (OPc.out _).mono ?_; rintro e w3 ⟨rfl, rfl⟩; go_wp2_with fail; refine (CK.out _).mono ?_; rintro e w4 ⟨rfl, hb4⟩; have q1 := pw_cell_below hb4 p1; have H4 := Lib.hid (HB.out.trans (hb4.mono HB.out.size)); clear hb4 HB CK OPc p0 p1 p2 p3 p4 p5 p6; have hend : Hid (ok = true → ∃ j' : Nat, j' ≤ l.length ∧ (Value.int .i64 ((j : Int) + 1)) = .int .i64 j' ∧ Hid ((l.take j').all (fun x => insOk x a l.length) = true) ∧ Hid (Below w.heap.size w w4)) := Lib.hid (fun h => ⟨j + 1, by omega, by push_cast; rfl, Lib.hid (hgood.out h), H4⟩)
     by_cases hi : iv = 0
     ·subst hi
      by_cases h2 : kk = 2
      ·subst h2
       by_cases h3 : a ≤ x1
       ·have hd : decide (a ≤ x1) = true := decide_eq_true h3
        have hok := hV.out; simp [hd] at hok; obtain rfl := hbad.out hok; clear h3; go_wp2; go_ret
        exact ⟨rfl, H4.out⟩
       ·have hd : decide (a ≤ x1) = false := decide_eq_false h3
        have hok := hV.out; simp [hd] at hok; clear h3; go_wp2
        exact ⟨hend.out hok, by simp [intOf]; omega⟩
      ·have hk2 : (kk == 2) = false := beq_eq_false_iff_ne.2 h2
       by_cases h3 : kk = 3
       ·subst h3
        by_cases h4 : (l.length : Int) ≤ x1
        ·have hd : decide ((l.length : Int) ≤ x1) = true := decide_eq_true h4
         have hok := hV.out; simp [hd] at hok; obtain rfl := hbad.out hok; clear h4 h2; go_wp2; go_ret
         exact ⟨rfl, H4.out⟩
        ·have hd : decide ((l.length : Int) ≤ x1) = false := decide_eq_false h4
         have hok := hV.out; simp [hd] at hok; clear h4 h2; go_wp2
         exact ⟨hend.out hok, by simp [intOf]; omega⟩
       ·have hk3 : (kk == 3) = false := beq_eq_false_iff_ne.2 h3
        have hok := hV.out; rw [hk2, hk3] at hok; simp at hok; clear h2 h3; go_wp2
        exact ⟨hend.out hok, by simp [intOf]; omega⟩
     ·have hne : (iv != 0) = true := bne_iff_ne.2 hi
      have hok := hV.out; rw [show (iv == 0) = false from beq_eq_false_iff_ne.2 hi, Bool.false_and] at hok; obtain rfl := hbad.out hok; clear hi; go_wp2; go_ret
      exact ⟨rfl, H4.out⟩
    ·have hjd : decide (j < l.length) = false := decide_eq_false hlt
     have e1 : j = l.length := by omega
     subst e1; have h1 := HT.out; rw [List.take_length] at h1; have h2 := hr.out; rw [h1] at h2; simp at h2; subst h2; clear h1; go_wp2; go_ret
     exact ⟨rfl, HB.out⟩
theorem mfl_eq (f : Int) (hf : Fl.inR f) (b : Bool) (s : ByteArray) : mflV f b s = Fl.rcheckMethod f b (s.toList == [60, 105, 110, 105, 116, 62]) := Fl.checkMethod_eq f hf b _
theorem cls_eq (f : Int) (hf : Fl.inR f) : clsV f = Fl.rcheckClass f := Fl.checkClass_eq f hf
theorem rmeth_any (f0 f1 : ByteArray) (f2 f3 f4 : Int) (A : Option Addr) (c : Nat) (l : List S115) (b : Bool) (w : World) (hk : Kd.C k115 w A l.length l) (hc : l.length ≤ c) (hf2 : Fl.inR f2) :
  Calls Tryz.prog 93 #[.agg #[.string f0, .string f1, .int .i64 f2, .int .i64 f3, .int .i64 f4, .slice A l.length c], .bool b] w fun e w' => e = .returned (.bool (methB ⟨f0, f1, f2, f3, f4, l⟩ b)) ∧ Below w.heap.size w w' := by
 have B0 := Lib.hid (blk_new w (.cells #[.string f0, .string f1, .int .i64 f2, .int .i64 f3, .int .i64 f4, .slice A l.length c] 92)); have AB := Lib.hid ((Below.refl w.heap.size w).alloc (Nat.le_refl _) (.cells #[.string f0, .string f1, .int .i64 f2, .int .i64 f3, .int .i64 f4, .slice A l.length c] 92)); have CM := Lib.hid (arbiterref01_Member.calls f0 _ (w.alloc (.cells #[.string f0, .string f1, .int .i64 f2, .int .i64 f3, .int .i64 f4, .slice A l.length c] 92)) rfl); have CF := Lib.hid (fun W => Fl.rcheckMethod_any f2 b f0 W); have C1 := Lib.hid (fun W => rpdesc_any f1 W); have CH := Lib.hid (fun W => Fl.has_any f2 1024 W); have CW := Lib.hid (fun (W : World) (hp : (parseD f1.data.toList).2 = 0) => rwords_any f0 f1 f2 f3 f4 (.slice A l.length c) ⟨_, _, _, rfl⟩ W hp); have CC := Lib.hid (fun (W : World) (hb : Below w.heap.size w W) => rcode_any A c l f3 W (Kd.C_below hk hb) hc); clear hk; generalize hr : methB ⟨f0, f1, f2, f3, f4, l⟩ b = r; replace hr := Lib.hid hr; unfold methB badV at hr; simp only at hr; rw [mfl_eq f2 hf2] at hr; generalize Fl.rcheckMethod f2 b (f0.toList == [60, 105, 110, 105, 116, 62]) = mf at *; generalize wordsV f1 f2 = wd at *; generalize codeB l f3 = cb at *; generalize memberB f0 = mb at *; generalize parseD f1.data.toList = pd at *; unfold Fl.band at CH; obtain ⟨dr, e1⟩ := pd; obtain ⟨ar, vd, rd, rn⟩ := dr; simp only at hr CW C1; go_enter Tryz.func93, Tryz.ntmps93; go_wp2_with fail; refine CM.out.mono ?_; rintro e w1 ⟨rfl, hb1⟩; have B1 := Lib.hid (blk_below B0.out hb1); have H1 := Lib.hid (AB.out.trans (hb1.mono AB.out.size)); clear CM hb1 B0 AB
 cases mb with
 | false =>
  have h := hr.out; simp at h; subst h; go_wp2; go_ret
  exact ⟨rfl, H1.out⟩
 | true =>
  have q0 : w1.cell? ⟨w.heap.size, 0, none⟩ = some (.string f0) := (blk_cell B1.out 0).trans rfl; have q2 : w1.cell? ⟨w.heap.size, 2, none⟩ = some (.int .i64 f2) := (blk_cell B1.out 2).trans rfl; go_wp2_with fail; refine (CF.out _).mono ?_; rintro e w2 ⟨rfl, hb2⟩; have B2 := Lib.hid (blk_below B1.out hb2); have H2 := Lib.hid (H1.out.trans (hb2.mono H1.out.size)); clear CF hb2 B1 H1 q0 q2
  by_cases hm : mf = 0
  ·subst hm
   have q1 : w2.cell? ⟨w.heap.size, 1, none⟩ = some (.string f1) := (blk_cell B2.out 1).trans rfl; go_wp2_with fail; refine (C1.out _).mono ?_; rintro e w3 ⟨v0, rfl, R0, hb3⟩
   obtain ⟨A0, n0, c0, rfl⟩ : ∃ A n c, v0 = .slice A n c := by
    obtain ⟨A0, c0, e⟩ := Kd.R_slice R0
    exact ⟨_, _, _, e⟩
   have B3 := Lib.hid (blk_below B2.out hb3); have H3 := Lib.hid (H2.out.trans (hb3.mono H2.out.size)); clear C1 R0 hb3 B2 H2 q1; have D4 := Lib.hid (blk_new w3 (.cells #[.slice A0 n0 c0, .bool vd, .int .i64 rd, .string (bs rn)] 145)); have B4 := Lib.hid (blk_below B3.out ((Below.refl _ _).alloc (Nat.le_refl _) (.cells #[.slice A0 n0 c0, .bool vd, .int .i64 rd, .string (bs rn)] 145))); have H4 := Lib.hid (H3.out.alloc H3.out.size (.cells #[.slice A0 n0 c0, .bool vd, .int .i64 rd, .string (bs rn)] 145))
   go_upto_region 4 with (fail)
   change Code.wp _ _ _ _ (w3.alloc (.cells #[.slice A0 n0 c0, .bool vd, .int .i64 rd, .string (bs rn)] 145)); generalize w3.alloc (.cells #[.slice A0 n0 c0, .bool vd, .int .i64 rd, .string (bs rn)] 145) = W at *; clear B3 H3
   go_cut [1, 2, 39] (fun v1 v2 v39 wr => v1 = .bool b ∧ v2 = .pointer (some ⟨w.heap.size, 0, none⟩) ∧ v39 = .bool (!(e1 == 0) || ((f0.toList == ([60, 105, 110, 105, 116, 62] : List UInt8)) && !vd)) ∧ Hid (wr.heap[w.heap.size]? = some (.cells #[.string f0, .string f1, .int .i64 f2, .int .i64 f3, .int .i64 f4, .slice A l.length c] 92 (0, 0))) ∧ Hid (Below w.heap.size w wr))
   case first =>
    have q0 : W.cell? ⟨w.heap.size, 0, none⟩ = some (.string f0) := (blk_cell B4.out 0).trans rfl; have r1 : W.cell? ⟨w3.heap.size, 1, none⟩ = some (.bool vd) := (blk_cell D4.out 1).trans rfl
    by_cases h1 : e1 = 0
    ·subst h1
     cases hi : (f0.toList == ([60, 105, 110, 105, 116, 62] : List UInt8)) with
     | false =>
      go_wp2; go_meet
      case rel => exact ⟨rfl, rfl, by rw [hi]; cases vd <;> rfl, B4, H4⟩
     | true =>
      go_wp2; go_meet
      case rel => exact ⟨rfl, rfl, by rw [hi]; cases vd <;> rfl, B4, H4⟩
    ·have hne : (e1 != 0) = true := bne_iff_ne.2 h1
     have he : (e1 == 0) = false := beq_eq_false_iff_ne.2 h1; go_wp2; go_meet
     case rel => exact ⟨rfl, rfl, by rw [he]; rfl, B4, H4⟩
   case rest =>
    clear B4 D4 H4; obtain ⟨rfl, rfl, rfl, B4, H4⟩ := hcut; have hor : Hid ((!(e1 == 0) || (false || ((f0.toList == ([60, 105, 110, 105, 116, 62] : List UInt8)) && !vd))) = (!(e1 == 0) || ((f0.toList == ([60, 105, 110, 105, 116, 62] : List UInt8)) && !vd))) := Lib.hid (by rw [Bool.false_or]); rw [Bool.not_true, hor.out] at hr
    cases hbad : (!(e1 == 0) || ((f0.toList == ([60, 105, 110, 105, 116, 62] : List UInt8)) && !vd)) with
    | true =>
     rw [hbad] at hr; have h := hr.out; simp at h; subst h; go_wp2; go_ret
     exact ⟨rfl, H4.out⟩
    | false =>
     have he1 : e1 = 0 := by
      cases h : (e1 == 0) with
      | true => exact beq_iff_eq.1 h
      | false => rw [h] at hbad; simp at hbad
     rw [hbad, Bool.not_false, Bool.true_and, beq_self_eq_true, Bool.true_and] at hr; clear hbad hor; have q2 : wc.cell? ⟨w.heap.size, 2, none⟩ = some (.int .i64 f2) := (blk_cell B4.out 2).trans rfl; have q3 : wc.cell? ⟨w.heap.size, 3, none⟩ = some (.int .i64 f3) := (blk_cell B4.out 3).trans rfl; have q4 : wc.cell? ⟨w.heap.size, 4, none⟩ = some (.int .i64 f4) := (blk_cell B4.out 4).trans rfl; have q5 : wc.cell? ⟨w.heap.size, 5, none⟩ = some (.slice A l.length c) := (blk_cell B4.out 5).trans rfl; go_wp2_with fail; refine (CH.out _).mono ?_; rintro e w5 ⟨rfl, rfl⟩
     by_cases ha : Go.bits .and .i64 f2 1024 = 0
     ·have ha2 : (Go.bits .and .i64 f2 1024 != 0) = false := bne_eq_false_iff_eq.2 ha
      rw [if_pos ha] at hr; rw [ha2]; have q0 : w5.cell? ⟨w.heap.size, 0, none⟩ = some (.string f0) := (blk_cell B4.out 0).trans rfl; have q1 : w5.cell? ⟨w.heap.size, 1, none⟩ = some (.string f1) := (blk_cell B4.out 1).trans rfl; have C3 := Lib.hid (CW.out w5 he1); clear ha ha2 CW he1 CH; go_wp2_with fail; refine C3.out.mono ?_; rintro e w6 ⟨rfl, hb6⟩; have B5 := Lib.hid (blk_below B4.out hb6); have H5 := Lib.hid (H4.out.trans (hb6.mono H4.out.size)); have C4 := Lib.hid (CC.out w6 H5.out); clear hb6 B4 H4 q0 q1 q2 q3 q4 q5 C3 CC; have q3 : w6.cell? ⟨w.heap.size, 3, none⟩ = some (.int .i64 f3) := (blk_cell B5.out 3).trans rfl; have q4 : w6.cell? ⟨w.heap.size, 4, none⟩ = some (.int .i64 f4) := (blk_cell B5.out 4).trans rfl; have q5 : w6.cell? ⟨w.heap.size, 5, none⟩ = some (.slice A l.length c) := (blk_cell B5.out 5).trans rfl
      by_cases d3 : f4 < 0
      ·have d3b : decide (f4 < 0) = true := decide_eq_true d3
       have h := hr.out; rw [show decide (0 ≤ f4) = false from decide_eq_false (by omega)] at h; simp at h; subst h; clear d3; go_wp2; go_ret
       exact ⟨rfl, H5.out⟩
      ·have d3b : decide (f4 < 0) = false := decide_eq_false d3
       rw [show decide (0 ≤ f4) = true from decide_eq_true (by omega), Bool.true_and] at hr; clear d3
       by_cases d4 : f4 > 40
       ·have d4b : decide (f4 > 40) = true := decide_eq_true d4
        have h := hr.out; rw [show decide (f4 ≤ 40) = false from decide_eq_false (by omega)] at h; simp at h; subst h; clear d4; go_wp2; go_ret
        exact ⟨rfl, H5.out⟩
       ·have d4b : decide (f4 > 40) = false := decide_eq_false d4
        rw [show decide (f4 ≤ 40) = true from decide_eq_true (by omega), Bool.true_and] at hr; clear d4
        by_cases d1 : f3 < wd
        ·have d1b : decide (f3 < wd) = true := decide_eq_true d1
         have h := hr.out; rw [show decide (wd ≤ f3) = false from decide_eq_false (by omega)] at h; simp at h; subst h; clear d1; go_wp2; go_ret
         exact ⟨rfl, H5.out⟩
        ·have d1b : decide (f3 < wd) = false := decide_eq_false d1
         rw [show decide (wd ≤ f3) = true from decide_eq_true (by omega), Bool.true_and] at hr; clear d1
         by_cases d2 : f3 > 40
         ·have d2b : decide (f3 > 40) = true := decide_eq_true d2
          have h := hr.out; rw [show decide (f3 ≤ 40) = false from decide_eq_false (by omega)] at h; simp at h; subst h; clear d2; go_wp2; go_ret
          exact ⟨rfl, H5.out⟩
         ·have d2b : decide (f3 > 40) = false := decide_eq_false d2
          rw [show decide (f3 ≤ 40) = true from decide_eq_true (by omega), Bool.true_and] at hr; clear d2; go_wp2_with fail; refine C4.out.mono ?_; rintro e w7 ⟨rfl, hb7⟩; have H6 := Lib.hid (H5.out.trans (hb7.mono H5.out.size)); clear C4 hb7 H5 B5 q3 q4 q5
          cases cb
          all_goals
           have h := hr.out; subst h; go_wp2; go_ret
           exact ⟨rfl, H6.out⟩
     ·have ha2 : (Go.bits .and .i64 f2 1024 != 0) = true := bne_iff_ne.2 ha
      rw [if_neg ha] at hr; rw [ha2]; clear ha CW CC he1
      cases d1 : (f3 == 0) with
      | false =>
       rw [d1] at hr; have h := hr.out; simp at h; subst h; go_wp2; go_ret
       exact ⟨rfl, H4.out⟩
      | true =>
       cases d2 : (f4 == 0) with
       | false =>
        rw [d1, d2] at hr; have h := hr.out; simp at h; subst h; go_wp2; go_ret
        exact ⟨rfl, H4.out⟩
       | true =>
        rw [d1, d2, Bool.true_and, Bool.true_and] at hr; have h := hr.out; subst h; go_wp2; go_ret
        exact ⟨rfl, H4.out⟩
  ·have hne : (mf != 0) = true := bne_iff_ne.2 hm
   have h := hr.out; rw [show (mf == 0) = false from beq_eq_false_iff_ne.2 hm] at h; simp at h; subst h; go_wp2; go_ret
   exact ⟨rfl, H2.out⟩
end Go.Proofs.YtmlifggklaeieaaGreatDoor.Pt

namespace Go.Proofs.YtmlifggklaeieaaGreatDoor.Pt
open Go Go.RowKit Go.Proofs.YtmlifggklaeieaaGreatDoor.Nm Go.Proofs.YtmlifggklaeieaaGreatDoor.Ty Go.Proofs.YtmlifggklaeieaaGreatDoorW.PrintWords Go.Proofs.YtmlifggklaeieaaGreatDoorW.PrintLast Go.Proofs.YtmlifggklaeieaaGreatDoorW.PrintMore
set_option linter.unusedVariables false
set_option linter.unusedSimpArgs false
def inRB (f : Int) : Bool := decide (-9223372036854775808 ≤ f) && decide (f ≤ 9223372036854775807)
theorem inRB_iff {f : Int} : inRB f = true ↔ Fl.inR f := by simp [inRB, Fl.inR]
def arbiterref05_method.f (a0_0 : ByteArray) (a0_1 : ByteArray) (a0_2 : Int) (a0_3 : Int) (a0_4 : Int) (l0_5 : List (S115)) (a1 : Bool) : Option Bool := if inRB a0_2 = true then some (methB ⟨a0_0, a0_1, a0_2, a0_3, a0_4, l0_5⟩ a1) else none
theorem arbiterref05_method.calls (a0_0 : ByteArray) (a0_1 : ByteArray) (a0_2 : Int) (a0_3 : Int) (a0_4 : Int) (A0_5 : Option Addr) (c0_5 : Nat) (l0_5 : List (S115)) (a1 : Bool) (r : Bool) (w : World) (hr0_5 : Kd.C k115 w A0_5 l0_5.length l0_5) (hc0_5 : l0_5.length ≤ c0_5) (h : arbiterref05_method.f a0_0 a0_1 a0_2 a0_3 a0_4 l0_5 a1 = some r) :
  Calls Tryz.prog 93 #[.agg #[.string a0_0, .string a0_1, .int .i64 a0_2, .int .i64 a0_3, .int .i64 a0_4, .slice A0_5 l0_5.length c0_5], .bool a1] w fun e w' => e = .returned (.bool r) ∧ Below w.heap.size w w' := by
 unfold arbiterref05_method.f at h; obtain ⟨hl, h⟩ := if_some h; obtain rfl := Option.some.inj h
 exact rmeth_any _ _ _ _ _ _ _ _ _ w hr0_5 hc0_5 (inRB_iff.1 hl)
def arbiterref05_Find.f (a0_0 : ByteArray) (a0_1 : ByteArray) (l0_2 : List ByteArray) (a0_3 : Int) (a0_4 : Int) (l0_5 : List (S92)) (a1 : ByteArray) (a2 : ByteArray) : Option Int := if l0_5.length ≤ 4611686018427387904 then some (findM 0 l0_5 a1 a2) else none
theorem arbiterref05_Find.calls (a0_0 : ByteArray) (a0_1 : ByteArray) (A0_2 : Option Addr) (c0_2 : Nat) (l0_2 : List ByteArray) (a0_3 : Int) (a0_4 : Int) (A0_5 : Option Addr) (c0_5 : Nat) (l0_5 : List (S92)) (a1 : ByteArray) (a2 : ByteArray) (r : Int) (w : World) (hr0_2 : Kd.C Kd.string w A0_2 l0_2.length l0_2) (hc0_2 : l0_2.length ≤ c0_2) (hr0_5 : Kd.C k92 w A0_5 l0_5.length l0_5) (hc0_5 : l0_5.length ≤ c0_5) (h : arbiterref05_Find.f a0_0 a0_1 l0_2 a0_3 a0_4 l0_5 a1 a2 = some r) :
  Calls Tryz.prog 94 #[.agg #[.string a0_0, .string a0_1, .slice A0_2 l0_2.length c0_2, .int .i64 a0_3, .int .i64 a0_4, .slice A0_5 l0_5.length c0_5], .string a1, .string a2] w fun e w' => e = .returned (.int .i64 r) ∧ Below w.heap.size w w' := by
 unfold arbiterref05_Find.f at h; obtain ⟨hl, h⟩ := if_some h; obtain rfl := Option.some.inj h
 exact rfind_any _ _ _ _ _ _ _ _ _ _ w ⟨_, _, _, rfl⟩ hr0_5 hl
end Go.Proofs.YtmlifggklaeieaaGreatDoor.Pt
