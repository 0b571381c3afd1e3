/- Lemmas and contracts for the statement of TyTypesParse: joined by program out of this session's texts. -/
import Derived.Test.YtpcdfjifhoofjaaDoorBdTyTypesParse2
-- laid by a program of this session's own (a variant of the kit's print)
namespace Go.Proofs.YtpcdfjifhoofjaaDoor.Pt
open Go.RowKit Go.Proofs.YtpcdfjifhoofjaaDoorW.PrintWords Go.Proofs.YtpcdfjifhoofjaaDoorW.PrintLast Go.Proofs.YtpcdfjifhoofjaaDoorW.PrintMore
attribute [local go_sem] max2_int min2_int max_two min_two max_three min_three max_four min_four   -- for this text's walks alone
set_option linter.unusedVariables false
set_option linter.unusedSimpArgs false

/-! ### arbiterlaw02_TypesParse: function 7 -/
mutual
def arbiterlaw02_TypesParse.j0 : Nat → ByteArray → Bool → Option (Bool)
 | 0, _, _ => none
 | k + 1, x0, x31 => if x31 = true then (some false) else ((types_ParseRef.f x0).bind fun bt146 => ((arbiterref02_ParseRef.f x0).bind fun bt149 => (if bt146.2.2 = bt149.2.2 then ((arbiterref02_Same.f bt146.1 bt146.2.1 bt149.1 bt149.2.1).bind fun t152 => (arbiterlaw02_TypesParse.j1 k x0 (!t152))) else (arbiterlaw02_TypesParse.j1 k x0 true))))
def arbiterlaw02_TypesParse.j1 : Nat → ByteArray → Bool → Option (Bool)
 | 0, _, _ => none
 | k + 1, x0, x50 => if x50 = true then (some false) else ((types_ParseDesc.f x0).bind fun bt153 => ((arbiterref02_ParseDesc.f k x0).bind fun bt161 => (if bt153.2.2.2.2 = bt161.2.2.2.2 then ((arbiterref02_SameDesc.f k bt153.1 bt153.2.1 bt153.2.2.1 bt153.2.2.2.1 bt161.1 bt161.2.1 bt161.2.2.1 bt161.2.2.2.1).bind fun t169 => (arbiterlaw02_TypesParse.j2 k x0 (!t169))) else (arbiterlaw02_TypesParse.j2 k x0 true))))
def arbiterlaw02_TypesParse.j2 : Nat → ByteArray → Bool → Option (Bool)
 | 0, _, _ => none
 | k + 1, x0, x69 => if x69 = true then (some false) else ((types_Args.f x0).bind fun bt170 => ((arbiterref02_Args.f k x0).bind fun bt172 => (if bt170.1 = bt172.1 then (some (bt170.2 == bt172.2)) else (some false))))
end
def arbiterlaw02_TypesParse.f (k : Nat) (a0 : ByteArray) : Option (Bool) := (arbiterlaw02_awake.f).bind fun t136 => (if t136 = true then ((types_Parse.f a0).bind fun bt137 => ((arbiterref02_Parse.f a0).bind fun bt141 => (if bt137.2.2 = bt141.2.2 then ((arbiterref02_Same.f bt137.1 bt137.2.1 bt141.1 bt141.2.1).bind fun t145 => (arbiterlaw02_TypesParse.j0 k a0 (!t145))) else (arbiterlaw02_TypesParse.j0 k a0 true)))) else (some false))
theorem arbiterlaw02_TypesParse.mono_l : ∀ k, (∀ y0 y1, LeO (arbiterlaw02_TypesParse.j0 k y0 y1) (arbiterlaw02_TypesParse.j0 (k + 1) y0 y1)) ∧ (∀ y0 y1, LeO (arbiterlaw02_TypesParse.j1 k y0 y1) (arbiterlaw02_TypesParse.j1 (k + 1) y0 y1)) ∧ (∀ y0 y1, LeO (arbiterlaw02_TypesParse.j2 k y0 y1) (arbiterlaw02_TypesParse.j2 (k + 1) y0 y1))
 | 0 => ⟨fun _ _ r h => by simp [arbiterlaw02_TypesParse.j0] at h, fun _ _ r h => by simp [arbiterlaw02_TypesParse.j1] at h, fun _ _ r h => by simp [arbiterlaw02_TypesParse.j2] at h⟩
 | k + 1 => by
  obtain ⟨ih0, ih1, ih2⟩ := arbiterlaw02_TypesParse.mono_l k
  refine ⟨?_, ?_, ?_⟩
  ·
   intro y0 y1
   unfold arbiterlaw02_TypesParse.j0
   repeat' first
   | (with_reducible exact ih0 _ _)
   | (with_reducible exact ih1 _ _)
   | (with_reducible exact ih2 _ _)
   | (with_reducible exact arbiterref02_Args.mono _ _)
   | (with_reducible exact arbiterref02_ParseDesc.mono _ _)
   | (with_reducible exact arbiterref02_SameDesc.mono _ _ _ _ _ _ _ _ _)
   | (with_reducible exact LeO.refl _)
   | (with_reducible exact LeO.none _)
   | (with_reducible refine LeO.ite ?_ ?_)
   | (with_reducible refine LeO.bind ?_ (fun _ => ?_))
   | exact ih0 _ _
   | exact ih1 _ _
   | exact ih2 _ _
   | exact arbiterref02_Args.mono _ _
   | exact arbiterref02_ParseDesc.mono _ _
   | exact arbiterref02_SameDesc.mono _ _ _ _ _ _ _ _ _
   | exact LeO.none _
   | refine LeO.ite ?_ ?_
   | refine LeO.bind ?_ (fun _ => ?_)
  ·
   intro y0 y1
   unfold arbiterlaw02_TypesParse.j1
   repeat' first
   | (with_reducible exact ih0 _ _)
   | (with_reducible exact ih1 _ _)
   | (with_reducible exact ih2 _ _)
   | (with_reducible exact arbiterref02_Args.mono _ _)
   | (with_reducible exact arbiterref02_ParseDesc.mono _ _)
   | (with_reducible exact arbiterref02_SameDesc.mono _ _ _ _ _ _ _ _ _)
   | (with_reducible exact LeO.refl _)
   | (with_reducible exact LeO.none _)
   | (with_reducible refine LeO.ite ?_ ?_)
   | (with_reducible refine LeO.bind ?_ (fun _ => ?_))
   | exact ih0 _ _
   | exact ih1 _ _
   | exact ih2 _ _
   | exact arbiterref02_Args.mono _ _
   | exact arbiterref02_ParseDesc.mono _ _
   | exact arbiterref02_SameDesc.mono _ _ _ _ _ _ _ _ _
   | exact LeO.none _
   | refine LeO.ite ?_ ?_
   | refine LeO.bind ?_ (fun _ => ?_)
  ·
   intro y0 y1
   unfold arbiterlaw02_TypesParse.j2
   repeat' first
   | (with_reducible exact ih0 _ _)
   | (with_reducible exact ih1 _ _)
   | (with_reducible exact ih2 _ _)
   | (with_reducible exact arbiterref02_Args.mono _ _)
   | (with_reducible exact arbiterref02_ParseDesc.mono _ _)
   | (with_reducible exact arbiterref02_SameDesc.mono _ _ _ _ _ _ _ _ _)
   | (with_reducible exact LeO.refl _)
   | (with_reducible exact LeO.none _)
   | (with_reducible refine LeO.ite ?_ ?_)
   | (with_reducible refine LeO.bind ?_ (fun _ => ?_))
   | exact ih0 _ _
   | exact ih1 _ _
   | exact ih2 _ _
   | exact arbiterref02_Args.mono _ _
   | exact arbiterref02_ParseDesc.mono _ _
   | exact arbiterref02_SameDesc.mono _ _ _ _ _ _ _ _ _
   | exact LeO.none _
   | refine LeO.ite ?_ ?_
   | refine LeO.bind ?_ (fun _ => ?_)
theorem arbiterlaw02_TypesParse.mono : ∀ a0 k, LeO (arbiterlaw02_TypesParse.f k a0) (arbiterlaw02_TypesParse.f (k + 1) a0) := by
 intro a0 k
 obtain ⟨ih0, ih1, ih2⟩ := arbiterlaw02_TypesParse.mono_l k
 unfold arbiterlaw02_TypesParse.f
 repeat' first
   | (with_reducible exact ih0 _ _)
   | (with_reducible exact ih1 _ _)
   | (with_reducible exact ih2 _ _)
   | (with_reducible exact arbiterref02_Args.mono _ _)
   | (with_reducible exact arbiterref02_ParseDesc.mono _ _)
   | (with_reducible exact arbiterref02_SameDesc.mono _ _ _ _ _ _ _ _ _)
   | (with_reducible exact LeO.refl _)
   | (with_reducible exact LeO.none _)
   | (with_reducible refine LeO.ite ?_ ?_)
   | (with_reducible refine LeO.bind ?_ (fun _ => ?_))
   | exact ih0 _ _
   | exact ih1 _ _
   | exact ih2 _ _
   | exact arbiterref02_Args.mono _ _
   | exact arbiterref02_ParseDesc.mono _ _
   | exact arbiterref02_SameDesc.mono _ _ _ _ _ _ _ _ _
   | exact LeO.none _
   | refine LeO.ite ?_ ?_
   | refine LeO.bind ?_ (fun _ => ?_)
set_option maxHeartbeats 8000000 in
set_option maxRecDepth 100000 in
theorem arbiterlaw02_TypesParse.calls (k : Nat) (a0 : ByteArray) (r : Bool) (w : World) (h : arbiterlaw02_TypesParse.f k a0 = some r) :
  Calls Tryd.prog 7 #[.string a0] w fun e w' => e = .returned (.bool r) ∧ Below w.heap.size w w' := by
 have hu37 := Tryd.underlying37
 have hu43 := Tryd.underlying43
 have HB := Aside0.mk (Below.refl w.heap.size w)
 have H : ((arbiterlaw02_awake.f).bind fun t136 => (if t136 = true then ((types_Parse.f a0).bind fun bt137 => ((arbiterref02_Parse.f a0).bind fun bt141 => (if bt137.2.2 = bt141.2.2 then ((arbiterref02_Same.f bt137.1 bt137.2.1 bt141.1 bt141.2.1).bind fun t145 => (arbiterlaw02_TypesParse.j0 k a0 (!t145))) else (arbiterlaw02_TypesParse.j0 k a0 true)))) else (some false))) = some r := h
 clear h
 replace H := Option.bind_eq_some_iff.mp H
 obtain ⟨t136, A20, H⟩ := H
 replace H : (if t136 = true then ((types_Parse.f a0).bind fun bt137 => ((arbiterref02_Parse.f a0).bind fun bt141 => (if bt137.2.2 = bt141.2.2 then ((arbiterref02_Same.f bt137.1 bt137.2.1 bt141.1 bt141.2.1).bind fun t145 => (arbiterlaw02_TypesParse.j0 k a0 (!t145))) else (arbiterlaw02_TypesParse.j0 k a0 true)))) else (some false)) = some r := H
 have A2 := Aside0.mk A20
 clear A20
 by_cases c3 : t136 = true
 ·
  subst c3
  have H1 : ((types_Parse.f a0).bind fun bt137 => ((arbiterref02_Parse.f a0).bind fun bt141 => (if bt137.2.2 = bt141.2.2 then ((arbiterref02_Same.f bt137.1 bt137.2.1 bt141.1 bt141.2.1).bind fun t145 => (arbiterlaw02_TypesParse.j0 k a0 (!t145))) else (arbiterlaw02_TypesParse.j0 k a0 true)))) = some r := by rw [if_pos rfl] at H; exact H
  clear H
  have H := H1
  clear H1
  replace H := Option.bind_eq_some_iff.mp H
  obtain ⟨⟨t137, t138, t139⟩, A40, H⟩ := H
  replace H : ((arbiterref02_Parse.f a0).bind fun bt141 => (if t139 = bt141.2.2 then ((arbiterref02_Same.f t137 t138 bt141.1 bt141.2.1).bind fun t145 => (arbiterlaw02_TypesParse.j0 k a0 (!t145))) else (arbiterlaw02_TypesParse.j0 k a0 true))) = some r := H
  have A4 := Aside0.mk A40
  clear A40
  replace H := Option.bind_eq_some_iff.mp H
  obtain ⟨⟨t141, t142, t143⟩, A50, H⟩ := H
  replace H : (if t139 = t143 then ((arbiterref02_Same.f t137 t138 t141 t142).bind fun t145 => (arbiterlaw02_TypesParse.j0 k a0 (!t145))) else (arbiterlaw02_TypesParse.j0 k a0 true)) = some r := H
  have A5 := Aside0.mk A50
  clear A50
  have HC6 := Aside0.mk H
  clear H
  go_enter Tryd.func7, Tryd.ntmps7
  go_upto_region 5 with (first | ((with_reducible refine gate_callee (f := 25) rfl ?_); refine goesL_ (some 11) rfl rfl Tryd.func25 (by kernel_rfl) rfl #[] rfl (by (try simp only [List.map_toArray, List.map_cons, List.map_nil]); first | done | rfl | (simp only [List.length_drop, List.length_take]; rfl)) ?_; (with_reducible refine (arbiterlaw02_awake.calls  true _ A2.out).mono ?_); rintro e w7 ⟨rfl, hb⟩; refine ⟨_, rfl, ?_⟩; have n0_ := Aside0.mk (below_step (by repeat (first | (with_reducible first | exact HB.out | apply below_alloc | apply pw_below_drewN | apply below_drew1) | exact HB.out)) hb); clear HB; have HB := n0_; clear n0_; (try clear hb); (try clear hb2); (try clear hk); (try clear hi)) | ((with_reducible refine gate_callee (f := 26) rfl ?_); refine goesL_ (some 15) rfl rfl Tryd.func26 (by kernel_rfl) rfl #[.string a0] rfl (by (try simp only [List.map_toArray, List.map_cons, List.map_nil]); first | done | rfl | (simp only [List.length_drop, List.length_take]; rfl)) ?_; (with_reducible refine (types_Parse.calls a0 t137 t138 t139 _ A4.out).mono ?_); rintro e w8 ⟨rfl, hb⟩; refine ⟨_, rfl, ?_⟩; have n0_ := Aside0.mk (below_step (by repeat (first | (with_reducible first | exact HB.out | apply below_alloc | apply pw_below_drewN | apply below_drew1) | exact HB.out)) hb); clear HB; have HB := n0_; clear n0_; (try clear hb); (try clear hb2); (try clear hk); (try clear hi)) | ((with_reducible refine gate_dst (N := 3) rfl ?_); refine box_event ?hg (N := 3) ?hd (cs := #[.int .i64 0, .string (⟨#[]⟩ : ByteArray)]) (t := 37) ?hr ?_; (case hd => rfl); (case hg => rfl); (case hr => first | (go_simp; done) | (go_simp; rfl)); intro gb140 hg w9 hbox hb; have n0_ := Aside0.mk (below_step (by repeat (first | (with_reducible first | exact HB.out | apply below_alloc | apply pw_below_drewN | apply below_drew1) | exact HB.out)) hb); have n1_ := Aside0.mk (hbox); have n2_ := Aside0.mk ((by rw [hg]; exact (below_size (by repeat (first | (with_reducible first | exact HB.out | apply below_alloc | apply pw_below_drewN | apply below_drew1) | exact HB.out))) : w.heap.size ≤ gb140)); have n3_ := Aside0.mk ((by rw [hg]; exact (below_size (by repeat (first | (with_reducible first | exact HB.out | apply below_alloc | apply pw_below_drewN | apply below_drew1) | exact HB.out))) : w.heap.size ≤ gb140)); clear HB; have HB := n0_; have BK140 := n1_; have GW140 := n2_; have GE140 := n3_; clear n0_ n1_ n2_ n3_; clear hb hbox hg; have hcz10_0 : w9.cell? ⟨gb140, 0, none⟩ = some (.int .i64 0) := (blk_cell BK140.out 0).trans rfl; have hcz10_1 : w9.cell? ⟨gb140, 1, none⟩ = some (.string (⟨#[]⟩ : ByteArray)) := (blk_cell BK140.out 1).trans rfl; have hfz10_0 := blk_frozen BK140.out 0; have hfz10_1 := blk_frozen BK140.out 1) | ((with_reducible refine gate_callee (f := 27) rfl ?_); refine goesL_ (some 20) rfl rfl Tryd.func27 (by kernel_rfl) rfl #[.string a0] rfl (by (try simp only [List.map_toArray, List.map_cons, List.map_nil]); first | done | rfl | (simp only [List.length_drop, List.length_take]; rfl)) ?_; (with_reducible refine (arbiterref02_Parse.calls a0 t141 t142 t143 _ A5.out).mono ?_); rintro e w11 ⟨rfl, hb⟩; refine ⟨_, rfl, ?_⟩; have n0_ := Aside0.mk (blk_below (g := gb140) (o := .cells #[.int .i64 t137, .string t138] 37 (0, 0)) (by (with_reducible repeat (first | refine blk_drewN ?_ _ | refine blk_drew ?_ | refine blk_alloc ?_ _)); refine blk_put (cs := #[.int .i64 t137, .string (⟨#[]⟩ : ByteArray)]) ?_ 1 _ rfl; (with_reducible repeat (first | refine blk_drewN ?_ _ | refine blk_drew ?_ | refine blk_alloc ?_ _)); refine blk_put (cs := #[.int .i64 0, .string (⟨#[]⟩ : ByteArray)]) ?_ 0 _ rfl; (with_reducible repeat (first | refine blk_drewN ?_ _ | refine blk_drew ?_ | refine blk_alloc ?_ _)); exact BK140.out) hb); have n1_ := Aside0.mk (below_step (by repeat (first | (with_reducible first | exact HB.out | apply below_alloc | apply pw_below_drewN | apply below_drew1 | refine below_set ?_ GE140.out) | exact HB.out)) hb); clear BK140; clear HB; have BK140 := n0_; have HB := n1_; clear n0_ n1_; (try clear hb); (try clear hb2); (try clear hk); (try clear hi)) | ((with_reducible refine gate_dst (N := 5) rfl ?_); refine box_event ?hg (N := 5) ?hd (cs := #[.int .i64 0, .string (⟨#[]⟩ : ByteArray)]) (t := 37) ?hr ?_; (case hd => rfl); (case hg => rfl); (case hr => first | (go_simp; done) | (go_simp; rfl)); intro gb144 hg w12 hbox hb; have n0_ := Aside0.mk (blk_below (g := gb140) (o := .cells #[.int .i64 t137, .string t138] 37 (0, 0)) (by (with_reducible repeat (first | refine blk_drewN ?_ _ | refine blk_drew ?_ | refine blk_alloc ?_ _)); exact BK140.out) hb); have n1_ := Aside0.mk (below_step (by repeat (first | (with_reducible first | exact HB.out | apply below_alloc | apply pw_below_drewN | apply below_drew1 | refine below_set ?_ GE140.out) | exact HB.out)) hb); have n2_ := Aside0.mk (hbox); have n3_ := Aside0.mk ((by rw [hg]; exact (below_size (by repeat (first | (with_reducible first | exact HB.out | apply below_alloc | apply pw_below_drewN | apply below_drew1 | refine below_set ?_ GE140.out) | exact HB.out))) : w.heap.size ≤ gb144)); have n4_ := Aside0.mk ((by rw [hg]; exact (below_size (by repeat (first | (with_reducible first | exact HB.out | apply below_alloc | apply pw_below_drewN | apply below_drew1 | refine below_set ?_ GE140.out) | exact HB.out))) : w.heap.size ≤ gb144)); have n5_ := Aside0.mk ((by rw [hg]; exact Nat.ne_of_lt (blk_lt (g := gb140) (o := .cells #[.int .i64 t137, .string t138] 37 (0, 0)) (by (with_reducible repeat (first | refine blk_drewN ?_ _ | refine blk_drew ?_ | refine blk_alloc ?_ _)); exact BK140.out)) : gb140 ≠ gb144)); have n6_ := Aside0.mk ((by rw [hg]; exact Nat.ne_of_gt (blk_lt (g := gb140) (o := .cells #[.int .i64 t137, .string t138] 37 (0, 0)) (by (with_reducible repeat (first | refine blk_drewN ?_ _ | refine blk_drew ?_ | refine blk_alloc ?_ _)); exact BK140.out)) : gb144 ≠ gb140)); clear BK140; clear HB; have BK140 := n0_; have HB := n1_; have BK144 := n2_; have GW144 := n3_; have GE144 := n4_; have NB140_144 := n5_; have NB144_140 := n6_; clear n0_ n1_ n2_ n3_ n4_ n5_ n6_; clear hb hbox hg; have hnb13 := NB144_140.out; have hnc13 := NB140_144.out; have hcz14_0 : w12.cell? ⟨gb144, 0, none⟩ = some (.int .i64 0) := (blk_cell BK144.out 0).trans rfl; have hcz14_1 : w12.cell? ⟨gb144, 1, none⟩ = some (.string (⟨#[]⟩ : ByteArray)) := (blk_cell BK144.out 1).trans rfl; have hfz14_0 := blk_frozen BK144.out 0; have hfz14_1 := blk_frozen BK144.out 1))
  (try simp only [Act.put, List.setIfInBounds_toArray, List.set_cons_zero, List.set_cons_succ])
  go_cut [31] (fun v31 wc => ∃ (kq : Nat) (x31_5 : Bool), v31 = .bool x31_5 ∧ Aside0 (arbiterlaw02_TypesParse.j0 kq a0 x31_5 = some r) ∧ Aside0 (kq ≤ k) ∧ Aside0 (wc.heap[gb140]? = some (.cells #[.int .i64 t137, .string t138] 37 (0, 0))) ∧ Aside0 (wc.heap[gb144]? = some (.cells #[.int .i64 t141, .string t142] 37 (0, 0))) ∧ Aside0 (Below w.heap.size w wc))
  case first =>
   have H := HC6.out
   clear HC6
   by_cases c15 : t139 = t143
   ·
    rw [if_pos c15] at H
    have c15b0 : (t139 == t143) = true := beq_iff_eq.mpr c15
    have c15b1 : (t139 != t143) = false := bne_eq_false_iff_eq.mpr c15
    clear c15
    (first | rw [c15b0] | (simp only [i64_w, i32_w]; rw [c15b0]) | skip)
    replace H := Option.bind_eq_some_iff.mp H
    obtain ⟨t145, A160, H⟩ := H
    replace H : (arbiterlaw02_TypesParse.j0 k a0 (!t145)) = some r := H
    have A16 := Aside0.mk A160
    clear A160
    have H' := Aside0.mk H
    clear H
    have hnb17 := NB140_144.out
    have hnc17 := NB144_140.out
    have hcz18_0 : w12.cell? ⟨gb140, 0, none⟩ = some (.int .i64 t137) := (blk_cell BK140.out 0).trans rfl
    have hcz18_1 : w12.cell? ⟨gb140, 1, none⟩ = some (.string t138) := (blk_cell BK140.out 1).trans rfl
    have hfz18_0 := blk_frozen BK140.out 0
    have hfz18_1 := blk_frozen BK140.out 1
    have hcz19_0 : w12.cell? ⟨gb144, 0, none⟩ = some (.int .i64 0) := (blk_cell BK144.out 0).trans rfl
    have hcz19_1 : w12.cell? ⟨gb144, 1, none⟩ = some (.string (⟨#[]⟩ : ByteArray)) := (blk_cell BK144.out 1).trans rfl
    have hfz19_0 := blk_frozen BK144.out 0
    have hfz19_1 := blk_frozen BK144.out 1
    go_wp2_with (first | (go_at_call 28; (with_reducible refine (arbiterref02_Same.calls t137 t138 t141 t142 t145 _ A16.out).mono ?_); rintro e w20 ⟨rfl, hb⟩; have n0_ := Aside0.mk (blk_below (g := gb140) (o := .cells #[.int .i64 t137, .string t138] 37 (0, 0)) (by (with_reducible repeat (first | refine blk_drewN ?_ _ | refine blk_drew ?_ | refine blk_alloc ?_ _)); refine blk_far ?_ NB140_144.out _; (with_reducible repeat (first | refine blk_drewN ?_ _ | refine blk_drew ?_ | refine blk_alloc ?_ _)); refine blk_far ?_ NB140_144.out _; (with_reducible repeat (first | refine blk_drewN ?_ _ | refine blk_drew ?_ | refine blk_alloc ?_ _)); exact BK140.out) hb); have n1_ := Aside0.mk (blk_below (g := gb144) (o := .cells #[.int .i64 t141, .string t142] 37 (0, 0)) (by (with_reducible repeat (first | refine blk_drewN ?_ _ | refine blk_drew ?_ | refine blk_alloc ?_ _)); refine blk_put (cs := #[.int .i64 t141, .string (⟨#[]⟩ : ByteArray)]) ?_ 1 _ rfl; (with_reducible repeat (first | refine blk_drewN ?_ _ | refine blk_drew ?_ | refine blk_alloc ?_ _)); refine blk_put (cs := #[.int .i64 0, .string (⟨#[]⟩ : ByteArray)]) ?_ 0 _ rfl; (with_reducible repeat (first | refine blk_drewN ?_ _ | refine blk_drew ?_ | refine blk_alloc ?_ _)); exact BK144.out) hb); have n2_ := Aside0.mk (below_step (by repeat (first | (with_reducible first | exact HB.out | apply below_alloc | apply pw_below_drewN | apply below_drew1 | refine below_set ?_ GE140.out | refine below_set ?_ GE144.out) | exact HB.out)) hb); clear BK140; clear BK144; clear HB; have BK140 := n0_; have BK144 := n1_; have HB := n2_; clear n0_ n1_ n2_; (try clear hb); (try clear hb2); (try clear hk); (try clear hi)))
    go_meet
    case rel => exact ⟨_, (!t145), (by first | rfl | (simp; done) | (simp [*]; done)), H', ⟨by first | omega | exact Nat.le_refl _⟩, ⟨by (with_reducible repeat (first | refine blk_drewN ?_ _ | refine blk_drew ?_ | refine blk_alloc ?_ _)); exact BK140.out⟩, ⟨by (with_reducible repeat (first | refine blk_drewN ?_ _ | refine blk_drew ?_ | refine blk_alloc ?_ _)); exact BK144.out⟩, ⟨by repeat (first | (with_reducible first | exact HB.out | apply below_alloc | apply pw_below_drewN | apply below_drew1 | refine below_set ?_ GE140.out | refine below_set ?_ GE144.out) | exact HB.out)⟩⟩
   ·
    rw [if_neg c15] at H
    have c15b0 : (t139 == t143) = false := beq_eq_false_iff_ne.mpr c15
    have c15b1 : (t139 != t143) = true := bne_iff_ne.mpr c15
    (first | rw [c15b0] | (simp only [i64_w, i32_w]; rw [c15b0]) | skip)
    have H' := Aside0.mk H
    clear H
    go_wp2
    go_meet
    case rel => exact ⟨_, (true), (by first | rfl | (simp; done) | (simp [*]; done)), H', ⟨by first | omega | exact Nat.le_refl _⟩, ⟨by (with_reducible repeat (first | refine blk_drewN ?_ _ | refine blk_drew ?_ | refine blk_alloc ?_ _)); refine blk_far ?_ NB140_144.out _; (with_reducible repeat (first | refine blk_drewN ?_ _ | refine blk_drew ?_ | refine blk_alloc ?_ _)); refine blk_far ?_ NB140_144.out _; (with_reducible repeat (first | refine blk_drewN ?_ _ | refine blk_drew ?_ | refine blk_alloc ?_ _)); exact BK140.out⟩, ⟨by (with_reducible repeat (first | refine blk_drewN ?_ _ | refine blk_drew ?_ | refine blk_alloc ?_ _)); refine blk_put (cs := #[.int .i64 t141, .string (⟨#[]⟩ : ByteArray)]) ?_ 1 _ rfl; (with_reducible repeat (first | refine blk_drewN ?_ _ | refine blk_drew ?_ | refine blk_alloc ?_ _)); refine blk_put (cs := #[.int .i64 0, .string (⟨#[]⟩ : ByteArray)]) ?_ 0 _ rfl; (with_reducible repeat (first | refine blk_drewN ?_ _ | refine blk_drew ?_ | refine blk_alloc ?_ _)); exact BK144.out⟩, ⟨by repeat (first | (with_reducible first | exact HB.out | apply below_alloc | apply pw_below_drewN | apply below_drew1 | refine below_set ?_ GE140.out | refine below_set ?_ GE144.out) | exact HB.out)⟩⟩
  case rest =>
   clear HC6
   try clear c1
   try clear c2
   try clear p2
   try clear c3
   try clear c7
   try clear c13
   try clear c15
   try clear c15b0
   try clear c15b1
   try clear c17
   try clear hcz10_0
   try clear hcz10_1
   try clear hcz14_0
   try clear hcz14_1
   try clear hcz18_0
   try clear hcz18_1
   try clear hcz19_0
   try clear hcz19_1
   try clear hfz10_0
   try clear hfz10_1
   try clear hfz14_0
   try clear hfz14_1
   try clear hfz18_0
   try clear hfz18_1
   try clear hfz19_0
   try clear hfz19_1
   obtain ⟨kq, x31_5, rfl, HA, HJ5, BK140, BK144, HB⟩ := hcut
   cases kq with
   | zero => exact absurd HA.out (by simp [arbiterlaw02_TypesParse.j0])
   | succ kj5 =>
    have H := HA.out
    clear HA
    simp only [arbiterlaw02_TypesParse.j0] at H
    by_cases c21 : x31_5 = true
    ·
     subst c21
     have H1 : (some false) = some r := by rw [if_pos rfl] at H; exact H
     clear H
     have H := H1
     clear H1
     obtain rfl := Option.some.inj H
     go_wp2
     go_ret
     exact ⟨by first | rfl | (simp [errW_none, errW_some] <;> rfl) | (simp [*, errW_none, errW_some] <;> rfl), by repeat (first | (with_reducible first | exact HB.out | apply below_alloc | apply pw_below_drewN | apply below_drew1 | refine below_set ?_ GE140.out | refine below_set ?_ GE144.out) | exact HB.out)⟩
    ·
     replace c21 := Bool.eq_false_iff.mpr c21
     subst c21
     have H1 : ((types_ParseRef.f a0).bind fun bt146 => ((arbiterref02_ParseRef.f a0).bind fun bt149 => (if bt146.2.2 = bt149.2.2 then ((arbiterref02_Same.f bt146.1 bt146.2.1 bt149.1 bt149.2.1).bind fun t152 => (arbiterlaw02_TypesParse.j1 kj5 a0 (!t152))) else (arbiterlaw02_TypesParse.j1 kj5 a0 true)))) = some r := by rw [if_neg (show ¬ (false = true) by decide)] at H; exact H
     clear H
     have H := H1
     clear H1
     replace H := Option.bind_eq_some_iff.mp H
     obtain ⟨⟨t146, t147, t148⟩, A220, H⟩ := H
     replace H : ((arbiterref02_ParseRef.f a0).bind fun bt149 => (if t148 = bt149.2.2 then ((arbiterref02_Same.f t146 t147 bt149.1 bt149.2.1).bind fun t152 => (arbiterlaw02_TypesParse.j1 kj5 a0 (!t152))) else (arbiterlaw02_TypesParse.j1 kj5 a0 true))) = some r := H
     have A22 := Aside0.mk A220
     clear A220
     replace H := Option.bind_eq_some_iff.mp H
     obtain ⟨⟨t149, t150, t151⟩, A230, H⟩ := H
     replace H : (if t148 = t151 then ((arbiterref02_Same.f t146 t147 t149 t150).bind fun t152 => (arbiterlaw02_TypesParse.j1 kj5 a0 (!t152))) else (arbiterlaw02_TypesParse.j1 kj5 a0 true)) = some r := H
     have A23 := Aside0.mk A230
     clear A230
     have HC24 := Aside0.mk H
     clear H
     go_upto_region 9 with (first | ((with_reducible refine gate_callee (f := 29) rfl ?_); refine goesL_ (some 34) rfl rfl Tryd.func29 (by kernel_rfl) rfl #[.string a0] rfl (by (try simp only [List.map_toArray, List.map_cons, List.map_nil]); first | done | rfl | (simp only [List.length_drop, List.length_take]; rfl)) ?_; (with_reducible refine (types_ParseRef.calls a0 t146 t147 t148 _ A22.out).mono ?_); rintro e w25 ⟨rfl, hb⟩; refine ⟨_, rfl, ?_⟩; have n0_ := Aside0.mk (blk_below (g := gb140) (o := .cells #[.int .i64 t137, .string t138] 37 (0, 0)) (by (with_reducible repeat (first | refine blk_drewN ?_ _ | refine blk_drew ?_ | refine blk_alloc ?_ _)); exact BK140.out) hb); have n1_ := Aside0.mk (blk_below (g := gb144) (o := .cells #[.int .i64 t141, .string t142] 37 (0, 0)) (by (with_reducible repeat (first | refine blk_drewN ?_ _ | refine blk_drew ?_ | refine blk_alloc ?_ _)); exact BK144.out) hb); have n2_ := Aside0.mk (below_step (by repeat (first | (with_reducible first | exact HB.out | apply below_alloc | apply pw_below_drewN | apply below_drew1 | refine below_set ?_ GE140.out | refine below_set ?_ GE144.out) | exact HB.out)) hb); clear BK140; clear BK144; clear HB; have BK140 := n0_; have BK144 := n1_; have HB := n2_; clear n0_ n1_ n2_; (try clear hb); (try clear hb2); (try clear hk); (try clear hi); have hnb26 := NB140_144.out; have hnc26 := NB144_140.out; have hcz27_0 : w25.cell? ⟨gb140, 0, none⟩ = some (.int .i64 t137) := (blk_cell BK140.out 0).trans rfl; have hcz27_1 : w25.cell? ⟨gb140, 1, none⟩ = some (.string t138) := (blk_cell BK140.out 1).trans rfl; have hfz27_0 := blk_frozen BK140.out 0; have hfz27_1 := blk_frozen BK140.out 1) | ((with_reducible refine gate_callee (f := 30) rfl ?_); refine goesL_ (some 39) rfl rfl Tryd.func30 (by kernel_rfl) rfl #[.string a0] rfl (by (try simp only [List.map_toArray, List.map_cons, List.map_nil]); first | done | rfl | (simp only [List.length_drop, List.length_take]; rfl)) ?_; (with_reducible refine (arbiterref02_ParseRef.calls a0 t149 t150 t151 _ A23.out).mono ?_); rintro e w28 ⟨rfl, hb⟩; refine ⟨_, rfl, ?_⟩; have n0_ := Aside0.mk (blk_below (g := gb140) (o := .cells #[.int .i64 t146, .string t147] 37 (0, 0)) (by (with_reducible repeat (first | refine blk_drewN ?_ _ | refine blk_drew ?_ | refine blk_alloc ?_ _)); refine blk_put (cs := #[.int .i64 t146, .string t138]) ?_ 1 _ rfl; (with_reducible repeat (first | refine blk_drewN ?_ _ | refine blk_drew ?_ | refine blk_alloc ?_ _)); refine blk_put (cs := #[.int .i64 t137, .string t138]) ?_ 0 _ rfl; (with_reducible repeat (first | refine blk_drewN ?_ _ | refine blk_drew ?_ | refine blk_alloc ?_ _)); exact BK140.out) hb); have n1_ := Aside0.mk (blk_below (g := gb144) (o := .cells #[.int .i64 t141, .string t142] 37 (0, 0)) (by (with_reducible repeat (first | refine blk_drewN ?_ _ | refine blk_drew ?_ | refine blk_alloc ?_ _)); refine blk_far ?_ NB144_140.out _; (with_reducible repeat (first | refine blk_drewN ?_ _ | refine blk_drew ?_ | refine blk_alloc ?_ _)); refine blk_far ?_ NB144_140.out _; (with_reducible repeat (first | refine blk_drewN ?_ _ | refine blk_drew ?_ | refine blk_alloc ?_ _)); exact BK144.out) hb); have n2_ := Aside0.mk (below_step (by repeat (first | (with_reducible first | exact HB.out | apply below_alloc | apply pw_below_drewN | apply below_drew1 | refine below_set ?_ GE140.out | refine below_set ?_ GE144.out) | exact HB.out)) hb); clear BK140; clear BK144; clear HB; have BK140 := n0_; have BK144 := n1_; have HB := n2_; clear n0_ n1_ n2_; (try clear hb); (try clear hb2); (try clear hk); (try clear hi); have hcz29_0 : w28.cell? ⟨gb144, 0, none⟩ = some (.int .i64 t141) := (blk_cell BK144.out 0).trans rfl; have hcz29_1 : w28.cell? ⟨gb144, 1, none⟩ = some (.string t142) := (blk_cell BK144.out 1).trans rfl; have hfz29_0 := blk_frozen BK144.out 0; have hfz29_1 := blk_frozen BK144.out 1))
     (try simp only [Act.put, List.setIfInBounds_toArray, List.set_cons_zero, List.set_cons_succ])
     go_cut [50] (fun v50 wc => ∃ (kq : Nat) (x50_23 : Bool), v50 = .bool x50_23 ∧ Aside0 (arbiterlaw02_TypesParse.j1 kq a0 x50_23 = some r) ∧ Aside0 (kq ≤ kj5) ∧ Aside0 (wc.heap[gb140]? = some (.cells #[.int .i64 t146, .string t147] 37 (0, 0))) ∧ Aside0 (wc.heap[gb144]? = some (.cells #[.int .i64 t149, .string t150] 37 (0, 0))) ∧ Aside0 (Below w.heap.size w wc))
     case first =>
      have H := HC24.out
      clear HC24
      by_cases c30 : t148 = t151
      ·
       rw [if_pos c30] at H
       have c30b0 : (t148 == t151) = true := beq_iff_eq.mpr c30
       have c30b1 : (t148 != t151) = false := bne_eq_false_iff_eq.mpr c30
       clear c30
       (first | rw [c30b0] | (simp only [i64_w, i32_w]; rw [c30b0]) | skip)
       replace H := Option.bind_eq_some_iff.mp H
       obtain ⟨t152, A310, H⟩ := H
       replace H : (arbiterlaw02_TypesParse.j1 kj5 a0 (!t152)) = some r := H
       have A31 := Aside0.mk A310
       clear A310
       have H' := Aside0.mk H
       clear H
       have hnb32 := NB140_144.out
       have hnc32 := NB144_140.out
       have hcz33_0 : w28.cell? ⟨gb140, 0, none⟩ = some (.int .i64 t146) := (blk_cell BK140.out 0).trans rfl
       have hcz33_1 : w28.cell? ⟨gb140, 1, none⟩ = some (.string t147) := (blk_cell BK140.out 1).trans rfl
       have hfz33_0 := blk_frozen BK140.out 0
       have hfz33_1 := blk_frozen BK140.out 1
       have hcz34_0 : w28.cell? ⟨gb144, 0, none⟩ = some (.int .i64 t141) := (blk_cell BK144.out 0).trans rfl
       have hcz34_1 : w28.cell? ⟨gb144, 1, none⟩ = some (.string t142) := (blk_cell BK144.out 1).trans rfl
       have hfz34_0 := blk_frozen BK144.out 0
       have hfz34_1 := blk_frozen BK144.out 1
       go_wp2_with (first | (go_at_call 28; (with_reducible refine (arbiterref02_Same.calls t146 t147 t149 t150 t152 _ A31.out).mono ?_); rintro e w35 ⟨rfl, hb⟩; have n0_ := Aside0.mk (blk_below (g := gb140) (o := .cells #[.int .i64 t146, .string t147] 37 (0, 0)) (by (with_reducible repeat (first | refine blk_drewN ?_ _ | refine blk_drew ?_ | refine blk_alloc ?_ _)); refine blk_far ?_ NB140_144.out _; (with_reducible repeat (first | refine blk_drewN ?_ _ | refine blk_drew ?_ | refine blk_alloc ?_ _)); refine blk_far ?_ NB140_144.out _; (with_reducible repeat (first | refine blk_drewN ?_ _ | refine blk_drew ?_ | refine blk_alloc ?_ _)); exact BK140.out) hb); have n1_ := Aside0.mk (blk_below (g := gb144) (o := .cells #[.int .i64 t149, .string t150] 37 (0, 0)) (by (with_reducible repeat (first | refine blk_drewN ?_ _ | refine blk_drew ?_ | refine blk_alloc ?_ _)); refine blk_put (cs := #[.int .i64 t149, .string t142]) ?_ 1 _ rfl; (with_reducible repeat (first | refine blk_drewN ?_ _ | refine blk_drew ?_ | refine blk_alloc ?_ _)); refine blk_put (cs := #[.int .i64 t141, .string t142]) ?_ 0 _ rfl; (with_reducible repeat (first | refine blk_drewN ?_ _ | refine blk_drew ?_ | refine blk_alloc ?_ _)); exact BK144.out) hb); have n2_ := Aside0.mk (below_step (by repeat (first | (with_reducible first | exact HB.out | apply below_alloc | apply pw_below_drewN | apply below_drew1 | refine below_set ?_ GE140.out | refine below_set ?_ GE144.out) | exact HB.out)) hb); clear BK140; clear BK144; clear HB; have BK140 := n0_; have BK144 := n1_; have HB := n2_; clear n0_ n1_ n2_; (try clear hb); (try clear hb2); (try clear hk); (try clear hi)))
       go_meet
       case rel => exact ⟨_, (!t152), (by first | rfl | (simp; done) | (simp [*]; done)), H', ⟨by have := HJ5.out; first | omega | exact Nat.le_refl _⟩, ⟨by (with_reducible repeat (first | refine blk_drewN ?_ _ | refine blk_drew ?_ | refine blk_alloc ?_ _)); exact BK140.out⟩, ⟨by (with_reducible repeat (first | refine blk_drewN ?_ _ | refine blk_drew ?_ | refine blk_alloc ?_ _)); exact BK144.out⟩, ⟨by repeat (first | (with_reducible first | exact HB.out | apply below_alloc | apply pw_below_drewN | apply below_drew1 | refine below_set ?_ GE140.out | refine below_set ?_ GE144.out) | exact HB.out)⟩⟩
      ·
       rw [if_neg c30] at H
       have c30b0 : (t148 == t151) = false := beq_eq_false_iff_ne.mpr c30
       have c30b1 : (t148 != t151) = true := bne_iff_ne.mpr c30
       (first | rw [c30b0] | (simp only [i64_w, i32_w]; rw [c30b0]) | skip)
       have H' := Aside0.mk H
       clear H
       go_wp2
       go_meet
       case rel => exact ⟨_, (true), (by first | rfl | (simp; done) | (simp [*]; done)), H', ⟨by have := HJ5.out; first | omega | exact Nat.le_refl _⟩, ⟨by (with_reducible repeat (first | refine blk_drewN ?_ _ | refine blk_drew ?_ | refine blk_alloc ?_ _)); refine blk_far ?_ NB140_144.out _; (with_reducible repeat (first | refine blk_drewN ?_ _ | refine blk_drew ?_ | refine blk_alloc ?_ _)); refine blk_far ?_ NB140_144.out _; (with_reducible repeat (first | refine blk_drewN ?_ _ | refine blk_drew ?_ | refine blk_alloc ?_ _)); exact BK140.out⟩, ⟨by (with_reducible repeat (first | refine blk_drewN ?_ _ | refine blk_drew ?_ | refine blk_alloc ?_ _)); refine blk_put (cs := #[.int .i64 t149, .string t142]) ?_ 1 _ rfl; (with_reducible repeat (first | refine blk_drewN ?_ _ | refine blk_drew ?_ | refine blk_alloc ?_ _)); refine blk_put (cs := #[.int .i64 t141, .string t142]) ?_ 0 _ rfl; (with_reducible repeat (first | refine blk_drewN ?_ _ | refine blk_drew ?_ | refine blk_alloc ?_ _)); exact BK144.out⟩, ⟨by repeat (first | (with_reducible first | exact HB.out | apply below_alloc | apply pw_below_drewN | apply below_drew1 | refine below_set ?_ GE140.out | refine below_set ?_ GE144.out) | exact HB.out)⟩⟩
     case rest =>
      clear HC24
      try clear c1
      try clear c2
      try clear p2
      try clear c3
      try clear c7
      try clear c13
      try clear c15
      try clear c15b0
      try clear c15b1
      try clear c17
      try clear c21
      try clear c25
      try clear c26
      try clear c27
      try clear c29
      try clear c30
      try clear c30b0
      try clear c30b1
      try clear c32
      try clear hcz10_0
      try clear hcz10_1
      try clear hcz14_0
      try clear hcz14_1
      try clear hcz18_0
      try clear hcz18_1
      try clear hcz19_0
      try clear hcz19_1
      try clear hcz27_0
      try clear hcz27_1
      try clear hcz29_0
      try clear hcz29_1
      try clear hcz33_0
      try clear hcz33_1
      try clear hcz34_0
      try clear hcz34_1
      try clear hfz10_0
      try clear hfz10_1
      try clear hfz14_0
      try clear hfz14_1
      try clear hfz18_0
      try clear hfz18_1
      try clear hfz19_0
      try clear hfz19_1
      try clear hfz27_0
      try clear hfz27_1
      try clear hfz29_0
      try clear hfz29_1
      try clear hfz33_0
      try clear hfz33_1
      try clear hfz34_0
      try clear hfz34_1
      try clear p2
      obtain ⟨kq, x50_23, rfl, HA, HJ23, BK140, BK144, HB⟩ := hcut
      cases kq with
      | zero => exact absurd HA.out (by simp [arbiterlaw02_TypesParse.j1])
      | succ kj23 =>
       have H := HA.out
       clear HA
       simp only [arbiterlaw02_TypesParse.j1] at H
       by_cases c36 : x50_23 = true
       ·
        subst c36
        have H1 : (some false) = some r := by rw [if_pos rfl] at H; exact H
        clear H
        have H := H1
        clear H1
        obtain rfl := Option.some.inj H
        go_wp2
        go_ret
        exact ⟨by first | rfl | (simp [errW_none, errW_some] <;> rfl) | (simp [*, errW_none, errW_some] <;> rfl), by repeat (first | (with_reducible first | exact HB.out | apply below_alloc | apply pw_below_drewN | apply below_drew1 | refine below_set ?_ GE140.out | refine below_set ?_ GE144.out) | exact HB.out)⟩
       ·
        replace c36 := Bool.eq_false_iff.mpr c36
        subst c36
        have H1 : ((types_ParseDesc.f a0).bind fun bt153 => ((arbiterref02_ParseDesc.f kj23 a0).bind fun bt161 => (if bt153.2.2.2.2 = bt161.2.2.2.2 then ((arbiterref02_SameDesc.f kj23 bt153.1 bt153.2.1 bt153.2.2.1 bt153.2.2.2.1 bt161.1 bt161.2.1 bt161.2.2.1 bt161.2.2.2.1).bind fun t169 => (arbiterlaw02_TypesParse.j2 kj23 a0 (!t169))) else (arbiterlaw02_TypesParse.j2 kj23 a0 true)))) = some r := by rw [if_neg (show ¬ (false = true) by decide)] at H; exact H
        clear H
        have H := H1
        clear H1
        replace H := Option.bind_eq_some_iff.mp H
        obtain ⟨⟨t153, t156, t157, t158, t159⟩, A370, H⟩ := H
        replace H : ((arbiterref02_ParseDesc.f kj23 a0).bind fun bt161 => (if t159 = bt161.2.2.2.2 then ((arbiterref02_SameDesc.f kj23 t153 t156 t157 t158 bt161.1 bt161.2.1 bt161.2.2.1 bt161.2.2.2.1).bind fun t169 => (arbiterlaw02_TypesParse.j2 kj23 a0 (!t169))) else (arbiterlaw02_TypesParse.j2 kj23 a0 true))) = some r := H
        have A37 := Aside0.mk A370
        clear A370
        replace H := Option.bind_eq_some_iff.mp H
        obtain ⟨⟨t161, t164, t165, t166, t167⟩, A380, H⟩ := H
        replace H : (if t159 = t167 then ((arbiterref02_SameDesc.f kj23 t153 t156 t157 t158 t161 t164 t165 t166).bind fun t169 => (arbiterlaw02_TypesParse.j2 kj23 a0 (!t169))) else (arbiterlaw02_TypesParse.j2 kj23 a0 true)) = some r := H
        have A38 := Aside0.mk A380
        clear A380
        have HC39 := Aside0.mk H
        clear H
        go_upto_region 13 with (first | ((with_reducible refine gate_callee (f := 31) rfl ?_); refine goesL_ (some 53) rfl rfl Tryd.func31 (by kernel_rfl) rfl #[.string a0] rfl (by (try simp only [List.map_toArray, List.map_cons, List.map_nil]); first | done | rfl | (simp only [List.length_drop, List.length_take]; rfl)) ?_; (with_reducible refine (types_ParseDesc.calls a0 t153 t156 t157 t158 t159 _ A37.out).mono ?_); rintro e w40 ⟨v154, rfl, ho0, hb⟩; refine ⟨_, rfl, ?_⟩; have n0_ := Aside0.mk (Kd.R_lower (Kd.R_newB (Kd.R_newB ho0 (g := gb140) (o := .cells #[.int .i64 t146, .string t147] 37 (0, 0)) (by (with_reducible repeat (first | refine blk_drewN ?_ _ | refine blk_drew ?_ | refine blk_alloc ?_ _)); exact BK140.out)) (g := gb144) (o := .cells #[.int .i64 t149, .string t150] 37 (0, 0)) (by (with_reducible repeat (first | refine blk_drewN ?_ _ | refine blk_drew ?_ | refine blk_alloc ?_ _)); exact BK144.out)) (below_size (by repeat (first | (with_reducible first | exact HB.out | apply below_alloc | apply pw_below_drewN | apply below_drew1 | refine below_set ?_ GE140.out | refine below_set ?_ GE144.out) | exact HB.out)))); have n1_ := Aside0.mk (blk_below (g := gb140) (o := .cells #[.int .i64 t146, .string t147] 37 (0, 0)) (by (with_reducible repeat (first | refine blk_drewN ?_ _ | refine blk_drew ?_ | refine blk_alloc ?_ _)); exact BK140.out) hb); have n2_ := Aside0.mk (blk_below (g := gb144) (o := .cells #[.int .i64 t149, .string t150] 37 (0, 0)) (by (with_reducible repeat (first | refine blk_drewN ?_ _ | refine blk_drew ?_ | refine blk_alloc ?_ _)); exact BK144.out) hb); have n3_ := Aside0.mk (below_step (by repeat (first | (with_reducible first | exact HB.out | apply below_alloc | apply pw_below_drewN | apply below_drew1 | refine below_set ?_ GE140.out | refine below_set ?_ GE144.out) | exact HB.out)) hb); clear BK140; clear BK144; clear HB; have HO155 := n0_; have BK140 := n1_; have BK144 := n2_; have HB := n3_; clear n0_ n1_ n2_ n3_; (try clear hb); (try clear hb2); (try clear hk); (try clear hi); (try clear ho0)) | ((with_reducible refine gate_dst (N := 7) rfl ?_); refine box_event ?hg (N := 7) ?hd (cs := #[.slice none 0 0, .bool false, .int .i64 0, .string (⟨#[]⟩ : ByteArray)]) (t := 43) ?hr ?_; (case hd => rfl); (case hg => rfl); (case hr => first | (go_simp; done) | (go_simp; rfl)); intro gb160 hg w41 hbox hb; have n0_ := Aside0.mk (Kd.R_below (by (with_reducible repeat (first | apply Kd.R_alloc | apply Kd.R_drewN | apply Kd.R_drew)); exact HO155.out) hb); have n1_ := Aside0.mk (blk_below (g := gb140) (o := .cells #[.int .i64 t146, .string t147] 37 (0, 0)) (by (with_reducible repeat (first | refine blk_drewN ?_ _ | refine blk_drew ?_ | refine blk_alloc ?_ _)); exact BK140.out) hb); have n2_ := Aside0.mk (blk_below (g := gb144) (o := .cells #[.int .i64 t149, .string t150] 37 (0, 0)) (by (with_reducible repeat (first | refine blk_drewN ?_ _ | refine blk_drew ?_ | refine blk_alloc ?_ _)); exact BK144.out) hb); have n3_ := Aside0.mk (below_step (by repeat (first | (with_reducible first | exact HB.out | apply below_alloc | apply pw_below_drewN | apply below_drew1 | refine below_set ?_ GE140.out | refine below_set ?_ GE144.out) | exact HB.out)) hb); have n4_ := Aside0.mk (hbox); have n5_ := Aside0.mk ((by rw [hg]; exact (below_size (by repeat (first | (with_reducible first | exact HB.out | apply below_alloc | apply pw_below_drewN | apply below_drew1 | refine below_set ?_ GE140.out | refine below_set ?_ GE144.out) | exact HB.out))) : w.heap.size ≤ gb160)); have n6_ := Aside0.mk ((by rw [hg]; exact (below_size (by repeat (first | (with_reducible first | exact HB.out | apply below_alloc | apply pw_below_drewN | apply below_drew1 | refine below_set ?_ GE140.out | refine below_set ?_ GE144.out) | exact HB.out))) : w.heap.size ≤ gb160)); have n7_ := Aside0.mk ((by rw [hg]; exact Nat.ne_of_lt (blk_lt (g := gb140) (o := .cells #[.int .i64 t146, .string t147] 37 (0, 0)) (by (with_reducible repeat (first | refine blk_drewN ?_ _ | refine blk_drew ?_ | refine blk_alloc ?_ _)); exact BK140.out)) : gb140 ≠ gb160)); have n8_ := Aside0.mk ((by rw [hg]; exact Nat.ne_of_gt (blk_lt (g := gb140) (o := .cells #[.int .i64 t146, .string t147] 37 (0, 0)) (by (with_reducible repeat (first | refine blk_drewN ?_ _ | refine blk_drew ?_ | refine blk_alloc ?_ _)); exact BK140.out)) : gb160 ≠ gb140)); have n9_ := Aside0.mk ((by rw [hg]; exact Nat.ne_of_lt (blk_lt (g := gb144) (o := .cells #[.int .i64 t149, .string t150] 37 (0, 0)) (by (with_reducible repeat (first | refine blk_drewN ?_ _ | refine blk_drew ?_ | refine blk_alloc ?_ _)); exact BK144.out)) : gb144 ≠ gb160)); have n10_ := Aside0.mk ((by rw [hg]; exact Nat.ne_of_gt (blk_lt (g := gb144) (o := .cells #[.int .i64 t149, .string t150] 37 (0, 0)) (by (with_reducible repeat (first | refine blk_drewN ?_ _ | refine blk_drew ?_ | refine blk_alloc ?_ _)); exact BK144.out)) : gb160 ≠ gb144)); clear HO155; clear BK140; clear BK144; clear HB; have HO155 := n0_; have BK140 := n1_; have BK144 := n2_; have HB := n3_; have BK160 := n4_; have GW160 := n5_; have GE160 := n6_; have NB140_160 := n7_; have NB160_140 := n8_; have NB144_160 := n9_; have NB160_144 := n10_; clear n0_ n1_ n2_ n3_ n4_ n5_ n6_ n7_ n8_ n9_ n10_; clear hb hbox hg; obtain ⟨Ao42, co42, eo42⟩ := Kd.R_slice HO155.out; subst eo42; have hnb43 := NB160_140.out; have hnc43 := NB140_160.out; have hnb44 := NB160_144.out; have hnc44 := NB144_160.out; have hcz45_0 : w41.cell? ⟨gb160, 0, none⟩ = some (.slice none 0 0) := (blk_cell BK160.out 0).trans rfl; have hcz45_1 : w41.cell? ⟨gb160, 1, none⟩ = some (.bool false) := (blk_cell BK160.out 1).trans rfl; have hcz45_2 : w41.cell? ⟨gb160, 2, none⟩ = some (.int .i64 0) := (blk_cell BK160.out 2).trans rfl; have hcz45_3 : w41.cell? ⟨gb160, 3, none⟩ = some (.string (⟨#[]⟩ : ByteArray)) := (blk_cell BK160.out 3).trans rfl; have hfz45_0 := blk_frozen BK160.out 0; have hfz45_1 := blk_frozen BK160.out 1; have hfz45_2 := blk_frozen BK160.out 2; have hfz45_3 := blk_frozen BK160.out 3) | ((with_reducible refine gate_callee (f := 32) rfl ?_); refine goesL_ (some 58) rfl rfl Tryd.func32 (by kernel_rfl) rfl #[.string a0] rfl (by (try simp only [List.map_toArray, List.map_cons, List.map_nil]); first | done | rfl | (simp only [List.length_drop, List.length_take]; rfl)) ?_; (with_reducible refine (arbiterref02_ParseDesc.calls kj23 a0 t161 t164 t165 t166 t167 _ A38.out).mono ?_); rintro e w46 ⟨v162, rfl, ho0, hb⟩; refine ⟨_, rfl, ?_⟩; have n0_ := Aside0.mk (Kd.R_elder' (by (with_reducible repeat (first | apply Kd.R_alloc | apply Kd.R_drewN | apply Kd.R_drew)); exact (Kd.R_mono (Kd.R_far (p := ⟨gb160, 3, none⟩) (Kd.R_far (p := ⟨gb160, 2, none⟩) (Kd.R_far (p := ⟨gb160, 1, none⟩) (Kd.R_far (p := ⟨gb160, 0, none⟩) (Kd.R_types HO155.out BK160.out (by decide)) (fun _ hk => hk.2) (.slice Ao42 t153.length co42)) (fun _ hk => hk.2) (.bool t156)) (fun _ hk => hk.2) (.int .i64 t157)) (fun _ hk => hk.2) (.string t158)) (fun _ h_ => h_.1))) (Kd.R_base ho0) hb); have n1_ := Aside0.mk (Kd.R_lower (Kd.R_newB (Kd.R_newB (Kd.R_new' ho0 (Kd.R_lt (by (with_reducible repeat (first | apply Kd.R_alloc | apply Kd.R_drewN | apply Kd.R_drew)); exact (Kd.R_mono (Kd.R_far (p := ⟨gb160, 3, none⟩) (Kd.R_far (p := ⟨gb160, 2, none⟩) (Kd.R_far (p := ⟨gb160, 1, none⟩) (Kd.R_far (p := ⟨gb160, 0, none⟩) (Kd.R_types HO155.out BK160.out (by decide)) (fun _ hk => hk.2) (.slice Ao42 t153.length co42)) (fun _ hk => hk.2) (.bool t156)) (fun _ hk => hk.2) (.int .i64 t157)) (fun _ hk => hk.2) (.string t158)) (fun _ h_ => h_.1))))) (g := gb140) (o := .cells #[.int .i64 t146, .string t147] 37 (0, 0)) (by (with_reducible repeat (first | refine blk_drewN ?_ _ | refine blk_drew ?_ | refine blk_alloc ?_ _)); refine blk_far ?_ NB140_160.out _; (with_reducible repeat (first | refine blk_drewN ?_ _ | refine blk_drew ?_ | refine blk_alloc ?_ _)); refine blk_far ?_ NB140_160.out _; (with_reducible repeat (first | refine blk_drewN ?_ _ | refine blk_drew ?_ | refine blk_alloc ?_ _)); refine blk_far ?_ NB140_160.out _; (with_reducible repeat (first | refine blk_drewN ?_ _ | refine blk_drew ?_ | refine blk_alloc ?_ _)); refine blk_far ?_ NB140_160.out _; (with_reducible repeat (first | refine blk_drewN ?_ _ | refine blk_drew ?_ | refine blk_alloc ?_ _)); exact BK140.out)) (g := gb144) (o := .cells #[.int .i64 t149, .string t150] 37 (0, 0)) (by (with_reducible repeat (first | refine blk_drewN ?_ _ | refine blk_drew ?_ | refine blk_alloc ?_ _)); refine blk_far ?_ NB144_160.out _; (with_reducible repeat (first | refine blk_drewN ?_ _ | refine blk_drew ?_ | refine blk_alloc ?_ _)); refine blk_far ?_ NB144_160.out _; (with_reducible repeat (first | refine blk_drewN ?_ _ | refine blk_drew ?_ | refine blk_alloc ?_ _)); refine blk_far ?_ NB144_160.out _; (with_reducible repeat (first | refine blk_drewN ?_ _ | refine blk_drew ?_ | refine blk_alloc ?_ _)); refine blk_far ?_ NB144_160.out _; (with_reducible repeat (first | refine blk_drewN ?_ _ | refine blk_drew ?_ | refine blk_alloc ?_ _)); exact BK144.out)) (below_size (by repeat (first | (with_reducible first | exact HB.out | apply below_alloc | apply pw_below_drewN | apply below_drew1 | refine below_set ?_ GE140.out | refine below_set ?_ GE144.out | refine below_set ?_ GE160.out) | exact HB.out)))); have n2_ := Aside0.mk (blk_below (g := gb140) (o := .cells #[.int .i64 t146, .string t147] 37 (0, 0)) (by (with_reducible repeat (first | refine blk_drewN ?_ _ | refine blk_drew ?_ | refine blk_alloc ?_ _)); refine blk_far ?_ NB140_160.out _; (with_reducible repeat (first | refine blk_drewN ?_ _ | refine blk_drew ?_ | refine blk_alloc ?_ _)); refine blk_far ?_ NB140_160.out _; (with_reducible repeat (first | refine blk_drewN ?_ _ | refine blk_drew ?_ | refine blk_alloc ?_ _)); refine blk_far ?_ NB140_160.out _; (with_reducible repeat (first | refine blk_drewN ?_ _ | refine blk_drew ?_ | refine blk_alloc ?_ _)); refine blk_far ?_ NB140_160.out _; (with_reducible repeat (first | refine blk_drewN ?_ _ | refine blk_drew ?_ | refine blk_alloc ?_ _)); exact BK140.out) hb); have n3_ := Aside0.mk (blk_below (g := gb144) (o := .cells #[.int .i64 t149, .string t150] 37 (0, 0)) (by (with_reducible repeat (first | refine blk_drewN ?_ _ | refine blk_drew ?_ | refine blk_alloc ?_ _)); refine blk_far ?_ NB144_160.out _; (with_reducible repeat (first | refine blk_drewN ?_ _ | refine blk_drew ?_ | refine blk_alloc ?_ _)); refine blk_far ?_ NB144_160.out _; (with_reducible repeat (first | refine blk_drewN ?_ _ | refine blk_drew ?_ | refine blk_alloc ?_ _)); refine blk_far ?_ NB144_160.out _; (with_reducible repeat (first | refine blk_drewN ?_ _ | refine blk_drew ?_ | refine blk_alloc ?_ _)); refine blk_far ?_ NB144_160.out _; (with_reducible repeat (first | refine blk_drewN ?_ _ | refine blk_drew ?_ | refine blk_alloc ?_ _)); exact BK144.out) hb); have n4_ := Aside0.mk (blk_below (g := gb160) (o := .cells #[.slice Ao42 t153.length co42, .bool t156, .int .i64 t157, .string t158] 43 (0, 0)) (by (with_reducible repeat (first | refine blk_drewN ?_ _ | refine blk_drew ?_ | refine blk_alloc ?_ _)); refine blk_put (cs := #[.slice Ao42 t153.length co42, .bool t156, .int .i64 t157, .string (⟨#[]⟩ : ByteArray)]) ?_ 3 _ rfl; (with_reducible repeat (first | refine blk_drewN ?_ _ | refine blk_drew ?_ | refine blk_alloc ?_ _)); refine blk_put (cs := #[.slice Ao42 t153.length co42, .bool t156, .int .i64 0, .string (⟨#[]⟩ : ByteArray)]) ?_ 2 _ rfl; (with_reducible repeat (first | refine blk_drewN ?_ _ | refine blk_drew ?_ | refine blk_alloc ?_ _)); refine blk_put (cs := #[.slice Ao42 t153.length co42, .bool false, .int .i64 0, .string (⟨#[]⟩ : ByteArray)]) ?_ 1 _ rfl; (with_reducible repeat (first | refine blk_drewN ?_ _ | refine blk_drew ?_ | refine blk_alloc ?_ _)); refine blk_put (cs := #[.slice none 0 0, .bool false, .int .i64 0, .string (⟨#[]⟩ : ByteArray)]) ?_ 0 _ rfl; (with_reducible repeat (first | refine blk_drewN ?_ _ | refine blk_drew ?_ | refine blk_alloc ?_ _)); exact BK160.out) hb); have n5_ := Aside0.mk (below_step (by repeat (first | (with_reducible first | exact HB.out | apply below_alloc | apply pw_below_drewN | apply below_drew1 | refine below_set ?_ GE140.out | refine below_set ?_ GE144.out | refine below_set ?_ GE160.out) | exact HB.out)) hb); clear HO155; clear BK140; clear BK144; clear BK160; clear HB; have HO155 := n0_; have HO163 := n1_; have BK140 := n2_; have BK144 := n3_; have BK160 := n4_; have HB := n5_; clear n0_ n1_ n2_ n3_ n4_ n5_; (try clear hb); (try clear hb2); (try clear hk); (try clear hi); (try clear ho0)) | ((with_reducible refine gate_dst (N := 8) rfl ?_); refine box_event ?hg (N := 8) ?hd (cs := #[.slice none 0 0, .bool false, .int .i64 0, .string (⟨#[]⟩ : ByteArray)]) (t := 43) ?hr ?_; (case hd => rfl); (case hg => rfl); (case hr => first | (go_simp; done) | (go_simp; rfl)); intro gb168 hg w47 hbox hb; have n0_ := Aside0.mk (Kd.R_below (by (with_reducible repeat (first | apply Kd.R_alloc | apply Kd.R_drewN | apply Kd.R_drew)); exact HO155.out) hb); have n1_ := Aside0.mk (Kd.R_below (by (with_reducible repeat (first | apply Kd.R_alloc | apply Kd.R_drewN | apply Kd.R_drew)); exact HO163.out) hb); have n2_ := Aside0.mk (blk_below (g := gb140) (o := .cells #[.int .i64 t146, .string t147] 37 (0, 0)) (by (with_reducible repeat (first | refine blk_drewN ?_ _ | refine blk_drew ?_ | refine blk_alloc ?_ _)); exact BK140.out) hb); have n3_ := Aside0.mk (blk_below (g := gb144) (o := .cells #[.int .i64 t149, .string t150] 37 (0, 0)) (by (with_reducible repeat (first | refine blk_drewN ?_ _ | refine blk_drew ?_ | refine blk_alloc ?_ _)); exact BK144.out) hb); have n4_ := Aside0.mk (blk_below (g := gb160) (o := .cells #[.slice Ao42 t153.length co42, .bool t156, .int .i64 t157, .string t158] 43 (0, 0)) (by (with_reducible repeat (first | refine blk_drewN ?_ _ | refine blk_drew ?_ | refine blk_alloc ?_ _)); exact BK160.out) hb); have n5_ := Aside0.mk (below_step (by repeat (first | (with_reducible first | exact HB.out | apply below_alloc | apply pw_below_drewN | apply below_drew1 | refine below_set ?_ GE140.out | refine below_set ?_ GE144.out | refine below_set ?_ GE160.out) | exact HB.out)) hb); have n6_ := Aside0.mk (hbox); have n7_ := Aside0.mk ((by rw [hg]; exact (below_size (by repeat (first | (with_reducible first | exact HB.out | apply below_alloc | apply pw_below_drewN | apply below_drew1 | refine below_set ?_ GE140.out | refine below_set ?_ GE144.out | refine below_set ?_ GE160.out) | exact HB.out))) : w.heap.size ≤ gb168)); have n8_ := Aside0.mk ((by rw [hg]; exact (below_size (by repeat (first | (with_reducible first | exact HB.out | apply below_alloc | apply pw_below_drewN | apply below_drew1 | refine below_set ?_ GE140.out | refine below_set ?_ GE144.out | refine below_set ?_ GE160.out) | exact HB.out))) : w.heap.size ≤ gb168)); have n9_ := Aside0.mk ((by rw [hg]; exact Nat.ne_of_lt (blk_lt (g := gb140) (o := .cells #[.int .i64 t146, .string t147] 37 (0, 0)) (by (with_reducible repeat (first | refine blk_drewN ?_ _ | refine blk_drew ?_ | refine blk_alloc ?_ _)); exact BK140.out)) : gb140 ≠ gb168)); have n10_ := Aside0.mk ((by rw [hg]; exact Nat.ne_of_gt (blk_lt (g := gb140) (o := .cells #[.int .i64 t146, .string t147] 37 (0, 0)) (by (with_reducible repeat (first | refine blk_drewN ?_ _ | refine blk_drew ?_ | refine blk_alloc ?_ _)); exact BK140.out)) : gb168 ≠ gb140)); have n11_ := Aside0.mk ((by rw [hg]; exact Nat.ne_of_lt (blk_lt (g := gb144) (o := .cells #[.int .i64 t149, .string t150] 37 (0, 0)) (by (with_reducible repeat (first | refine blk_drewN ?_ _ | refine blk_drew ?_ | refine blk_alloc ?_ _)); exact BK144.out)) : gb144 ≠ gb168)); have n12_ := Aside0.mk ((by rw [hg]; exact Nat.ne_of_gt (blk_lt (g := gb144) (o := .cells #[.int .i64 t149, .string t150] 37 (0, 0)) (by (with_reducible repeat (first | refine blk_drewN ?_ _ | refine blk_drew ?_ | refine blk_alloc ?_ _)); exact BK144.out)) : gb168 ≠ gb144)); have n13_ := Aside0.mk ((by rw [hg]; exact Nat.ne_of_lt (blk_lt (g := gb160) (o := .cells #[.slice Ao42 t153.length co42, .bool t156, .int .i64 t157, .string t158] 43 (0, 0)) (by (with_reducible repeat (first | refine blk_drewN ?_ _ | refine blk_drew ?_ | refine blk_alloc ?_ _)); exact BK160.out)) : gb160 ≠ gb168)); have n14_ := Aside0.mk ((by rw [hg]; exact Nat.ne_of_gt (blk_lt (g := gb160) (o := .cells #[.slice Ao42 t153.length co42, .bool t156, .int .i64 t157, .string t158] 43 (0, 0)) (by (with_reducible repeat (first | refine blk_drewN ?_ _ | refine blk_drew ?_ | refine blk_alloc ?_ _)); exact BK160.out)) : gb168 ≠ gb160)); clear HO155; clear HO163; clear BK140; clear BK144; clear BK160; clear HB; have HO155 := n0_; have HO163 := n1_; have BK140 := n2_; have BK144 := n3_; have BK160 := n4_; have HB := n5_; have BK168 := n6_; have GW168 := n7_; have GE168 := n8_; have NB140_168 := n9_; have NB168_140 := n10_; have NB144_168 := n11_; have NB168_144 := n12_; have NB160_168 := n13_; have NB168_160 := n14_; clear n0_ n1_ n2_ n3_ n4_ n5_ n6_ n7_ n8_ n9_ n10_ n11_ n12_ n13_ n14_; clear hb hbox hg; obtain ⟨Ao48, co48, eo48⟩ := Kd.R_slice HO163.out; subst eo48; have hnb49 := NB168_140.out; have hnc49 := NB140_168.out; have hnb50 := NB168_144.out; have hnc50 := NB144_168.out; have hnb51 := NB168_160.out; have hnc51 := NB160_168.out; have hcz52_0 : w47.cell? ⟨gb168, 0, none⟩ = some (.slice none 0 0) := (blk_cell BK168.out 0).trans rfl; have hcz52_1 : w47.cell? ⟨gb168, 1, none⟩ = some (.bool false) := (blk_cell BK168.out 1).trans rfl; have hcz52_2 : w47.cell? ⟨gb168, 2, none⟩ = some (.int .i64 0) := (blk_cell BK168.out 2).trans rfl; have hcz52_3 : w47.cell? ⟨gb168, 3, none⟩ = some (.string (⟨#[]⟩ : ByteArray)) := (blk_cell BK168.out 3).trans rfl; have hfz52_0 := blk_frozen BK168.out 0; have hfz52_1 := blk_frozen BK168.out 1; have hfz52_2 := blk_frozen BK168.out 2; have hfz52_3 := blk_frozen BK168.out 3))
        (try simp only [Act.put, List.setIfInBounds_toArray, List.set_cons_zero, List.set_cons_succ])
        go_cut [69] (fun v69 wc => ∃ (kq : Nat) (x69_38 : Bool), v69 = .bool x69_38 ∧ Aside0 (arbiterlaw02_TypesParse.j2 kq a0 x69_38 = some r) ∧ Aside0 (kq ≤ kj23) ∧ Aside0 (Kd.R k37 37 wc w.heap.size (fun k_ => some k_ ≠ ((.slice Ao48 t161.length co48) : Value).ownBlock ∧ k_ ≠ gb140 ∧ k_ ≠ gb144) (.slice Ao42 t153.length co42) t153) ∧ Aside0 (Kd.R k37 37 wc w.heap.size (fun k_ => some k_ ≠ ((.slice Ao42 t153.length co42) : Value).ownBlock ∧ k_ ≠ gb140 ∧ k_ ≠ gb144) (.slice Ao48 t161.length co48) t161) ∧ Aside0 (wc.heap[gb140]? = some (.cells #[.int .i64 t146, .string t147] 37 (0, 0))) ∧ Aside0 (wc.heap[gb144]? = some (.cells #[.int .i64 t149, .string t150] 37 (0, 0))) ∧ Aside0 (wc.heap[gb160]? = some (.cells #[(.slice Ao42 t153.length co42), .bool t156, .int .i64 t157, .string t158] 43 (0, 0))) ∧ Aside0 (wc.heap[gb168]? = some (.cells #[(.slice Ao48 t161.length co48), .bool t164, .int .i64 t165, .string t166] 43 (0, 0))) ∧ Aside0 (Below w.heap.size w wc))
        case first =>
         have H := HC39.out
         clear HC39
         by_cases c53 : t159 = t167
         ·
          rw [if_pos c53] at H
          have c53b0 : (t159 == t167) = true := beq_iff_eq.mpr c53
          have c53b1 : (t159 != t167) = false := bne_eq_false_iff_eq.mpr c53
          clear c53
          (first | rw [c53b0] | (simp only [i64_w, i32_w]; rw [c53b0]) | skip)
          replace H := Option.bind_eq_some_iff.mp H
          obtain ⟨t169, A540, H⟩ := H
          replace H : (arbiterlaw02_TypesParse.j2 kj23 a0 (!t169)) = some r := H
          have A54 := Aside0.mk A540
          clear A540
          have H' := Aside0.mk H
          clear H
          have hnb55 := NB160_140.out
          have hnc55 := NB140_160.out
          have hnb56 := NB160_144.out
          have hnc56 := NB144_160.out
          have hnb57 := NB160_168.out
          have hnc57 := NB168_160.out
          have hcz58_0 : w47.cell? ⟨gb160, 0, none⟩ = some (.slice Ao42 t153.length co42) := (blk_cell BK160.out 0).trans rfl
          have hcz58_1 : w47.cell? ⟨gb160, 1, none⟩ = some (.bool t156) := (blk_cell BK160.out 1).trans rfl
          have hcz58_2 : w47.cell? ⟨gb160, 2, none⟩ = some (.int .i64 t157) := (blk_cell BK160.out 2).trans rfl
          have hcz58_3 : w47.cell? ⟨gb160, 3, none⟩ = some (.string t158) := (blk_cell BK160.out 3).trans rfl
          have hfz58_0 := blk_frozen BK160.out 0
          have hfz58_1 := blk_frozen BK160.out 1
          have hfz58_2 := blk_frozen BK160.out 2
          have hfz58_3 := blk_frozen BK160.out 3
          have hnb59 := NB168_140.out
          have hnc59 := NB140_168.out
          have hnb60 := NB168_144.out
          have hnc60 := NB144_168.out
          have hcz61_0 : w47.cell? ⟨gb168, 0, none⟩ = some (.slice none 0 0) := (blk_cell BK168.out 0).trans rfl
          have hcz61_1 : w47.cell? ⟨gb168, 1, none⟩ = some (.bool false) := (blk_cell BK168.out 1).trans rfl
          have hcz61_2 : w47.cell? ⟨gb168, 2, none⟩ = some (.int .i64 0) := (blk_cell BK168.out 2).trans rfl
          have hcz61_3 : w47.cell? ⟨gb168, 3, none⟩ = some (.string (⟨#[]⟩ : ByteArray)) := (blk_cell BK168.out 3).trans rfl
          have hfz61_0 := blk_frozen BK168.out 0
          have hfz61_1 := blk_frozen BK168.out 1
          have hfz61_2 := blk_frozen BK168.out 2
          have hfz61_3 := blk_frozen BK168.out 3
          go_wp2_with (first | (go_at_call 33; (with_reducible refine (arbiterref02_SameDesc.calls kj23 _ _ t153 t156 t157 t158 _ _ t161 t164 t165 t166 t169 _ ?side1 ?side2 ?side3 ?side4 A54.out).mono ?_); (case side1 => refine (Kd.R_reads' (e := 37) (base := w.heap.size) (ok := fun k_ => (((True ∧ k_ ≠ gb140) ∧ k_ ≠ gb144) ∧ some k_ ≠ (.slice Ao48 t161.length co48 : Value).ownBlock)) (n := t153.length) (c := co42) ?_).2.2; exact (by (with_reducible repeat (first | apply Kd.R_alloc | apply Kd.R_drewN | apply Kd.R_drew)); exact (Kd.R_mono (Kd.R_far (p := ⟨gb168, 3, none⟩) (Kd.R_far (p := ⟨gb168, 2, none⟩) (Kd.R_far (p := ⟨gb168, 1, none⟩) (Kd.R_far (p := ⟨gb168, 0, none⟩) (Kd.R_types HO155.out BK168.out (by decide)) (fun _ hk => hk.2) (.slice Ao48 t161.length co48)) (fun _ hk => hk.2) (.bool t164)) (fun _ hk => hk.2) (.int .i64 t165)) (fun _ hk => hk.2) (.string t166)) (fun _ h_ => h_.1)))); (case side2 => exact (Kd.R_reads' HO155.out).2.1); (case side3 => refine (Kd.R_reads' (e := 37) (base := w.heap.size) (ok := fun k_ => (((True ∧ some k_ ≠ (.slice Ao42 t153.length co42 : Value).ownBlock) ∧ k_ ≠ gb140) ∧ k_ ≠ gb144)) (n := t161.length) (c := co48) ?_).2.2; exact (by (with_reducible repeat (first | apply Kd.R_alloc | apply Kd.R_drewN | apply Kd.R_drew)); exact (Kd.R_mono (Kd.R_far (p := ⟨gb168, 3, none⟩) (Kd.R_far (p := ⟨gb168, 2, none⟩) (Kd.R_far (p := ⟨gb168, 1, none⟩) (Kd.R_far (p := ⟨gb168, 0, none⟩) (Kd.R_types HO163.out BK168.out (by decide)) (fun _ hk => hk.2) (.slice Ao48 t161.length co48)) (fun _ hk => hk.2) (.bool t164)) (fun _ hk => hk.2) (.int .i64 t165)) (fun _ hk => hk.2) (.string t166)) (fun _ h_ => h_.1)))); (case side4 => exact (Kd.R_reads' HO163.out).2.1); rintro e w62 ⟨rfl, hb⟩; have n0_ := Aside0.mk (Kd.R_below (by (with_reducible repeat (first | apply Kd.R_alloc | apply Kd.R_drewN | apply Kd.R_drew)); exact (Kd.R_mono (Kd.R_far (p := ⟨gb168, 3, none⟩) (Kd.R_far (p := ⟨gb168, 2, none⟩) (Kd.R_far (p := ⟨gb168, 1, none⟩) (Kd.R_far (p := ⟨gb168, 0, none⟩) (Kd.R_types HO155.out BK168.out (by decide)) (fun _ hk => hk.2) (.slice Ao48 t161.length co48)) (fun _ hk => hk.2) (.bool t164)) (fun _ hk => hk.2) (.int .i64 t165)) (fun _ hk => hk.2) (.string t166)) (fun _ h_ => h_.1))) hb); have n1_ := Aside0.mk (Kd.R_below (by (with_reducible repeat (first | apply Kd.R_alloc | apply Kd.R_drewN | apply Kd.R_drew)); exact (Kd.R_mono (Kd.R_far (p := ⟨gb168, 3, none⟩) (Kd.R_far (p := ⟨gb168, 2, none⟩) (Kd.R_far (p := ⟨gb168, 1, none⟩) (Kd.R_far (p := ⟨gb168, 0, none⟩) (Kd.R_types HO163.out BK168.out (by decide)) (fun _ hk => hk.2) (.slice Ao48 t161.length co48)) (fun _ hk => hk.2) (.bool t164)) (fun _ hk => hk.2) (.int .i64 t165)) (fun _ hk => hk.2) (.string t166)) (fun _ h_ => h_.1))) hb); have n2_ := Aside0.mk (blk_below (g := gb140) (o := .cells #[.int .i64 t146, .string t147] 37 (0, 0)) (by (with_reducible repeat (first | refine blk_drewN ?_ _ | refine blk_drew ?_ | refine blk_alloc ?_ _)); refine blk_far ?_ NB140_168.out _; (with_reducible repeat (first | refine blk_drewN ?_ _ | refine blk_drew ?_ | refine blk_alloc ?_ _)); refine blk_far ?_ NB140_168.out _; (with_reducible repeat (first | refine blk_drewN ?_ _ | refine blk_drew ?_ | refine blk_alloc ?_ _)); refine blk_far ?_ NB140_168.out _; (with_reducible repeat (first | refine blk_drewN ?_ _ | refine blk_drew ?_ | refine blk_alloc ?_ _)); refine blk_far ?_ NB140_168.out _; (with_reducible repeat (first | refine blk_drewN ?_ _ | refine blk_drew ?_ | refine blk_alloc ?_ _)); exact BK140.out) hb); have n3_ := Aside0.mk (blk_below (g := gb144) (o := .cells #[.int .i64 t149, .string t150] 37 (0, 0)) (by (with_reducible repeat (first | refine blk_drewN ?_ _ | refine blk_drew ?_ | refine blk_alloc ?_ _)); refine blk_far ?_ NB144_168.out _; (with_reducible repeat (first | refine blk_drewN ?_ _ | refine blk_drew ?_ | refine blk_alloc ?_ _)); refine blk_far ?_ NB144_168.out _; (with_reducible repeat (first | refine blk_drewN ?_ _ | refine blk_drew ?_ | refine blk_alloc ?_ _)); refine blk_far ?_ NB144_168.out _; (with_reducible repeat (first | refine blk_drewN ?_ _ | refine blk_drew ?_ | refine blk_alloc ?_ _)); refine blk_far ?_ NB144_168.out _; (with_reducible repeat (first | refine blk_drewN ?_ _ | refine blk_drew ?_ | refine blk_alloc ?_ _)); exact BK144.out) hb); have n4_ := Aside0.mk (blk_below (g := gb160) (o := .cells #[.slice Ao42 t153.length co42, .bool t156, .int .i64 t157, .string t158] 43 (0, 0)) (by (with_reducible repeat (first | refine blk_drewN ?_ _ | refine blk_drew ?_ | refine blk_alloc ?_ _)); refine blk_far ?_ NB160_168.out _; (with_reducible repeat (first | refine blk_drewN ?_ _ | refine blk_drew ?_ | refine blk_alloc ?_ _)); refine blk_far ?_ NB160_168.out _; (with_reducible repeat (first | refine blk_drewN ?_ _ | refine blk_drew ?_ | refine blk_alloc ?_ _)); refine blk_far ?_ NB160_168.out _; (with_reducible repeat (first | refine blk_drewN ?_ _ | refine blk_drew ?_ | refine blk_alloc ?_ _)); refine blk_far ?_ NB160_168.out _; (with_reducible repeat (first | refine blk_drewN ?_ _ | refine blk_drew ?_ | refine blk_alloc ?_ _)); exact BK160.out) hb); have n5_ := Aside0.mk (blk_below (g := gb168) (o := .cells #[.slice Ao48 t161.length co48, .bool t164, .int .i64 t165, .string t166] 43 (0, 0)) (by (with_reducible repeat (first | refine blk_drewN ?_ _ | refine blk_drew ?_ | refine blk_alloc ?_ _)); refine blk_put (cs := #[.slice Ao48 t161.length co48, .bool t164, .int .i64 t165, .string (⟨#[]⟩ : ByteArray)]) ?_ 3 _ rfl; (with_reducible repeat (first | refine blk_drewN ?_ _ | refine blk_drew ?_ | refine blk_alloc ?_ _)); refine blk_put (cs := #[.slice Ao48 t161.length co48, .bool t164, .int .i64 0, .string (⟨#[]⟩ : ByteArray)]) ?_ 2 _ rfl; (with_reducible repeat (first | refine blk_drewN ?_ _ | refine blk_drew ?_ | refine blk_alloc ?_ _)); refine blk_put (cs := #[.slice Ao48 t161.length co48, .bool false, .int .i64 0, .string (⟨#[]⟩ : ByteArray)]) ?_ 1 _ rfl; (with_reducible repeat (first | refine blk_drewN ?_ _ | refine blk_drew ?_ | refine blk_alloc ?_ _)); refine blk_put (cs := #[.slice none 0 0, .bool false, .int .i64 0, .string (⟨#[]⟩ : ByteArray)]) ?_ 0 _ rfl; (with_reducible repeat (first | refine blk_drewN ?_ _ | refine blk_drew ?_ | refine blk_alloc ?_ _)); exact BK168.out) hb); have n6_ := Aside0.mk (below_step (by repeat (first | (with_reducible first | exact HB.out | apply below_alloc | apply pw_below_drewN | apply below_drew1 | refine below_set ?_ GE140.out | refine below_set ?_ GE144.out | refine below_set ?_ GE160.out | refine below_set ?_ GE168.out) | exact HB.out)) hb); clear HO155; clear HO163; clear BK140; clear BK144; clear BK160; clear BK168; clear HB; have HO155 := n0_; have HO163 := n1_; have BK140 := n2_; have BK144 := n3_; have BK160 := n4_; have BK168 := n5_; have HB := n6_; clear n0_ n1_ n2_ n3_ n4_ n5_ n6_; (try clear hb); (try clear hb2); (try clear hk); (try clear hi)))
          go_meet
          case rel => exact ⟨_, (!t169), (by first | rfl | (simp; done) | (simp [*]; done)), H', ⟨by have := HJ5.out; have := HJ23.out; first | omega | exact Nat.le_refl _⟩, ⟨by (with_reducible repeat (first | apply Kd.R_alloc | apply Kd.R_drewN | apply Kd.R_drew)); exact Kd.R_mono HO155.out (fun _ hk => ⟨hk.2, ⟨hk.1.1.2, hk.1.2⟩⟩)⟩, ⟨by (with_reducible repeat (first | apply Kd.R_alloc | apply Kd.R_drewN | apply Kd.R_drew)); exact Kd.R_mono HO163.out (fun _ hk => ⟨hk.1.1.2, ⟨hk.1.2, hk.2⟩⟩)⟩, ⟨by (with_reducible repeat (first | refine blk_drewN ?_ _ | refine blk_drew ?_ | refine blk_alloc ?_ _)); exact BK140.out⟩, ⟨by (with_reducible repeat (first | refine blk_drewN ?_ _ | refine blk_drew ?_ | refine blk_alloc ?_ _)); exact BK144.out⟩, ⟨by (with_reducible repeat (first | refine blk_drewN ?_ _ | refine blk_drew ?_ | refine blk_alloc ?_ _)); exact BK160.out⟩, ⟨by (with_reducible repeat (first | refine blk_drewN ?_ _ | refine blk_drew ?_ | refine blk_alloc ?_ _)); exact BK168.out⟩, ⟨by repeat (first | (with_reducible first | exact HB.out | apply below_alloc | apply pw_below_drewN | apply below_drew1 | refine below_set ?_ GE140.out | refine below_set ?_ GE144.out | refine below_set ?_ GE160.out | refine below_set ?_ GE168.out) | exact HB.out)⟩⟩
         ·
          rw [if_neg c53] at H
          have c53b0 : (t159 == t167) = false := beq_eq_false_iff_ne.mpr c53
          have c53b1 : (t159 != t167) = true := bne_iff_ne.mpr c53
          (first | rw [c53b0] | (simp only [i64_w, i32_w]; rw [c53b0]) | skip)
          have H' := Aside0.mk H
          clear H
          go_wp2
          go_meet
          case rel => exact ⟨_, (true), (by first | rfl | (simp; done) | (simp [*]; done)), H', ⟨by have := HJ5.out; have := HJ23.out; first | omega | exact Nat.le_refl _⟩, ⟨by (with_reducible repeat (first | apply Kd.R_alloc | apply Kd.R_drewN | apply Kd.R_drew)); exact Kd.R_mono (Kd.R_far (p := ⟨gb168, 3, none⟩) (Kd.R_far (p := ⟨gb168, 2, none⟩) (Kd.R_far (p := ⟨gb168, 1, none⟩) (Kd.R_far (p := ⟨gb168, 0, none⟩) (Kd.R_types HO155.out BK168.out (by decide)) (fun _ hk => hk.2) (.slice Ao48 t161.length co48)) (fun _ hk => hk.2) (.bool t164)) (fun _ hk => hk.2) (.int .i64 t165)) (fun _ hk => hk.2) (.string t166)) (fun _ hk => ⟨hk.1.2, ⟨hk.1.1.1.2, hk.1.1.2⟩⟩)⟩, ⟨by (with_reducible repeat (first | apply Kd.R_alloc | apply Kd.R_drewN | apply Kd.R_drew)); exact Kd.R_mono (Kd.R_far (p := ⟨gb168, 3, none⟩) (Kd.R_far (p := ⟨gb168, 2, none⟩) (Kd.R_far (p := ⟨gb168, 1, none⟩) (Kd.R_far (p := ⟨gb168, 0, none⟩) (Kd.R_types HO163.out BK168.out (by decide)) (fun _ hk => hk.2) (.slice Ao48 t161.length co48)) (fun _ hk => hk.2) (.bool t164)) (fun _ hk => hk.2) (.int .i64 t165)) (fun _ hk => hk.2) (.string t166)) (fun _ hk => ⟨hk.1.1.1.2, ⟨hk.1.1.2, hk.1.2⟩⟩)⟩, ⟨by (with_reducible repeat (first | refine blk_drewN ?_ _ | refine blk_drew ?_ | refine blk_alloc ?_ _)); refine blk_far ?_ NB140_168.out _; (with_reducible repeat (first | refine blk_drewN ?_ _ | refine blk_drew ?_ | refine blk_alloc ?_ _)); refine blk_far ?_ NB140_168.out _; (with_reducible repeat (first | refine blk_drewN ?_ _ | refine blk_drew ?_ | refine blk_alloc ?_ _)); refine blk_far ?_ NB140_168.out _; (with_reducible repeat (first | refine blk_drewN ?_ _ | refine blk_drew ?_ | refine blk_alloc ?_ _)); refine blk_far ?_ NB140_168.out _; (with_reducible repeat (first | refine blk_drewN ?_ _ | refine blk_drew ?_ | refine blk_alloc ?_ _)); exact BK140.out⟩, ⟨by (with_reducible repeat (first | refine blk_drewN ?_ _ | refine blk_drew ?_ | refine blk_alloc ?_ _)); refine blk_far ?_ NB144_168.out _; (with_reducible repeat (first | refine blk_drewN ?_ _ | refine blk_drew ?_ | refine blk_alloc ?_ _)); refine blk_far ?_ NB144_168.out _; (with_reducible repeat (first | refine blk_drewN ?_ _ | refine blk_drew ?_ | refine blk_alloc ?_ _)); refine blk_far ?_ NB144_168.out _; (with_reducible repeat (first | refine blk_drewN ?_ _ | refine blk_drew ?_ | refine blk_alloc ?_ _)); refine blk_far ?_ NB144_168.out _; (with_reducible repeat (first | refine blk_drewN ?_ _ | refine blk_drew ?_ | refine blk_alloc ?_ _)); exact BK144.out⟩, ⟨by (with_reducible repeat (first | refine blk_drewN ?_ _ | refine blk_drew ?_ | refine blk_alloc ?_ _)); refine blk_far ?_ NB160_168.out _; (with_reducible repeat (first | refine blk_drewN ?_ _ | refine blk_drew ?_ | refine blk_alloc ?_ _)); refine blk_far ?_ NB160_168.out _; (with_reducible repeat (first | refine blk_drewN ?_ _ | refine blk_drew ?_ | refine blk_alloc ?_ _)); refine blk_far ?_ NB160_168.out _; (with_reducible repeat (first | refine blk_drewN ?_ _ | refine blk_drew ?_ | refine blk_alloc ?_ _)); refine blk_far ?_ NB160_168.out _; (with_reducible repeat (first | refine blk_drewN ?_ _ | refine blk_drew ?_ | refine blk_alloc ?_ _)); exact BK160.out⟩, ⟨by (with_reducible repeat (first | refine blk_drewN ?_ _ | refine blk_drew ?_ | refine blk_alloc ?_ _)); refine blk_put (cs := #[.slice Ao48 t161.length co48, .bool t164, .int .i64 t165, .string (⟨#[]⟩ : ByteArray)]) ?_ 3 _ rfl; (with_reducible repeat (first | refine blk_drewN ?_ _ | refine blk_drew ?_ | refine blk_alloc ?_ _)); refine blk_put (cs := #[.slice Ao48 t161.length co48, .bool t164, .int .i64 0, .string (⟨#[]⟩ : ByteArray)]) ?_ 2 _ rfl; (with_reducible repeat (first | refine blk_drewN ?_ _ | refine blk_drew ?_ | refine blk_alloc ?_ _)); refine blk_put (cs := #[.slice Ao48 t161.length co48, .bool false, .int .i64 0, .string (⟨#[]⟩ : ByteArray)]) ?_ 1 _ rfl; (with_reducible repeat (first | refine blk_drewN ?_ _ | refine blk_drew ?_ | refine blk_alloc ?_ _)); refine blk_put (cs := #[.slice none 0 0, .bool false, .int .i64 0, .string (⟨#[]⟩ : ByteArray)]) ?_ 0 _ rfl; (with_reducible repeat (first | refine blk_drewN ?_ _ | refine blk_drew ?_ | refine blk_alloc ?_ _)); exact BK168.out⟩, ⟨by repeat (first | (with_reducible first | exact HB.out | apply below_alloc | apply pw_below_drewN | apply below_drew1 | refine below_set ?_ GE140.out | refine below_set ?_ GE144.out | refine below_set ?_ GE160.out | refine below_set ?_ GE168.out) | exact HB.out)⟩⟩
        case rest =>
         clear HC39
         try clear c1
         try clear c2
         try clear p2
         try clear c3
         try clear c4
         try clear c5
         try clear c6
         try clear c7
         try clear c13
         try clear c15
         try clear c15b0
         try clear c15b1
         try clear c17
         try clear c21
         try clear c25
         try clear c26
         try clear c27
         try clear c29
         try clear c30
         try clear c30b0
         try clear c30b1
         try clear c31
         try clear c32
         try clear c36
         try clear c43
         try clear c44
         try clear c49
         try clear c50
         try clear c51
         try clear c53
         try clear c53b0
         try clear c53b1
         try clear c55
         try clear c56
         try clear c57
         try clear c59
         try clear c60
         try clear hcz10_0
         try clear hcz10_1
         try clear hcz14_0
         try clear hcz14_1
         try clear hcz18_0
         try clear hcz18_1
         try clear hcz19_0
         try clear hcz19_1
         try clear hcz27_0
         try clear hcz27_1
         try clear hcz29_0
         try clear hcz29_1
         try clear hcz33_0
         try clear hcz33_1
         try clear hcz34_0
         try clear hcz34_1
         try clear hcz45_0
         try clear hcz45_1
         try clear hcz45_2
         try clear hcz45_3
         try clear hcz52_0
         try clear hcz52_1
         try clear hcz52_2
         try clear hcz52_3
         try clear hcz58_0
         try clear hcz58_1
         try clear hcz58_2
         try clear hcz58_3
         try clear hcz61_0
         try clear hcz61_1
         try clear hcz61_2
         try clear hcz61_3
         try clear hfz10_0
         try clear hfz10_1
         try clear hfz14_0
         try clear hfz14_1
         try clear hfz18_0
         try clear hfz18_1
         try clear hfz19_0
         try clear hfz19_1
         try clear hfz27_0
         try clear hfz27_1
         try clear hfz29_0
         try clear hfz29_1
         try clear hfz33_0
         try clear hfz33_1
         try clear hfz34_0
         try clear hfz34_1
         try clear hfz45_0
         try clear hfz45_1
         try clear hfz45_2
         try clear hfz45_3
         try clear hfz52_0
         try clear hfz52_1
         try clear hfz52_2
         try clear hfz52_3
         try clear hfz58_0
         try clear hfz58_1
         try clear hfz58_2
         try clear hfz58_3
         try clear hfz61_0
         try clear hfz61_1
         try clear hfz61_2
         try clear hfz61_3
         try clear p2
         obtain ⟨kq, x69_38, rfl, HA, HJ38, HO_161000, HO_169000, BK140, BK144, BK160, BK168, HB⟩ := hcut
         cases kq with
         | zero => exact absurd HA.out (by simp [arbiterlaw02_TypesParse.j2])
         | succ kj38 =>
          have H := HA.out
          clear HA
          simp only [arbiterlaw02_TypesParse.j2] at H
          by_cases c63 : x69_38 = true
          ·
           subst c63
           have H1 : (some false) = some r := by rw [if_pos rfl] at H; exact H
           clear H
           have H := H1
           clear H1
           obtain rfl := Option.some.inj H
           go_wp2
           go_ret
           exact ⟨by first | rfl | (simp [errW_none, errW_some] <;> rfl) | (simp [*, errW_none, errW_some] <;> rfl), by repeat (first | (with_reducible first | exact HB.out | apply below_alloc | apply pw_below_drewN | apply below_drew1 | refine below_set ?_ GE140.out | refine below_set ?_ GE144.out | refine below_set ?_ GE160.out | refine below_set ?_ GE168.out) | exact HB.out)⟩
          ·
           replace c63 := Bool.eq_false_iff.mpr c63
           subst c63
           have H1 : ((types_Args.f a0).bind fun bt170 => ((arbiterref02_Args.f kj38 a0).bind fun bt172 => (if bt170.1 = bt172.1 then (some (bt170.2 == bt172.2)) else (some false)))) = some r := by rw [if_neg (show ¬ (false = true) by decide)] at H; exact H
           clear H
           have H := H1
           clear H1
           replace H := Option.bind_eq_some_iff.mp H
           obtain ⟨⟨t170, t171⟩, A640, H⟩ := H
           replace H : ((arbiterref02_Args.f kj38 a0).bind fun bt172 => (if t170 = bt172.1 then (some (t171 == bt172.2)) else (some false))) = some r := H
           have A64 := Aside0.mk A640
           clear A640
           replace H := Option.bind_eq_some_iff.mp H
           obtain ⟨⟨t172, t173⟩, A650, H⟩ := H
           replace H : (if t170 = t172 then (some (t171 == t173)) else (some false)) = some r := H
           have A65 := Aside0.mk A650
           clear A650
           by_cases c66 : t170 = t172
           ·
            rw [if_pos c66] at H
            have c66b0 : (t170 == t172) = true := beq_iff_eq.mpr c66
            have c66b1 : (t170 != t172) = false := bne_eq_false_iff_eq.mpr c66
            clear c66
            obtain rfl := Option.some.inj H
            go_wp2_with (first | ((with_reducible refine gate_callee (f := 34) rfl ?_); refine goesL_ (some 72) rfl rfl Tryd.func34 (by kernel_rfl) rfl #[.string a0] rfl (by (try simp only [List.map_toArray, List.map_cons, List.map_nil]); first | done | rfl | (simp only [List.length_drop, List.length_take]; rfl)) ?_; (with_reducible refine (types_Args.calls a0 t170 t171 _ A64.out).mono ?_); rintro e w67 ⟨rfl, hb⟩; refine ⟨_, rfl, ?_⟩; have n0_ := Aside0.mk (Kd.R_below (by (with_reducible repeat (first | apply Kd.R_alloc | apply Kd.R_drewN | apply Kd.R_drew)); exact HO_161000.out) hb); have n1_ := Aside0.mk (Kd.R_below (by (with_reducible repeat (first | apply Kd.R_alloc | apply Kd.R_drewN | apply Kd.R_drew)); exact HO_169000.out) hb); have n2_ := Aside0.mk (blk_below (g := gb140) (o := .cells #[.int .i64 t146, .string t147] 37 (0, 0)) (by (with_reducible repeat (first | refine blk_drewN ?_ _ | refine blk_drew ?_ | refine blk_alloc ?_ _)); exact BK140.out) hb); have n3_ := Aside0.mk (blk_below (g := gb144) (o := .cells #[.int .i64 t149, .string t150] 37 (0, 0)) (by (with_reducible repeat (first | refine blk_drewN ?_ _ | refine blk_drew ?_ | refine blk_alloc ?_ _)); exact BK144.out) hb); have n4_ := Aside0.mk (blk_below (g := gb160) (o := .cells #[.slice Ao42 t153.length co42, .bool t156, .int .i64 t157, .string t158] 43 (0, 0)) (by (with_reducible repeat (first | refine blk_drewN ?_ _ | refine blk_drew ?_ | refine blk_alloc ?_ _)); exact BK160.out) hb); have n5_ := Aside0.mk (blk_below (g := gb168) (o := .cells #[.slice Ao48 t161.length co48, .bool t164, .int .i64 t165, .string t166] 43 (0, 0)) (by (with_reducible repeat (first | refine blk_drewN ?_ _ | refine blk_drew ?_ | refine blk_alloc ?_ _)); exact BK168.out) hb); have n6_ := Aside0.mk (below_step (by repeat (first | (with_reducible first | exact HB.out | apply below_alloc | apply pw_below_drewN | apply below_drew1 | refine below_set ?_ GE140.out | refine below_set ?_ GE144.out | refine below_set ?_ GE160.out | refine below_set ?_ GE168.out) | exact HB.out)) hb); clear HO_161000; clear HO_169000; clear BK140; clear BK144; clear BK160; clear BK168; clear HB; have HO_161000 := n0_; have HO_169000 := n1_; have BK140 := n2_; have BK144 := n3_; have BK160 := n4_; have BK168 := n5_; have HB := n6_; clear n0_ n1_ n2_ n3_ n4_ n5_ n6_; (try clear hb); (try clear hb2); (try clear hk); (try clear hi)) | ((with_reducible refine gate_callee (f := 35) rfl ?_); refine goesL_ (some 77) rfl rfl Tryd.func35 (by kernel_rfl) rfl #[.string a0] rfl (by (try simp only [List.map_toArray, List.map_cons, List.map_nil]); first | done | rfl | (simp only [List.length_drop, List.length_take]; rfl)) ?_; (with_reducible refine (arbiterref02_Args.calls kj38 a0 t172 t173 _ A65.out).mono ?_); rintro e w68 ⟨rfl, hb⟩; refine ⟨_, rfl, ?_⟩; have n0_ := Aside0.mk (Kd.R_below (by (with_reducible repeat (first | apply Kd.R_alloc | apply Kd.R_drewN | apply Kd.R_drew)); exact HO_161000.out) hb); have n1_ := Aside0.mk (Kd.R_below (by (with_reducible repeat (first | apply Kd.R_alloc | apply Kd.R_drewN | apply Kd.R_drew)); exact HO_169000.out) hb); have n2_ := Aside0.mk (blk_below (g := gb140) (o := .cells #[.int .i64 t146, .string t147] 37 (0, 0)) (by (with_reducible repeat (first | refine blk_drewN ?_ _ | refine blk_drew ?_ | refine blk_alloc ?_ _)); exact BK140.out) hb); have n3_ := Aside0.mk (blk_below (g := gb144) (o := .cells #[.int .i64 t149, .string t150] 37 (0, 0)) (by (with_reducible repeat (first | refine blk_drewN ?_ _ | refine blk_drew ?_ | refine blk_alloc ?_ _)); exact BK144.out) hb); have n4_ := Aside0.mk (blk_below (g := gb160) (o := .cells #[.slice Ao42 t153.length co42, .bool t156, .int .i64 t157, .string t158] 43 (0, 0)) (by (with_reducible repeat (first | refine blk_drewN ?_ _ | refine blk_drew ?_ | refine blk_alloc ?_ _)); exact BK160.out) hb); have n5_ := Aside0.mk (blk_below (g := gb168) (o := .cells #[.slice Ao48 t161.length co48, .bool t164, .int .i64 t165, .string t166] 43 (0, 0)) (by (with_reducible repeat (first | refine blk_drewN ?_ _ | refine blk_drew ?_ | refine blk_alloc ?_ _)); exact BK168.out) hb); have n6_ := Aside0.mk (below_step (by repeat (first | (with_reducible first | exact HB.out | apply below_alloc | apply pw_below_drewN | apply below_drew1 | refine below_set ?_ GE140.out | refine below_set ?_ GE144.out | refine below_set ?_ GE160.out | refine below_set ?_ GE168.out) | exact HB.out)) hb); clear HO_161000; clear HO_169000; clear BK140; clear BK144; clear BK160; clear BK168; clear HB; have HO_161000 := n0_; have HO_169000 := n1_; have BK140 := n2_; have BK144 := n3_; have BK160 := n4_; have BK168 := n5_; have HB := n6_; clear n0_ n1_ n2_ n3_ n4_ n5_ n6_; (try clear hb); (try clear hb2); (try clear hk); (try clear hi)))
            go_ret
            exact ⟨by first | rfl | (simp [errW_none, errW_some] <;> rfl) | (simp [*, errW_none, errW_some] <;> rfl), by repeat (first | (with_reducible first | exact HB.out | apply below_alloc | apply pw_below_drewN | apply below_drew1 | refine below_set ?_ GE140.out | refine below_set ?_ GE144.out | refine below_set ?_ GE160.out | refine below_set ?_ GE168.out) | exact HB.out)⟩
           ·
            rw [if_neg c66] at H
            have c66b0 : (t170 == t172) = false := beq_eq_false_iff_ne.mpr c66
            have c66b1 : (t170 != t172) = true := bne_iff_ne.mpr c66
            obtain rfl := Option.some.inj H
            go_wp2_with (first | ((with_reducible refine gate_callee (f := 34) rfl ?_); refine goesL_ (some 72) rfl rfl Tryd.func34 (by kernel_rfl) rfl #[.string a0] rfl (by (try simp only [List.map_toArray, List.map_cons, List.map_nil]); first | done | rfl | (simp only [List.length_drop, List.length_take]; rfl)) ?_; (with_reducible refine (types_Args.calls a0 t170 t171 _ A64.out).mono ?_); rintro e w69 ⟨rfl, hb⟩; refine ⟨_, rfl, ?_⟩; have n0_ := Aside0.mk (Kd.R_below (by (with_reducible repeat (first | apply Kd.R_alloc | apply Kd.R_drewN | apply Kd.R_drew)); exact HO_161000.out) hb); have n1_ := Aside0.mk (Kd.R_below (by (with_reducible repeat (first | apply Kd.R_alloc | apply Kd.R_drewN | apply Kd.R_drew)); exact HO_169000.out) hb); have n2_ := Aside0.mk (blk_below (g := gb140) (o := .cells #[.int .i64 t146, .string t147] 37 (0, 0)) (by (with_reducible repeat (first | refine blk_drewN ?_ _ | refine blk_drew ?_ | refine blk_alloc ?_ _)); exact BK140.out) hb); have n3_ := Aside0.mk (blk_below (g := gb144) (o := .cells #[.int .i64 t149, .string t150] 37 (0, 0)) (by (with_reducible repeat (first | refine blk_drewN ?_ _ | refine blk_drew ?_ | refine blk_alloc ?_ _)); exact BK144.out) hb); have n4_ := Aside0.mk (blk_below (g := gb160) (o := .cells #[.slice Ao42 t153.length co42, .bool t156, .int .i64 t157, .string t158] 43 (0, 0)) (by (with_reducible repeat (first | refine blk_drewN ?_ _ | refine blk_drew ?_ | refine blk_alloc ?_ _)); exact BK160.out) hb); have n5_ := Aside0.mk (blk_below (g := gb168) (o := .cells #[.slice Ao48 t161.length co48, .bool t164, .int .i64 t165, .string t166] 43 (0, 0)) (by (with_reducible repeat (first | refine blk_drewN ?_ _ | refine blk_drew ?_ | refine blk_alloc ?_ _)); exact BK168.out) hb); have n6_ := Aside0.mk (below_step (by repeat (first | (with_reducible first | exact HB.out | apply below_alloc | apply pw_below_drewN | apply below_drew1 | refine below_set ?_ GE140.out | refine below_set ?_ GE144.out | refine below_set ?_ GE160.out | refine below_set ?_ GE168.out) | exact HB.out)) hb); clear HO_161000; clear HO_169000; clear BK140; clear BK144; clear BK160; clear BK168; clear HB; have HO_161000 := n0_; have HO_169000 := n1_; have BK140 := n2_; have BK144 := n3_; have BK160 := n4_; have BK168 := n5_; have HB := n6_; clear n0_ n1_ n2_ n3_ n4_ n5_ n6_; (try clear hb); (try clear hb2); (try clear hk); (try clear hi)) | ((with_reducible refine gate_callee (f := 35) rfl ?_); refine goesL_ (some 77) rfl rfl Tryd.func35 (by kernel_rfl) rfl #[.string a0] rfl (by (try simp only [List.map_toArray, List.map_cons, List.map_nil]); first | done | rfl | (simp only [List.length_drop, List.length_take]; rfl)) ?_; (with_reducible refine (arbiterref02_Args.calls kj38 a0 t172 t173 _ A65.out).mono ?_); rintro e w70 ⟨rfl, hb⟩; refine ⟨_, rfl, ?_⟩; have n0_ := Aside0.mk (Kd.R_below (by (with_reducible repeat (first | apply Kd.R_alloc | apply Kd.R_drewN | apply Kd.R_drew)); exact HO_161000.out) hb); have n1_ := Aside0.mk (Kd.R_below (by (with_reducible repeat (first | apply Kd.R_alloc | apply Kd.R_drewN | apply Kd.R_drew)); exact HO_169000.out) hb); have n2_ := Aside0.mk (blk_below (g := gb140) (o := .cells #[.int .i64 t146, .string t147] 37 (0, 0)) (by (with_reducible repeat (first | refine blk_drewN ?_ _ | refine blk_drew ?_ | refine blk_alloc ?_ _)); exact BK140.out) hb); have n3_ := Aside0.mk (blk_below (g := gb144) (o := .cells #[.int .i64 t149, .string t150] 37 (0, 0)) (by (with_reducible repeat (first | refine blk_drewN ?_ _ | refine blk_drew ?_ | refine blk_alloc ?_ _)); exact BK144.out) hb); have n4_ := Aside0.mk (blk_below (g := gb160) (o := .cells #[.slice Ao42 t153.length co42, .bool t156, .int .i64 t157, .string t158] 43 (0, 0)) (by (with_reducible repeat (first | refine blk_drewN ?_ _ | refine blk_drew ?_ | refine blk_alloc ?_ _)); exact BK160.out) hb); have n5_ := Aside0.mk (blk_below (g := gb168) (o := .cells #[.slice Ao48 t161.length co48, .bool t164, .int .i64 t165, .string t166] 43 (0, 0)) (by (with_reducible repeat (first | refine blk_drewN ?_ _ | refine blk_drew ?_ | refine blk_alloc ?_ _)); exact BK168.out) hb); have n6_ := Aside0.mk (below_step (by repeat (first | (with_reducible first | exact HB.out | apply below_alloc | apply pw_below_drewN | apply below_drew1 | refine below_set ?_ GE140.out | refine below_set ?_ GE144.out | refine below_set ?_ GE160.out | refine below_set ?_ GE168.out) | exact HB.out)) hb); clear HO_161000; clear HO_169000; clear BK140; clear BK144; clear BK160; clear BK168; clear HB; have HO_161000 := n0_; have HO_169000 := n1_; have BK140 := n2_; have BK144 := n3_; have BK160 := n4_; have BK168 := n5_; have HB := n6_; clear n0_ n1_ n2_ n3_ n4_ n5_ n6_; (try clear hb); (try clear hb2); (try clear hk); (try clear hi)))
            go_ret
            exact ⟨by first | rfl | (simp [errW_none, errW_some] <;> rfl) | (simp [*, errW_none, errW_some] <;> rfl), by repeat (first | (with_reducible first | exact HB.out | apply below_alloc | apply pw_below_drewN | apply below_drew1 | refine below_set ?_ GE140.out | refine below_set ?_ GE144.out | refine below_set ?_ GE160.out | refine below_set ?_ GE168.out) | exact HB.out)⟩
 ·
  replace c3 := Bool.eq_false_iff.mpr c3
  subst c3
  have H1 : (some false) = some r := by rw [if_neg (show ¬ (false = true) by decide)] at H; exact H
  clear H
  have H := H1
  clear H1
  obtain rfl := Option.some.inj H
  go_enter Tryd.func7, Tryd.ntmps7
  go_wp2_with (first | ((with_reducible refine gate_callee (f := 25) rfl ?_); refine goesL_ (some 11) rfl rfl Tryd.func25 (by kernel_rfl) rfl #[] rfl (by (try simp only [List.map_toArray, List.map_cons, List.map_nil]); first | done | rfl | (simp only [List.length_drop, List.length_take]; rfl)) ?_; (with_reducible refine (arbiterlaw02_awake.calls  false _ A2.out).mono ?_); rintro e w71 ⟨rfl, hb⟩; refine ⟨_, rfl, ?_⟩; have n0_ := Aside0.mk (below_step (by repeat (first | (with_reducible first | exact HB.out | apply below_alloc | apply pw_below_drewN | apply below_drew1) | exact HB.out)) hb); clear HB; have HB := n0_; clear n0_; (try clear hb); (try clear hb2); (try clear hk); (try clear hi)))
  go_ret
  exact ⟨by first | rfl | (simp [errW_none, errW_some] <;> rfl) | (simp [*, errW_none, errW_some] <;> rfl), by repeat (first | (with_reducible first | exact HB.out | apply below_alloc | apply pw_below_drewN | apply below_drew1) | exact HB.out)⟩

end Go.Proofs.YtpcdfjifhoofjaaDoor.Pt

/- Small plain lemmas that several texts on types use. -/
namespace Go.Proofs.YtpcdfjifhoofjaaDoor.Pt
open Go Go.RowKit Go.Proofs.YtpcdfjifhoofjaaDoor.Nm Go.Proofs.YtpcdfjifhoofjaaDoor.Ty
theorem took_cons (x : UInt8) (l : List UInt8) (c : UInt8) : took (x :: l) c = decide (x = c) := by
  unfold took
  by_cases h : x = c <;> simp [h]
end Go.Proofs.YtpcdfjifhoofjaaDoor.Pt

/- Plain lemmas on types as they are read: what is behind a type lies at the end of the text. -/
namespace Go.Proofs.YtpcdfjifhoofjaaDoor.Pt
open Go Go.RowKit Go.Proofs.YtpcdfjifhoofjaaDoor.Nm Go.Proofs.YtpcdfjifhoofjaaDoor.Ty
set_option linter.unusedVariables false
set_option linter.unusedSimpArgs false

theorem past_suf (l : List UInt8) : ∃ p, l = p ++ past l := by
  induction l with
  | nil => exact ⟨[], rfl⟩
  | cons x l ih =>
    rw [past]
    split
    · obtain ⟨p, hp⟩ := ih; exact ⟨x :: p, by rw [List.cons_append, ← hp]⟩
    · exact ⟨[], rfl⟩
theorem behind_suf (l r : List UInt8) (h : behind l = some r) : ∃ p, l = p ++ r := by
  induction l with
  | nil => cases h
  | cons x l ih =>
    rw [behind] at h
    split at h
    · cases h; exact ⟨[x], rfl⟩
    · obtain ⟨p, hp⟩ := ih h; exact ⟨x :: p, by rw [List.cons_append, ← hp]⟩
theorem rd_suf (l r : List UInt8) (h : (rd l).rest = some r) : ∃ p, l = p ++ r := by
  obtain ⟨p, hp⟩ := past_suf l
  rw [rd] at h
  split at h
  · cases h
  · rename_i x q hq
    rw [hq] at hp
    split at h
    · cases h; exact ⟨p ++ [x], by rw [List.append_assoc]; exact hp⟩
    · split at h
      · simp only at h
        split at h
        · obtain ⟨p2, hp2⟩ := behind_suf _ _ h
          exact ⟨p ++ x :: p2, by rw [List.append_assoc, List.cons_append, ← hp2]; exact hp⟩
        · cases h
      · cases h
theorem rdNm_name (l r : List UInt8) (h : (rd l).rest = some r) : rdNm l = (rd l).name := by
  rw [rd] at h ⊢
  rw [rdNm]
  split at h
  · cases h
  · rename_i x q hq
    rw [hq]
    simp only
    split at h
    · rename_i h73; rw [if_pos h73, if_neg (by rw [h73]; decide)]
    · rename_i h73
      rw [if_neg h73]
      split at h
      · rename_i h76
        rw [if_pos h76, if_pos h76]
        simp only at h
        split at h
        · rw [h]
        · cases h
      · cases h
theorem rd_dims (l : List UInt8) : (rd l).dims = opens l := by
  rw [rd]
  split
  · rfl
  · split
    · rfl
    · split <;> rfl
/-- Behind a type: the place, and what lies there. -/
theorem place_drop (L : List UInt8) (n : Nat) (hn : n ≤ L.length) (r : List UInt8) (h : (rd (L.drop n)).rest = some r) :
    ∃ m : Nat, place L r = m ∧ n < m ∧ m ≤ L.length ∧ L.drop m = r := by
  obtain ⟨p, hp⟩ := rd_suf _ _ h
  have hl := rd_len _ _ h
  have hd : (L.drop n).length = L.length - n := List.length_drop
  refine ⟨L.length - r.length, by unfold place; omega, by omega, by omega, ?_⟩
  have e : L = L.take n ++ p ++ r := by rw [List.append_assoc, ← hp, List.take_append_drop]
  have h3 : (L.take n ++ p).length = L.length - r.length := by
    have := congrArg List.length e
    rw [List.length_append] at this
    omega
  rw [← h3]
  have e2 : List.drop (L.take n ++ p).length ((L.take n ++ p) ++ r) = r := List.drop_left
  rwa [← e] at e2
end Go.Proofs.YtpcdfjifhoofjaaDoor.Pt

/- The reference's ParseDesc, as it is printed, is parseD. -/
namespace Go.Proofs.YtpcdfjifhoofjaaDoor.Pt
open Go Go.RowKit Go.Proofs.YtpcdfjifhoofjaaDoor.Nm Go.Proofs.YtpcdfjifhoofjaaDoor.Ty Go.Proofs.YtpcdfjifhoofjaaDoorW.PrintWords
set_option linter.unusedVariables false
set_option linter.unusedSimpArgs false

theorem wrap_small' {i : Int} (h0 : -9223372036854775808 ≤ i) (h : i ≤ 9223372036854775807) : wrap64 i = i := by
  unfold wrap64
  omega
theorem bs_at (L : List UInt8) (n : Nat) (h : n < L.length) : ∃ x, L.drop n = x :: L.drop (n + 1) ∧ Go.Proofs.YtpcdfjifhoofjaaDoorW.PrintWords.bt (bs L) (n : Int) = (x.toNat : Int) := by
  obtain ⟨x, hx, hb⟩ := drop_at L n h
  refine ⟨x, hx, ?_⟩
  have h' : n < (bs L).size := by rw [mk_size]; exact h
  have e := Go.Proofs.YtpcdfjifhoofjaaDoor.Nm.bt_at (bs L) n h'
  unfold Go.Proofs.YtpcdfjifhoofjaaDoorW.PrintWords.bt
  simp only [Int.toNat_natCast]
  rw [dif_pos h', e]
  exact hb
theorem u8_iff (x : UInt8) (n : Nat) (hn : n < 256) : ((x.toNat : Int) = n) ↔ x = UInt8.ofNat n := by
  constructor
  · exact u8_ne hn
  · rintro rfl
    simp
    omega
theorem j4_ok (L : List UInt8) (k : Nat) (wide : Bool) (p : Int) (ts : List (Nat × List UInt8)) (vo : Bool) (d : Int) (nm : ByteArray) (r : List UInt8) (hp : p = (L.length : Int) ↔ r = []) :
    arbiterref02_ParseDesc.j4 (k + 1) (bs L) wide p (ts.map toS) vo d nm = some (tup5 (descEnd ⟨ts, vo, d, nm.data.toList⟩ wide r)) := by
  simp only [arbiterref02_ParseDesc.j4]
  rw [mk_size]
  by_cases hr : r = []
  · rw [if_pos (hp.2 hr)]
    have e : descEnd ⟨ts, vo, d, nm.data.toList⟩ wide r = if wide || decide (20 < ts.length) then (.zero, 5) else (⟨ts, vo, d, nm.data.toList⟩, 0) := by
      unfold descEnd
      rw [if_neg (fun h => h hr)]
    rw [e, List.length_map]
    cases wide
    · rw [if_neg (show ¬ false = true by decide), Bool.false_or]
      by_cases h20 : 20 < ts.length
      · rw [if_pos (show (ts.length : Int) > 20 by omega), if_pos (show decide (20 < ts.length) = true from decide_eq_true h20)]; rfl
      · rw [if_neg (show ¬ (ts.length : Int) > 20 by omega), if_neg (show ¬ decide (20 < ts.length) = true by simp [h20])]
        simp only [tup5, mk_data]
    · rw [if_pos rfl, Bool.true_or, if_pos rfl]; rfl
  · have e : descEnd ⟨ts, vo, d, nm.data.toList⟩ wide r = (.zero, 4) := by
      unfold descEnd
      rw [if_pos hr]
    rw [if_neg (fun h => hr (hp.1 h)), e]; rfl
theorem read_f (L : List UInt8) (hL : L.length ≤ 2000) (n : Nat) (hn : n ≤ L.length) : arbiterref02_read.f (bs L) n = some (tup3 (readF L n)) := by
  unfold arbiterref02_read.f
  rw [mk_size, Int.toNat_natCast, mk_toList, if_pos ⟨by omega, hn, by omega⟩]
theorem j3_ok (L : List UInt8) (hL : L.length ≤ 2000) (k n : Nat) (hn : n ≤ L.length) (ts : List (Nat × List UInt8)) :
    arbiterref02_ParseDesc.j3 (k + 2) (bs L) (wideL ts) n (took (L.drop n) 86) (ts.map toS) false 0 ⟨#[]⟩ = some (tup5 (descRet ts (L.drop n))) := by
  rw [show k + 2 = (k + 1) + 1 from rfl]
  simp only [arbiterref02_ParseDesc.j3]
  unfold descRet
  cases h86 : took (L.drop n) 86
  · rw [if_neg (by decide), if_neg (by decide), read_f L hL n hn, Option.bind_some]
    cases hr : (rd (L.drop n)).rest with
    | none =>
      have hp : (readF L n).2.2 = -1 := by unfold readF; rw [hr]
      simp only [tup3, hp]
      have E : ∀ (wd : Bool) (d : Int) (nm : ByteArray), arbiterref02_ParseDesc.j4 (k + 1) (bs L) wd (-1) (ts.map toS) false d nm = some (tup5 (.zero, 4)) := by
        intro wd d nm
        rw [j4_ok L k wd (-1) ts false d nm [0] (by constructor <;> intro h <;> first | omega | cases h)]
        rfl
      split <;> exact E _ _ _
    | some r =>
      obtain ⟨m, hm, h1, h2, h3⟩ := place_drop L n hn r hr
      have hp : (readF L n).2.2 = m := by unfold readF; rw [hr]; exact hm
      have hn2 : (readF L n).2.1 = (rd (L.drop n)).name := by unfold readF; exact rdNm_name _ _ hr
      have hn1 : (readF L n).1 = (rd (L.drop n)).dims := by unfold readF; rw [rd_dims]
      simp only [tup3, hp, hn1, hn2]
      have hrr : ((m : Int) = (L.length : Int)) ↔ r = [] := by
        rw [← h3, List.drop_eq_nil_iff]
        omega
      have E : ∀ wd : Bool, arbiterref02_ParseDesc.j4 (k + 1) (bs L) wd m (ts.map toS) false (rd (L.drop n)).dims (bs (rd (L.drop n)).name) = some (tup5 (descEnd ⟨ts, false, (rd (L.drop n)).dims, (rd (L.drop n)).name⟩ wd r)) := by
        intro wd
        rw [j4_ok L k wd m ts false _ _ r hrr, mk_toList]
      rw [E, E]
      cases wideL ts
      · rw [if_neg (by decide)]
        simp only [Bool.false_or]
        rw [show decide (((rd (L.drop n)).dims : Int) > 255) = decide (255 < (rd (L.drop n)).dims) from by by_cases h : 255 < (rd (L.drop n)).dims <;> simp [h] <;> omega]
      · rw [if_pos rfl, Bool.true_or]
  · rw [if_pos rfl, if_pos rfl]
    have hne : L.drop n ≠ [] := by intro h; rw [h] at h86; cases h86
    have hlt : n < L.length := by
      rw [ne_eq, List.drop_eq_nil_iff] at hne
      omega
    rw [wrap_small' (by omega) (by omega)]
    refine j4_ok L k (wideL ts) _ ts true 0 ⟨#[]⟩ _ ?_
    rw [List.tail_drop, List.drop_eq_nil_iff]
    omega
theorem l0_ok (L : List UInt8) (hL : L.length ≤ 2000) (m : Nat) : ∀ (n : Nat) (ts : List (Nat × List UInt8)) (k : Nat), n ≤ L.length → L.length - n < m → ts.length + (L.length - n) ≤ 2000 → 2 * m + 4 ≤ k →
    arbiterref02_ParseDesc.l0 k (bs L) (wideL ts) n (ts.map toS) false 0 ⟨#[]⟩ = some (tup5 (descOf (prep ts (rdArgs m (L.drop n))))) := by
  induction m with
  | zero => intro n ts k _ h; omega
  | succ m ih =>
    intro n ts k hn hm hts hk
    obtain ⟨k, rfl⟩ : ∃ j, k = j + 1 + 1 + 2 := ⟨k - 4, by omega⟩
    rw [show k + 1 + 1 + 2 = (k + 1 + 2) + 1 from rfl]
    simp only [arbiterref02_ParseDesc.l0]
    rw [mk_size]
    by_cases hlt : n < L.length
    · obtain ⟨x, hx, hb⟩ := bs_at L n hlt
      rw [if_pos (by omega), if_pos (by omega), hb]
      rw [show k + 1 + 2 = (k + 2) + 1 from rfl]
      simp only [arbiterref02_ParseDesc.j2]
      by_cases h41 : x = 41
      · have ht : took (L.drop n) 41 = true := by rw [hx, took_cons]; simp [h41]
        rw [rdArgs_close m _ ts ht]
        rw [if_neg (by rw [h41]; decide), mk_size, if_neg (by omega)]
        rw [wrap_small' (by omega) (by omega)]
        show _ = some (tup5 (descRet ts (L.drop n).tail))
        rw [List.tail_drop]
        rw [← j3_ok L hL k (n + 1) (by omega) ts]
        by_cases h2 : n + 1 < L.length
        · obtain ⟨y, hy, hby⟩ := bs_at L (n + 1) h2
          rw [if_pos (by omega), if_pos (by omega)]
          have e : (Go.Proofs.YtpcdfjifhoofjaaDoorW.PrintWords.bt (bs L) ((n : Int) + 1) == 86) = took (L.drop (n + 1)) 86 := by
            rw [show (n : Int) + 1 = ((n + 1 : Nat) : Int) from by omega, hby, hy, took_cons]
            rw [Bool.eq_iff_iff, beq_iff_eq, decide_eq_true_iff]
            exact u8_iff y 86 (by decide)
          rw [e]; rfl
        · rw [if_neg (by omega)]
          have e : took (L.drop (n + 1)) 86 = false := by rw [List.drop_eq_nil_of_le (by omega)]; rfl
          rw [e]; rfl
      · have ht : took (L.drop n) 41 = false := by rw [hx, took_cons]; simp [h41]
        have hne : ((x.toNat : Int) != 41) = true := by
          rw [bne_iff_ne]
          exact fun h => h41 (u8_ne (n := 41) (by decide) h)
        rw [if_pos hne, read_f L hL n hn, Option.bind_some]
        cases hr : (rd (L.drop n)).rest with
        | none =>
          have hp : (readF L n).2.2 = -1 := by unfold readF; rw [hr]
          simp only [tup3, hp]
          rw [if_pos (by decide), rdArgs_fail m _ ts ht hr]
          rfl
        | some r =>
          obtain ⟨p, hp0, h1, h2, h3⟩ := place_drop L n hn r hr
          have hp : (readF L n).2.2 = p := by unfold readF; rw [hr]; exact hp0
          have hn2 : (readF L n).2.1 = (rd (L.drop n)).name := by unfold readF; exact rdNm_name _ _ hr
          have hn1 : (readF L n).1 = (rd (L.drop n)).dims := by unfold readF; rw [rd_dims]
          simp only [tup3, hp, hn1, hn2]
          rw [if_neg (show ¬ (p : Int) < 0 by omega), List.length_map]
          rw [rdArgs_step m _ r ts ht hr, ← h3]
          have I := ih p (ts ++ [((rd (L.drop n)).dims, (rd (L.drop n)).name)]) (k + 2) h2 (by omega) (by simp; omega) (by omega)
          rw [wideL_snoc, List.map_append, List.map_cons, List.map_nil, toS] at I
          rw [← I]
          have hlen : ts.length < 5864062014805 := by omega
          cases wideL ts
          · rw [if_neg (show ¬ false = true by decide), if_pos hlen]
            simp only [Bool.false_or]
            rw [show decide (((rd (L.drop n)).dims : Int) > 255) = decide (255 < (rd (L.drop n)).dims) from by by_cases h : 255 < (rd (L.drop n)).dims <;> simp [h] <;> omega]
          · rw [if_pos rfl, if_pos hlen, Bool.true_or]
    · obtain rfl : n = L.length := by omega
      rw [if_neg (by omega), List.drop_length]
      rw [show k + 1 + 2 = (k + 2) + 1 from rfl]
      simp only [arbiterref02_ParseDesc.j2]
      rw [if_neg (by decide), mk_size, if_pos (by omega)]
      have : prep ts (rdArgs (m + 1) []) = none := rdArgs_fail m [] ts rfl rfl
      rw [this]
      rfl
theorem pdesc_f (a0 : ByteArray) (k : Nat) (hk : 5000 ≤ k) : arbiterref02_ParseDesc.f k a0 = some (tup5 (parseD a0.data.toList)) := by
  obtain ⟨L, rfl⟩ : ∃ L, a0 = bs L := ⟨a0.data.toList, (mk_data a0).symm⟩
  rw [mk_toList]
  unfold arbiterref02_ParseDesc.f
  rw [mk_size]
  by_cases hbig : 2000 < L.length
  · rw [if_pos (by omega), parseD_big L hbig]; rfl
  · rw [if_neg (by omega)]
    obtain ⟨k, rfl⟩ : ∃ j, k = j + 1 := ⟨k - 1, by omega⟩
    cases L with
    | nil =>
      rw [if_pos (show (([] : List UInt8).length : Int) = 0 from rfl), parseD_not [] hbig rfl]
      simp only [arbiterref02_ParseDesc.j0]
      rw [if_pos trivial]; rfl
    | cons x l =>
      obtain ⟨y, hy, hby⟩ := bs_at (x :: l) 0 (by simp)
      rw [if_neg (show ¬ (((x :: l).length : Int) = 0) by simp only [List.length_cons]; omega), if_pos (show 0 < ((x :: l).length : Int) by simp only [List.length_cons]; omega)]
      have hby' : Go.Proofs.YtpcdfjifhoofjaaDoorW.PrintWords.bt (bs (x :: l)) 0 = (y.toNat : Int) := hby
      obtain rfl : x = y := by simp at hy; exact hy
      rw [hby']
      simp only [arbiterref02_ParseDesc.j0]
      by_cases h40 : x = 40
      · have ht : took (x :: l) 40 = true := by rw [took_cons]; simp [h40]
        rw [if_neg (by rw [h40]; decide), parseD_args _ hbig ht]
        simp only [List.length_cons] at hbig ⊢
        have I := l0_ok (x :: l) (by simp; omega) ((x :: l).length + 1) 1 [] k (by simp) (by simp only [List.length_cons]; omega) (by simp; omega) (by simp only [List.length_cons]; omega)
        rw [prep_nil] at I
        exact I
      · have ht : took (x :: l) 40 = false := by rw [took_cons]; simp [h40]
        have hne : ((x.toNat : Int) != 40) = true := by
          rw [bne_iff_ne]
          exact fun h => h40 (u8_ne (n := 40) (by decide) h)
        rw [if_pos hne, parseD_not _ hbig ht]; rfl
end Go.Proofs.YtpcdfjifhoofjaaDoor.Pt

/- TypesParse: what the printed functions say is true. -/
namespace Go.Proofs.YtpcdfjifhoofjaaDoor.Pt
open Go Go.RowKit Go.Proofs.YtpcdfjifhoofjaaDoor.Nm Go.Proofs.YtpcdfjifhoofjaaDoor.Ty Go.Proofs.YtpcdfjifhoofjaaDoorW.PrintWords
set_option linter.unusedVariables false
set_option linter.unusedSimpArgs false

theorem same_self' (d : Int) (nm : ByteArray) : arbiterref02_Same.f d nm d nm = some true := by simp [arbiterref02_Same.f]
theorem sametypes_l0 (l : List S37) (hl : l.length < 4611686018427387904) (m : Nat) : ∀ (i k : Nat), i ≤ l.length → l.length - i = m → m < k → arbiterref02_SameTypes.l0 k l l i = some true := by
  induction m with
  | zero =>
    intro i k hi hm hk
    obtain ⟨k, rfl⟩ : ∃ j, k = j + 1 := ⟨k - 1, by omega⟩
    simp only [arbiterref02_SameTypes.l0]
    rw [if_neg (by omega)]
  | succ m ih =>
    intro i k hi hm hk
    obtain ⟨k, rfl⟩ : ∃ j, k = j + 1 := ⟨k - 1, by omega⟩
    simp only [arbiterref02_SameTypes.l0]
    rw [if_pos (show (i : Int) < l.length by omega), if_pos (show 0 ≤ (i : Int) by omega), if_pos (show (i : Int) < l.length by omega), same_self', Option.bind_some, if_pos rfl, wrap_small' (by omega) (by omega)]
    exact ih (i + 1) k (by omega) (by omega) (by omega)
theorem sametypes_f (l : List S37) (hl : l.length < 4611686018427387904) (k : Nat) (hk : l.length < k) : arbiterref02_SameTypes.f k l l = some true := by
  unfold arbiterref02_SameTypes.f
  rw [if_pos rfl]
  exact sametypes_l0 l hl l.length 0 k (by omega) (by omega) hk
theorem samedesc_f (l : List S37) (b : Bool) (d : Int) (nm : ByteArray) (hl : l.length < 4611686018427387904) (k : Nat) (hk : l.length < k) : arbiterref02_SameDesc.f k l b d nm l b d nm = some true := by
  unfold arbiterref02_SameDesc.f
  rw [if_pos (by simp), same_self', Option.bind_some, if_pos rfl, sametypes_f l hl k hk]
  rfl
theorem descEnd_args (d : DescR) (w : Bool) (r : List UInt8) : (descEnd d w r).1.args.length ≤ 20 := by
  unfold descEnd
  split
  · exact Nat.zero_le _
  · split
    · exact Nat.zero_le _
    · rename_i h1 h2
      simp at h2
      exact h2.2
theorem parseD_args20 (l : List UInt8) : (parseD l).1.args.length ≤ 20 := by
  unfold parseD
  split
  · exact Nat.zero_le _
  · split
    · unfold descOf
      split
      · exact Nat.zero_le _
      · unfold descRet
        split
        · exact descEnd_args _ _ _
        · split
          · exact Nat.zero_le _
          · exact descEnd_args _ _ _
    · exact Nat.zero_le _
theorem awake_f' : arbiterlaw02_awake.f = some true := by decide +kernel
theorem parse_true (a : ByteArray) : arbiterlaw02_TypesParse.f 6000 a = some true := by
  unfold arbiterlaw02_TypesParse.f
  rw [awake_f']
  simp only [Option.bind_some, if_true, types_Parse.f, arbiterref02_Parse.f, same_self']
  rw [show (6000 : Nat) = 5999 + 1 from rfl]
  simp only [arbiterlaw02_TypesParse.j0]
  rw [if_neg (by decide)]
  simp only [Option.bind_some, if_true, types_ParseRef.f, arbiterref02_ParseRef.f, same_self']
  rw [show (5999 : Nat) = 5998 + 1 from rfl]
  simp only [arbiterlaw02_TypesParse.j1]
  rw [if_neg (by decide)]
  have h20 := parseD_args20 a.data.toList
  simp only [Option.bind_some, if_true, types_ParseDesc.f, pdesc_f a 5998 (by decide)]
  rw [show arbiterref02_SameDesc.f 5998 _ _ _ _ _ _ _ _ = some true from samedesc_f _ _ _ _ (by simp only [tup5, List.length_map]; omega) 5998 (by simp only [tup5, List.length_map]; omega)]
  simp only [Option.bind_some]
  rw [show (5998 : Nat) = 5997 + 1 from rfl]
  simp only [arbiterlaw02_TypesParse.j2]
  rw [if_neg (by decide)]
  unfold arbiterref02_Args.f
  simp only [Option.bind_some, types_Args.f, pdesc_f a 5997 (by decide), tup5, List.length_map, if_true]
  simp
theorem parse_any (a : ByteArray) (w : World) : Calls Tryd.prog 7 #[.string a] w fun e w' => e = .returned (.bool true) ∧ Below w.heap.size w w' :=
  arbiterlaw02_TypesParse.calls 6000 a true w (parse_true a)
end Go.Proofs.YtpcdfjifhoofjaaDoor.Pt
