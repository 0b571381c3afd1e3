/- Lemmas and contracts for the statement of PwArraysSub: joined by program out of this session's texts. -/
import Derived.Test.YtmlifggklaeieaaGreatDoorBdPwArraysSub6
import Derived.Deep.Slices
import Derived.WideShapes
namespace Go.Proofs.YtmlifggklaeieaaGreatDoor.Pt
open Go.RowKit Go.Proofs.YtmlifggklaeieaaGreatDoorW.PrintWords Go.Proofs.YtmlifggklaeieaaGreatDoorW.PrintLast Go.Proofs.YtmlifggklaeieaaGreatDoorW.PrintMore
attribute [local go_sem] max2_int min2_int max_two min_two max_three min_three max_four min_four   -- for this text's walks alone
set_option linter.unusedVariables false
set_option linter.unusedSimpArgs false
def arbiterlaw07_ArraysSub.f (k : Nat) (l0 : List (S69)) (a1_0 : Int) (a1_1 : ByteArray) (a2_0 : Int) (a2_1 : ByteArray) : Option (Bool) := (arbiterlaw07_awake.f).bind fun t239 => (if t239 = true then ((arbiterlaw07_built.f l0).bind fun t240 => ((arbiterref06_Of.f l0).bind fun t241 => ((arrays_Sub.f t240 a1_0 a1_1 a2_0 a2_1).bind fun bt242 => ((arbiterref07_Sub.f k t241 a1_0 a1_1 a2_0 a2_1).bind fun bt244 => (if (bt242.1 == bt244.1) = true then (if bt242.2 = bt244.2 then ((arrays_Loaded.f t240 a1_0 a1_1).bind fun t246 => ((arbiterref07_Loaded.f k t241 a1_0 a1_1).bind fun t247 => (some (t246 == t247)))) else (some false)) else (some false)))))) else (some false))
def arbiterlaw07_ArraysSub.T7 : Bool × List (List Nat × List Nat) := (true, [([], []), ([], []), ([0, 1], [0, 1]), ([2], [2]), ([3], [3]), ([3], [3]), ([4, 5, 3], [3, 4, 5]), ([3, 6], [3, 6]), ([7, 3], [7]), ([8], [8]), ([8], [8]), ([9, 10, 8, 8], [8, 9, 10]), ([8], [8]), ([8], [8]), ([12, 13, 11, 8], [8, 12, 13]), ([11, 14, 8], [8, 11, 14]), ([8, 15], [8, 15]), ([16, 14, 0, 1, 2, 3, 4, 5, 6, 7, 8, 9, 10, 11, 12, 13, 14, 15, 16], [16])])
def arbiterlaw07_ArraysSub.B7 : List Nat := [0, 0, 3, 7, 15, 15, 63, 127, 255, 511, 511, 2047, 511, 511, 16383, 32767, 65535, 131071]
theorem arbiterlaw07_ArraysSub.tab7 : rtab .any (opsOf Tryz.f3 7) = arbiterlaw07_ArraysSub.T7 := by kernel_rfl
theorem arbiterlaw07_ArraysSub.bits7 : waitsOk arbiterlaw07_ArraysSub.T7.2 arbiterlaw07_ArraysSub.B7 = true := by kernel_rfl
set_option maxHeartbeats 8000000 in
set_option maxRecDepth 100000 in
theorem arbiterlaw07_ArraysSub.calls (k : Nat) (A0 : Option Addr) (c0 : Nat) (l0 : List (S69)) (a1_0 : Int) (a1_1 : ByteArray) (a2_0 : Int) (a2_1 : ByteArray) (r : Bool) (w : World) (hr0 : Kd.C k69 w A0 l0.length l0) (hc0 : l0.length ≤ c0) (h : arbiterlaw07_ArraysSub.f k l0 a1_0 a1_1 a2_0 a2_1 = some r) :
  Calls Tryz.prog 3 #[.slice A0 l0.length c0, .agg #[.int .i64 a1_0, .string a1_1], .agg #[.int .i64 a2_0, .string a2_1]] w fun e w' => e = .returned (.bool r) ∧ Below w.heap.size w w' := by
 have hu24 := Tryz.underlying24; have HR0 := Aside0.mk hr0; have HC0 := Aside0.mk hc0; clear hr0 hc0; have HB := Aside0.mk (Below.refl w.heap.size w); have H : ((arbiterlaw07_awake.f).bind fun t239 => (if t239 = true then ((arbiterlaw07_built.f l0).bind fun t240 => ((arbiterref06_Of.f l0).bind fun t241 => ((arrays_Sub.f t240 a1_0 a1_1 a2_0 a2_1).bind fun bt242 => ((arbiterref07_Sub.f k t241 a1_0 a1_1 a2_0 a2_1).bind fun bt244 => (if (bt242.1 == bt244.1) = true then (if bt242.2 = bt244.2 then ((arrays_Loaded.f t240 a1_0 a1_1).bind fun t246 => ((arbiterref07_Loaded.f k t241 a1_0 a1_1).bind fun t247 => (some (t246 == t247)))) else (some false)) else (some false)))))) else (some false))) = some r := h; clear h; replace H := Option.bind_eq_some_iff.mp H; obtain ⟨t239, A40, H⟩ := H; replace H : (if t239 = true then ((arbiterlaw07_built.f l0).bind fun t240 => ((arbiterref06_Of.f l0).bind fun t241 => ((arrays_Sub.f t240 a1_0 a1_1 a2_0 a2_1).bind fun bt242 => ((arbiterref07_Sub.f k t241 a1_0 a1_1 a2_0 a2_1).bind fun bt244 => (if (bt242.1 == bt244.1) = true then (if bt242.2 = bt244.2 then ((arrays_Loaded.f t240 a1_0 a1_1).bind fun t246 => ((arbiterref07_Loaded.f k t241 a1_0 a1_1).bind fun t247 => (some (t246 == t247)))) else (some false)) else (some false)))))) else (some false)) = some r := H; have A4 := Aside0.mk A40; clear A40
 by_cases c5 : t239 = true
 ·subst c5
  have H1 : ((arbiterlaw07_built.f l0).bind fun t240 => ((arbiterref06_Of.f l0).bind fun t241 => ((arrays_Sub.f t240 a1_0 a1_1 a2_0 a2_1).bind fun bt242 => ((arbiterref07_Sub.f k t241 a1_0 a1_1 a2_0 a2_1).bind fun bt244 => (if (bt242.1 == bt244.1) = true then (if bt242.2 = bt244.2 then ((arrays_Loaded.f t240 a1_0 a1_1).bind fun t246 => ((arbiterref07_Loaded.f k t241 a1_0 a1_1).bind fun t247 => (some (t246 == t247)))) else (some false)) else (some false)))))) = some r := by rw [if_pos rfl] at H; exact H
  clear H; have H := H1; clear H1; replace H := Option.bind_eq_some_iff.mp H; obtain ⟨t240, A60, H⟩ := H; replace H : ((arbiterref06_Of.f l0).bind fun t241 => ((arrays_Sub.f t240 a1_0 a1_1 a2_0 a2_1).bind fun bt242 => ((arbiterref07_Sub.f k t241 a1_0 a1_1 a2_0 a2_1).bind fun bt244 => (if (bt242.1 == bt244.1) = true then (if bt242.2 = bt244.2 then ((arrays_Loaded.f t240 a1_0 a1_1).bind fun t246 => ((arbiterref07_Loaded.f k t241 a1_0 a1_1).bind fun t247 => (some (t246 == t247)))) else (some false)) else (some false))))) = some r := H; have A6 := Aside0.mk A60; clear A60; replace H := Option.bind_eq_some_iff.mp H; obtain ⟨t241, A70, H⟩ := H; replace H : ((arrays_Sub.f t240 a1_0 a1_1 a2_0 a2_1).bind fun bt242 => ((arbiterref07_Sub.f k t241 a1_0 a1_1 a2_0 a2_1).bind fun bt244 => (if (bt242.1 == bt244.1) = true then (if bt242.2 = bt244.2 then ((arrays_Loaded.f t240 a1_0 a1_1).bind fun t246 => ((arbiterref07_Loaded.f k t241 a1_0 a1_1).bind fun t247 => (some (t246 == t247)))) else (some false)) else (some false)))) = some r := H; have A7 := Aside0.mk A70; clear A70; replace H := Option.bind_eq_some_iff.mp H; obtain ⟨⟨t242, t243⟩, A80, H⟩ := H; replace H : ((arbiterref07_Sub.f k t241 a1_0 a1_1 a2_0 a2_1).bind fun bt244 => (if (t242 == bt244.1) = true then (if t243 = bt244.2 then ((arrays_Loaded.f t240 a1_0 a1_1).bind fun t246 => ((arbiterref07_Loaded.f k t241 a1_0 a1_1).bind fun t247 => (some (t246 == t247)))) else (some false)) else (some false))) = some r := H; have A8 := Aside0.mk A80; clear A80; replace H := Option.bind_eq_some_iff.mp H; obtain ⟨⟨t244, t245⟩, A90, H⟩ := H; replace H : (if (t242 == t244) = true then (if t243 = t245 then ((arrays_Loaded.f t240 a1_0 a1_1).bind fun t246 => ((arbiterref07_Loaded.f k t241 a1_0 a1_1).bind fun t247 => (some (t246 == t247)))) else (some false)) else (some false)) = some r := H; have A9 := Aside0.mk A90; clear A90
  by_cases c10 : (t242 == t244) = true
  ·rw [if_pos c10] at H
   have c10b0 : (t242 == t244) = true := c10
   (try (have c10b1 : decide (t242 = t244) = true := by simpa using c10))
   (try (have c10b2 : (t242 == t244) = true := by simpa using c10))
   clear c10
   by_cases c11 : t243 = t245
   ·rw [if_pos c11] at H
    have c11b0 : (t243 == t245) = true := beq_iff_eq.mpr c11; have c11b1 : (t243 != t245) = false := bne_eq_false_iff_eq.mpr c11; clear c11; replace H := Option.bind_eq_some_iff.mp H; obtain ⟨t246, A120, H⟩ := H; replace H : ((arbiterref07_Loaded.f k t241 a1_0 a1_1).bind fun t247 => (some (t246 == t247))) = some r := H; have A12 := Aside0.mk A120; clear A120; replace H := Option.bind_eq_some_iff.mp H; obtain ⟨t247, A130, H⟩ := H; replace H : (some (t246 == t247)) = some r := H; have A13 := Aside0.mk A130; clear A130; obtain rfl := Option.some.inj H; go_enter Tryz.func3, Tryz.ntmps3
    try go_wp2_with (first | ((with_reducible refine gate_dst (N := 4) rfl ?_); refine box_event ?hg (N := 4) ?hd (cs := #[.int .i64 a1_0, .string a1_1]) (t := 24) ?hr ?_; (case hd => rfl); (case hg => rfl); (case hr => first | (go_simp; done) | (go_simp; rfl)); intro gb237 hg w14 hbox hb; have n0_ := Aside0.mk (below_step (bX HB) hb); have n1_ := Aside0.mk (hbox); have n2_ := Aside0.mk ((by rw [hg]; exact (below_size (bX HB)) : w.heap.size ≤ gb237)); have n3_ := Aside0.mk ((by rw [hg]; exact (below_size (bX HB)) : w.heap.size ≤ gb237)); clear HB; have HB := n0_; have BK237 := n1_; have GW237 := n2_; have GE237 := n3_; clear n0_ n1_ n2_ n3_; clear hb hbox hg) | ((with_reducible refine gate_dst (N := 5) rfl ?_); refine box_event ?hg (N := 5) ?hd (cs := #[.int .i64 a2_0, .string a2_1]) (t := 24) ?hr ?_; (case hd => rfl); (case hg => rfl); (case hr => first | (go_simp; done) | (go_simp; rfl)); intro gb238 hg w15 hbox hb; have n0_ := Aside0.mk (blk_below (kX BK237) hb); have n1_ := Aside0.mk (below_step (bX1 HB GE237) hb); have n2_ := Aside0.mk (hbox); have n3_ := Aside0.mk ((by rw [hg]; exact (below_size (bX1 HB GE237)) : w.heap.size ≤ gb238)); have n4_ := Aside0.mk ((by rw [hg]; exact (below_size (bX1 HB GE237)) : w.heap.size ≤ gb238)); have n5_ := Aside0.mk ((by rw [hg]; exact Nat.ne_of_lt (blk_lt (kX BK237)) : gb237 ≠ gb238)); have n6_ := Aside0.mk ((by rw [hg]; exact Nat.ne_of_gt (blk_lt (kX BK237)) : gb238 ≠ gb237)); clear BK237; clear HB; have BK237 := n0_; have HB := n1_; have BK238 := n2_; have GW238 := n3_; have GE238 := n4_; have NB237_238 := n5_; have NB238_237 := n6_; clear n0_ n1_ n2_ n3_ n4_ n5_ n6_; clear hb hbox hg) | ((with_reducible refine gate_callee (f := 8) rfl ?_); refine goesL_ (some 13) rfl rfl Tryz.func8 (by kernel_rfl) rfl #[] rfl (by (try simp only [List.map_toArray, List.map_cons, List.map_nil]); first | done | rfl | (simp only [List.length_drop, List.length_take]; rfl)) ?_; (with_reducible refine (arbiterlaw07_awake.calls  true _ A4.out).mono ?_); rintro e w16 ⟨rfl, hb⟩; refine ⟨_, rfl, ?_⟩; have n0_ := Aside0.mk (blk_below (kX BK237) hb); have n1_ := Aside0.mk (blk_below (kX BK238) hb); have n2_ := Aside0.mk (below_step (bX2 HB GE237 GE238) hb); clear BK237; clear BK238; clear HB; have BK237 := n0_; have BK238 := n1_; have HB := n2_; clear n0_ n1_ n2_; (try clear hb); (try clear hb2); (try clear hk); (try clear hi)) | ((with_reducible refine gate_callee (f := 9) rfl ?_); refine goesL_ (some 16) rfl rfl Tryz.func9 (by kernel_rfl) rfl #[.slice A0 l0.length c0] rfl (by (try simp only [List.map_toArray, List.map_cons, List.map_nil]); first | done | rfl | (simp only [List.length_drop, List.length_take]; rfl)) ?_; (with_reducible refine (arbiterlaw07_built.calls _ _ l0 t240 _ ?side1 ?side2 A6.out).mono ?_); (case side1 => repeat (first | exact (Kd.C_below HR0.out HB.out) | (with_reducible refine Kd.C_alloc ?_ _) | (with_reducible refine Kd.C_drewN ?_ _) | (with_reducible refine Kd.C_drew ?_))); (case side2 => exact HC0.out); rintro e w17 ⟨G_t240, rfl, hqt240, hb⟩; refine ⟨_, rfl, ?_⟩; have n0_ := Aside0.mk (blk_below (kX BK237) hb); have n1_ := Aside0.mk (blk_below (kX BK238) hb); have n2_ := Aside0.mk (hqt240); have n3_ := Aside0.mk (below_step (bX2 HB GE237 GE238) hb); clear BK237; clear BK238; clear HB; have BK237 := n0_; have BK238 := n1_; have HQt240 := n2_; have HB := n3_; clear n0_ n1_ n2_ n3_; (try clear hb); (try clear hb2); (try clear hk); (try clear hi)) | ((with_reducible refine gate_callee (f := 10) rfl ?_); refine goesL_ (some 18) rfl rfl Tryz.func10 (by kernel_rfl) rfl #[.slice A0 l0.length c0] rfl (by (try simp only [List.map_toArray, List.map_cons, List.map_nil]); first | done | rfl | (simp only [List.length_drop, List.length_take]; rfl)) ?_; (with_reducible refine (arbiterref06_Of.calls _ _ l0 t241 _ ?side1 ?side2 A7.out).mono ?_); (case side1 => repeat (first | exact (Kd.C_below HR0.out HB.out) | (with_reducible refine Kd.C_alloc ?_ _) | (with_reducible refine Kd.C_drewN ?_ _) | (with_reducible refine Kd.C_drew ?_))); (case side2 => exact HC0.out); rintro e w18 ⟨G_t241, rfl, hqt241, hb⟩; refine ⟨_, rfl, ?_⟩; have n0_ := Aside0.mk (blk_below (kX BK237) hb); have n1_ := Aside0.mk (blk_below (kX BK238) hb); have n2_ := Aside0.mk (WOK.below (g := G_t240) (es := t240) (by repeat (first | (with_reducible exact HQt240.out) | (with_reducible refine WOK.alloc ?_ _) | (with_reducible refine WOK.drewN ?_ _) | (with_reducible refine WOK.drew ?_))) hb); have n3_ := Aside0.mk (hqt241); have n4_ := Aside0.mk (below_step (bX2 HB GE237 GE238) hb); clear BK237; clear BK238; clear HQt240; clear HB; have BK237 := n0_; have BK238 := n1_; have HQt240 := n2_; have HQt241 := n3_; have HB := n4_; clear n0_ n1_ n2_ n3_ n4_; (try clear hb); (try clear hb2); (try clear hk); (try clear hi); have hnb19 := NB237_238.out; have hnc19 := NB238_237.out; have hcz20_0 : w18.cell? ⟨gb237, 0, none⟩ = some (.int .i64 a1_0) := (blk_cell BK237.out 0).trans rfl; have hcz20_1 : w18.cell? ⟨gb237, 1, none⟩ = some (.string a1_1) := (blk_cell BK237.out 1).trans rfl; have hfz20_0 := blk_frozen BK237.out 0; have hfz20_1 := blk_frozen BK237.out 1; have hcz21_0 : w18.cell? ⟨gb238, 0, none⟩ = some (.int .i64 a2_0) := (blk_cell BK238.out 0).trans rfl; have hcz21_1 : w18.cell? ⟨gb238, 1, none⟩ = some (.string a2_1) := (blk_cell BK238.out 1).trans rfl; have hfz21_0 := blk_frozen BK238.out 0; have hfz21_1 := blk_frozen BK238.out 1) | ((first | ((with_reducible refine gate_callee (f := 11) rfl ?_); refine goesL_ (some 23) rfl rfl Tryz.func11 (by kernel_rfl) rfl #[.pointer (some ⟨G_t240, 0, none⟩), .agg #[.int .i64 a1_0, .string a1_1], .agg #[.int .i64 a2_0, .string a2_1]] rfl (by (try simp only [List.map_toArray, List.map_cons, List.map_nil]); first | done | rfl | (simp only [List.length_drop, List.length_take]; rfl)) ?_) | go_at_call 11); (with_reducible refine (arrays_Sub.calls G_t240 t240 a1_0 a1_1 a2_0 a2_1 t242 t243 _ ?side1 A8.out).mono ?_); (case side1 => repeat (first | (with_reducible exact HQt240.out) | (with_reducible refine WOK.alloc ?_ _) | (with_reducible refine WOK.drewN ?_ _) | (with_reducible refine WOK.drew ?_))); rintro e w22 ⟨rfl, hb⟩; (try refine ⟨_, rfl, ?_⟩); have n0_ := Aside0.mk (blk_below (kX BK237) hb); have n1_ := Aside0.mk (blk_below (kX BK238) hb); have n2_ := Aside0.mk (WOK.below (g := G_t240) (es := t240) (by repeat (first | (with_reducible exact HQt240.out) | (with_reducible refine WOK.alloc ?_ _) | (with_reducible refine WOK.drewN ?_ _) | (with_reducible refine WOK.drew ?_))) hb); have n3_ := Aside0.mk (ROK.below (g := G_t241) (cs := t241) (by repeat (first | (with_reducible exact HQt241.out) | (with_reducible refine ROK.alloc ?_ _) | (with_reducible refine ROK.drewN ?_ _) | (with_reducible refine ROK.drew ?_))) hb); have n4_ := Aside0.mk (below_step (bX2 HB GE237 GE238) hb); clear BK237; clear BK238; clear HQt240; clear HQt241; clear HB; have BK237 := n0_; have BK238 := n1_; have HQt240 := n2_; have HQt241 := n3_; have HB := n4_; clear n0_ n1_ n2_ n3_ n4_; (try clear hb); (try clear hb2); (try clear hk); (try clear hi); have hcz23_0 : w22.cell? ⟨gb237, 0, none⟩ = some (.int .i64 a1_0) := (blk_cell BK237.out 0).trans rfl; have hcz23_1 : w22.cell? ⟨gb237, 1, none⟩ = some (.string a1_1) := (blk_cell BK237.out 1).trans rfl; have hfz23_0 := blk_frozen BK237.out 0; have hfz23_1 := blk_frozen BK237.out 1; have hcz24_0 : w22.cell? ⟨gb238, 0, none⟩ = some (.int .i64 a2_0) := (blk_cell BK238.out 0).trans rfl; have hcz24_1 : w22.cell? ⟨gb238, 1, none⟩ = some (.string a2_1) := (blk_cell BK238.out 1).trans rfl; have hfz24_0 := blk_frozen BK238.out 0; have hfz24_1 := blk_frozen BK238.out 1) | ((with_reducible refine gate_callee (f := 12) rfl ?_); refine goesL_ (some 30) rfl rfl Tryz.func12 (by kernel_rfl) rfl #[.pointer (some ⟨G_t241, 0, none⟩), .agg #[.int .i64 a1_0, .string a1_1], .agg #[.int .i64 a2_0, .string a2_1]] rfl (by (try simp only [List.map_toArray, List.map_cons, List.map_nil]); first | done | rfl | (simp only [List.length_drop, List.length_take]; rfl)) ?_; (with_reducible refine (arbiterref07_Sub.calls k G_t241 t241 a1_0 a1_1 a2_0 a2_1 t244 t245 _ ?side1 A9.out).mono ?_); (case side1 => repeat (first | (with_reducible exact HQt241.out) | (with_reducible refine ROK.alloc ?_ _) | (with_reducible refine ROK.drewN ?_ _) | (with_reducible refine ROK.drew ?_))); rintro e w25 ⟨rfl, hb⟩; refine ⟨_, rfl, ?_⟩; have n0_ := Aside0.mk (blk_below (kX BK237) hb); have n1_ := Aside0.mk (blk_below (kX BK238) hb); have n2_ := Aside0.mk (WOK.below (g := G_t240) (es := t240) (by repeat (first | (with_reducible exact HQt240.out) | (with_reducible refine WOK.alloc ?_ _) | (with_reducible refine WOK.drewN ?_ _) | (with_reducible refine WOK.drew ?_))) hb); have n3_ := Aside0.mk (ROK.below (g := G_t241) (cs := t241) (by repeat (first | (with_reducible exact HQt241.out) | (with_reducible refine ROK.alloc ?_ _) | (with_reducible refine ROK.drewN ?_ _) | (with_reducible refine ROK.drew ?_))) hb); have n4_ := Aside0.mk (below_step (bX2 HB GE237 GE238) hb); clear BK237; clear BK238; clear HQt240; clear HQt241; clear HB; have BK237 := n0_; have BK238 := n1_; have HQt240 := n2_; have HQt241 := n3_; have HB := n4_; clear n0_ n1_ n2_ n3_ n4_; (try clear hb); (try clear hb2); (try clear hk); (try clear hi)))
    have n0_ := Aside0.mk (blk_drew BK237.out); have n1_ := Aside0.mk (blk_drew BK238.out); have n2_ := Aside0.mk (WOK.drew HQt240.out); have n3_ := Aside0.mk (ROK.drew HQt241.out); have n4_ := Aside0.mk (below_drew1 HB.out); clear BK237; clear BK238; clear HQt240; clear HQt241; clear HB; have BK237 := n0_; have BK238 := n1_; have HQt240 := n2_; have HQt241 := n3_; have HB := n4_; clear n0_ n1_ n2_ n3_ n4_; refine start_ (n := 18) (S := fun w' => w'.cell? ⟨gb237, 0, none⟩ = some (.int .i64 a1_0) ∧ w'.cell? ⟨gb237, 1, none⟩ = some (.string a1_1)) (ds := []) #[false, false, false, false, false, false, false, false, false, false, false, false, false, false, false, false, false, false] (by kernel_rfl) rfl rfl ⟨(blk_cell BK237.out 0).trans rfl, (blk_cell BK237.out 1).trans rfl⟩ (fun hHeld => ?_); refine with_tabW arbiterlaw07_ArraysSub.tab7 arbiterlaw07_ArraysSub.bits7 (fun HT_ HW_ => ?_); generalize w25.drew = w26 at BK237 BK238 HQt240 HQt241 HB hHeld ⊢; refine pure_ (i := 0) (N := some 33) (v := ?_) (a' := ?_) #[true, false, false, false, false, false, false, false, false, false, false, false, false, false, false, false, false, false] rfl rfl (any_of HT_.out (by kernel_rfl)) (fun _ _ _ h => h) (Or.inl ⟨by rfl, ?_⟩) ?_ ?_; rotate_left
    ·intro w'
     go_simp
     with_reducible rfl
    rotate_left
    ·simp only [Act.put, List.setIfInBounds_toArray, List.set_cons_zero, List.set_cons_succ, i64_w, i32_w]
     rfl
    refine pure_ (i := 1) (N := some 34) (v := ?_) (a' := ?_) #[true, true, false, false, false, false, false, false, false, false, false, false, false, false, false, false, false, false] rfl rfl (any_of HT_.out (by kernel_rfl)) (fun _ _ _ h => h) (Or.inl ⟨by rfl, ?_⟩) ?_ ?_; rotate_left
    ·intro w'
     go_simp
     with_reducible rfl
    rotate_left
    ·simp only [Act.put, List.setIfInBounds_toArray, List.set_cons_zero, List.set_cons_succ, i64_w, i32_w]
     rfl
    refine pure_ (i := 2) (N := some 35) (v := ?_) (a' := ?_) #[true, true, true, false, false, false, false, false, false, false, false, false, false, false, false, false, false, false] rfl rfl (any_of HT_.out (by kernel_rfl)) (fun _ _ _ h => h) (Or.inl ⟨by rfl, ?_⟩) ?_ ?_; rotate_left
    ·intro w'
     go_simp
     with_reducible rfl
    rotate_left
    ·simp only [Act.put, List.setIfInBounds_toArray, List.set_cons_zero, List.set_cons_succ, i64_w, i32_w]
     rfl
    refine pure_ (i := 3) (N := some 36) (v := ?_) (a' := ?_) #[true, true, true, true, false, false, false, false, false, false, false, false, false, false, false, false, false, false] rfl rfl (any_of HT_.out (by kernel_rfl)) (fun _ _ _ h => h) (Or.inl ⟨by rfl, ?_⟩) ?_ ?_; rotate_left
    ·intro w'
     go_simp
     with_reducible rfl
    rotate_left
    ·simp only [Act.put, List.setIfInBounds_toArray, List.set_cons_zero, List.set_cons_succ, i64_w, i32_w]
     rfl
    refine pure_ (i := 4) (N := some 37) (v := ?_) (a' := ?_) #[true, true, true, true, true, false, false, false, false, false, false, false, false, false, false, false, false, false] rfl rfl (any_of HT_.out (by kernel_rfl)) (fun _ _ _ h => h) (Or.inl ⟨by rfl, ?_⟩) ?_ ?_; rotate_left
    ·intro w'
     go_simp
     with_reducible rfl
    rotate_left
    ·simp only [Act.put, List.setIfInBounds_toArray, List.set_cons_zero, List.set_cons_succ, i64_w, i32_w]
     rfl
    refine pure_ (i := 5) (N := some 38) (v := ?_) (a' := ?_) #[true, true, true, true, true, true, false, false, false, false, false, false, false, false, false, false, false, false] rfl rfl (any_of HT_.out (by kernel_rfl)) (fun _ _ _ h => h) (Or.inl ⟨by rfl, ?_⟩) ?_ ?_; rotate_left
    ·intro w'
     go_simp
     with_reducible rfl
    rotate_left
    ·simp only [Act.put, List.setIfInBounds_toArray, List.set_cons_zero, List.set_cons_succ, i64_w, i32_w]
     rfl
    refine pure_ (i := 6) (N := some 39) (v := ?_) (a' := ?_) #[true, true, true, true, true, true, true, false, false, false, false, false, false, false, false, false, false, false] rfl rfl (any_of HT_.out (by kernel_rfl)) (fun _ _ _ h => h) (Or.inl ⟨by rfl, ?_⟩) ?_ ?_; rotate_left
    ·intro w'
     go_simp
     with_reducible rfl
    rotate_left
    ·simp only [Act.put, List.setIfInBounds_toArray, List.set_cons_zero, List.set_cons_succ, i64_w, i32_w]
     rfl
    refine pure_ (i := 7) (N := some 40) (v := ?_) (a' := ?_) #[true, true, true, true, true, true, true, true, false, false, false, false, false, false, false, false, false, false] rfl rfl (any_of HT_.out (by kernel_rfl)) (fun _ _ _ h => h) (Or.inl ⟨by rfl, ?_⟩) ?_ ?_; rotate_left
    ·intro w'
     go_simp
     with_reducible rfl
    rotate_left
    ·simp only [Act.put, List.setIfInBounds_toArray, List.set_cons_zero, List.set_cons_succ, i64_w, i32_w]
     rfl
    refine pure_ (i := 8) (N := some 41) (v := ?_) (a' := ?_) #[true, true, true, true, true, true, true, true, true, false, false, false, false, false, false, false, false, false] rfl rfl (any_of HT_.out (by kernel_rfl)) (fun _ _ _ h => h) (Or.inl ⟨by rfl, ?_⟩) ?_ ?_; rotate_left
    ·intro w'
     go_simp
     with_reducible rfl
    rotate_left
    ·simp only [Act.put, List.setIfInBounds_toArray, List.set_cons_zero, List.set_cons_succ, i64_w, i32_w]
     rfl
    refine pure_ (i := 9) (N := some 42) (v := ?_) (a' := ?_) #[true, true, true, true, true, true, true, true, true, true, false, false, false, false, false, false, false, false] rfl rfl (any_of HT_.out (by kernel_rfl)) (fun _ _ _ h => h) (Or.inl ⟨by rfl, ?_⟩) ?_ ?_; rotate_left
    ·intro w'
     go_simp
     with_reducible rfl
    rotate_left
    ·simp only [Act.put, List.setIfInBounds_toArray, List.set_cons_zero, List.set_cons_succ, i64_w, i32_w]
     rfl
    refine pure_ (i := 12) (N := some 45) (v := ?_) (a' := ?_) #[true, true, true, true, true, true, true, true, true, true, false, false, true, false, false, false, false, false] rfl rfl (any_of HT_.out (by kernel_rfl)) (fun _ _ _ h => h) (Or.inl ⟨by rfl, ?_⟩) ?_ ?_; rotate_left
    ·intro w'
     go_simp
     with_reducible rfl
    rotate_left
    ·simp only [Act.put, List.setIfInBounds_toArray, List.set_cons_zero, List.set_cons_succ, i64_w, i32_w]
     rfl
    refine take_ (i := 10) (N := some 43) (v := ?_) (a' := ?_) #[true, true, true, true, true, true, true, true, true, true, true, false, true, false, false, false, false, false] rfl rfl (take_ofW HT_.out HW_.out (by kernel_rfl)) (fun _ _ _ h => h) (Or.inl ⟨by rfl, ?_⟩) hHeld ?_ ?_; rotate_left
    ·rintro w' ⟨s0, s1⟩
     go_simp
     with_reducible rfl
    rotate_left
    ·simp only [Act.put, List.setIfInBounds_toArray, List.set_cons_zero, List.set_cons_succ, i64_w, i32_w]
     rfl
    refine take_ (i := 13) (N := some 46) (v := ?_) (a' := ?_) #[true, true, true, true, true, true, true, true, true, true, true, false, true, true, false, false, false, false] rfl rfl (take_ofW HT_.out HW_.out (by kernel_rfl)) (fun _ _ _ h => h) (Or.inl ⟨by rfl, ?_⟩) hHeld ?_ ?_; rotate_left
    ·rintro w' ⟨s0, s1⟩
     go_simp
     with_reducible rfl
    rotate_left
    ·simp only [Act.put, List.setIfInBounds_toArray, List.set_cons_zero, List.set_cons_succ, i64_w, i32_w]
     rfl
    refine one_ (i := 11) (N := some 44) #[true, true, true, true, true, true, true, true, true, true, true, true, true, true, false, false, false, false] rfl rfl (one_of HT_.out (by kernel_rfl)) (by decide) (fun K hK => ?_); refine goes_ Tryz.func13 (by kernel_rfl) rfl #[.pointer (some ⟨G_t240, 0, none⟩), .agg #[.int .i64 a1_0, .string a1_1]] (by rfl) rfl rfl (by (try simp only [List.map_toArray, List.map_cons, List.map_nil]); first | done | rfl | (simp only [List.length_drop, List.length_take]; rfl)) ?_
    with_reducible refine (arrays_Loaded.calls G_t240 t240 a1_0 a1_1 t246 _ ?side1 A12.out).mono ?_
    (case side1 => repeat (first | (with_reducible exact HQt240.out) | (with_reducible refine WOK.alloc ?_ _) | (with_reducible refine WOK.drewN ?_ _) | (with_reducible refine WOK.drew ?_)))
    rintro e w27 ⟨rfl, hb⟩; refine ⟨_, rfl, ?_⟩; have n0_ := Aside0.mk (blk_below (kX BK237) hb); have n1_ := Aside0.mk (blk_below (kX BK238) hb); have n2_ := Aside0.mk (WOK.below (g := G_t240) (es := t240) (by repeat (first | (with_reducible exact HQt240.out) | (with_reducible refine WOK.alloc ?_ _) | (with_reducible refine WOK.drewN ?_ _) | (with_reducible refine WOK.drew ?_))) hb); have n3_ := Aside0.mk (ROK.below (g := G_t241) (cs := t241) (by repeat (first | (with_reducible exact HQt241.out) | (with_reducible refine ROK.alloc ?_ _) | (with_reducible refine ROK.drewN ?_ _) | (with_reducible refine ROK.drew ?_))) hb); have n4_ := Aside0.mk (below_step (bX2 HB GE237 GE238) hb); clear BK237; clear BK238; clear HQt240; clear HQt241; clear HB; have BK237 := n0_; have BK238 := n1_; have HQt240 := n2_; have HQt241 := n3_; have HB := n4_; clear n0_ n1_ n2_ n3_ n4_
    (try clear hb)
    (try clear hb2)
    (try clear hk)
    (try clear hi)
    refine hK.out _ _ ⟨(blk_cell BK237.out 0).trans rfl, (blk_cell BK237.out 1).trans rfl⟩ (fun hHeld => ?_); clear hK K; refine norm_ (a' := ?_) ?_ ?_; rotate_left
    ·show Act.put _ (some 44) _ = _
     simp only [Act.put, List.setIfInBounds_toArray, List.set_cons_zero, List.set_cons_succ, i64_w, i32_w]
     rfl
    refine one_ (i := 14) (N := some 47) #[true, true, true, true, true, true, true, true, true, true, true, true, true, true, true, false, false, false] rfl rfl (one_of HT_.out (by kernel_rfl)) (by decide) (fun K hK => ?_); refine goes_ Tryz.func14 (by kernel_rfl) rfl #[.pointer (some ⟨G_t241, 0, none⟩), .agg #[.int .i64 a1_0, .string a1_1]] (by rfl) rfl rfl (by (try simp only [List.map_toArray, List.map_cons, List.map_nil]); first | done | rfl | (simp only [List.length_drop, List.length_take]; rfl)) ?_
    with_reducible refine (arbiterref07_Loaded.calls k G_t241 t241 a1_0 a1_1 t247 _ ?side1 A13.out).mono ?_
    (case side1 => repeat (first | (with_reducible exact HQt241.out) | (with_reducible refine ROK.alloc ?_ _) | (with_reducible refine ROK.drewN ?_ _) | (with_reducible refine ROK.drew ?_)))
    rintro e w28 ⟨rfl, hb⟩; refine ⟨_, rfl, ?_⟩; have n0_ := Aside0.mk (blk_below (kX BK237) hb); have n1_ := Aside0.mk (blk_below (kX BK238) hb); have n2_ := Aside0.mk (WOK.below (g := G_t240) (es := t240) (by repeat (first | (with_reducible exact HQt240.out) | (with_reducible refine WOK.alloc ?_ _) | (with_reducible refine WOK.drewN ?_ _) | (with_reducible refine WOK.drew ?_))) hb); have n3_ := Aside0.mk (ROK.below (g := G_t241) (cs := t241) (by repeat (first | (with_reducible exact HQt241.out) | (with_reducible refine ROK.alloc ?_ _) | (with_reducible refine ROK.drewN ?_ _) | (with_reducible refine ROK.drew ?_))) hb); have n4_ := Aside0.mk (below_step (bX2 HB GE237 GE238) hb); clear BK237; clear BK238; clear HQt240; clear HQt241; clear HB; have BK237 := n0_; have BK238 := n1_; have HQt240 := n2_; have HQt241 := n3_; have HB := n4_; clear n0_ n1_ n2_ n3_ n4_
    (try clear hb)
    (try clear hb2)
    (try clear hk)
    (try clear hi)
    refine hK.out _ _ ⟨(blk_cell BK237.out 0).trans rfl, (blk_cell BK237.out 1).trans rfl⟩ (fun hHeld => ?_); clear hK K; refine norm_ (a' := ?_) ?_ ?_; rotate_left
    ·show Act.put _ (some 47) _ = _
     simp only [Act.put, List.setIfInBounds_toArray, List.set_cons_zero, List.set_cons_succ, i64_w, i32_w]
     rfl
    refine pure_ (i := 15) (N := some 48) (v := ?_) (a' := ?_) #[true, true, true, true, true, true, true, true, true, true, true, true, true, true, true, true, false, false] rfl rfl (any_of HT_.out (by kernel_rfl)) (fun _ _ _ h => h) (Or.inl ⟨by rfl, ?_⟩) ?_ ?_; rotate_left
    ·intro w'
     go_simp
     with_reducible rfl
    rotate_left
    ·simp only [Act.put, List.setIfInBounds_toArray, List.set_cons_zero, List.set_cons_succ, i64_w, i32_w]
     rfl
    refine pure_ (i := 16) (N := some 49) (v := ?_) (a' := ?_) #[true, true, true, true, true, true, true, true, true, true, true, true, true, true, true, true, true, false] rfl rfl (any_of HT_.out (by kernel_rfl)) (fun _ _ _ h => h) (Or.inl ⟨by rfl, ?_⟩) ?_ ?_; rotate_left
    ·intro w'
     go_simp
     with_reducible rfl
    rotate_left
    ·simp only [Act.put, List.setIfInBounds_toArray, List.set_cons_zero, List.set_cons_succ, i64_w, i32_w]
     rfl
    refine pure_ (i := 17) (N := some 6) (v := ?_) (a' := ?_) #[true, true, true, true, true, true, true, true, true, true, true, true, true, true, true, true, true, true] rfl rfl (any_of HT_.out (by kernel_rfl)) (fun _ _ _ h => h) (Or.inl ⟨by rfl, ?_⟩) ?_ ?_; rotate_left
    ·intro w'
     go_simp
     with_reducible rfl
    rotate_left
    ·simp only [Act.put, List.setIfInBounds_toArray, List.set_cons_zero, List.set_cons_succ, i64_w, i32_w]
     rfl
    refine done_ (done_of HT_.out (by kernel_rfl)) ?_
    try go_wp2
    go_ret
    exact ⟨by first | rfl | (simp [errW_none, errW_some] <;> rfl) | (simp [*, errW_none, errW_some] <;> rfl), bX2 HB GE237 GE238⟩
   ·rw [if_neg c11] at H
    have c11b0 : (t243 == t245) = false := beq_eq_false_iff_ne.mpr c11; have c11b1 : (t243 != t245) = true := bne_iff_ne.mpr c11; obtain rfl := Option.some.inj H; go_enter Tryz.func3, Tryz.ntmps3
    try go_wp2_with (first | ((with_reducible refine gate_dst (N := 4) rfl ?_); refine box_event ?hg (N := 4) ?hd (cs := #[.int .i64 a1_0, .string a1_1]) (t := 24) ?hr ?_; (case hd => rfl); (case hg => rfl); (case hr => first | (go_simp; done) | (go_simp; rfl)); intro gb237 hg w29 hbox hb; have n0_ := Aside0.mk (below_step (bX HB) hb); have n1_ := Aside0.mk (hbox); have n2_ := Aside0.mk ((by rw [hg]; exact (below_size (bX HB)) : w.heap.size ≤ gb237)); have n3_ := Aside0.mk ((by rw [hg]; exact (below_size (bX HB)) : w.heap.size ≤ gb237)); clear HB; have HB := n0_; have BK237 := n1_; have GW237 := n2_; have GE237 := n3_; clear n0_ n1_ n2_ n3_; clear hb hbox hg) | ((with_reducible refine gate_dst (N := 5) rfl ?_); refine box_event ?hg (N := 5) ?hd (cs := #[.int .i64 a2_0, .string a2_1]) (t := 24) ?hr ?_; (case hd => rfl); (case hg => rfl); (case hr => first | (go_simp; done) | (go_simp; rfl)); intro gb238 hg w30 hbox hb; have n0_ := Aside0.mk (blk_below (kX BK237) hb); have n1_ := Aside0.mk (below_step (bX1 HB GE237) hb); have n2_ := Aside0.mk (hbox); have n3_ := Aside0.mk ((by rw [hg]; exact (below_size (bX1 HB GE237)) : w.heap.size ≤ gb238)); have n4_ := Aside0.mk ((by rw [hg]; exact (below_size (bX1 HB GE237)) : w.heap.size ≤ gb238)); have n5_ := Aside0.mk ((by rw [hg]; exact Nat.ne_of_lt (blk_lt (kX BK237)) : gb237 ≠ gb238)); have n6_ := Aside0.mk ((by rw [hg]; exact Nat.ne_of_gt (blk_lt (kX BK237)) : gb238 ≠ gb237)); clear BK237; clear HB; have BK237 := n0_; have HB := n1_; have BK238 := n2_; have GW238 := n3_; have GE238 := n4_; have NB237_238 := n5_; have NB238_237 := n6_; clear n0_ n1_ n2_ n3_ n4_ n5_ n6_; clear hb hbox hg) | ((with_reducible refine gate_callee (f := 8) rfl ?_); refine goesL_ (some 13) rfl rfl Tryz.func8 (by kernel_rfl) rfl #[] rfl (by (try simp only [List.map_toArray, List.map_cons, List.map_nil]); first | done | rfl | (simp only [List.length_drop, List.length_take]; rfl)) ?_; (with_reducible refine (arbiterlaw07_awake.calls  true _ A4.out).mono ?_); rintro e w31 ⟨rfl, hb⟩; refine ⟨_, rfl, ?_⟩; have n0_ := Aside0.mk (blk_below (kX BK237) hb); have n1_ := Aside0.mk (blk_below (kX BK238) hb); have n2_ := Aside0.mk (below_step (bX2 HB GE237 GE238) hb); clear BK237; clear BK238; clear HB; have BK237 := n0_; have BK238 := n1_; have HB := n2_; clear n0_ n1_ n2_; (try clear hb); (try clear hb2); (try clear hk); (try clear hi)) | ((with_reducible refine gate_callee (f := 9) rfl ?_); refine goesL_ (some 16) rfl rfl Tryz.func9 (by kernel_rfl) rfl #[.slice A0 l0.length c0] rfl (by (try simp only [List.map_toArray, List.map_cons, List.map_nil]); first | done | rfl | (simp only [List.length_drop, List.length_take]; rfl)) ?_; (with_reducible refine (arbiterlaw07_built.calls _ _ l0 t240 _ ?side1 ?side2 A6.out).mono ?_); (case side1 => repeat (first | exact (Kd.C_below HR0.out HB.out) | (with_reducible refine Kd.C_alloc ?_ _) | (with_reducible refine Kd.C_drewN ?_ _) | (with_reducible refine Kd.C_drew ?_))); (case side2 => exact HC0.out); rintro e w32 ⟨G_t240, rfl, hqt240, hb⟩; refine ⟨_, rfl, ?_⟩; have n0_ := Aside0.mk (blk_below (kX BK237) hb); have n1_ := Aside0.mk (blk_below (kX BK238) hb); have n2_ := Aside0.mk (hqt240); have n3_ := Aside0.mk (below_step (bX2 HB GE237 GE238) hb); clear BK237; clear BK238; clear HB; have BK237 := n0_; have BK238 := n1_; have HQt240 := n2_; have HB := n3_; clear n0_ n1_ n2_ n3_; (try clear hb); (try clear hb2); (try clear hk); (try clear hi)) | ((with_reducible refine gate_callee (f := 10) rfl ?_); refine goesL_ (some 18) rfl rfl Tryz.func10 (by kernel_rfl) rfl #[.slice A0 l0.length c0] rfl (by (try simp only [List.map_toArray, List.map_cons, List.map_nil]); first | done | rfl | (simp only [List.length_drop, List.length_take]; rfl)) ?_; (with_reducible refine (arbiterref06_Of.calls _ _ l0 t241 _ ?side1 ?side2 A7.out).mono ?_); (case side1 => repeat (first | exact (Kd.C_below HR0.out HB.out) | (with_reducible refine Kd.C_alloc ?_ _) | (with_reducible refine Kd.C_drewN ?_ _) | (with_reducible refine Kd.C_drew ?_))); (case side2 => exact HC0.out); rintro e w33 ⟨G_t241, rfl, hqt241, hb⟩; refine ⟨_, rfl, ?_⟩; have n0_ := Aside0.mk (blk_below (kX BK237) hb); have n1_ := Aside0.mk (blk_below (kX BK238) hb); have n2_ := Aside0.mk (WOK.below (g := G_t240) (es := t240) (by repeat (first | (with_reducible exact HQt240.out) | (with_reducible refine WOK.alloc ?_ _) | (with_reducible refine WOK.drewN ?_ _) | (with_reducible refine WOK.drew ?_))) hb); have n3_ := Aside0.mk (hqt241); have n4_ := Aside0.mk (below_step (bX2 HB GE237 GE238) hb); clear BK237; clear BK238; clear HQt240; clear HB; have BK237 := n0_; have BK238 := n1_; have HQt240 := n2_; have HQt241 := n3_; have HB := n4_; clear n0_ n1_ n2_ n3_ n4_; (try clear hb); (try clear hb2); (try clear hk); (try clear hi); have hnb34 := NB237_238.out; have hnc34 := NB238_237.out; have hcz35_0 : w33.cell? ⟨gb237, 0, none⟩ = some (.int .i64 a1_0) := (blk_cell BK237.out 0).trans rfl; have hcz35_1 : w33.cell? ⟨gb237, 1, none⟩ = some (.string a1_1) := (blk_cell BK237.out 1).trans rfl; have hfz35_0 := blk_frozen BK237.out 0; have hfz35_1 := blk_frozen BK237.out 1; have hcz36_0 : w33.cell? ⟨gb238, 0, none⟩ = some (.int .i64 a2_0) := (blk_cell BK238.out 0).trans rfl; have hcz36_1 : w33.cell? ⟨gb238, 1, none⟩ = some (.string a2_1) := (blk_cell BK238.out 1).trans rfl; have hfz36_0 := blk_frozen BK238.out 0; have hfz36_1 := blk_frozen BK238.out 1) | ((first | ((with_reducible refine gate_callee (f := 11) rfl ?_); refine goesL_ (some 23) rfl rfl Tryz.func11 (by kernel_rfl) rfl #[.pointer (some ⟨G_t240, 0, none⟩), .agg #[.int .i64 a1_0, .string a1_1], .agg #[.int .i64 a2_0, .string a2_1]] rfl (by (try simp only [List.map_toArray, List.map_cons, List.map_nil]); first | done | rfl | (simp only [List.length_drop, List.length_take]; rfl)) ?_) | go_at_call 11); (with_reducible refine (arrays_Sub.calls G_t240 t240 a1_0 a1_1 a2_0 a2_1 t242 t243 _ ?side1 A8.out).mono ?_); (case side1 => repeat (first | (with_reducible exact HQt240.out) | (with_reducible refine WOK.alloc ?_ _) | (with_reducible refine WOK.drewN ?_ _) | (with_reducible refine WOK.drew ?_))); rintro e w37 ⟨rfl, hb⟩; (try refine ⟨_, rfl, ?_⟩); have n0_ := Aside0.mk (blk_below (kX BK237) hb); have n1_ := Aside0.mk (blk_below (kX BK238) hb); have n2_ := Aside0.mk (WOK.below (g := G_t240) (es := t240) (by repeat (first | (with_reducible exact HQt240.out) | (with_reducible refine WOK.alloc ?_ _) | (with_reducible refine WOK.drewN ?_ _) | (with_reducible refine WOK.drew ?_))) hb); have n3_ := Aside0.mk (ROK.below (g := G_t241) (cs := t241) (by repeat (first | (with_reducible exact HQt241.out) | (with_reducible refine ROK.alloc ?_ _) | (with_reducible refine ROK.drewN ?_ _) | (with_reducible refine ROK.drew ?_))) hb); have n4_ := Aside0.mk (below_step (bX2 HB GE237 GE238) hb); clear BK237; clear BK238; clear HQt240; clear HQt241; clear HB; have BK237 := n0_; have BK238 := n1_; have HQt240 := n2_; have HQt241 := n3_; have HB := n4_; clear n0_ n1_ n2_ n3_ n4_; (try clear hb); (try clear hb2); (try clear hk); (try clear hi); have hcz38_0 : w37.cell? ⟨gb237, 0, none⟩ = some (.int .i64 a1_0) := (blk_cell BK237.out 0).trans rfl; have hcz38_1 : w37.cell? ⟨gb237, 1, none⟩ = some (.string a1_1) := (blk_cell BK237.out 1).trans rfl; have hfz38_0 := blk_frozen BK237.out 0; have hfz38_1 := blk_frozen BK237.out 1; have hcz39_0 : w37.cell? ⟨gb238, 0, none⟩ = some (.int .i64 a2_0) := (blk_cell BK238.out 0).trans rfl; have hcz39_1 : w37.cell? ⟨gb238, 1, none⟩ = some (.string a2_1) := (blk_cell BK238.out 1).trans rfl; have hfz39_0 := blk_frozen BK238.out 0; have hfz39_1 := blk_frozen BK238.out 1) | ((with_reducible refine gate_callee (f := 12) rfl ?_); refine goesL_ (some 30) rfl rfl Tryz.func12 (by kernel_rfl) rfl #[.pointer (some ⟨G_t241, 0, none⟩), .agg #[.int .i64 a1_0, .string a1_1], .agg #[.int .i64 a2_0, .string a2_1]] rfl (by (try simp only [List.map_toArray, List.map_cons, List.map_nil]); first | done | rfl | (simp only [List.length_drop, List.length_take]; rfl)) ?_; (with_reducible refine (arbiterref07_Sub.calls k G_t241 t241 a1_0 a1_1 a2_0 a2_1 t244 t245 _ ?side1 A9.out).mono ?_); (case side1 => repeat (first | (with_reducible exact HQt241.out) | (with_reducible refine ROK.alloc ?_ _) | (with_reducible refine ROK.drewN ?_ _) | (with_reducible refine ROK.drew ?_))); rintro e w40 ⟨rfl, hb⟩; refine ⟨_, rfl, ?_⟩; have n0_ := Aside0.mk (blk_below (kX BK237) hb); have n1_ := Aside0.mk (blk_below (kX BK238) hb); have n2_ := Aside0.mk (WOK.below (g := G_t240) (es := t240) (by repeat (first | (with_reducible exact HQt240.out) | (with_reducible refine WOK.alloc ?_ _) | (with_reducible refine WOK.drewN ?_ _) | (with_reducible refine WOK.drew ?_))) hb); have n3_ := Aside0.mk (ROK.below (g := G_t241) (cs := t241) (by repeat (first | (with_reducible exact HQt241.out) | (with_reducible refine ROK.alloc ?_ _) | (with_reducible refine ROK.drewN ?_ _) | (with_reducible refine ROK.drew ?_))) hb); have n4_ := Aside0.mk (below_step (bX2 HB GE237 GE238) hb); clear BK237; clear BK238; clear HQt240; clear HQt241; clear HB; have BK237 := n0_; have BK238 := n1_; have HQt240 := n2_; have HQt241 := n3_; have HB := n4_; clear n0_ n1_ n2_ n3_ n4_; (try clear hb); (try clear hb2); (try clear hk); (try clear hi)))
    have n0_ := Aside0.mk (blk_drew BK237.out); have n1_ := Aside0.mk (blk_drew BK238.out); have n2_ := Aside0.mk (WOK.drew HQt240.out); have n3_ := Aside0.mk (ROK.drew HQt241.out); have n4_ := Aside0.mk (below_drew1 HB.out); clear BK237; clear BK238; clear HQt240; clear HQt241; clear HB; have BK237 := n0_; have BK238 := n1_; have HQt240 := n2_; have HQt241 := n3_; have HB := n4_; clear n0_ n1_ n2_ n3_ n4_; refine start_ (n := 18) (S := fun w' => True) (ds := []) #[false, false, false, false, false, false, false, false, false, false, false, false, false, false, false, false, false, false] (by kernel_rfl) rfl rfl trivial (fun hHeld => ?_); refine with_tabW arbiterlaw07_ArraysSub.tab7 arbiterlaw07_ArraysSub.bits7 (fun HT_ HW_ => ?_); generalize w40.drew = w41 at BK237 BK238 HQt240 HQt241 HB hHeld ⊢; refine pure_ (i := 0) (N := some 33) (v := ?_) (a' := ?_) #[true, false, false, false, false, false, false, false, false, false, false, false, false, false, false, false, false, false] rfl rfl (any_of HT_.out (by kernel_rfl)) (fun _ _ _ h => h) (Or.inl ⟨by rfl, ?_⟩) ?_ ?_; rotate_left
    ·intro w'
     go_simp
     with_reducible rfl
    rotate_left
    ·simp only [Act.put, List.setIfInBounds_toArray, List.set_cons_zero, List.set_cons_succ, i64_w, i32_w]
     rfl
    refine pure_ (i := 1) (N := some 34) (v := ?_) (a' := ?_) #[true, true, false, false, false, false, false, false, false, false, false, false, false, false, false, false, false, false] rfl rfl (any_of HT_.out (by kernel_rfl)) (fun _ _ _ h => h) (Or.inl ⟨by rfl, ?_⟩) ?_ ?_; rotate_left
    ·intro w'
     go_simp
     with_reducible rfl
    rotate_left
    ·simp only [Act.put, List.setIfInBounds_toArray, List.set_cons_zero, List.set_cons_succ, i64_w, i32_w]
     rfl
    refine pure_ (i := 2) (N := some 35) (v := ?_) (a' := ?_) #[true, true, true, false, false, false, false, false, false, false, false, false, false, false, false, false, false, false] rfl rfl (any_of HT_.out (by kernel_rfl)) (fun _ _ _ h => h) (Or.inl ⟨by rfl, ?_⟩) ?_ ?_; rotate_left
    ·intro w'
     go_simp
     with_reducible rfl
    rotate_left
    ·simp only [Act.put, List.setIfInBounds_toArray, List.set_cons_zero, List.set_cons_succ, i64_w, i32_w]
     rfl
    refine pure_ (i := 3) (N := some 36) (v := ?_) (a' := ?_) #[true, true, true, true, false, false, false, false, false, false, false, false, false, false, false, false, false, false] rfl rfl (any_of HT_.out (by kernel_rfl)) (fun _ _ _ h => h) (Or.inl ⟨by rfl, ?_⟩) ?_ ?_; rotate_left
    ·intro w'
     go_simp
     with_reducible rfl
    rotate_left
    ·simp only [Act.put, List.setIfInBounds_toArray, List.set_cons_zero, List.set_cons_succ, i64_w, i32_w]
     rfl
    refine pure_ (i := 4) (N := some 37) (v := ?_) (a' := ?_) #[true, true, true, true, true, false, false, false, false, false, false, false, false, false, false, false, false, false] rfl rfl (any_of HT_.out (by kernel_rfl)) (fun _ _ _ h => h) (Or.inl ⟨by rfl, ?_⟩) ?_ ?_; rotate_left
    ·intro w'
     go_simp
     with_reducible rfl
    rotate_left
    ·simp only [Act.put, List.setIfInBounds_toArray, List.set_cons_zero, List.set_cons_succ, i64_w, i32_w]
     rfl
    refine pure_ (i := 5) (N := some 38) (v := ?_) (a' := ?_) #[true, true, true, true, true, true, false, false, false, false, false, false, false, false, false, false, false, false] rfl rfl (any_of HT_.out (by kernel_rfl)) (fun _ _ _ h => h) (Or.inl ⟨by rfl, ?_⟩) ?_ ?_; rotate_left
    ·intro w'
     go_simp
     with_reducible rfl
    rotate_left
    ·simp only [Act.put, List.setIfInBounds_toArray, List.set_cons_zero, List.set_cons_succ, i64_w, i32_w]
     rfl
    refine pure_ (i := 6) (N := some 39) (v := ?_) (a' := ?_) #[true, true, true, true, true, true, true, false, false, false, false, false, false, false, false, false, false, false] rfl rfl (any_of HT_.out (by kernel_rfl)) (fun _ _ _ h => h) (Or.inl ⟨by rfl, ?_⟩) ?_ ?_; rotate_left
    ·intro w'
     go_simp
     with_reducible rfl
    rotate_left
    ·simp only [Act.put, List.setIfInBounds_toArray, List.set_cons_zero, List.set_cons_succ, i64_w, i32_w]
     rfl
    refine pure_ (i := 7) (N := some 40) (v := ?_) (a' := ?_) #[true, true, true, true, true, true, true, true, false, false, false, false, false, false, false, false, false, false] rfl rfl (any_of HT_.out (by kernel_rfl)) (fun _ _ _ h => h) (Or.inl ⟨by rfl, ?_⟩) ?_ ?_; rotate_left
    ·intro w'
     go_simp
     with_reducible rfl
    rotate_left
    ·simp only [Act.put, List.setIfInBounds_toArray, List.set_cons_zero, List.set_cons_succ, i64_w, i32_w]
     rfl
    refine pure_ (i := 8) (N := some 41) (v := ?_) (a' := ?_) #[true, true, true, true, true, true, true, true, true, false, false, false, false, false, false, false, false, false] rfl rfl (any_of HT_.out (by kernel_rfl)) (fun _ _ _ h => h) (Or.inl ⟨by rfl, ?_⟩) ?_ ?_; rotate_left
    ·intro w'
     go_simp
     with_reducible rfl
    rotate_left
    ·simp only [Act.put, List.setIfInBounds_toArray, List.set_cons_zero, List.set_cons_succ, i64_w, i32_w]
     rfl
    refine pure_ (i := 9) (N := some 42) (v := undef) (a' := ?_) #[true, true, true, true, true, true, true, true, true, true, false, false, false, false, false, false, false, false] rfl rfl (any_of HT_.out (by kernel_rfl)) (fun _ _ _ h => h) (Or.inr ⟨by rfl, rfl⟩) ?_ ?_; rotate_left
    ·simp only [Act.put, List.setIfInBounds_toArray, List.set_cons_zero, List.set_cons_succ, i64_w, i32_w]
     rfl
    refine pure_ (i := 10) (N := some 43) (v := undef) (a' := ?_) #[true, true, true, true, true, true, true, true, true, true, true, false, false, false, false, false, false, false] rfl rfl (any_of HT_.out (by kernel_rfl)) (fun _ _ _ h => h) (Or.inr ⟨by rfl, rfl⟩) ?_ ?_; rotate_left
    ·simp only [Act.put, List.setIfInBounds_toArray, List.set_cons_zero, List.set_cons_succ, i64_w, i32_w]
     rfl
    refine pure_ (i := 11) (N := some 44) (v := undef) (a' := ?_) #[true, true, true, true, true, true, true, true, true, true, true, true, false, false, false, false, false, false] rfl rfl (any_of HT_.out (by kernel_rfl)) (fun _ _ _ h => h) (Or.inr ⟨by rfl, rfl⟩) ?_ ?_; rotate_left
    ·simp only [Act.put, List.setIfInBounds_toArray, List.set_cons_zero, List.set_cons_succ, i64_w, i32_w]
     rfl
    refine pure_ (i := 12) (N := some 45) (v := undef) (a' := ?_) #[true, true, true, true, true, true, true, true, true, true, true, true, true, false, false, false, false, false] rfl rfl (any_of HT_.out (by kernel_rfl)) (fun _ _ _ h => h) (Or.inr ⟨by rfl, rfl⟩) ?_ ?_; rotate_left
    ·simp only [Act.put, List.setIfInBounds_toArray, List.set_cons_zero, List.set_cons_succ, i64_w, i32_w]
     rfl
    refine pure_ (i := 13) (N := some 46) (v := undef) (a' := ?_) #[true, true, true, true, true, true, true, true, true, true, true, true, true, true, false, false, false, false] rfl rfl (any_of HT_.out (by kernel_rfl)) (fun _ _ _ h => h) (Or.inr ⟨by rfl, rfl⟩) ?_ ?_; rotate_left
    ·simp only [Act.put, List.setIfInBounds_toArray, List.set_cons_zero, List.set_cons_succ, i64_w, i32_w]
     rfl
    refine pure_ (i := 14) (N := some 47) (v := undef) (a' := ?_) #[true, true, true, true, true, true, true, true, true, true, true, true, true, true, true, false, false, false] rfl rfl (any_of HT_.out (by kernel_rfl)) (fun _ _ _ h => h) (Or.inr ⟨by rfl, rfl⟩) ?_ ?_; rotate_left
    ·simp only [Act.put, List.setIfInBounds_toArray, List.set_cons_zero, List.set_cons_succ, i64_w, i32_w]
     rfl
    refine pure_ (i := 15) (N := some 48) (v := undef) (a' := ?_) #[true, true, true, true, true, true, true, true, true, true, true, true, true, true, true, true, false, false] rfl rfl (any_of HT_.out (by kernel_rfl)) (fun _ _ _ h => h) (Or.inr ⟨by rfl, rfl⟩) ?_ ?_; rotate_left
    ·simp only [Act.put, List.setIfInBounds_toArray, List.set_cons_zero, List.set_cons_succ, i64_w, i32_w]
     rfl
    refine pure_ (i := 16) (N := some 49) (v := ?_) (a' := ?_) #[true, true, true, true, true, true, true, true, true, true, true, true, true, true, true, true, true, false] rfl rfl (any_of HT_.out (by kernel_rfl)) (fun _ _ _ h => h) (Or.inl ⟨by rfl, ?_⟩) ?_ ?_; rotate_left
    ·intro w'
     go_simp
     with_reducible rfl
    rotate_left
    ·simp only [Act.put, List.setIfInBounds_toArray, List.set_cons_zero, List.set_cons_succ, i64_w, i32_w]
     rfl
    refine pure_ (i := 17) (N := some 6) (v := ?_) (a' := ?_) #[true, true, true, true, true, true, true, true, true, true, true, true, true, true, true, true, true, true] rfl rfl (any_of HT_.out (by kernel_rfl)) (fun _ _ _ h => h) (Or.inl ⟨by rfl, ?_⟩) ?_ ?_; rotate_left
    ·intro w'
     go_simp
     with_reducible rfl
    rotate_left
    ·simp only [Act.put, List.setIfInBounds_toArray, List.set_cons_zero, List.set_cons_succ, i64_w, i32_w]
     rfl
    refine done_ (done_of HT_.out (by kernel_rfl)) ?_
    try go_wp2
    go_ret
    exact ⟨by first | rfl | (simp [errW_none, errW_some] <;> rfl) | (simp [*, errW_none, errW_some] <;> rfl), bX2 HB GE237 GE238⟩
  ·rw [if_neg c10] at H
   have c10b0 : (t242 == t244) = false := by simpa using c10
   (try (have c10b1 : decide (t242 = t244) = false := by simpa using c10))
   (try (have c10b2 : (t242 == t244) = false := by simpa using c10))
   (try (have c10b3 : ¬ (t242 = t244) := by simpa using c10))
   clear c10; obtain rfl := Option.some.inj H; go_enter Tryz.func3, Tryz.ntmps3
   try go_wp2_with (first | ((with_reducible refine gate_dst (N := 4) rfl ?_); refine box_event ?hg (N := 4) ?hd (cs := #[.int .i64 a1_0, .string a1_1]) (t := 24) ?hr ?_; (case hd => rfl); (case hg => rfl); (case hr => first | (go_simp; done) | (go_simp; rfl)); intro gb237 hg w42 hbox hb; have n0_ := Aside0.mk (below_step (bX HB) hb); have n1_ := Aside0.mk (hbox); have n2_ := Aside0.mk ((by rw [hg]; exact (below_size (bX HB)) : w.heap.size ≤ gb237)); have n3_ := Aside0.mk ((by rw [hg]; exact (below_size (bX HB)) : w.heap.size ≤ gb237)); clear HB; have HB := n0_; have BK237 := n1_; have GW237 := n2_; have GE237 := n3_; clear n0_ n1_ n2_ n3_; clear hb hbox hg) | ((with_reducible refine gate_dst (N := 5) rfl ?_); refine box_event ?hg (N := 5) ?hd (cs := #[.int .i64 a2_0, .string a2_1]) (t := 24) ?hr ?_; (case hd => rfl); (case hg => rfl); (case hr => first | (go_simp; done) | (go_simp; rfl)); intro gb238 hg w43 hbox hb; have n0_ := Aside0.mk (blk_below (kX BK237) hb); have n1_ := Aside0.mk (below_step (bX1 HB GE237) hb); have n2_ := Aside0.mk (hbox); have n3_ := Aside0.mk ((by rw [hg]; exact (below_size (bX1 HB GE237)) : w.heap.size ≤ gb238)); have n4_ := Aside0.mk ((by rw [hg]; exact (below_size (bX1 HB GE237)) : w.heap.size ≤ gb238)); have n5_ := Aside0.mk ((by rw [hg]; exact Nat.ne_of_lt (blk_lt (kX BK237)) : gb237 ≠ gb238)); have n6_ := Aside0.mk ((by rw [hg]; exact Nat.ne_of_gt (blk_lt (kX BK237)) : gb238 ≠ gb237)); clear BK237; clear HB; have BK237 := n0_; have HB := n1_; have BK238 := n2_; have GW238 := n3_; have GE238 := n4_; have NB237_238 := n5_; have NB238_237 := n6_; clear n0_ n1_ n2_ n3_ n4_ n5_ n6_; clear hb hbox hg) | ((with_reducible refine gate_callee (f := 8) rfl ?_); refine goesL_ (some 13) rfl rfl Tryz.func8 (by kernel_rfl) rfl #[] rfl (by (try simp only [List.map_toArray, List.map_cons, List.map_nil]); first | done | rfl | (simp only [List.length_drop, List.length_take]; rfl)) ?_; (with_reducible refine (arbiterlaw07_awake.calls  true _ A4.out).mono ?_); rintro e w44 ⟨rfl, hb⟩; refine ⟨_, rfl, ?_⟩; have n0_ := Aside0.mk (blk_below (kX BK237) hb); have n1_ := Aside0.mk (blk_below (kX BK238) hb); have n2_ := Aside0.mk (below_step (bX2 HB GE237 GE238) hb); clear BK237; clear BK238; clear HB; have BK237 := n0_; have BK238 := n1_; have HB := n2_; clear n0_ n1_ n2_; (try clear hb); (try clear hb2); (try clear hk); (try clear hi)) | ((with_reducible refine gate_callee (f := 9) rfl ?_); refine goesL_ (some 16) rfl rfl Tryz.func9 (by kernel_rfl) rfl #[.slice A0 l0.length c0] rfl (by (try simp only [List.map_toArray, List.map_cons, List.map_nil]); first | done | rfl | (simp only [List.length_drop, List.length_take]; rfl)) ?_; (with_reducible refine (arbiterlaw07_built.calls _ _ l0 t240 _ ?side1 ?side2 A6.out).mono ?_); (case side1 => repeat (first | exact (Kd.C_below HR0.out HB.out) | (with_reducible refine Kd.C_alloc ?_ _) | (with_reducible refine Kd.C_drewN ?_ _) | (with_reducible refine Kd.C_drew ?_))); (case side2 => exact HC0.out); rintro e w45 ⟨G_t240, rfl, hqt240, hb⟩; refine ⟨_, rfl, ?_⟩; have n0_ := Aside0.mk (blk_below (kX BK237) hb); have n1_ := Aside0.mk (blk_below (kX BK238) hb); have n2_ := Aside0.mk (hqt240); have n3_ := Aside0.mk (below_step (bX2 HB GE237 GE238) hb); clear BK237; clear BK238; clear HB; have BK237 := n0_; have BK238 := n1_; have HQt240 := n2_; have HB := n3_; clear n0_ n1_ n2_ n3_; (try clear hb); (try clear hb2); (try clear hk); (try clear hi)) | ((with_reducible refine gate_callee (f := 10) rfl ?_); refine goesL_ (some 18) rfl rfl Tryz.func10 (by kernel_rfl) rfl #[.slice A0 l0.length c0] rfl (by (try simp only [List.map_toArray, List.map_cons, List.map_nil]); first | done | rfl | (simp only [List.length_drop, List.length_take]; rfl)) ?_; (with_reducible refine (arbiterref06_Of.calls _ _ l0 t241 _ ?side1 ?side2 A7.out).mono ?_); (case side1 => repeat (first | exact (Kd.C_below HR0.out HB.out) | (with_reducible refine Kd.C_alloc ?_ _) | (with_reducible refine Kd.C_drewN ?_ _) | (with_reducible refine Kd.C_drew ?_))); (case side2 => exact HC0.out); rintro e w46 ⟨G_t241, rfl, hqt241, hb⟩; refine ⟨_, rfl, ?_⟩; have n0_ := Aside0.mk (blk_below (kX BK237) hb); have n1_ := Aside0.mk (blk_below (kX BK238) hb); have n2_ := Aside0.mk (WOK.below (g := G_t240) (es := t240) (by repeat (first | (with_reducible exact HQt240.out) | (with_reducible refine WOK.alloc ?_ _) | (with_reducible refine WOK.drewN ?_ _) | (with_reducible refine WOK.drew ?_))) hb); have n3_ := Aside0.mk (hqt241); have n4_ := Aside0.mk (below_step (bX2 HB GE237 GE238) hb); clear BK237; clear BK238; clear HQt240; clear HB; have BK237 := n0_; have BK238 := n1_; have HQt240 := n2_; have HQt241 := n3_; have HB := n4_; clear n0_ n1_ n2_ n3_ n4_; (try clear hb); (try clear hb2); (try clear hk); (try clear hi); have hnb47 := NB237_238.out; have hnc47 := NB238_237.out; have hcz48_0 : w46.cell? ⟨gb237, 0, none⟩ = some (.int .i64 a1_0) := (blk_cell BK237.out 0).trans rfl; have hcz48_1 : w46.cell? ⟨gb237, 1, none⟩ = some (.string a1_1) := (blk_cell BK237.out 1).trans rfl; have hfz48_0 := blk_frozen BK237.out 0; have hfz48_1 := blk_frozen BK237.out 1; have hcz49_0 : w46.cell? ⟨gb238, 0, none⟩ = some (.int .i64 a2_0) := (blk_cell BK238.out 0).trans rfl; have hcz49_1 : w46.cell? ⟨gb238, 1, none⟩ = some (.string a2_1) := (blk_cell BK238.out 1).trans rfl; have hfz49_0 := blk_frozen BK238.out 0; have hfz49_1 := blk_frozen BK238.out 1) | ((first | ((with_reducible refine gate_callee (f := 11) rfl ?_); refine goesL_ (some 23) rfl rfl Tryz.func11 (by kernel_rfl) rfl #[.pointer (some ⟨G_t240, 0, none⟩), .agg #[.int .i64 a1_0, .string a1_1], .agg #[.int .i64 a2_0, .string a2_1]] rfl (by (try simp only [List.map_toArray, List.map_cons, List.map_nil]); first | done | rfl | (simp only [List.length_drop, List.length_take]; rfl)) ?_) | go_at_call 11); (with_reducible refine (arrays_Sub.calls G_t240 t240 a1_0 a1_1 a2_0 a2_1 t242 t243 _ ?side1 A8.out).mono ?_); (case side1 => repeat (first | (with_reducible exact HQt240.out) | (with_reducible refine WOK.alloc ?_ _) | (with_reducible refine WOK.drewN ?_ _) | (with_reducible refine WOK.drew ?_))); rintro e w50 ⟨rfl, hb⟩; (try refine ⟨_, rfl, ?_⟩); have n0_ := Aside0.mk (blk_below (kX BK237) hb); have n1_ := Aside0.mk (blk_below (kX BK238) hb); have n2_ := Aside0.mk (WOK.below (g := G_t240) (es := t240) (by repeat (first | (with_reducible exact HQt240.out) | (with_reducible refine WOK.alloc ?_ _) | (with_reducible refine WOK.drewN ?_ _) | (with_reducible refine WOK.drew ?_))) hb); have n3_ := Aside0.mk (ROK.below (g := G_t241) (cs := t241) (by repeat (first | (with_reducible exact HQt241.out) | (with_reducible refine ROK.alloc ?_ _) | (with_reducible refine ROK.drewN ?_ _) | (with_reducible refine ROK.drew ?_))) hb); have n4_ := Aside0.mk (below_step (bX2 HB GE237 GE238) hb); clear BK237; clear BK238; clear HQt240; clear HQt241; clear HB; have BK237 := n0_; have BK238 := n1_; have HQt240 := n2_; have HQt241 := n3_; have HB := n4_; clear n0_ n1_ n2_ n3_ n4_; (try clear hb); (try clear hb2); (try clear hk); (try clear hi); have hcz51_0 : w50.cell? ⟨gb237, 0, none⟩ = some (.int .i64 a1_0) := (blk_cell BK237.out 0).trans rfl; have hcz51_1 : w50.cell? ⟨gb237, 1, none⟩ = some (.string a1_1) := (blk_cell BK237.out 1).trans rfl; have hfz51_0 := blk_frozen BK237.out 0; have hfz51_1 := blk_frozen BK237.out 1; have hcz52_0 : w50.cell? ⟨gb238, 0, none⟩ = some (.int .i64 a2_0) := (blk_cell BK238.out 0).trans rfl; have hcz52_1 : w50.cell? ⟨gb238, 1, none⟩ = some (.string a2_1) := (blk_cell BK238.out 1).trans rfl; have hfz52_0 := blk_frozen BK238.out 0; have hfz52_1 := blk_frozen BK238.out 1) | ((with_reducible refine gate_callee (f := 12) rfl ?_); refine goesL_ (some 30) rfl rfl Tryz.func12 (by kernel_rfl) rfl #[.pointer (some ⟨G_t241, 0, none⟩), .agg #[.int .i64 a1_0, .string a1_1], .agg #[.int .i64 a2_0, .string a2_1]] rfl (by (try simp only [List.map_toArray, List.map_cons, List.map_nil]); first | done | rfl | (simp only [List.length_drop, List.length_take]; rfl)) ?_; (with_reducible refine (arbiterref07_Sub.calls k G_t241 t241 a1_0 a1_1 a2_0 a2_1 t244 t245 _ ?side1 A9.out).mono ?_); (case side1 => repeat (first | (with_reducible exact HQt241.out) | (with_reducible refine ROK.alloc ?_ _) | (with_reducible refine ROK.drewN ?_ _) | (with_reducible refine ROK.drew ?_))); rintro e w53 ⟨rfl, hb⟩; refine ⟨_, rfl, ?_⟩; have n0_ := Aside0.mk (blk_below (kX BK237) hb); have n1_ := Aside0.mk (blk_below (kX BK238) hb); have n2_ := Aside0.mk (WOK.below (g := G_t240) (es := t240) (by repeat (first | (with_reducible exact HQt240.out) | (with_reducible refine WOK.alloc ?_ _) | (with_reducible refine WOK.drewN ?_ _) | (with_reducible refine WOK.drew ?_))) hb); have n3_ := Aside0.mk (ROK.below (g := G_t241) (cs := t241) (by repeat (first | (with_reducible exact HQt241.out) | (with_reducible refine ROK.alloc ?_ _) | (with_reducible refine ROK.drewN ?_ _) | (with_reducible refine ROK.drew ?_))) hb); have n4_ := Aside0.mk (below_step (bX2 HB GE237 GE238) hb); clear BK237; clear BK238; clear HQt240; clear HQt241; clear HB; have BK237 := n0_; have BK238 := n1_; have HQt240 := n2_; have HQt241 := n3_; have HB := n4_; clear n0_ n1_ n2_ n3_ n4_; (try clear hb); (try clear hb2); (try clear hk); (try clear hi)))
   have n0_ := Aside0.mk (blk_drew BK237.out); have n1_ := Aside0.mk (blk_drew BK238.out); have n2_ := Aside0.mk (WOK.drew HQt240.out); have n3_ := Aside0.mk (ROK.drew HQt241.out); have n4_ := Aside0.mk (below_drew1 HB.out); clear BK237; clear BK238; clear HQt240; clear HQt241; clear HB; have BK237 := n0_; have BK238 := n1_; have HQt240 := n2_; have HQt241 := n3_; have HB := n4_; clear n0_ n1_ n2_ n3_ n4_; refine start_ (n := 18) (S := fun w' => True) (ds := []) #[false, false, false, false, false, false, false, false, false, false, false, false, false, false, false, false, false, false] (by kernel_rfl) rfl rfl trivial (fun hHeld => ?_); refine with_tabW arbiterlaw07_ArraysSub.tab7 arbiterlaw07_ArraysSub.bits7 (fun HT_ HW_ => ?_); generalize w53.drew = w54 at BK237 BK238 HQt240 HQt241 HB hHeld ⊢; refine pure_ (i := 0) (N := some 33) (v := ?_) (a' := ?_) #[true, false, false, false, false, false, false, false, false, false, false, false, false, false, false, false, false, false] rfl rfl (any_of HT_.out (by kernel_rfl)) (fun _ _ _ h => h) (Or.inl ⟨by rfl, ?_⟩) ?_ ?_; rotate_left
   ·intro w'
    go_simp
    with_reducible rfl
   rotate_left
   ·simp only [Act.put, List.setIfInBounds_toArray, List.set_cons_zero, List.set_cons_succ, i64_w, i32_w]
    rfl
   refine pure_ (i := 1) (N := some 34) (v := ?_) (a' := ?_) #[true, true, false, false, false, false, false, false, false, false, false, false, false, false, false, false, false, false] rfl rfl (any_of HT_.out (by kernel_rfl)) (fun _ _ _ h => h) (Or.inl ⟨by rfl, ?_⟩) ?_ ?_; rotate_left
   ·intro w'
    go_simp
    with_reducible rfl
   rotate_left
   ·simp only [Act.put, List.setIfInBounds_toArray, List.set_cons_zero, List.set_cons_succ, i64_w, i32_w]
    rfl
   refine pure_ (i := 2) (N := some 35) (v := ?_) (a' := ?_) #[true, true, true, false, false, false, false, false, false, false, false, false, false, false, false, false, false, false] rfl rfl (any_of HT_.out (by kernel_rfl)) (fun _ _ _ h => h) (Or.inl ⟨by rfl, ?_⟩) ?_ ?_; rotate_left
   ·intro w'
    go_simp
    with_reducible rfl
   rotate_left
   ·simp only [Act.put, List.setIfInBounds_toArray, List.set_cons_zero, List.set_cons_succ, i64_w, i32_w]
    rfl
   refine pure_ (i := 3) (N := some 36) (v := ?_) (a' := ?_) #[true, true, true, true, false, false, false, false, false, false, false, false, false, false, false, false, false, false] rfl rfl (any_of HT_.out (by kernel_rfl)) (fun _ _ _ h => h) (Or.inl ⟨by rfl, ?_⟩) ?_ ?_; rotate_left
   ·intro w'
    go_simp
    with_reducible rfl
   rotate_left
   ·simp only [Act.put, List.setIfInBounds_toArray, List.set_cons_zero, List.set_cons_succ, i64_w, i32_w]
    rfl
   refine pure_ (i := 4) (N := some 37) (v := undef) (a' := ?_) #[true, true, true, true, true, false, false, false, false, false, false, false, false, false, false, false, false, false] rfl rfl (any_of HT_.out (by kernel_rfl)) (fun _ _ _ h => h) (Or.inr ⟨by rfl, rfl⟩) ?_ ?_; rotate_left
   ·simp only [Act.put, List.setIfInBounds_toArray, List.set_cons_zero, List.set_cons_succ, i64_w, i32_w]
    rfl
   refine pure_ (i := 5) (N := some 38) (v := undef) (a' := ?_) #[true, true, true, true, true, true, false, false, false, false, false, false, false, false, false, false, false, false] rfl rfl (any_of HT_.out (by kernel_rfl)) (fun _ _ _ h => h) (Or.inr ⟨by rfl, rfl⟩) ?_ ?_; rotate_left
   ·simp only [Act.put, List.setIfInBounds_toArray, List.set_cons_zero, List.set_cons_succ, i64_w, i32_w]
    rfl
   refine pure_ (i := 6) (N := some 39) (v := undef) (a' := ?_) #[true, true, true, true, true, true, true, false, false, false, false, false, false, false, false, false, false, false] rfl rfl (any_of HT_.out (by kernel_rfl)) (fun _ _ _ h => h) (Or.inr ⟨by rfl, rfl⟩) ?_ ?_; rotate_left
   ·simp only [Act.put, List.setIfInBounds_toArray, List.set_cons_zero, List.set_cons_succ, i64_w, i32_w]
    rfl
   refine pure_ (i := 7) (N := some 40) (v := ?_) (a' := ?_) #[true, true, true, true, true, true, true, true, false, false, false, false, false, false, false, false, false, false] rfl rfl (any_of HT_.out (by kernel_rfl)) (fun _ _ _ h => h) (Or.inl ⟨by rfl, ?_⟩) ?_ ?_; rotate_left
   ·intro w'
    go_simp
    with_reducible rfl
   rotate_left
   ·simp only [Act.put, List.setIfInBounds_toArray, List.set_cons_zero, List.set_cons_succ, i64_w, i32_w]
    rfl
   refine pure_ (i := 8) (N := some 41) (v := ?_) (a' := ?_) #[true, true, true, true, true, true, true, true, true, false, false, false, false, false, false, false, false, false] rfl rfl (any_of HT_.out (by kernel_rfl)) (fun _ _ _ h => h) (Or.inl ⟨by rfl, ?_⟩) ?_ ?_; rotate_left
   ·intro w'
    go_simp
    with_reducible rfl
   rotate_left
   ·simp only [Act.put, List.setIfInBounds_toArray, List.set_cons_zero, List.set_cons_succ, i64_w, i32_w]
    rfl
   refine pure_ (i := 9) (N := some 42) (v := undef) (a' := ?_) #[true, true, true, true, true, true, true, true, true, true, false, false, false, false, false, false, false, false] rfl rfl (any_of HT_.out (by kernel_rfl)) (fun _ _ _ h => h) (Or.inr ⟨by rfl, rfl⟩) ?_ ?_; rotate_left
   ·simp only [Act.put, List.setIfInBounds_toArray, List.set_cons_zero, List.set_cons_succ, i64_w, i32_w]
    rfl
   refine pure_ (i := 10) (N := some 43) (v := undef) (a' := ?_) #[true, true, true, true, true, true, true, true, true, true, true, false, false, false, false, false, false, false] rfl rfl (any_of HT_.out (by kernel_rfl)) (fun _ _ _ h => h) (Or.inr ⟨by rfl, rfl⟩) ?_ ?_; rotate_left
   ·simp only [Act.put, List.setIfInBounds_toArray, List.set_cons_zero, List.set_cons_succ, i64_w, i32_w]
    rfl
   refine pure_ (i := 11) (N := some 44) (v := undef) (a' := ?_) #[true, true, true, true, true, true, true, true, true, true, true, true, false, false, false, false, false, false] rfl rfl (any_of HT_.out (by kernel_rfl)) (fun _ _ _ h => h) (Or.inr ⟨by rfl, rfl⟩) ?_ ?_; rotate_left
   ·simp only [Act.put, List.setIfInBounds_toArray, List.set_cons_zero, List.set_cons_succ, i64_w, i32_w]
    rfl
   refine pure_ (i := 12) (N := some 45) (v := undef) (a' := ?_) #[true, true, true, true, true, true, true, true, true, true, true, true, true, false, false, false, false, false] rfl rfl (any_of HT_.out (by kernel_rfl)) (fun _ _ _ h => h) (Or.inr ⟨by rfl, rfl⟩) ?_ ?_; rotate_left
   ·simp only [Act.put, List.setIfInBounds_toArray, List.set_cons_zero, List.set_cons_succ, i64_w, i32_w]
    rfl
   refine pure_ (i := 13) (N := some 46) (v := undef) (a' := ?_) #[true, true, true, true, true, true, true, true, true, true, true, true, true, true, false, false, false, false] rfl rfl (any_of HT_.out (by kernel_rfl)) (fun _ _ _ h => h) (Or.inr ⟨by rfl, rfl⟩) ?_ ?_; rotate_left
   ·simp only [Act.put, List.setIfInBounds_toArray, List.set_cons_zero, List.set_cons_succ, i64_w, i32_w]
    rfl
   refine pure_ (i := 14) (N := some 47) (v := undef) (a' := ?_) #[true, true, true, true, true, true, true, true, true, true, true, true, true, true, true, false, false, false] rfl rfl (any_of HT_.out (by kernel_rfl)) (fun _ _ _ h => h) (Or.inr ⟨by rfl, rfl⟩) ?_ ?_; rotate_left
   ·simp only [Act.put, List.setIfInBounds_toArray, List.set_cons_zero, List.set_cons_succ, i64_w, i32_w]
    rfl
   refine pure_ (i := 15) (N := some 48) (v := undef) (a' := ?_) #[true, true, true, true, true, true, true, true, true, true, true, true, true, true, true, true, false, false] rfl rfl (any_of HT_.out (by kernel_rfl)) (fun _ _ _ h => h) (Or.inr ⟨by rfl, rfl⟩) ?_ ?_; rotate_left
   ·simp only [Act.put, List.setIfInBounds_toArray, List.set_cons_zero, List.set_cons_succ, i64_w, i32_w]
    rfl
   refine pure_ (i := 16) (N := some 49) (v := ?_) (a' := ?_) #[true, true, true, true, true, true, true, true, true, true, true, true, true, true, true, true, true, false] rfl rfl (any_of HT_.out (by kernel_rfl)) (fun _ _ _ h => h) (Or.inl ⟨by rfl, ?_⟩) ?_ ?_; rotate_left
   ·intro w'
    go_simp
    with_reducible rfl
   rotate_left
   ·simp only [Act.put, List.setIfInBounds_toArray, List.set_cons_zero, List.set_cons_succ, i64_w, i32_w]
    rfl
   refine pure_ (i := 17) (N := some 6) (v := ?_) (a' := ?_) #[true, true, true, true, true, true, true, true, true, true, true, true, true, true, true, true, true, true] rfl rfl (any_of HT_.out (by kernel_rfl)) (fun _ _ _ h => h) (Or.inl ⟨by rfl, ?_⟩) ?_ ?_; rotate_left
   ·intro w'
    go_simp
    with_reducible rfl
   rotate_left
   ·simp only [Act.put, List.setIfInBounds_toArray, List.set_cons_zero, List.set_cons_succ, i64_w, i32_w]
    rfl
   refine done_ (done_of HT_.out (by kernel_rfl)) ?_
   try go_wp2
   go_ret
   exact ⟨by first | rfl | (simp [errW_none, errW_some] <;> rfl) | (simp [*, errW_none, errW_some] <;> rfl), bX2 HB GE237 GE238⟩
 ·replace c5 := Bool.eq_false_iff.mpr c5
  subst c5
  have H1 : (some false) = some r := by rw [if_neg (show ¬ (false = true) by decide)] at H; exact H
  clear H; have H := H1; clear H1; obtain rfl := Option.some.inj H; go_enter Tryz.func3, Tryz.ntmps3; go_wp2_with (first | ((with_reducible refine gate_dst (N := 4) rfl ?_); refine box_event ?hg (N := 4) ?hd (cs := #[.int .i64 a1_0, .string a1_1]) (t := 24) ?hr ?_; (case hd => rfl); (case hg => rfl); (case hr => first | (go_simp; done) | (go_simp; rfl)); intro gb237 hg w55 hbox hb; have n0_ := Aside0.mk (below_step (bX HB) hb); have n1_ := Aside0.mk (hbox); have n2_ := Aside0.mk ((by rw [hg]; exact (below_size (bX HB)) : w.heap.size ≤ gb237)); have n3_ := Aside0.mk ((by rw [hg]; exact (below_size (bX HB)) : w.heap.size ≤ gb237)); clear HB; have HB := n0_; have BK237 := n1_; have GW237 := n2_; have GE237 := n3_; clear n0_ n1_ n2_ n3_; clear hb hbox hg) | ((with_reducible refine gate_dst (N := 5) rfl ?_); refine box_event ?hg (N := 5) ?hd (cs := #[.int .i64 a2_0, .string a2_1]) (t := 24) ?hr ?_; (case hd => rfl); (case hg => rfl); (case hr => first | (go_simp; done) | (go_simp; rfl)); intro gb238 hg w56 hbox hb; have n0_ := Aside0.mk (blk_below (kX BK237) hb); have n1_ := Aside0.mk (below_step (bX1 HB GE237) hb); have n2_ := Aside0.mk (hbox); have n3_ := Aside0.mk ((by rw [hg]; exact (below_size (bX1 HB GE237)) : w.heap.size ≤ gb238)); have n4_ := Aside0.mk ((by rw [hg]; exact (below_size (bX1 HB GE237)) : w.heap.size ≤ gb238)); have n5_ := Aside0.mk ((by rw [hg]; exact Nat.ne_of_lt (blk_lt (kX BK237)) : gb237 ≠ gb238)); have n6_ := Aside0.mk ((by rw [hg]; exact Nat.ne_of_gt (blk_lt (kX BK237)) : gb238 ≠ gb237)); clear BK237; clear HB; have BK237 := n0_; have HB := n1_; have BK238 := n2_; have GW238 := n3_; have GE238 := n4_; have NB237_238 := n5_; have NB238_237 := n6_; clear n0_ n1_ n2_ n3_ n4_ n5_ n6_; clear hb hbox hg) | ((with_reducible refine gate_callee (f := 8) rfl ?_); refine goesL_ (some 13) rfl rfl Tryz.func8 (by kernel_rfl) rfl #[] rfl (by (try simp only [List.map_toArray, List.map_cons, List.map_nil]); first | done | rfl | (simp only [List.length_drop, List.length_take]; rfl)) ?_; (with_reducible refine (arbiterlaw07_awake.calls  false _ A4.out).mono ?_); rintro e w57 ⟨rfl, hb⟩; refine ⟨_, rfl, ?_⟩; have n0_ := Aside0.mk (blk_below (kX BK237) hb); have n1_ := Aside0.mk (blk_below (kX BK238) hb); have n2_ := Aside0.mk (below_step (bX2 HB GE237 GE238) hb); clear BK237; clear BK238; clear HB; have BK237 := n0_; have BK238 := n1_; have HB := n2_; clear n0_ n1_ n2_; (try clear hb); (try clear hb2); (try clear hk); (try clear hi))); go_ret
  exact ⟨by first | rfl | (simp [errW_none, errW_some] <;> rfl) | (simp [*, errW_none, errW_some] <;> rfl), bX2 HB GE237 GE238⟩
def access_Package.f (a0 : List Hi.Ent) (a1 : Int) : Option (Int × ByteArray × Int) := (access_homeOf.f a0 a1).bind fun bt248 => (some (bt248.1, bt248.2.1, bt248.2.2.2.2.2.2.2.2))
end Go.Proofs.YtmlifggklaeieaaGreatDoor.Pt

namespace Go.Proofs.YtmlifggklaeieaaGreatDoor.Pt
open Go Go.RowKit Go.Proofs.YtmlifggklaeieaaGreatDoor.Nm Go.Proofs.YtmlifggklaeieaaGreatDoor.Ty Go.Proofs.YtmlifggklaeieaaGreatDoor.Hi Go.Proofs.YtmlifggklaeieaaGreatDoorW.PrintWords Go.Proofs.YtmlifggklaeieaaGreatDoorW.PrintLast Go.Proofs.YtmlifggklaeieaaGreatDoorW.PrintMore
set_option linter.unusedVariables false
set_option linter.unusedSimpArgs false
set_option maxRecDepth 100000
theorem len_made {es : List Ent} (h : Made es) : es.length ≤ 300 := by
 induction h with
 | new => decide
 | step es c _ ih =>
  rcases stepF_cases es c with h | ⟨x, h, ht⟩
  ·rw [h]; exact ih
  ·rw [h, List.length_append]
   have := ht.len; simp
   omega
theorem asub_pure (l : List S69) (hl : l.all goodC = true) (a : Int) (s : ByteArray) (b : Int) (t : ByteArray) : arbiterlaw07_ArraysSub.f 20000 l a s b t = some true := by
 have hT := thy_made (made_built l); have hn := len_made (made_built l); unfold arbiterlaw07_ArraysSub.f; rw [show arbiterlaw07_awake.f = some true from rfl, Option.bind_some, if_pos rfl, show arbiterlaw07_built.f l = some (builtF l) from rfl, Option.bind_some]; unfold arbiterref06_Of.f; rw [if_pos hl, Option.bind_some]; generalize builtF l = es at *; rw [show arrays_Sub.f es a s b t = some (subF es a s b t) from rfl, Option.bind_some, rsub_ok hT (by omega) a b s t 20000 (by omega), Option.bind_some, beq_self_eq_true, if_pos rfl, if_pos rfl, load_tot, Option.bind_some, rload_ok es (by omega) a s 20000 (by omega), Option.bind_some, beq_self_eq_true]
theorem asub_any {W : World} {A : Option Addr} {n : Nat} {l : List S69} (hk : Kd.C k69 W A l.length l) (hc : l.length ≤ n) (hg : l.all goodC = true) (a : Int) (s : ByteArray) (b : Int) (t : ByteArray) :
  Calls Tryz.prog 3 #[.slice A l.length n, .agg #[.int .i64 a, .string s], .agg #[.int .i64 b, .string t]] W fun e W' => e = .returned (.bool true) ∧ Below W.heap.size W W' :=
 arbiterlaw07_ArraysSub.calls 20000 _ _ l a s b t true W hk hc (asub_pure l hg a s b t)
end Go.Proofs.YtmlifggklaeieaaGreatDoor.Pt

namespace Go.Proofs.YtmlifggklaeieaaGreatDoor.RowC
open Go Go.RowKit Go.WideShapes Go.Deep Go.Proofs.YtmlifggklaeieaaGreatDoorW.PrintWords Go.Proofs.YtmlifggklaeieaaGreatDoorW.PrintLast Go.Proofs.YtmlifggklaeieaaGreatDoorW.PrintMore Go.Proofs.YtmlifggklaeieaaGreatDoor.Pt
set_option linter.unusedVariables false
set_option linter.unusedSimpArgs false
set_option maxRecDepth 100000
variable {H : Type} {enc : TypeId × Value → H} {w : World}
def Opens {H : Type} (enc : TypeId × Value → H) (w : World) (t : TypeId) {α : Type} (d : Kd α) : Prop :=
 ∀ (fuel : Nat) (cs : List Value) (x : DataW H × List MemPlace), DataW.trod enc Tryz.prog w 0 (fun _ => true) true fuel t cs = some x → ∃ a : α, d.K w a cs
theorem opens_int : Opens enc w 3 (Kd.int .i64) := fun fuel cs x h => by
 obtain ⟨n, rfl, _⟩ := DataW.trod_int Tryz.underlying3 h
 exact ⟨n, rfl⟩
theorem opens_bool : Opens enc w 4 Kd.bool := fun fuel cs x h => by
 obtain ⟨n, rfl, _⟩ := DataW.trod_bool Tryz.underlying4 h
 exact ⟨n, rfl⟩
theorem opens_string : Opens enc w 9 Kd.string := fun fuel cs x h => by
 obtain ⟨n, rfl, _⟩ := DataW.trod_string Tryz.underlying9 h
 exact ⟨n, rfl⟩
theorem opens_slice {α : Type} {d : Kd α} {t e : TypeId} (tag : Nat) (ht : Tryz.prog.underlying t = some (.slice e)) (he : Tryz.prog.cellsOf e = d.sz) (ho : Opens enc w e d) : Opens enc w t (Kd.slice tag d) := fun fuel cs x h => by
 rcases open_slice ht h with ⟨rfl, _⟩ | ⟨a, len, cap, m, n, D, Pl, rfl, _, hl, hm, hmm, _, hx⟩
 ·exact ⟨[], none, 0, rfl, Nat.le_refl _, Kd.C_nil _ _⟩
 ·have hmm : m = cap := by simpa using hmm
  have hel : ∀ i : Fin len, ∃ p : α, ∃ c : List Value, c.length = d.sz ∧ d.K w p c ∧ ∀ j u, c[j]? = some u → w.cell? (a.add (i.val * d.sz + j)) = some u := by
   intro i; obtain ⟨cs', h1, h2⟩ := hx i.val (by omega); obtain ⟨p, hp⟩ := ho _ _ _ h2; obtain ⟨_, h3, h4⟩ := World.cells?_some h1; rw [he] at h3 h4; refine ⟨p, cs', h3, hp, fun j u hj => ?_⟩
   have hjl : j < d.sz := by
    rcases Nat.lt_or_ge j d.sz with h | h
    ·exact h
    ·rw [List.getElem?_eq_none (by omega)] at hj; cases hj
   have h5 := h4 j hjl; rw [hj] at h5; rw [← h5]; rw [Addr.add_add]
  let f : Fin len → α := fun i => Classical.choose (hel i)
  have hf : ∀ i : Fin len, ∃ c : List Value, c.length = d.sz ∧ d.K w (f i) c ∧ ∀ j u, c[j]? = some u → w.cell? (a.add (i.val * d.sz + j)) = some u := fun i => Classical.choose_spec (hel i); have hlen : (List.ofFn f).length = len := List.length_ofFn; refine ⟨List.ofFn f, some a, cap, by rw [hlen], by omega, ?_⟩; rw [hlen]; refine ⟨hlen, by unfold maxLen at hm; omega, fun h0 => ⟨a, rfl, fun j p hj => ?_⟩⟩
  have hjl : j < len := by
   rcases Nat.lt_or_ge j len with h | h
   ·exact h
   ·rw [List.getElem?_eq_none (by omega)] at hj; cases hj
  rw [List.getElem?_eq_getElem (by omega), List.getElem_ofFn] at hj; obtain rfl := Option.some.inj hj
  exact hf ⟨j, hjl⟩
theorem cut (cs : List Value) (o n : Nat) : cs.drop o = (cs.drop o).take n ++ cs.drop (o + n) := by
 rw [← List.drop_drop, List.take_append_drop]
theorem field {n : Nat} {fs : Array Field} {cs : List Value} {xs : List (DataW H × List MemPlace)} (hlen : xs.length = fs.size)
  (hf : ∀ (i : Nat) (f : Field), fs[i]? = some f → DataW.trod enc Tryz.prog w 0 (fun _ => true) true n f.type ((cs.drop f.offset).take (Tryz.prog.cellsOf f.type)) = xs[i]?) {α : Type} {d : Kd α} (i : Nat) (f : Field) (hi : fs[i]? = some f) (ho : Opens enc w f.type d) (k : Nat) (hk : Tryz.prog.cellsOf f.type = k) :
  ∃ a : α, d.K w a ((cs.drop f.offset).take k) := by
 have hl : i < fs.size := by
  rcases Nat.lt_or_ge i fs.size with h | h
  ·exact h
  ·rw [Array.getElem?_eq_none h] at hi; cases hi
 have h := hf i f hi; rw [hk, List.getElem?_eq_getElem (by omega)] at h
 exact ho _ _ _ h
theorem opens_Ref : Opens enc w 113 k113 := fun fuel cs x h => by
 obtain ⟨xs, n, _, _, hl, hlen, hf⟩ := DataW.trod_struct Tryz.underlying113 h; rw [show Tryz.prog.cellsOf 113 = 4 by kernel_rfl] at hl; obtain ⟨a0, e0⟩ := field hlen hf 0 _ rfl opens_bool 1 (by kernel_rfl); obtain ⟨a1, e1⟩ := field hlen hf 1 _ rfl opens_string 1 (by kernel_rfl); obtain ⟨a2, e2⟩ := field hlen hf 2 _ rfl opens_string 1 (by kernel_rfl); obtain ⟨a3, e3⟩ := field hlen hf 3 _ rfl opens_string 1 (by kernel_rfl); refine ⟨⟨a0, a1, a2, a3⟩, _, _, cut cs 0 1, e0, _, _, cut cs 1 1, e1, _, _, cut cs 2 1, e2, ?_⟩; rw [List.take_of_length_le (by simp; omega)] at e3
 exact e3
theorem opens_Inst : Opens enc w 115 k115 := fun fuel cs x h => by
 obtain ⟨xs, n, _, _, hl, hlen, hf⟩ := DataW.trod_struct Tryz.underlying115 h; rw [show Tryz.prog.cellsOf 115 = 7 by kernel_rfl] at hl; obtain ⟨a0, e0⟩ := field hlen hf 0 _ rfl opens_int 1 (by kernel_rfl); obtain ⟨a1, e1⟩ := field hlen hf 1 _ rfl opens_int 1 (by kernel_rfl); obtain ⟨a2, e2⟩ := field hlen hf 2 _ rfl opens_string 1 (by kernel_rfl); obtain ⟨a3, e3⟩ := field hlen hf 3 _ rfl opens_Ref 4 (by kernel_rfl); refine ⟨⟨a0, a1, a2, a3⟩, _, _, cut cs 0 1, e0, _, _, cut cs 1 1, e1, _, _, cut cs 2 1, e2, ?_⟩; rw [List.take_of_length_le (by simp; omega)] at e3
 exact e3
theorem opens_Method : Opens enc w 92 k92 := fun fuel cs x h => by
 obtain ⟨xs, n, _, _, hl, hlen, hf⟩ := DataW.trod_struct Tryz.underlying92 h; rw [show Tryz.prog.cellsOf 92 = 6 by kernel_rfl] at hl; obtain ⟨a0, e0⟩ := field hlen hf 0 _ rfl opens_string 1 (by kernel_rfl); obtain ⟨a1, e1⟩ := field hlen hf 1 _ rfl opens_string 1 (by kernel_rfl); obtain ⟨a2, e2⟩ := field hlen hf 2 _ rfl opens_int 1 (by kernel_rfl); obtain ⟨a3, e3⟩ := field hlen hf 3 _ rfl opens_int 1 (by kernel_rfl); obtain ⟨a4, e4⟩ := field hlen hf 4 _ rfl opens_int 1 (by kernel_rfl); obtain ⟨a5, e5⟩ := field hlen hf 5 _ rfl (opens_slice 115 Tryz.underlying90 (by kernel_rfl) opens_Inst) 1 (by kernel_rfl); refine ⟨⟨a0, a1, a2, a3, a4, a5⟩, _, _, cut cs 0 1, e0, _, _, cut cs 1 1, e1, _, _, cut cs 2 1, e2, _, _, cut cs 3 1, e3, _, _, cut cs 4 1, e4, ?_⟩; rw [List.take_of_length_le (by simp; omega)] at e5
 exact e5
theorem opens_Class : Opens enc w 69 k69 := fun fuel cs x h => by
 obtain ⟨xs, n, _, _, hl, hlen, hf⟩ := DataW.trod_struct Tryz.underlying69 h; rw [show Tryz.prog.cellsOf 69 = 6 by kernel_rfl] at hl; obtain ⟨a0, e0⟩ := field hlen hf 0 _ rfl opens_string 1 (by kernel_rfl); obtain ⟨a1, e1⟩ := field hlen hf 1 _ rfl opens_string 1 (by kernel_rfl); obtain ⟨a2, e2⟩ := field hlen hf 2 _ rfl (opens_slice 9 Tryz.underlying66 (by kernel_rfl) opens_string) 1 (by kernel_rfl); obtain ⟨a3, e3⟩ := field hlen hf 3 _ rfl opens_int 1 (by kernel_rfl); obtain ⟨a4, e4⟩ := field hlen hf 4 _ rfl opens_int 1 (by kernel_rfl); obtain ⟨a5, e5⟩ := field hlen hf 5 _ rfl (opens_slice 92 Tryz.underlying67 (by kernel_rfl) opens_Method) 1 (by kernel_rfl); refine ⟨⟨a0, a1, a2, a3, a4, a5⟩, _, _, cut cs 0 1, e0, _, _, cut cs 1 1, e1, _, _, cut cs 2 1, e2, _, _, cut cs 3 1, e3, _, _, cut cs 4 1, e4, ?_⟩; rw [List.take_of_length_le (by simp; omega)] at e5
 exact e5
theorem open_list {base : Nat} {R : Reach} {v : Value} {d : DataW H} {p : List MemPlace} (hv : Value.okWide Tryz.prog w R base 22 v) (h : DataW.Trod enc Tryz.prog w 0 (fun _ => true) true 22 v d p) :
  ∃ (A : Option Addr) (c : Nat) (l : List S69), v = .slice A l.length c ∧ l.length ≤ c ∧ Kd.C k69 w A l.length l := by
 obtain ⟨a, len, cap, rfl⟩ := okWide_slice Tryz.underlying22 hv; obtain ⟨fuel, hf⟩ := h; obtain ⟨l, A, c, e, hc, hk⟩ := opens_slice 69 Tryz.underlying22 (by kernel_rfl) opens_Class _ _ _ hf; have e : [Value.slice a len cap] = [.slice A l.length c] := e
 obtain ⟨rfl, rfl, rfl⟩ : a = A ∧ len = l.length ∧ cap = c := by simpa using e
 exact ⟨_, _, l, rfl, hc, hk⟩
end Go.Proofs.YtmlifggklaeieaaGreatDoor.RowC

namespace Go.Proofs.YtmlifggklaeieaaGreatDoor.RowR
open Go Go.RowKit Go.WideShapes Go.Deep Go.Proofs.YtmlifggklaeieaaGreatDoorW.PrintWords Go.Proofs.YtmlifggklaeieaaGreatDoorW.PrintLast Go.Proofs.YtmlifggklaeieaaGreatDoorW.PrintMore Go.Proofs.YtmlifggklaeieaaGreatDoor.Pt Go.Proofs.YtmlifggklaeieaaGreatDoor.RowC
set_option linter.unusedVariables false
set_option linter.unusedSimpArgs false
set_option maxRecDepth 100000
variable {H : Type} {enc : TypeId × Value → H} {w : World}
theorem inRB_wf {f : Int} (h : (Lit.int .i64 f).wf = true) : inRB f = true := by
 have this : IntKind.i64.min ≤ f ∧ f ≤ 9223372036854775807 := by simpa [Lit.wf] using h
 replace this : -9223372036854775808 ≤ f ∧ f ≤ 9223372036854775807 := this; unfold inRB; rw [decide_eq_true this.1, decide_eq_true this.2]; rfl
def OpensP {H : Type} (enc : TypeId × Value → H) (w : World) (t : TypeId) {α : Type} (d : Kd α) (P : α → Prop) : Prop :=
 ∀ (fuel : Nat) (cs : List Value) (x : DataW H × List MemPlace), DataW.trod enc Tryz.prog w 0 (fun _ => true) true fuel t cs = some x → ∃ a : α, d.K w a cs ∧ P a
theorem opensP_int : OpensP enc w 3 (Kd.int .i64) (fun n => inRB n = true) := fun fuel cs x h => by
 obtain ⟨n, rfl, _, hw⟩ := DataW.trod_int Tryz.underlying3 h
 exact ⟨n, rfl, inRB_wf hw⟩
theorem opensP_slice {α : Type} {d : Kd α} {P : α → Prop} {t e : TypeId} (tag : Nat) (ht : Tryz.prog.underlying t = some (.slice e)) (he : Tryz.prog.cellsOf e = d.sz) (ho : OpensP enc w e d P) : OpensP enc w t (Kd.slice tag d) (fun l => ∀ a ∈ l, P a) := fun fuel cs x h => by
 rcases open_slice ht h with ⟨rfl, _⟩ | ⟨a, len, cap, m, n, D, Pl, rfl, _, hl, hm, hmm, _, hx⟩
 ·exact ⟨[], ⟨none, 0, rfl, Nat.le_refl _, Kd.C_nil _ _⟩, fun a ha => by cases ha⟩
 ·have hmm : m = cap := by simpa using hmm
  have hel : ∀ i : Fin len, ∃ p : α, (∃ c : List Value, c.length = d.sz ∧ d.K w p c ∧ ∀ j u, c[j]? = some u → w.cell? (a.add (i.val * d.sz + j)) = some u) ∧ P p := by
   intro i; obtain ⟨cs', h1, h2⟩ := hx i.val (by omega); obtain ⟨p, hp, hq⟩ := ho _ _ _ h2; obtain ⟨_, h3, h4⟩ := World.cells?_some h1; rw [he] at h3 h4; refine ⟨p, ⟨cs', h3, hp, fun j u hj => ?_⟩, hq⟩
   have hjl : j < d.sz := by
    rcases Nat.lt_or_ge j d.sz with h | h
    ·exact h
    ·rw [List.getElem?_eq_none (by omega)] at hj; cases hj
   have h5 := h4 j hjl; rw [hj] at h5; rw [← h5]; rw [Addr.add_add]
  let f : Fin len → α := fun i => Classical.choose (hel i)
  have hf : ∀ i : Fin len, (∃ c : List Value, c.length = d.sz ∧ d.K w (f i) c ∧ ∀ j u, c[j]? = some u → w.cell? (a.add (i.val * d.sz + j)) = some u) ∧ P (f i) := fun i => Classical.choose_spec (hel i); have hlen : (List.ofFn f).length = len := List.length_ofFn; refine ⟨List.ofFn f, ⟨some a, cap, by rw [hlen], by omega, ?_⟩, fun p hp => ?_⟩
  ·rw [hlen]
   refine ⟨hlen, by unfold maxLen at hm; omega, fun h0 => ⟨a, rfl, fun j p hj => ?_⟩⟩
   have hjl : j < len := by
    rcases Nat.lt_or_ge j len with h | h
    ·exact h
    ·rw [List.getElem?_eq_none (by omega)] at hj; cases hj
   rw [List.getElem?_eq_getElem (by omega), List.getElem_ofFn] at hj; obtain rfl := Option.some.inj hj
   exact (hf ⟨j, hjl⟩).1
  ·obtain ⟨i, rfl⟩ := (List.mem_ofFn).1 hp
   exact (hf i).2
theorem fieldP {n : Nat} {fs : Array Field} {cs : List Value} {xs : List (DataW H × List MemPlace)} (hlen : xs.length = fs.size)
  (hf : ∀ (i : Nat) (f : Field), fs[i]? = some f → DataW.trod enc Tryz.prog w 0 (fun _ => true) true n f.type ((cs.drop f.offset).take (Tryz.prog.cellsOf f.type)) = xs[i]?) {α : Type} {d : Kd α} {P : α → Prop} (i : Nat) (f : Field) (hi : fs[i]? = some f) (ho : OpensP enc w f.type d P) (k : Nat) (hk : Tryz.prog.cellsOf f.type = k) :
  ∃ a : α, d.K w a ((cs.drop f.offset).take k) ∧ P a := by
 have hl : i < fs.size := by
  rcases Nat.lt_or_ge i fs.size with h | h
  ·exact h
  ·rw [Array.getElem?_eq_none h] at hi; cases hi
 have h := hf i f hi; rw [hk, List.getElem?_eq_getElem (by omega)] at h
 exact ho _ _ _ h
theorem opensP_Method : OpensP enc w 92 k92 (fun m => inRB m.f2 = true) := fun fuel cs x h => by
 obtain ⟨xs, n, _, _, hl, hlen, hf⟩ := DataW.trod_struct Tryz.underlying92 h; rw [show Tryz.prog.cellsOf 92 = 6 by kernel_rfl] at hl; obtain ⟨a0, e0⟩ := field hlen hf 0 _ rfl opens_string 1 (by kernel_rfl); obtain ⟨a1, e1⟩ := field hlen hf 1 _ rfl opens_string 1 (by kernel_rfl); obtain ⟨a2, e2, p2⟩ := fieldP hlen hf 2 _ rfl opensP_int 1 (by kernel_rfl); obtain ⟨a3, e3⟩ := field hlen hf 3 _ rfl opens_int 1 (by kernel_rfl); obtain ⟨a4, e4⟩ := field hlen hf 4 _ rfl opens_int 1 (by kernel_rfl); obtain ⟨a5, e5⟩ := field hlen hf 5 _ rfl (opens_slice 115 Tryz.underlying90 (by kernel_rfl) opens_Inst) 1 (by kernel_rfl); refine ⟨⟨a0, a1, a2, a3, a4, a5⟩, ⟨_, _, cut cs 0 1, e0, _, _, cut cs 1 1, e1, _, _, cut cs 2 1, e2, _, _, cut cs 3 1, e3, _, _, cut cs 4 1, e4, ?_⟩, p2⟩; rw [List.take_of_length_le (by simp; omega)] at e5
 exact e5
theorem opensP_Class : OpensP enc w 69 k69 (fun c => goodC c = true) := fun fuel cs x h => by
 obtain ⟨xs, n, _, _, hl, hlen, hf⟩ := DataW.trod_struct Tryz.underlying69 h; rw [show Tryz.prog.cellsOf 69 = 6 by kernel_rfl] at hl; obtain ⟨a0, e0⟩ := field hlen hf 0 _ rfl opens_string 1 (by kernel_rfl); obtain ⟨a1, e1⟩ := field hlen hf 1 _ rfl opens_string 1 (by kernel_rfl); obtain ⟨a2, e2⟩ := field hlen hf 2 _ rfl (opens_slice 9 Tryz.underlying66 (by kernel_rfl) opens_string) 1 (by kernel_rfl); obtain ⟨a3, e3, p3⟩ := fieldP hlen hf 3 _ rfl opensP_int 1 (by kernel_rfl); obtain ⟨a4, e4⟩ := field hlen hf 4 _ rfl opens_int 1 (by kernel_rfl); obtain ⟨a5, e5, p5⟩ := fieldP hlen hf 5 _ rfl (opensP_slice 92 Tryz.underlying67 (by kernel_rfl) opensP_Method) 1 (by kernel_rfl); refine ⟨⟨a0, a1, a2, a3, a4, a5⟩, ⟨_, _, cut cs 0 1, e0, _, _, cut cs 1 1, e1, _, _, cut cs 2 1, e2, _, _, cut cs 3 1, e3, _, _, cut cs 4 1, e4, ?_⟩, ?_⟩
 ·rw [List.take_of_length_le (by simp; omega)] at e5
  exact e5
 ·show goodC _ = true
  unfold goodC; rw [Bool.and_eq_true, List.all_eq_true]
  exact ⟨p3, p5⟩
theorem open_list {base : Nat} {R : Reach} {v : Value} {d : DataW H} {p : List MemPlace} (hv : Value.okWide Tryz.prog w R base 22 v) (h : DataW.Trod enc Tryz.prog w 0 (fun _ => true) true 22 v d p) :
  ∃ (A : Option Addr) (c : Nat) (l : List S69), v = .slice A l.length c ∧ l.length ≤ c ∧ Kd.C k69 w A l.length l ∧ l.all goodC = true := by
 obtain ⟨a, len, cap, rfl⟩ := okWide_slice Tryz.underlying22 hv; obtain ⟨fuel, hf⟩ := h; obtain ⟨l, ⟨A, c, e, hc, hk⟩, hp⟩ := opensP_slice 69 Tryz.underlying22 (by kernel_rfl) opensP_Class _ _ _ hf; have e : [Value.slice a len cap] = [.slice A l.length c] := e
 obtain ⟨rfl, rfl, rfl⟩ : a = A ∧ len = l.length ∧ cap = c := by simpa using e
 exact ⟨_, _, l, rfl, hc, hk, List.all_eq_true.2 hp⟩
end Go.Proofs.YtmlifggklaeieaaGreatDoor.RowR
