/- Lemmas and contracts for the statement of TyTypesBack: joined by program out of this session's texts. -/
import Derived.Test.YtpcdfjifhoofjaaDoorBdTyTypesBack1
/- The walk of types.turned. -/
namespace Go.Proofs.YtpcdfjifhoofjaaDoor.Ty
open Go Go.RowKit Go.Proofs.YtpcdfjifhoofjaaDoor.Nm
set_option linter.unusedVariables false
set_option linter.unusedSimpArgs false
set_option maxHeartbeats 1000000
set_option maxRecDepth 10000

theorem turned_any (d k : Int) (nm : List UInt8) (w : World) : Calls Tryd.prog 72 #[tyV d nm, .int .i64 k] w fun e w' =>
    e = .returned (.tuple #[tyV k nm, .int .i64 0]) ∧ Below w.heap.size w w' := by
  have B0 := Lib.hid (Below.refl w.heap.size w)
  rw [tyV]
  go_enter Tryd.func72, Tryd.ntmps72
  go_wp2
  refine bodyPost_ret (v := .tuple #[tyV k nm, .int .i64 0]) (by simp [results, Tryd.results72, go_sem, tyV]) rfl ⟨rfl, ?_⟩
  have B4 := B0.out
  repeat' (first | assumption | apply Below.setCell | apply Below.alloc | apply Below.drew)
  all_goals (first | omega | (simp; done) | (simp; omega))
theorem arrayof_any (d : Int) (nm : List UInt8) (w : World) (hm : ML w) : Calls Tryd.prog 47 #[tyV d nm] w fun e w' =>
    e = .returned (.tuple #[tyV (arrT d nm).1 (arrT d nm).2.1, .int .i64 (arrT d nm).2.2]) ∧ Below w.heap.size w w' := by
  have A0 := Two.new w d (bs nm) 37
  have T0 := Two.new (w.alloc (.cells #[.int .i64 d, .string (bs nm)] 37)) 0 ⟨#[]⟩ 37
  have hz : (w.alloc (.cells #[.int .i64 d, .string (bs nm)] 37)).heap.size = w.heap.size + 1 := by simp
  rw [hz] at T0
  have A1 := A0.kept (World.grownBy_alloc _ (.cells #[.int .i64 0, .string ⟨#[]⟩] 37) none) (by simp)
  have C := Lib.hid (check_any d nm ((w.alloc (.cells #[.int .i64 d, .string (bs nm)] 37)).alloc (.cells #[.int .i64 0, .string ⟨#[]⟩] 37)) (ml_alloc (ml_alloc hm _) _))
  have B0 := ((Below.refl w.heap.size w).alloc (Nat.le_refl _) (.cells #[.int .i64 d, .string (bs nm)] 37)).alloc (by simp) (.cells #[.int .i64 0, .string ⟨#[]⟩] 37)
  have K := chk_cases d nm
  have ha : arrT d nm = if chk d nm ≠ 0 then (0, [], 1) else if d = 255 then (0, [], 5) else (d + 1, nm, 0) := rfl
  replace ha := Lib.hid ha
  replace A1 := Lib.hid A1
  replace T0 := Lib.hid T0
  replace B0 := Lib.hid B0
  clear A0 hz
  rw [tyV]
  go_enter Tryd.func47, Tryd.ntmps47
  go_wp2_with fail
  refine C.out.mono ?_
  rintro e w3 ⟨rfl, hb⟩
  have A3 := A1.out.kept (gb_below hb) (by simp)
  have T3 := T0.out.kept (gb_below hb) (by simp)
  have B3 := B0.out.trans (hb.mono (by simp; omega))
  clear A1 T0 B0 hb C
  have a0 := A3.c0
  have a1 := A3.c1
  have h0 := T3.c0
  have h1 := T3.c1
  have f0 := T3.f0
  have f1 := T3.f1
  replace T3 := Lib.hid T3
  replace A3 := Lib.hid A3
  replace B3 := Lib.hid B3
  rcases K with hk | ⟨hk, hd0, hd1⟩
  · have hp := ha.out
    rw [hk, if_pos (by decide)] at hp
    replace hp := Lib.hid hp
    rw [hk]
    clear ha hk
    go_wp2
    have T5 := (T3.out.set0 0).set1 ⟨#[]⟩
    refine bodyPost_ret (v := .tuple #[tyV 0 [], .int .i64 1]) (by simp [results, Tryd.results47, go_sem, tyV, bs_nil, T5.c0, T5.c1]) rfl ⟨by rw [hp.out], ?_⟩
    have B4 := B3.out
    repeat' (first | assumption | apply Below.setCell | apply Below.alloc | apply Below.drew)
    all_goals (first | omega | (simp; done) | (simp; omega))
  · have hp := ha.out
    rw [hk, if_neg (by decide)] at hp
    rw [hk]
    clear ha hk
    by_cases h255 : d = 255
    · subst h255
      rw [if_pos rfl] at hp
      replace hp := Lib.hid hp
      go_wp2
      have T5 := (T3.out.set0 (0)).set1 (⟨#[]⟩)
      refine bodyPost_ret (v := .tuple #[tyV (0) [], .int .i64 5]) (by simp [results, Tryd.results47, go_sem, tyV, bs_nil, T5.c0, T5.c1]) rfl ⟨by rw [hp.out], ?_⟩
      have B4 := B3.out
      repeat' (first | assumption | apply Below.setCell | apply Below.alloc | apply Below.drew)
      all_goals (first | omega | (simp; done) | (simp; omega))
    · rw [if_neg h255] at hp
      replace hp := Lib.hid hp
      go_wp2_with fail
      refine (turned_any _ _ _ _).mono ?_
      rintro e w5 ⟨rfl, hb5⟩
      have T6 := T3.out.kept (gb_below hb5) (by simp)
      have B6 := B3.out.trans (hb5.mono B3.out.size)
      clear T3 A3 a0 a1 h0 h1 f0 f1 B3
      have h0 := T6.c0
      have h1 := T6.c1
      have f0 := T6.f0
      have f1 := T6.f1
      replace T6 := Lib.hid T6
      replace B6 := Lib.hid B6
      rw [tyV]
      go_wp2
      have T5 := (T6.out.set0 (d + 1)).set1 (bs nm)
      refine bodyPost_ret (v := .tuple #[tyV (d + 1) nm, .int .i64 0]) (by simp [results, Tryd.results47, go_sem, tyV, bs_nil, T5.c0, T5.c1]) rfl ⟨by rw [hp.out], ?_⟩
      have B4 := B6.out
      repeat' (first | assumption | apply Below.setCell | apply Below.alloc | apply Below.drew)
      all_goals (first | omega | (simp; done) | (simp; omega))
end Go.Proofs.YtpcdfjifhoofjaaDoor.Ty

/- The walks of Component. -/
namespace Go.Proofs.YtpcdfjifhoofjaaDoor.Ty
open Go Go.RowKit Go.Proofs.YtpcdfjifhoofjaaDoor.Nm
set_option linter.unusedVariables false
set_option linter.unusedSimpArgs false
set_option maxHeartbeats 1000000
set_option maxRecDepth 10000

def cmpT (d : Int) (nm : List UInt8) : Int × List UInt8 × Int :=
  if chk d nm ≠ 0 then (0, [], 1) else if d = 0 then (0, [], 6) else (d - 1, nm, 0)
theorem rcomponent_any (d : Int) (nm : List UInt8) (w : World) : Calls Tryd.prog 50 #[tyV d nm] w fun e w' =>
    e = .returned (.tuple #[tyV (cmpT d nm).1 (cmpT d nm).2.1, .int .i64 (cmpT d nm).2.2]) ∧ Below w.heap.size w w' := by
  have A0 := Two.new w d (bs nm) 37
  have T0 := Two.new (w.alloc (.cells #[.int .i64 d, .string (bs nm)] 37)) 0 ⟨#[]⟩ 37
  have hz : (w.alloc (.cells #[.int .i64 d, .string (bs nm)] 37)).heap.size = w.heap.size + 1 := by simp
  rw [hz] at T0
  have A1 := A0.kept (World.grownBy_alloc _ (.cells #[.int .i64 0, .string ⟨#[]⟩] 37) none) (by simp)
  have C := Lib.hid (rcheck_any d nm ((w.alloc (.cells #[.int .i64 d, .string (bs nm)] 37)).alloc (.cells #[.int .i64 0, .string ⟨#[]⟩] 37)))
  have B0 := ((Below.refl w.heap.size w).alloc (Nat.le_refl _) (.cells #[.int .i64 d, .string (bs nm)] 37)).alloc (by simp) (.cells #[.int .i64 0, .string ⟨#[]⟩] 37)
  have K := chk_cases d nm
  have ha : cmpT d nm = if chk d nm ≠ 0 then (0, [], 1) else if d = 0 then (0, [], 6) else (d - 1, nm, 0) := rfl
  replace ha := Lib.hid ha
  replace A1 := Lib.hid A1
  replace T0 := Lib.hid T0
  replace B0 := Lib.hid B0
  clear A0 hz
  rw [tyV]
  go_enter Tryd.func50, Tryd.ntmps50
  go_wp2_with fail
  refine C.out.mono ?_
  rintro e w3 ⟨rfl, hb⟩
  have A3 := A1.out.kept (gb_below hb) (by simp)
  have T3 := T0.out.kept (gb_below hb) (by simp)
  have B3 := B0.out.trans (hb.mono (by simp; omega))
  clear A1 T0 B0 hb C
  have a0 := A3.c0
  have a1 := A3.c1
  have h0 := T3.c0
  have h1 := T3.c1
  have f0 := T3.f0
  have f1 := T3.f1
  replace T3 := Lib.hid T3
  replace A3 := Lib.hid A3
  replace B3 := Lib.hid B3
  rcases K with hk | ⟨hk, hd0, hd1⟩
  · have hp := ha.out
    rw [hk, if_pos (by decide)] at hp
    replace hp := Lib.hid hp
    rw [hk]
    clear ha hk
    go_wp2
    have T5 := (T3.out.set0 0).set1 ⟨#[]⟩
    refine bodyPost_ret (v := .tuple #[tyV 0 [], .int .i64 1]) (by simp [results, Tryd.results50, go_sem, tyV, bs_nil, T5.c0, T5.c1]) rfl ⟨by rw [hp.out], ?_⟩
    have B4 := B3.out
    repeat' (first | assumption | apply Below.setCell | apply Below.alloc | apply Below.drew)
    all_goals (first | omega | (simp; done) | (simp; omega))
  · have hp := ha.out
    rw [hk, if_neg (by decide)] at hp
    rw [hk]
    clear ha hk
    by_cases h255 : d = 0
    · subst h255
      rw [if_pos rfl] at hp
      replace hp := Lib.hid hp
      go_wp2
      have T5 := (T3.out.set0 (0)).set1 (⟨#[]⟩)
      refine bodyPost_ret (v := .tuple #[tyV (0) [], .int .i64 6]) (by simp [results, Tryd.results50, go_sem, tyV, bs_nil, T5.c0, T5.c1]) rfl ⟨by rw [hp.out], ?_⟩
      have B4 := B3.out
      repeat' (first | assumption | apply Below.setCell | apply Below.alloc | apply Below.drew)
      all_goals (first | omega | (simp; done) | (simp; omega))
    · rw [if_neg h255] at hp
      replace hp := Lib.hid hp
      go_wp2
      have T5 := (T3.out.set0 (d - 1)).set1 (bs nm)
      refine bodyPost_ret (v := .tuple #[tyV (d - 1) nm, .int .i64 0]) (by simp [results, Tryd.results50, go_sem, tyV, bs_nil, T5.c0, T5.c1]) rfl ⟨by rw [hp.out], ?_⟩
      have B4 := B3.out
      repeat' (first | assumption | apply Below.setCell | apply Below.alloc | apply Below.drew)
      all_goals (first | omega | (simp; done) | (simp; omega))
theorem component_any (d : Int) (nm : List UInt8) (w : World) (hm : ML w) : Calls Tryd.prog 49 #[tyV d nm] w fun e w' =>
    e = .returned (.tuple #[tyV (cmpT d nm).1 (cmpT d nm).2.1, .int .i64 (cmpT d nm).2.2]) ∧ Below w.heap.size w w' := by
  have A0 := Two.new w d (bs nm) 37
  have T0 := Two.new (w.alloc (.cells #[.int .i64 d, .string (bs nm)] 37)) 0 ⟨#[]⟩ 37
  have hz : (w.alloc (.cells #[.int .i64 d, .string (bs nm)] 37)).heap.size = w.heap.size + 1 := by simp
  rw [hz] at T0
  have A1 := A0.kept (World.grownBy_alloc _ (.cells #[.int .i64 0, .string ⟨#[]⟩] 37) none) (by simp)
  have C := Lib.hid (check_any d nm ((w.alloc (.cells #[.int .i64 d, .string (bs nm)] 37)).alloc (.cells #[.int .i64 0, .string ⟨#[]⟩] 37)) (ml_alloc (ml_alloc hm _) _))
  have B0 := ((Below.refl w.heap.size w).alloc (Nat.le_refl _) (.cells #[.int .i64 d, .string (bs nm)] 37)).alloc (by simp) (.cells #[.int .i64 0, .string ⟨#[]⟩] 37)
  have K := chk_cases d nm
  have ha : cmpT d nm = if chk d nm ≠ 0 then (0, [], 1) else if d = 0 then (0, [], 6) else (d - 1, nm, 0) := rfl
  replace ha := Lib.hid ha
  replace A1 := Lib.hid A1
  replace T0 := Lib.hid T0
  replace B0 := Lib.hid B0
  clear A0 hz
  rw [tyV]
  go_enter Tryd.func49, Tryd.ntmps49
  go_wp2_with fail
  refine C.out.mono ?_
  rintro e w3 ⟨rfl, hb⟩
  have A3 := A1.out.kept (gb_below hb) (by simp)
  have T3 := T0.out.kept (gb_below hb) (by simp)
  have B3 := B0.out.trans (hb.mono (by simp; omega))
  clear A1 T0 B0 hb C
  have a0 := A3.c0
  have a1 := A3.c1
  have h0 := T3.c0
  have h1 := T3.c1
  have f0 := T3.f0
  have f1 := T3.f1
  replace T3 := Lib.hid T3
  replace A3 := Lib.hid A3
  replace B3 := Lib.hid B3
  rcases K with hk | ⟨hk, hd0, hd1⟩
  · have hp := ha.out
    rw [hk, if_pos (by decide)] at hp
    replace hp := Lib.hid hp
    rw [hk]
    clear ha hk
    go_wp2
    have T5 := (T3.out.set0 0).set1 ⟨#[]⟩
    refine bodyPost_ret (v := .tuple #[tyV 0 [], .int .i64 1]) (by simp [results, Tryd.results49, go_sem, tyV, bs_nil, T5.c0, T5.c1]) rfl ⟨by rw [hp.out], ?_⟩
    have B4 := B3.out
    repeat' (first | assumption | apply Below.setCell | apply Below.alloc | apply Below.drew)
    all_goals (first | omega | (simp; done) | (simp; omega))
  · have hp := ha.out
    rw [hk, if_neg (by decide)] at hp
    rw [hk]
    clear ha hk
    by_cases h255 : d = 0
    · subst h255
      rw [if_pos rfl] at hp
      replace hp := Lib.hid hp
      go_wp2
      have T5 := (T3.out.set0 (0)).set1 (⟨#[]⟩)
      refine bodyPost_ret (v := .tuple #[tyV (0) [], .int .i64 6]) (by simp [results, Tryd.results49, go_sem, tyV, bs_nil, T5.c0, T5.c1]) rfl ⟨by rw [hp.out], ?_⟩
      have B4 := B3.out
      repeat' (first | assumption | apply Below.setCell | apply Below.alloc | apply Below.drew)
      all_goals (first | omega | (simp; done) | (simp; omega))
    · rw [if_neg h255] at hp
      replace hp := Lib.hid hp
      go_wp2_with fail
      refine (turned_any _ _ _ _).mono ?_
      rintro e w5 ⟨rfl, hb5⟩
      have T6 := T3.out.kept (gb_below hb5) (by simp)
      have B6 := B3.out.trans (hb5.mono B3.out.size)
      clear T3 A3 a0 a1 h0 h1 f0 f1 B3
      have h0 := T6.c0
      have h1 := T6.c1
      have f0 := T6.f0
      have f1 := T6.f1
      replace T6 := Lib.hid T6
      replace B6 := Lib.hid B6
      rw [tyV]
      go_wp2
      have T5 := (T6.out.set0 (d - 1)).set1 (bs nm)
      refine bodyPost_ret (v := .tuple #[tyV (d - 1) nm, .int .i64 0]) (by simp [results, Tryd.results49, go_sem, tyV, bs_nil, T5.c0, T5.c1]) rfl ⟨by rw [hp.out], ?_⟩
      have B4 := B6.out
      repeat' (first | assumption | apply Below.setCell | apply Below.alloc | apply Below.drew)
      all_goals (first | omega | (simp; done) | (simp; omega))
end Go.Proofs.YtpcdfjifhoofjaaDoor.Ty

/- The walks of Element. -/
namespace Go.Proofs.YtpcdfjifhoofjaaDoor.Ty
open Go Go.RowKit Go.Proofs.YtpcdfjifhoofjaaDoor.Nm
set_option linter.unusedVariables false
set_option linter.unusedSimpArgs false
set_option maxHeartbeats 1000000
set_option maxRecDepth 10000

def eltT (d : Int) (nm : List UInt8) : Int × List UInt8 × Int :=
  if chk d nm ≠ 0 then (0, [], 1) else (0, nm, 0)
theorem relement_any (d : Int) (nm : List UInt8) (w : World) : Calls Tryd.prog 52 #[tyV d nm] w fun e w' =>
    e = .returned (.tuple #[tyV (eltT d nm).1 (eltT d nm).2.1, .int .i64 (eltT d nm).2.2]) ∧ Below w.heap.size w w' := by
  have A0 := Two.new w d (bs nm) 37
  have T0 := Two.new (w.alloc (.cells #[.int .i64 d, .string (bs nm)] 37)) 0 ⟨#[]⟩ 37
  have hz : (w.alloc (.cells #[.int .i64 d, .string (bs nm)] 37)).heap.size = w.heap.size + 1 := by simp
  rw [hz] at T0
  have A1 := A0.kept (World.grownBy_alloc _ (.cells #[.int .i64 0, .string ⟨#[]⟩] 37) none) (by simp)
  have C := Lib.hid (rcheck_any d nm ((w.alloc (.cells #[.int .i64 d, .string (bs nm)] 37)).alloc (.cells #[.int .i64 0, .string ⟨#[]⟩] 37)))
  have B0 := ((Below.refl w.heap.size w).alloc (Nat.le_refl _) (.cells #[.int .i64 d, .string (bs nm)] 37)).alloc (by simp) (.cells #[.int .i64 0, .string ⟨#[]⟩] 37)
  have K := chk_cases d nm
  have ha : eltT d nm = if chk d nm ≠ 0 then (0, [], 1) else (0, nm, 0) := rfl
  replace ha := Lib.hid ha
  replace A1 := Lib.hid A1
  replace T0 := Lib.hid T0
  replace B0 := Lib.hid B0
  clear A0 hz
  rw [tyV]
  go_enter Tryd.func52, Tryd.ntmps52
  go_wp2_with fail
  refine C.out.mono ?_
  rintro e w3 ⟨rfl, hb⟩
  have A3 := A1.out.kept (gb_below hb) (by simp)
  have T3 := T0.out.kept (gb_below hb) (by simp)
  have B3 := B0.out.trans (hb.mono (by simp; omega))
  clear A1 T0 B0 hb C
  have a0 := A3.c0
  have a1 := A3.c1
  have h0 := T3.c0
  have h1 := T3.c1
  have f0 := T3.f0
  have f1 := T3.f1
  replace T3 := Lib.hid T3
  replace A3 := Lib.hid A3
  replace B3 := Lib.hid B3
  rcases K with hk | ⟨hk, hd0, hd1⟩
  · have hp := ha.out
    rw [hk, if_pos (by decide)] at hp
    replace hp := Lib.hid hp
    rw [hk]
    clear ha hk
    go_wp2
    have T5 := (T3.out.set0 0).set1 ⟨#[]⟩
    refine bodyPost_ret (v := .tuple #[tyV 0 [], .int .i64 1]) (by simp [results, Tryd.results52, go_sem, tyV, bs_nil, T5.c0, T5.c1]) rfl ⟨by rw [hp.out], ?_⟩
    have B4 := B3.out
    repeat' (first | assumption | apply Below.setCell | apply Below.alloc | apply Below.drew)
    all_goals (first | omega | (simp; done) | (simp; omega))
  · have hp := ha.out
    rw [hk, if_neg (by decide)] at hp
    rw [hk]
    clear ha hk
    replace hp := Lib.hid hp
    go_wp2
    have T5 := (T3.out.set0 0).set1 (bs nm)
    refine bodyPost_ret (v := .tuple #[tyV 0 nm, .int .i64 0]) (by simp [results, Tryd.results52, go_sem, tyV, bs_nil, T5.c0, T5.c1]) rfl ⟨by rw [hp.out], ?_⟩
    have B4 := B3.out
    repeat' (first | assumption | apply Below.setCell | apply Below.alloc | apply Below.drew)
    all_goals (first | omega | (simp; done) | (simp; omega))
theorem element_any (d : Int) (nm : List UInt8) (w : World) (hm : ML w) : Calls Tryd.prog 51 #[tyV d nm] w fun e w' =>
    e = .returned (.tuple #[tyV (eltT d nm).1 (eltT d nm).2.1, .int .i64 (eltT d nm).2.2]) ∧ Below w.heap.size w w' := by
  have A0 := Two.new w d (bs nm) 37
  have T0 := Two.new (w.alloc (.cells #[.int .i64 d, .string (bs nm)] 37)) 0 ⟨#[]⟩ 37
  have hz : (w.alloc (.cells #[.int .i64 d, .string (bs nm)] 37)).heap.size = w.heap.size + 1 := by simp
  rw [hz] at T0
  have A1 := A0.kept (World.grownBy_alloc _ (.cells #[.int .i64 0, .string ⟨#[]⟩] 37) none) (by simp)
  have C := Lib.hid (check_any d nm ((w.alloc (.cells #[.int .i64 d, .string (bs nm)] 37)).alloc (.cells #[.int .i64 0, .string ⟨#[]⟩] 37)) (ml_alloc (ml_alloc hm _) _))
  have B0 := ((Below.refl w.heap.size w).alloc (Nat.le_refl _) (.cells #[.int .i64 d, .string (bs nm)] 37)).alloc (by simp) (.cells #[.int .i64 0, .string ⟨#[]⟩] 37)
  have K := chk_cases d nm
  have ha : eltT d nm = if chk d nm ≠ 0 then (0, [], 1) else (0, nm, 0) := rfl
  replace ha := Lib.hid ha
  replace A1 := Lib.hid A1
  replace T0 := Lib.hid T0
  replace B0 := Lib.hid B0
  clear A0 hz
  rw [tyV]
  go_enter Tryd.func51, Tryd.ntmps51
  go_wp2_with fail
  refine C.out.mono ?_
  rintro e w3 ⟨rfl, hb⟩
  have A3 := A1.out.kept (gb_below hb) (by simp)
  have T3 := T0.out.kept (gb_below hb) (by simp)
  have B3 := B0.out.trans (hb.mono (by simp; omega))
  clear A1 T0 B0 hb C
  have a0 := A3.c0
  have a1 := A3.c1
  have h0 := T3.c0
  have h1 := T3.c1
  have f0 := T3.f0
  have f1 := T3.f1
  replace T3 := Lib.hid T3
  replace A3 := Lib.hid A3
  replace B3 := Lib.hid B3
  rcases K with hk | ⟨hk, hd0, hd1⟩
  · have hp := ha.out
    rw [hk, if_pos (by decide)] at hp
    replace hp := Lib.hid hp
    rw [hk]
    clear ha hk
    go_wp2
    have T5 := (T3.out.set0 0).set1 ⟨#[]⟩
    refine bodyPost_ret (v := .tuple #[tyV 0 [], .int .i64 1]) (by simp [results, Tryd.results51, go_sem, tyV, bs_nil, T5.c0, T5.c1]) rfl ⟨by rw [hp.out], ?_⟩
    have B4 := B3.out
    repeat' (first | assumption | apply Below.setCell | apply Below.alloc | apply Below.drew)
    all_goals (first | omega | (simp; done) | (simp; omega))
  · have hp := ha.out
    rw [hk, if_neg (by decide)] at hp
    rw [hk]
    clear ha hk
    replace hp := Lib.hid hp
    go_wp2_with fail
    refine (turned_any _ _ _ _).mono ?_
    rintro e w5 ⟨rfl, hb5⟩
    have T6 := T3.out.kept (gb_below hb5) (by simp)
    have B6 := B3.out.trans (hb5.mono B3.out.size)
    clear T3 A3 a0 a1 h0 h1 f0 f1 B3
    have h0 := T6.c0
    have h1 := T6.c1
    have f0 := T6.f0
    have f1 := T6.f1
    replace T6 := Lib.hid T6
    replace B6 := Lib.hid B6
    rw [tyV]
    go_wp2
    have T5 := (T6.out.set0 0).set1 (bs nm)
    refine bodyPost_ret (v := .tuple #[tyV 0 nm, .int .i64 0]) (by simp [results, Tryd.results51, go_sem, tyV, bs_nil, T5.c0, T5.c1]) rfl ⟨by rw [hp.out], ?_⟩
    have B4 := B6.out
    repeat' (first | assumption | apply Below.setCell | apply Below.alloc | apply Below.drew)
    all_goals (first | omega | (simp; done) | (simp; omega))
end Go.Proofs.YtpcdfjifhoofjaaDoor.Ty

/- The walk of types.written. -/
namespace Go.Proofs.YtpcdfjifhoofjaaDoor.Ty
open Go Go.RowKit Go.Proofs.YtpcdfjifhoofjaaDoor.Nm
set_option linter.unusedVariables false
set_option linter.unusedSimpArgs false
set_option maxHeartbeats 1000000
set_option maxRecDepth 10000

def base (nm : List UInt8) : List UInt8 := if nm = [] then [73] else 76 :: (nm ++ [59])
def wr (d : Nat) (nm : List UInt8) : List UInt8 := List.replicate d 91 ++ base nm
theorem repeat91 (c : Nat) : Lib.repeatL [91] c = List.replicate c 91 := by
  induction c with
  | zero => rfl
  | succ c ih => rw [Lib.repeatL, ih, List.replicate_succ]; rfl
theorem repeat_any (c : Nat) (hc : c ≤ 255) (w : World) : Calls Tryd.prog 86 #[.string ⟨#[91]⟩, .int .i64 c] w fun e w' => e = .returned (.string (bs (List.replicate c 91))) ∧ Below w.heap.size w w' := by
  refine (Tryd.strings_Repeat ⟨#[91]⟩ c w (by omega) (by show 1 * c ≤ _; omega)).mono ?_
  rintro e w1 ⟨rfl, hb⟩
  refine ⟨?_, hb⟩
  have h : Lib.repeatL (⟨#[91]⟩ : ByteArray).data.toList c = List.replicate c 91 := by
    exact repeat91 c
  rw [h]; rfl
theorem written_any (d : Nat) (hd : d ≤ 255) (nm : List UInt8) (hnm : nm.length < 4294967281) (w : World) : Calls Tryd.prog 70 #[tyV d nm] w fun e w' => e = .returned (.string (bs (wr d nm))) ∧ Below w.heap.size w w' := by
  have R := Lib.hid (repeat_any d hd (w.alloc (.cells #[.int .i64 d, .string (bs nm)] 37)))
  have B0 := Lib.hid ((Below.refl w.heap.size w).alloc (Nat.le_refl _) (.cells #[.int .i64 d, .string (bs nm)] 37))
  rw [tyV]
  have z1 : (bs (List.replicate d 91)).size = d := by rw [mk_size, List.length_replicate]
  have z2 := mk_size nm
  cases nm with
  | nil =>
    rw [bs_nil] at R B0 ⊢
    go_enter Tryd.func70, Tryd.ntmps70
    go_wp2_with (go_at_call 86; refine R.out.mono ?_; rintro e w3 ⟨rfl, hb⟩; replace hb := Lib.hid hb)
    go_ret
    refine ⟨?_, B0.out.trans (hb.out.mono (by simp))⟩
    apply congrArg Ending.returned
    apply congrArg Value.string
    apply bytes_inj
    simp [wr, base, mk_toList]
  | cons x r =>
    simp only [List.length_cons] at z2 hnm
    have n1 : ¬ (bs (x :: r)).toList = [] := by rw [ByteArray.toList_eq, mk_toList]; simp
    have n2 : (bs (x :: r)).toList.isEmpty = false := by rw [ByteArray.toList_eq, mk_toList]; rfl
    go_enter Tryd.func70, Tryd.ntmps70
    go_wp2_with (go_at_call 86; refine R.out.mono ?_; rintro e w3 ⟨rfl, hb⟩; replace hb := Lib.hid hb)
    go_ret
    refine ⟨?_, B0.out.trans (hb.out.mono (by simp))⟩
    apply congrArg Ending.returned
    apply congrArg Value.string
    apply bytes_inj
    simp [wr, base, mk_toList]
end Go.Proofs.YtpcdfjifhoofjaaDoor.Ty

/- The walks of Text, RefText. -/
namespace Go.Proofs.YtpcdfjifhoofjaaDoor.Ty
open Go Go.RowKit Go.Proofs.YtpcdfjifhoofjaaDoor.Nm
set_option linter.unusedVariables false
set_option linter.unusedSimpArgs false
set_option maxHeartbeats 1000000
set_option maxRecDepth 10000

def textT (d : Int) (nm : List UInt8) : List UInt8 × Int := if chk d nm ≠ 0 then ([], 1) else (wr d.toNat nm, 0)
theorem chk_small (d : Int) (nm : List UInt8) (h : chk d nm = 0) : nm.length ≤ 60 := by
  unfold chk at h
  split at h
  · cases h
  · split at h
    · cases h
    · rename_i h1 h2
      by_cases hn : nm = []
      · rw [hn]; simp
      · cases hv : validB (bs nm) with
        | false => exact absurd ⟨hn, hv⟩ h2
        | true =>
          have := hv
          rw [validB, Bool.and_eq_true] at this
          have := of_decide_eq_true this.1
          rw [mk_size] at this
          exact this
theorem text_any (d : Int) (nm : List UInt8) (w : World) (hm : ML w) : Calls Tryd.prog 41 #[tyV d nm] w fun e w' =>
    e = .returned (.tuple #[.string (bs (textT d nm).1), .int .i64 (textT d nm).2]) ∧ Below w.heap.size w w' := by
  have A0 := Two.new w d (bs nm) 37
  have C := Lib.hid (check_any d nm (w.alloc (.cells #[.int .i64 d, .string (bs nm)] 37)) (ml_alloc hm _))
  have B0 := (Below.refl w.heap.size w).alloc (Nat.le_refl _) (.cells #[.int .i64 d, .string (bs nm)] 37)
  have K := chk_cases d nm
  have hc : textT d nm = if chk d nm ≠ 0 then ([], 1) else (wr d.toNat nm, 0) := rfl
  replace hc := Lib.hid hc
  replace A0 := Lib.hid A0
  replace B0 := Lib.hid B0
  clear hm
  rw [tyV]
  go_enter Tryd.func41, Tryd.ntmps41
  go_wp2_with fail
  refine C.out.mono ?_
  rintro e w3 ⟨rfl, hb⟩
  have A3 := A0.out.kept (gb_below hb) (by simp)
  have B3 := Lib.hid (B0.out.trans (hb.mono (by simp)))
  clear A0 B0 hb C
  have a0 := A3.c0
  have a1 := A3.c1
  replace A3 := Lib.hid A3
  rcases K with hk | ⟨hk, hd0, hd1⟩
  · have hp := hc.out
    rw [hk, if_pos (by decide)] at hp
    replace hp := Lib.hid hp
    rw [hk]
    clear hc hk
    go_wp2
    go_ret2
    exact ⟨by rw [hp.out]; rfl, B3.out⟩
  · have hp := hc.out
    rw [hk, if_neg (by decide)] at hp
    replace hp := Lib.hid hp
    have hsm := chk_small d nm hk
    rw [hk]
    clear hc hk
    obtain ⟨k, rfl⟩ : ∃ k : Nat, d = k := ⟨d.toNat, by omega⟩
    have W := Lib.hid (written_any k (by omega) nm (by omega))
    clear hsm
    go_wp2_with fail
    refine (W.out _).mono ?_
    rintro e w5 ⟨rfl, hb5⟩
    have B5 := Lib.hid (B3.out.trans (hb5.mono B3.out.size))
    clear B3 hb5 W A3 a0 a1
    go_wp2
    go_ret2
    exact ⟨by rw [hp.out]; rfl, B5.out⟩
def refT (d : Int) (nm : List UInt8) : List UInt8 × Int :=
  if chk d nm ≠ 0 then ([], 1) else if d = 0 then (if nm = [] then ([], 2) else (nm, 0)) else (wr d.toNat nm, 0)
theorem reftext_any (d : Int) (nm : List UInt8) (w : World) (hm : ML w) : Calls Tryd.prog 45 #[tyV d nm] w fun e w' =>
    e = .returned (.tuple #[.string (bs (refT d nm).1), .int .i64 (refT d nm).2]) ∧ Below w.heap.size w w' := by
  have A0 := Two.new w d (bs nm) 37
  have C := Lib.hid (check_any d nm (w.alloc (.cells #[.int .i64 d, .string (bs nm)] 37)) (ml_alloc hm _))
  have B0 := (Below.refl w.heap.size w).alloc (Nat.le_refl _) (.cells #[.int .i64 d, .string (bs nm)] 37)
  have K := chk_cases d nm
  have hc : refT d nm = if chk d nm ≠ 0 then ([], 1) else if d = 0 then (if nm = [] then ([], 2) else (nm, 0)) else (wr d.toNat nm, 0) := rfl
  replace hc := Lib.hid hc
  replace A0 := Lib.hid A0
  replace B0 := Lib.hid B0
  clear hm
  rw [tyV]
  go_enter Tryd.func45, Tryd.ntmps45
  go_wp2_with fail
  refine C.out.mono ?_
  rintro e w3 ⟨rfl, hb⟩
  have A3 := A0.out.kept (gb_below hb) (by simp)
  have B3 := Lib.hid (B0.out.trans (hb.mono (by simp)))
  clear A0 B0 hb C
  have a0 := A3.c0
  have a1 := A3.c1
  replace A3 := Lib.hid A3
  rcases K with hk | ⟨hk, hd0, hd1⟩
  · have hp := hc.out
    rw [hk, if_pos (by decide)] at hp
    replace hp := Lib.hid hp
    rw [hk]
    clear hc hk
    go_wp2
    go_ret2
    exact ⟨by rw [hp.out]; rfl, B3.out⟩
  · have hp := hc.out
    rw [hk, if_neg (by decide)] at hp
    have hsm := chk_small d nm hk
    rw [hk]
    clear hc hk
    obtain ⟨k, rfl⟩ : ∃ k : Nat, d = k := ⟨d.toNat, by omega⟩
    have W := Lib.hid (written_any k (by omega) nm (by omega))
    clear hsm
    by_cases h0 : k = 0
    · subst h0
      rw [if_pos (show ((0 : Nat) : Int) = 0 from rfl)] at hp
      cases nm with
      | nil =>
        rw [if_pos rfl] at hp
        replace hp := Lib.hid hp
        rw [bs_nil] at a1
        go_wp2
        go_ret2
        exact ⟨by rw [hp.out]; rfl, B3.out⟩
      | cons x r =>
        rw [if_neg (by simp)] at hp
        replace hp := Lib.hid hp
        have n1 : ¬ (bs (x :: r)).toList = [] := by rw [ByteArray.toList_eq, mk_toList]; simp
        have n2 : (bs (x :: r)).toList.isEmpty = false := by rw [ByteArray.toList_eq, mk_toList]; rfl
        clear W
        go_wp2
        go_ret2
        exact ⟨by rw [hp.out]; rfl, B3.out⟩
    · rw [if_neg (by omega)] at hp
      replace hp := Lib.hid hp
      have hk0 : ((k : Int) == 0) = false := beq_eq_false_iff_ne.2 (by omega)
      go_wp2_with fail
      refine (W.out _).mono ?_
      rintro e w5 ⟨rfl, hb5⟩
      have B5 := Lib.hid (B3.out.trans (hb5.mono B3.out.size))
      clear B3 hb5 W A3 a0 a1
      go_wp2
      go_ret2
      exact ⟨by rw [hp.out]; rfl, B5.out⟩
end Go.Proofs.YtpcdfjifhoofjaaDoor.Ty

/- The walk of arbiterref02.ParseRef. -/
namespace Go.Proofs.YtpcdfjifhoofjaaDoor.Ty
open Go Go.RowKit Go.Proofs.YtpcdfjifhoofjaaDoor.Nm
set_option linter.unusedVariables false
set_option linter.unusedSimpArgs false
set_option maxHeartbeats 1000000
set_option maxRecDepth 10000

theorem rparseref_any (l : List UInt8) (w : World) (hm : ML w) : Calls Tryd.prog 30 #[.string (bs l)] w fun e w' =>
    e = .returned (.tuple #[tyV (parseR l).1 (parseR l).2.1, .int .i64 (parseR l).2.2]) ∧ Below w.heap.size w w' := by
  have hz := mk_size l
  have hzl : ((bs l).size : Int) = l.length := by rw [hz]
  clear hz
  have T0 := Two.new w 0 ⟨#[]⟩ 37
  have M0 := ml_alloc hm (.cells #[.int .i64 0, .string ⟨#[]⟩] 37)
  have B0 : Below w.heap.size w (w.alloc (.cells #[.int .i64 0, .string ⟨#[]⟩] 37)) := (Below.refl _ _).alloc (Nat.le_refl _) _
  have P := Lib.hid (rparse_any l _ M0)
  have V := Lib.hid (rvalid_any (bs l) (w.alloc (.cells #[.int .i64 0, .string ⟨#[]⟩] 37)))
  replace T0 := Lib.hid T0
  replace B0 := Lib.hid B0
  clear M0 hm
  by_cases hbig : 2000 < l.length
  · have hp : parseR l = (0, [], 5) := by simp [parseR, hbig]
    replace hp := Lib.hid hp
    clear P V
    go_enter Tryd.func30, Tryd.ntmps30
    go_wp2
    refine bodyPost_ret (v := .tuple #[tyV 0 [], .int .i64 5]) (by simp [results, Tryd.results30, go_sem, tyV, bs_nil]) rfl ⟨by rw [hp.out], ?_⟩
    have B1 := B0.out
    repeat' (first | assumption | apply Below.setCell | apply Below.alloc | apply Below.drew)
    all_goals (first | omega | (simp; done) | (simp; omega))
  · have hsm : (l.length : Int) ≤ 2000 := by omega
    have step : ∀ (d : Int) (nm : List UInt8) (er : Int), True := fun _ _ _ => trivial
    clear step
    have F := first_byte l
    cases hb : brk l
    · cases hv : validB (bs l)
      · have hp : parseR l = (0, [], 4) := by simp [parseR, hbig, hb, hv]
        replace hp := Lib.hid hp
        rw [hv] at V
        rw [hb] at F
        clear P
        go_enter Tryd.func30, Tryd.ntmps30
        rcases F with ⟨hl0, hb0⟩ | ⟨hpos, x, hx, hb0⟩
        all_goals
          go_wp2_with fail
          refine V.out.mono ?_
          rintro e w3 ⟨rfl, hg⟩
          have T3 := T0.out.kept (gb_below hg) (by simp)
          have B3 := B0.out.trans (hg.mono (by simp))
          clear T0 B0 V hg
          have hsz := B3.size
          have f0 := T3.f0
          have h1 := T3.c0
          have h2 := T3.c1
          have f1 := T3.f1
          replace T3 := Lib.hid T3
          go_wp2
          have T5 := (T3.out.set0 0).set1 ⟨#[]⟩
          refine bodyPost_ret (v := .tuple #[tyV 0 [], .int .i64 4]) (by simp [results, Tryd.results30, go_sem, tyV, bs_nil, T5.c0, T5.c1]) rfl ⟨by rw [hp.out], ?_⟩
          repeat' (first | assumption | apply Below.setCell | apply Below.alloc | apply Below.drew)
          all_goals (first | omega | (simp; done) | (simp; omega))
      · have hp : parseR l = (0, l, 0) := by simp [parseR, hbig, hb, hv]
        replace hp := Lib.hid hp
        rw [hv] at V
        rw [hb] at F
        clear P
        go_enter Tryd.func30, Tryd.ntmps30
        rcases F with ⟨hl0, hb0⟩ | ⟨hpos, x, hx, hb0⟩
        all_goals
          go_wp2_with fail
          refine V.out.mono ?_
          rintro e w3 ⟨rfl, hg⟩
          have T3 := T0.out.kept (gb_below hg) (by simp)
          have B3 := B0.out.trans (hg.mono (by simp))
          clear T0 B0 V hg
          have hsz := B3.size
          have f0 := T3.f0
          have h1 := T3.c0
          have h2 := T3.c1
          have f1 := T3.f1
          replace T3 := Lib.hid T3
          go_wp2
          have T5 := (T3.out.set0 0).set1 (bs l)
          refine bodyPost_ret (v := .tuple #[tyV 0 l, .int .i64 0]) (by simp [results, Tryd.results30, go_sem, tyV, bs_nil, T5.c0, T5.c1]) rfl ⟨by rw [hp.out], ?_⟩
          repeat' (first | assumption | apply Below.setCell | apply Below.alloc | apply Below.drew)
          all_goals (first | omega | (simp; done) | (simp; omega))
    · have hp : parseR l = parseT l := by rw [parseR, if_neg hbig, if_pos hb]
      replace hp := Lib.hid hp
      clear V
      obtain ⟨d, nm, er, hpt⟩ : ∃ d nm er, parseT l = (d, nm, er) := ⟨_, _, _, rfl⟩
      rw [hpt] at P
      simp only [tyV] at P
      replace hpt := Lib.hid hpt
      rw [hb] at F
      rcases F with ⟨hl0, hb0⟩ | ⟨hpos, x, hx, hb0⟩
      · cases hb0
      go_enter Tryd.func30, Tryd.ntmps30
      go_wp2_with fail
      refine P.out.mono ?_
      rintro e w3 ⟨rfl, hg⟩
      have T3 := T0.out.kept (gb_below hg) (by simp)
      have B3 := B0.out.trans (hg.mono (by simp))
      clear T0 B0 P hg
      have hsz := B3.size
      have f0 := T3.f0
      have h1 := T3.c0
      have h2 := T3.c1
      have f1 := T3.f1
      replace T3 := Lib.hid T3
      go_wp2
      have T5 := (T3.out.set0 d).set1 (bs nm)
      refine bodyPost_ret (v := .tuple #[tyV d nm, .int .i64 er]) (by simp [results, Tryd.results30, go_sem, tyV, bs_nil, T5.c0, T5.c1]) rfl ⟨by rw [hp.out, hpt.out], ?_⟩
      repeat' (first | assumption | apply Below.setCell | apply Below.alloc | apply Below.drew)
      all_goals (first | omega | (simp; done) | (simp; omega))
end Go.Proofs.YtpcdfjifhoofjaaDoor.Ty

/- What the walks by hand say of types, the reference's among them, in the form that the printed texts ask for. -/
namespace Go.Proofs.YtpcdfjifhoofjaaDoor.Pt
open Go Go.RowKit Go.Proofs.YtpcdfjifhoofjaaDoor.Nm Go.Proofs.YtpcdfjifhoofjaaDoor.Ty Go.Proofs.YtpcdfjifhoofjaaDoorW.PrintWords Go.Proofs.YtpcdfjifhoofjaaDoorW.PrintLast Go.Proofs.YtpcdfjifhoofjaaDoorW.PrintMore
set_option linter.unusedVariables false
set_option linter.unusedSimpArgs false

def arbiterref02_Parse.f (a0 : ByteArray) : Option (Int × ByteArray × Int) := some (tup3 (parseT a0.data.toList))
theorem arbiterref02_Parse.calls (a0 : ByteArray) (r1 : Int) (r2 : ByteArray) (r3 : Int) (w : World) (h : arbiterref02_Parse.f a0 = some (r1, r2, r3)) :
    Calls Tryd.prog 27 #[.string a0] w fun e w' => e = .returned (.tuple #[.agg #[.int .i64 r1, .string r2], .int .i64 r3]) ∧ Below w.heap.size w w' := by
  unfold arbiterref02_Parse.f at h
  obtain ⟨rfl, rfl, rfl⟩ := some_inj3 h
  have C := rparse_any a0.data.toList w trivial
  rw [mk_data] at C
  exact C
def arbiterref02_ParseRef.f (a0 : ByteArray) : Option (Int × ByteArray × Int) := some (tup3 (parseR a0.data.toList))
theorem arbiterref02_ParseRef.calls (a0 : ByteArray) (r1 : Int) (r2 : ByteArray) (r3 : Int) (w : World) (h : arbiterref02_ParseRef.f a0 = some (r1, r2, r3)) :
    Calls Tryd.prog 30 #[.string a0] w fun e w' => e = .returned (.tuple #[.agg #[.int .i64 r1, .string r2], .int .i64 r3]) ∧ Below w.heap.size w w' := by
  unfold arbiterref02_ParseRef.f at h
  obtain ⟨rfl, rfl, rfl⟩ := some_inj3 h
  have C := rparseref_any a0.data.toList w trivial
  rw [mk_data] at C
  exact C
def types_ArrayOf.f (a0_0 : Int) (a0_1 : ByteArray) : Option (Int × ByteArray × Int) := some (tup3 (arrT a0_0 a0_1.data.toList))
theorem types_ArrayOf.calls (a0_0 : Int) (a0_1 : ByteArray) (r1 : Int) (r2 : ByteArray) (r3 : Int) (w : World) (h : types_ArrayOf.f a0_0 a0_1 = some (r1, r2, r3)) :
    Calls Tryd.prog 47 #[.agg #[.int .i64 a0_0, .string a0_1]] w fun e w' => e = .returned (.tuple #[.agg #[.int .i64 r1, .string r2], .int .i64 r3]) ∧ Below w.heap.size w w' := by
  unfold types_ArrayOf.f at h
  obtain ⟨rfl, rfl, rfl⟩ := some_inj3 h
  have C := arrayof_any a0_0 a0_1.data.toList w trivial
  rw [tyV, mk_data] at C
  exact C
def types_Component.f (a0_0 : Int) (a0_1 : ByteArray) : Option (Int × ByteArray × Int) := some (tup3 (cmpT a0_0 a0_1.data.toList))
theorem types_Component.calls (a0_0 : Int) (a0_1 : ByteArray) (r1 : Int) (r2 : ByteArray) (r3 : Int) (w : World) (h : types_Component.f a0_0 a0_1 = some (r1, r2, r3)) :
    Calls Tryd.prog 49 #[.agg #[.int .i64 a0_0, .string a0_1]] w fun e w' => e = .returned (.tuple #[.agg #[.int .i64 r1, .string r2], .int .i64 r3]) ∧ Below w.heap.size w w' := by
  unfold types_Component.f at h
  obtain ⟨rfl, rfl, rfl⟩ := some_inj3 h
  have C := component_any a0_0 a0_1.data.toList w trivial
  rw [tyV, mk_data] at C
  exact C
def types_Element.f (a0_0 : Int) (a0_1 : ByteArray) : Option (Int × ByteArray × Int) := some (tup3 (eltT a0_0 a0_1.data.toList))
theorem types_Element.calls (a0_0 : Int) (a0_1 : ByteArray) (r1 : Int) (r2 : ByteArray) (r3 : Int) (w : World) (h : types_Element.f a0_0 a0_1 = some (r1, r2, r3)) :
    Calls Tryd.prog 51 #[.agg #[.int .i64 a0_0, .string a0_1]] w fun e w' => e = .returned (.tuple #[.agg #[.int .i64 r1, .string r2], .int .i64 r3]) ∧ Below w.heap.size w w' := by
  unfold types_Element.f at h
  obtain ⟨rfl, rfl, rfl⟩ := some_inj3 h
  have C := element_any a0_0 a0_1.data.toList w trivial
  rw [tyV, mk_data] at C
  exact C
def arbiterref02_ArrayOf.f (a0_0 : Int) (a0_1 : ByteArray) : Option (Int × ByteArray × Int) := some (tup3 (arrT a0_0 a0_1.data.toList))
theorem arbiterref02_ArrayOf.calls (a0_0 : Int) (a0_1 : ByteArray) (r1 : Int) (r2 : ByteArray) (r3 : Int) (w : World) (h : arbiterref02_ArrayOf.f a0_0 a0_1 = some (r1, r2, r3)) :
    Calls Tryd.prog 48 #[.agg #[.int .i64 a0_0, .string a0_1]] w fun e w' => e = .returned (.tuple #[.agg #[.int .i64 r1, .string r2], .int .i64 r3]) ∧ Below w.heap.size w w' := by
  unfold arbiterref02_ArrayOf.f at h
  obtain ⟨rfl, rfl, rfl⟩ := some_inj3 h
  have C := rarrayof_any a0_0 a0_1.data.toList w
  rw [tyV, mk_data] at C
  exact C
def arbiterref02_Component.f (a0_0 : Int) (a0_1 : ByteArray) : Option (Int × ByteArray × Int) := some (tup3 (cmpT a0_0 a0_1.data.toList))
theorem arbiterref02_Component.calls (a0_0 : Int) (a0_1 : ByteArray) (r1 : Int) (r2 : ByteArray) (r3 : Int) (w : World) (h : arbiterref02_Component.f a0_0 a0_1 = some (r1, r2, r3)) :
    Calls Tryd.prog 50 #[.agg #[.int .i64 a0_0, .string a0_1]] w fun e w' => e = .returned (.tuple #[.agg #[.int .i64 r1, .string r2], .int .i64 r3]) ∧ Below w.heap.size w w' := by
  unfold arbiterref02_Component.f at h
  obtain ⟨rfl, rfl, rfl⟩ := some_inj3 h
  have C := rcomponent_any a0_0 a0_1.data.toList w
  rw [tyV, mk_data] at C
  exact C
def arbiterref02_Element.f (a0_0 : Int) (a0_1 : ByteArray) : Option (Int × ByteArray × Int) := some (tup3 (eltT a0_0 a0_1.data.toList))
theorem arbiterref02_Element.calls (a0_0 : Int) (a0_1 : ByteArray) (r1 : Int) (r2 : ByteArray) (r3 : Int) (w : World) (h : arbiterref02_Element.f a0_0 a0_1 = some (r1, r2, r3)) :
    Calls Tryd.prog 52 #[.agg #[.int .i64 a0_0, .string a0_1]] w fun e w' => e = .returned (.tuple #[.agg #[.int .i64 r1, .string r2], .int .i64 r3]) ∧ Below w.heap.size w w' := by
  unfold arbiterref02_Element.f at h
  obtain ⟨rfl, rfl, rfl⟩ := some_inj3 h
  have C := relement_any a0_0 a0_1.data.toList w
  rw [tyV, mk_data] at C
  exact C
def types_Text.f (a0_0 : Int) (a0_1 : ByteArray) : Option (ByteArray × Int) := some (tup2 (textT a0_0 a0_1.data.toList))
theorem types_Text.calls (a0_0 : Int) (a0_1 : ByteArray) (r1 : ByteArray) (r2 : Int) (w : World) (h : types_Text.f a0_0 a0_1 = some (r1, r2)) :
    Calls Tryd.prog 41 #[.agg #[.int .i64 a0_0, .string a0_1]] w fun e w' => e = .returned (.tuple #[.string r1, .int .i64 r2]) ∧ Below w.heap.size w w' := by
  unfold types_Text.f at h
  obtain ⟨rfl, rfl⟩ := some_inj2 h
  have C := text_any a0_0 a0_1.data.toList w trivial
  rw [tyV, mk_data] at C
  exact C
def types_RefText.f (a0_0 : Int) (a0_1 : ByteArray) : Option (ByteArray × Int) := some (tup2 (refT a0_0 a0_1.data.toList))
theorem types_RefText.calls (a0_0 : Int) (a0_1 : ByteArray) (r1 : ByteArray) (r2 : Int) (w : World) (h : types_RefText.f a0_0 a0_1 = some (r1, r2)) :
    Calls Tryd.prog 45 #[.agg #[.int .i64 a0_0, .string a0_1]] w fun e w' => e = .returned (.tuple #[.string r1, .int .i64 r2]) ∧ Below w.heap.size w w' := by
  unfold types_RefText.f at h
  obtain ⟨rfl, rfl⟩ := some_inj2 h
  have C := reftext_any a0_0 a0_1.data.toList w trivial
  rw [tyV, mk_data] at C
  exact C
def arbiterref02_Check.f (a0_0 : Int) (a0_1 : ByteArray) : Option Int := some (chk a0_0 a0_1.data.toList)
theorem arbiterref02_Check.calls (a0_0 : Int) (a0_1 : ByteArray) (r : Int) (w : World) (h : arbiterref02_Check.f a0_0 a0_1 = some r) :
    Calls Tryd.prog 44 #[.agg #[.int .i64 a0_0, .string a0_1]] w fun e w' => e = .returned (.int .i64 r) ∧ Below w.heap.size w w' := by
  unfold arbiterref02_Check.f at h
  obtain rfl := Option.some.inj h
  have C := rcheck_any a0_0 a0_1.data.toList w
  rw [tyV, mk_data] at C
  exact C
def arbiterref02_read.f (a0 : ByteArray) (a1 : Int) : Option (Int × ByteArray × Int) := if 0 ≤ a1 ∧ a1.toNat ≤ a0.size ∧ a0.size < 4294967281 then some (tup3 (readF a0.data.toList a1.toNat)) else none
theorem arbiterref02_read.calls (a0 : ByteArray) (a1 : Int) (r1 : Int) (r2 : ByteArray) (r3 : Int) (w : World) (h : arbiterref02_read.f a0 a1 = some (r1, r2, r3)) :
    Calls Tryd.prog 66 #[.string a0, .int .i64 a1] w fun e w' => e = .returned (.tuple #[.agg #[.int .i64 r1, .string r2], .int .i64 r3]) ∧ Below w.heap.size w w' := by
  unfold arbiterref02_read.f at h
  obtain ⟨⟨h0, h1, h2⟩, h⟩ := if_some h
  obtain ⟨rfl, rfl, rfl⟩ := some_inj3 h
  obtain ⟨n, rfl⟩ : ∃ n : Nat, a1 = n := ⟨a1.toNat, by omega⟩
  rw [Int.toNat_natCast] at h1 ⊢
  have e := len_data a0
  have C := rread_fun a0.data.toList n (by omega) (by omega) w
  rw [mk_data] at C
  exact C

end Go.Proofs.YtpcdfjifhoofjaaDoor.Pt

-- laid by a program of this session's own (a variant of the kit's print)
namespace Go.Proofs.YtpcdfjifhoofjaaDoor.Pt
open Go.RowKit Go.Proofs.YtpcdfjifhoofjaaDoorW.PrintWords Go.Proofs.YtpcdfjifhoofjaaDoorW.PrintLast Go.Proofs.YtpcdfjifhoofjaaDoorW.PrintMore
attribute [local go_sem] max2_int min2_int max_two min_two max_three min_three max_four min_four   -- for this text's walks alone
set_option linter.unusedVariables false
set_option linter.unusedSimpArgs false

/-! ### arbiterlaw02_awake: function 25 -/
def arbiterlaw02_awake.f  : Option (Bool) := (types_Parse.f (⟨#[91, 76, 112, 47, 65, 59]⟩ : ByteArray)).bind fun bt101 => (if bt101.2.2 = 0 then (if bt101.1 = 1 then (some (bt101.2.1.toList == ([112, 47, 65] : List UInt8))) else (some false)) else (some false))
set_option maxHeartbeats 8000000 in
set_option maxRecDepth 100000 in
theorem arbiterlaw02_awake.calls  (r : Bool) (w : World) (h : arbiterlaw02_awake.f  = some r) :
  Calls Tryd.prog 25 #[] w fun e w' => e = .returned (.bool r) ∧ Below w.heap.size w w' := by
 have hu37 := Tryd.underlying37
 have HB := Aside0.mk (Below.refl w.heap.size w)
 have H : ((types_Parse.f (⟨#[91, 76, 112, 47, 65, 59]⟩ : ByteArray)).bind fun bt101 => (if bt101.2.2 = 0 then (if bt101.1 = 1 then (some (bt101.2.1.toList == ([112, 47, 65] : List UInt8))) else (some false)) else (some false))) = some r := h
 clear h
 replace H := Option.bind_eq_some_iff.mp H
 obtain ⟨⟨t101, t102, t103⟩, A10, H⟩ := H
 replace H : (if t103 = 0 then (if t101 = 1 then (some (t102.toList == ([112, 47, 65] : List UInt8))) else (some false)) else (some false)) = some r := H
 have A1 := Aside0.mk A10
 clear A10
 by_cases c2 : t103 = 0
 ·
  rw [if_pos c2] at H
  have c2b0 : (t103 == 0) = true := beq_iff_eq.mpr c2
  have c2b1 : (t103 != 0) = false := bne_eq_false_iff_eq.mpr c2
  clear c2
  by_cases c3 : t101 = 1
  ·
   rw [if_pos c3] at H
   have c3b0 : (t101 == 1) = true := beq_iff_eq.mpr c3
   have c3b1 : (t101 != 1) = false := bne_eq_false_iff_eq.mpr c3
   clear c3
   obtain rfl := Option.some.inj H
   go_enter Tryd.func25, Tryd.ntmps25
   go_wp2_with (first | ((with_reducible refine gate_callee (f := 26) rfl ?_); refine goesL_ (some 4) rfl rfl Tryd.func26 (by kernel_rfl) rfl #[.string (⟨#[91, 76, 112, 47, 65, 59]⟩ : ByteArray)] rfl (by (try simp only [List.map_toArray, List.map_cons, List.map_nil]); first | done | rfl | (simp only [List.length_drop, List.length_take]; rfl)) ?_; (with_reducible refine (types_Parse.calls (⟨#[91, 76, 112, 47, 65, 59]⟩ : ByteArray) t101 t102 t103 _ A1.out).mono ?_); rintro e w4 ⟨rfl, hb⟩; refine ⟨_, rfl, ?_⟩; have n0_ := Aside0.mk (below_step (by repeat (first | (with_reducible first | exact HB.out | apply below_alloc | apply pw_below_drewN | apply below_drew1) | exact HB.out)) hb); clear HB; have HB := n0_; clear n0_; (try clear hb); (try clear hb2); (try clear hk); (try clear hi)) | ((with_reducible refine gate_dst (N := 1) rfl ?_); refine box_event ?hg (N := 1) ?hd (cs := #[.int .i64 0, .string (⟨#[]⟩ : ByteArray)]) (t := 37) ?hr ?_; (case hd => rfl); (case hg => rfl); (case hr => first | (go_simp; done) | (go_simp; rfl)); intro gb104 hg w5 hbox hb; have n0_ := Aside0.mk (below_step (by repeat (first | (with_reducible first | exact HB.out | apply below_alloc | apply pw_below_drewN | apply below_drew1) | exact HB.out)) hb); have n1_ := Aside0.mk (hbox); have n2_ := Aside0.mk ((by rw [hg]; exact (below_size (by repeat (first | (with_reducible first | exact HB.out | apply below_alloc | apply pw_below_drewN | apply below_drew1) | exact HB.out))) : w.heap.size ≤ gb104)); have n3_ := Aside0.mk ((by rw [hg]; exact (below_size (by repeat (first | (with_reducible first | exact HB.out | apply below_alloc | apply pw_below_drewN | apply below_drew1) | exact HB.out))) : w.heap.size ≤ gb104)); clear HB; have HB := n0_; have BK104 := n1_; have GW104 := n2_; have GE104 := n3_; clear n0_ n1_ n2_ n3_; clear hb hbox hg; have hcz6_0 : w5.cell? ⟨gb104, 0, none⟩ = some (.int .i64 0) := (blk_cell BK104.out 0).trans rfl; have hcz6_1 : w5.cell? ⟨gb104, 1, none⟩ = some (.string (⟨#[]⟩ : ByteArray)) := (blk_cell BK104.out 1).trans rfl; have hfz6_0 := blk_frozen BK104.out 0; have hfz6_1 := blk_frozen BK104.out 1))
   go_ret
   exact ⟨by first | rfl | (simp [errW_none, errW_some] <;> rfl) | (simp [*, errW_none, errW_some] <;> rfl), by repeat (first | (with_reducible first | exact HB.out | apply below_alloc | apply pw_below_drewN | apply below_drew1 | refine below_set ?_ GE104.out) | exact HB.out)⟩
  ·
   rw [if_neg c3] at H
   have c3b0 : (t101 == 1) = false := beq_eq_false_iff_ne.mpr c3
   have c3b1 : (t101 != 1) = true := bne_iff_ne.mpr c3
   obtain rfl := Option.some.inj H
   go_enter Tryd.func25, Tryd.ntmps25
   go_wp2_with (first | ((with_reducible refine gate_callee (f := 26) rfl ?_); refine goesL_ (some 4) rfl rfl Tryd.func26 (by kernel_rfl) rfl #[.string (⟨#[91, 76, 112, 47, 65, 59]⟩ : ByteArray)] rfl (by (try simp only [List.map_toArray, List.map_cons, List.map_nil]); first | done | rfl | (simp only [List.length_drop, List.length_take]; rfl)) ?_; (with_reducible refine (types_Parse.calls (⟨#[91, 76, 112, 47, 65, 59]⟩ : ByteArray) t101 t102 t103 _ A1.out).mono ?_); rintro e w7 ⟨rfl, hb⟩; refine ⟨_, rfl, ?_⟩; have n0_ := Aside0.mk (below_step (by repeat (first | (with_reducible first | exact HB.out | apply below_alloc | apply pw_below_drewN | apply below_drew1) | exact HB.out)) hb); clear HB; have HB := n0_; clear n0_; (try clear hb); (try clear hb2); (try clear hk); (try clear hi)) | ((with_reducible refine gate_dst (N := 1) rfl ?_); refine box_event ?hg (N := 1) ?hd (cs := #[.int .i64 0, .string (⟨#[]⟩ : ByteArray)]) (t := 37) ?hr ?_; (case hd => rfl); (case hg => rfl); (case hr => first | (go_simp; done) | (go_simp; rfl)); intro gb104 hg w8 hbox hb; have n0_ := Aside0.mk (below_step (by repeat (first | (with_reducible first | exact HB.out | apply below_alloc | apply pw_below_drewN | apply below_drew1) | exact HB.out)) hb); have n1_ := Aside0.mk (hbox); have n2_ := Aside0.mk ((by rw [hg]; exact (below_size (by repeat (first | (with_reducible first | exact HB.out | apply below_alloc | apply pw_below_drewN | apply below_drew1) | exact HB.out))) : w.heap.size ≤ gb104)); have n3_ := Aside0.mk ((by rw [hg]; exact (below_size (by repeat (first | (with_reducible first | exact HB.out | apply below_alloc | apply pw_below_drewN | apply below_drew1) | exact HB.out))) : w.heap.size ≤ gb104)); clear HB; have HB := n0_; have BK104 := n1_; have GW104 := n2_; have GE104 := n3_; clear n0_ n1_ n2_ n3_; clear hb hbox hg; have hcz9_0 : w8.cell? ⟨gb104, 0, none⟩ = some (.int .i64 0) := (blk_cell BK104.out 0).trans rfl; have hcz9_1 : w8.cell? ⟨gb104, 1, none⟩ = some (.string (⟨#[]⟩ : ByteArray)) := (blk_cell BK104.out 1).trans rfl; have hfz9_0 := blk_frozen BK104.out 0; have hfz9_1 := blk_frozen BK104.out 1))
   go_ret
   exact ⟨by first | rfl | (simp [errW_none, errW_some] <;> rfl) | (simp [*, errW_none, errW_some] <;> rfl), by repeat (first | (with_reducible first | exact HB.out | apply below_alloc | apply pw_below_drewN | apply below_drew1 | refine below_set ?_ GE104.out) | exact HB.out)⟩
 ·
  rw [if_neg c2] at H
  have c2b0 : (t103 == 0) = false := beq_eq_false_iff_ne.mpr c2
  have c2b1 : (t103 != 0) = true := bne_iff_ne.mpr c2
  obtain rfl := Option.some.inj H
  go_enter Tryd.func25, Tryd.ntmps25
  go_wp2_with (first | ((with_reducible refine gate_callee (f := 26) rfl ?_); refine goesL_ (some 4) rfl rfl Tryd.func26 (by kernel_rfl) rfl #[.string (⟨#[91, 76, 112, 47, 65, 59]⟩ : ByteArray)] rfl (by (try simp only [List.map_toArray, List.map_cons, List.map_nil]); first | done | rfl | (simp only [List.length_drop, List.length_take]; rfl)) ?_; (with_reducible refine (types_Parse.calls (⟨#[91, 76, 112, 47, 65, 59]⟩ : ByteArray) t101 t102 t103 _ A1.out).mono ?_); rintro e w10 ⟨rfl, hb⟩; refine ⟨_, rfl, ?_⟩; have n0_ := Aside0.mk (below_step (by repeat (first | (with_reducible first | exact HB.out | apply below_alloc | apply pw_below_drewN | apply below_drew1) | exact HB.out)) hb); clear HB; have HB := n0_; clear n0_; (try clear hb); (try clear hb2); (try clear hk); (try clear hi)) | ((with_reducible refine gate_dst (N := 1) rfl ?_); refine box_event ?hg (N := 1) ?hd (cs := #[.int .i64 0, .string (⟨#[]⟩ : ByteArray)]) (t := 37) ?hr ?_; (case hd => rfl); (case hg => rfl); (case hr => first | (go_simp; done) | (go_simp; rfl)); intro gb104 hg w11 hbox hb; have n0_ := Aside0.mk (below_step (by repeat (first | (with_reducible first | exact HB.out | apply below_alloc | apply pw_below_drewN | apply below_drew1) | exact HB.out)) hb); have n1_ := Aside0.mk (hbox); have n2_ := Aside0.mk ((by rw [hg]; exact (below_size (by repeat (first | (with_reducible first | exact HB.out | apply below_alloc | apply pw_below_drewN | apply below_drew1) | exact HB.out))) : w.heap.size ≤ gb104)); have n3_ := Aside0.mk ((by rw [hg]; exact (below_size (by repeat (first | (with_reducible first | exact HB.out | apply below_alloc | apply pw_below_drewN | apply below_drew1) | exact HB.out))) : w.heap.size ≤ gb104)); clear HB; have HB := n0_; have BK104 := n1_; have GW104 := n2_; have GE104 := n3_; clear n0_ n1_ n2_ n3_; clear hb hbox hg; have hcz12_0 : w11.cell? ⟨gb104, 0, none⟩ = some (.int .i64 0) := (blk_cell BK104.out 0).trans rfl; have hcz12_1 : w11.cell? ⟨gb104, 1, none⟩ = some (.string (⟨#[]⟩ : ByteArray)) := (blk_cell BK104.out 1).trans rfl; have hfz12_0 := blk_frozen BK104.out 0; have hfz12_1 := blk_frozen BK104.out 1))
  go_ret
  exact ⟨by first | rfl | (simp [errW_none, errW_some] <;> rfl) | (simp [*, errW_none, errW_some] <;> rfl), by repeat (first | (with_reducible first | exact HB.out | apply below_alloc | apply pw_below_drewN | apply below_drew1 | refine below_set ?_ GE104.out) | exact HB.out)⟩

end Go.Proofs.YtpcdfjifhoofjaaDoor.Pt
