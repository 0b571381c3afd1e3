/- The walks of packages flags and arbiterref03 but for what reads words: what each function answers, as the Lean functions of FlPure. -/
import Derived.Test.YtmkjeojamhfgfaaProg
import Derived.Test.YtmkjeojamhfgfaaFlPure
import Derived.Test.YtmkjeojamhfgfaaBase
namespace Go.Proofs.Ytmkjeojamhfgfaa.Fl
open Go Go.RowKit
set_option maxHeartbeats 400000




theorem all_any (a b : Int) (w : World) : Calls Try.prog 16 #[.int .i64 a, .int .i64 b] w fun e w' => e = .returned (.bool (band a b == b)) ∧ w' = w := by
  go_enter Try.func16, Try.ntmps16
  go_wp2
  go_ret
  exact ⟨rfl, rfl⟩

theorem checkMethod_any (f : Int) (b : Bool) (s : ByteArray) (w : World) :
    Calls Try.prog 7 #[.int .i64 f, .bool b, .string s] w fun e w' => e = .returned (.int .i64 (checkMethod f b (s.toList == [60, 105, 110, 105, 116, 62]))) ∧ w' = w := by
  go_enter Try.func7, Try.ntmps7
  go_wp2_with (go_at_call 16; refine (all_any _ _ _).mono ?_; rintro e w' ⟨rfl, rfl⟩)
  all_goals
    go_ret
    refine ⟨ret_int ?_, rfl⟩
    simp_all [checkMethod, band, bandn]

theorem checkClass_any (f : Int) (w : World) :
    Calls Try.prog 6 #[.int .i64 f] w fun e w' => e = .returned (.int .i64 (checkClass f)) ∧ w' = w := by
  go_enter Try.func6, Try.ntmps6
  go_wp2_with (go_at_call 16; refine (all_any _ _ _).mono ?_; rintro e w' ⟨rfl, rfl⟩)
  all_goals
    go_ret
    refine ⟨ret_int ?_, rfl⟩
    simp_all [checkClass, band, bandn]

theorem open_any (f : Int) (w : World) :
    Calls Try.prog 8 #[.int .i64 f] w fun e w' => e = .returned (.int .i64 (opens f)) ∧ w' = w := by
  have i0 : ∀ w, (Instr.index 32 (.agg #[.int .i64 1, .int .i64 4, .int .i64 2]) (.int .i64 0)).run Try.prog w = .ok (.int .i64 1) w := fun _ => by kernel_rfl
  have i1 : ∀ w, (Instr.index 32 (.agg #[.int .i64 1, .int .i64 4, .int .i64 2]) (.int .i64 1)).run Try.prog w = .ok (.int .i64 4) w := fun _ => by kernel_rfl
  have i2 : ∀ w, (Instr.index 32 (.agg #[.int .i64 1, .int .i64 4, .int .i64 2]) (.int .i64 2)).run Try.prog w = .ok (.int .i64 2) w := fun _ => by kernel_rfl
  go_enter Try.func8, Try.ntmps8
  go_wp2
  go_rounds 4
  all_goals
    go_ret
    refine ⟨ret_int ?_, rfl⟩
    simp_all [opens, band]

theorem has_any (f c : Int) (w : World) :
    Calls Try.prog 19 #[.int .i64 f, .int .i64 c] w fun e w' => e = .returned (.bool (band f c != 0)) ∧ w' = w := by
  go_enter Try.func19, Try.ntmps19
  go_wp2
  go_ret
  exact ⟨rfl, rfl⟩
theorem ropen_any (f : Int) (w : World) :
    Calls Try.prog 11 #[.int .i64 f] w fun e w' => e = .returned (.int .i64 (opens f)) ∧ w' = w := by
  go_enter Try.func11, Try.ntmps11
  go_wp2_with (go_at_call 19; refine (has_any _ _ _).mono ?_; rintro e w' ⟨rfl, rfl⟩)
  all_goals
    go_ret
    refine ⟨ret_int ?_, rfl⟩
    simp_all [opens]
end Go.Proofs.Ytmkjeojamhfgfaa.Fl
