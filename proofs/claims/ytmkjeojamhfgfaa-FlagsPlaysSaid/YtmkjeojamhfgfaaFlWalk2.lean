/- The walks of packages flags and arbiterref03: lists of flags and words, known, CheckClass, CheckMethod and text of arbiterref03; flags.words. -/
import Derived.Test.YtmkjeojamhfgfaaFlWalk
import Derived.Lib.Hide
import Derived.Deep.DeepCutAuto
namespace Go.Proofs.Ytmkjeojamhfgfaa.Fl
open Go Go.RowKit
set_option maxHeartbeats 400000

def intsV (l : List Int) : Array Value := (l.map (Value.int .i64)).toArray
def strsV (l : List (List UInt8)) : Array Value := (l.map fun s => Value.string ⟨s.toArray⟩).toArray

theorem classFlags_any (w : World) : Calls Try.prog 18 #[] w fun e w' => e = .returned (.slice (some ⟨w.heap.size, 0, none⟩) 5 5) ∧ w' = w.alloc (.cells (intsV classFlags) 3) := by
  go_enter Try.func18, Try.ntmps18
  go_wp2
  go_ret
  exact ⟨rfl, rfl⟩
theorem methodFlags_any (w : World) : Calls Try.prog 20 #[] w fun e w' => e = .returned (.slice (some ⟨w.heap.size, 0, none⟩) 6 6) ∧ w' = w.alloc (.cells (intsV methodFlags) 3) := by
  go_enter Try.func20, Try.ntmps20
  go_wp2
  go_ret
  exact ⟨rfl, rfl⟩
theorem classWords_any (w : World) : Calls Try.prog 23 #[] w fun e w' => e = .returned (.slice (some ⟨w.heap.size, 0, none⟩) 5 5) ∧ w' = w.alloc (.cells (strsV classWords) 9) := by
  go_enter Try.func23, Try.ntmps23
  go_wp2
  go_ret
  exact ⟨rfl, rfl⟩
theorem methodWords_any (w : World) : Calls Try.prog 24 #[] w fun e w' => e = .returned (.slice (some ⟨w.heap.size, 0, none⟩) 6 6) ∧ w' = w.alloc (.cells (strsV methodWords) 9) := by
  go_enter Try.func24, Try.ntmps24
  go_wp2
  go_ret
  exact ⟨rfl, rfl⟩

def small (l : List Int) : Prop := l.length ≤ 10 ∧ ∀ j, 0 ≤ l.getD j 0 ∧ l.getD j 0 ≤ 2000
theorem known_snoc (f : Int) (l : List Int) (k : Nat) (h : k < l.length) : known f (l.take (k + 1)) = if band f (l.getD k 0) = 0 then known f (l.take k) else known f (l.take k) + l.getD k 0 := by
  unfold known
  rw [List.take_succ_eq_append_getElem h, List.foldl_append, List.getD_eq_getElem?_getD, List.getElem?_eq_getElem h]
  simp only [List.foldl_cons, List.foldl_nil, Option.getD_some]
theorem known_bd (f : Int) (l : List Int) (hl : small l) (k : Nat) : k ≤ l.length → 0 ≤ known f (l.take k) ∧ known f (l.take k) ≤ 2000 * k := by
  induction k with
  | zero => intro _; simp [known]
  | succ k ih =>
    intro hk
    have h1 := ih (by omega)
    have h2 := hl.2 k
    rw [known_snoc f l k (by omega)]
    split <;> omega

theorem known_any (f : Int) (l : List Int) (hl : small l) (b c : Nat) (w : World) (hc : ∀ j, j < l.length → w.cell? ⟨b, j, none⟩ = some (.int .i64 (l.getD j 0))) :
    Calls Try.prog 17 #[.int .i64 f, .slice (some ⟨b, 0, none⟩) l.length c] w fun e w' => e = .returned (.int .i64 (known f l)) ∧ w' = w := by
  have hlen := hl.1
  go_enter Try.func17, Try.ntmps17
  go_wp2
  go_loop [5, 6] (fun n i => ∃ k : Nat, k ≤ l.length ∧ i = .int .i64 k ∧ n = .int .i64 (known f (l.take k))) (fun _ i => l.length - (intOf i).toNat)
  case atStart => exact ⟨0, Nat.zero_le _, rfl, rfl⟩
  case round =>
    obtain ⟨k, hk, rfl, rfl⟩ := hrel
    have hb := known_bd f l hl k hk
    have hx := hl.2 k
    by_cases hlt : k < l.length
    · have hck := hc k hlt
      have hsn := known_snoc f l k hlt
      clear hc hl
      generalize l.getD k 0 = x at *
      replace hsn := Lib.hid hsn
      go_wp2_with (go_at_call 19; refine (has_any _ _ _).mono ?_; rintro e w' ⟨rfl, rfl⟩)
      · go_round
        case rel => exact ⟨k + 1, by omega, by go_num, by rw [hsn.out, if_neg (by simpa using ‹(band f x != 0) = true›)]⟩
        case measure => simp [intOf]; omega
      · go_round
        case rel => exact ⟨k + 1, by omega, by go_num, by rw [hsn.out, if_pos (by simpa using ‹(band f x != 0) = false›)]⟩
        case measure => simp [intOf]; omega
    · go_wp2
      go_ret
      exact ⟨ret_int (by rw [List.take_of_length_le (by omega)]), rfl⟩

theorem known_new (l : List Int) (w : World) (t : TypeId) : ∀ j, j < l.length → (w.alloc (.cells (intsV l) t)).cell? ⟨w.heap.size, j, none⟩ = some (.int .i64 (l.getD j 0)) := by
  intro j hj
  rw [cell_new]
  simp [intsV, List.getElem?_eq_getElem hj, List.getD_eq_getElem?_getD]
theorem small_class : small classFlags := ⟨by decide, fun j => by
  rcases j with _ | _ | _ | _ | _ | j <;> simp [classFlags]⟩
theorem small_method : small methodFlags := ⟨by decide, fun j => by
  rcases j with _ | _ | _ | _ | _ | _ | j <;> simp [methodFlags]⟩

theorem rcheckClass_any (f : Int) (w : World) :
    Calls Try.prog 9 #[.int .i64 f] w fun e w' => e = .returned (.int .i64 (rcheckClass f)) ∧ Below w.heap.size w w' := by
  have kn := known_any f classFlags small_class w.heap.size 5 (w.alloc (.cells (intsV classFlags) 3)) (known_new classFlags w 3)
  have kn := Lib.hid kn
  go_enter Try.func9, Try.ntmps9
  go_wp2_with (first
    | (go_at_call 18; refine (classFlags_any _).mono ?_; rintro e w' ⟨rfl, rfl⟩)
    | (go_at_call 17; refine kn.out.mono ?_; rintro e w' ⟨rfl, rfl⟩)
    | (go_at_call 19; refine (has_any _ _ _).mono ?_; rintro e w' ⟨rfl, rfl⟩))
  all_goals
    go_ret
    refine ⟨ret_int ?_, (Below.refl _ _).alloc (Nat.le_refl _) _⟩
    simp_all [rcheckClass]
theorem one_snoc (n f c : Int) (h : (band f c != 0) = true) : n + one f c = n + 1 := by simp_all [one]
theorem one_snoc' (n f c : Int) (h : (band f c != 0) = false) : n + one f c = n := by simp_all [one]
theorem one_bd (f c : Int) : 0 ≤ one f c ∧ one f c ≤ 1 := by unfold one; split <;> omega
theorem rcheckMethod_any (f : Int) (b : Bool) (s : ByteArray) (w : World) :
    Calls Try.prog 10 #[.int .i64 f, .bool b, .string s] w fun e w' => e = .returned (.int .i64 (rcheckMethod f b (s.toList == [60, 105, 110, 105, 116, 62]))) ∧ Below w.heap.size w w' := by
  have kn := known_any f methodFlags small_method w.heap.size 6 (w.alloc (.cells (intsV methodFlags) 3)) (known_new methodFlags w 3)
  have kn := Lib.hid kn
  have b1 := one_bd f 1
  have b2 := one_bd f 2
  have b4 := one_bd f 4
  go_enter Try.func10, Try.ntmps10
  go_upto_if 14 with (first
    | (go_at_call 20; refine (methodFlags_any _).mono ?_; rintro e w' ⟨rfl, rfl⟩)
    | (go_at_call 17; refine kn.out.mono ?_; rintro e w' ⟨rfl, rfl⟩)
    | (go_at_call 19; refine (has_any _ _ _).mono ?_; rintro e w' ⟨rfl, rfl⟩))
  · go_ret
    refine ⟨ret_int ?_, (Below.refl _ _).alloc (Nat.le_refl _) _⟩
    simp_all [rcheckMethod]
  go_cut [7] (fun v7 wc => v7 = .int .i64 (one f 1) ∧ Below w.heap.size w wc)
  case first =>
    go_wp2
    all_goals
      go_meet
      case rel => exact ⟨by simp_all [one], (Below.refl _ _).alloc (Nat.le_refl _) _⟩
  case rest =>
    obtain ⟨rfl, hb⟩ := hcut
    replace hb := Lib.hid hb
    go_upto_if 18 with (go_at_call 19; refine (has_any _ _ _).mono ?_; rintro e w' ⟨rfl, rfl⟩)
    go_cut [7] (fun v7 wc => v7 = .int .i64 (one f 1 + one f 2) ∧ Below w.heap.size w wc)
    case first =>
      go_wp2
      all_goals
        go_meet
        case rel => exact ⟨by simp_all [one], hb.out⟩
    case rest =>
      clear hb
      obtain ⟨rfl, hb⟩ := hcut
      replace hb := Lib.hid hb
      go_upto_if 22 with (go_at_call 19; refine (has_any _ _ _).mono ?_; rintro e w' ⟨rfl, rfl⟩)
      go_cut [7] (fun v7 wc => v7 = .int .i64 (one f 1 + one f 2 + one f 4) ∧ Below w.heap.size w wc)
      case first =>
        go_wp2
        all_goals
          go_meet
          case rel => exact ⟨by simp_all [one], hb.out⟩
      case rest =>
        clear hb
        obtain ⟨rfl, hb⟩ := hcut
        replace hb := Lib.hid hb
        go_wp2_with (go_at_call 19; refine (has_any _ _ _).mono ?_; rintro e w' ⟨rfl, rfl⟩)
        all_goals
          go_ret
          refine ⟨ret_int ?_, hb.out⟩
          clear hb
          unfold rcheckMethod
          generalize one f 1 + one f 2 + one f 4 = n at *
          simp_all
end Go.Proofs.Ytmkjeojamhfgfaa.Fl
