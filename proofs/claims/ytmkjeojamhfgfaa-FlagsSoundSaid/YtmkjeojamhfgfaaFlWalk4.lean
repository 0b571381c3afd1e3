/- The walks of arbiterref03.text, ClassText, MethodText of both packages, and awake. -/
import Derived.Test.YtmkjeojamhfgfaaFlWalk3
namespace Go.Proofs.Ytmkjeojamhfgfaa.Fl
open Go Go.RowKit
set_option maxHeartbeats 400000

theorem tuple_si {a a' : List UInt8} {b b' : Int} (h1 : a = a') (h2 : b = b') : Ending.returned (.tuple #[.string ⟨a.toArray⟩, .int .i64 b]) = .returned (.tuple #[.string ⟨a'.toArray⟩, .int .i64 b']) := by rw [h1, h2]

theorem classText_any (f : Int) (w : World) : Calls Try.prog 12 #[.int .i64 f] w fun e w' => e = .returned (.tuple #[.string ⟨(text f 1585).1.toArray⟩, .int .i64 (text f 1585).2]) ∧ Below w.heap.size w w' := by
  go_enter Try.func12, Try.ntmps12
  go_wp2_with (go_at_call 21; refine (text_any _ _ _).mono ?_; rintro e w1 ⟨rfl, hb⟩)
  go_ret2
  exact ⟨rfl, hb⟩
theorem methodText_any (f : Int) (w : World) : Calls Try.prog 14 #[.int .i64 f] w fun e w' => e = .returned (.tuple #[.string ⟨(text f 1055).1.toArray⟩, .int .i64 (text f 1055).2]) ∧ Below w.heap.size w w' := by
  go_enter Try.func14, Try.ntmps14
  go_wp2_with (go_at_call 21; refine (text_any _ _ _).mono ?_; rintro e w1 ⟨rfl, hb⟩)
  go_ret2
  exact ⟨rfl, hb⟩

def pF (l : List (Int × List UInt8)) (k : Nat) : Int := (l.map (·.1)).getD k 0
def pT (l : List (Int × List UInt8)) (k : Nat) : List UInt8 := (l.map (·.2)).getD k []
theorem pT_len (l : List (Int × List UInt8)) (hl : ∀ p ∈ l, p.2.length ≤ 10) (k : Nat) (h : k < l.length) : (pT l k).length ≤ 10 := by
  simp only [pT, List.getD_eq_getElem?_getD, List.getElem?_map, List.getElem?_eq_getElem h, Option.map_some, Option.getD_some]
  exact hl _ (List.getElem_mem _)
theorem bytes_append (a b : List UInt8) : (⟨a.toArray⟩ : ByteArray) ++ ⟨b.toArray⟩ = ⟨(a ++ b).toArray⟩ := by
  apply ByteArray.ext
  simp
/-- arbiterref03.text behind k rounds -/
def rk (f : Int) (l : List (Int × List UInt8)) (k : Nat) : List UInt8 := rtextGo f [] (l.take k)
theorem rtextGo_append (f : Int) (s : List UInt8) (l m : List (Int × List UInt8)) : rtextGo f s (l ++ m) = rtextGo f (rtextGo f s l) m := by
  induction l generalizing s with
  | nil => rfl
  | cons p l ih => obtain ⟨x, t⟩ := p; simp only [List.cons_append, rtextGo, ih]
theorem rk_snoc (f : Int) (l : List (Int × List UInt8)) (k : Nat) (h : k < l.length) :
    rk f l (k + 1) = if band f (pF l k) = 0 then rk f l k else (if rk f l k = [] then [] else rk f l k ++ [32]) ++ pT l k := by
  unfold rk pF pT
  rw [List.take_succ_eq_append_getElem h, rtextGo_append]
  simp only [rtextGo, List.getD_eq_getElem?_getD, List.getElem?_map, List.getElem?_eq_getElem h, Option.map_some, Option.getD_some]
  by_cases h1 : rtextGo f [] (l.take k) = [] <;> simp [h1]
theorem rk_len (f : Int) (l : List (Int × List UInt8)) (hl : ∀ p ∈ l, p.2.length ≤ 10) (k : Nat) : k ≤ l.length → (rk f l k).length ≤ 11 * k := by
  induction k with
  | zero => intro _; simp [rk, rtextGo]
  | succ k ih =>
    intro hk
    have h1 := ih (by omega)
    have h2 := pT_len l hl k (by omega)
    rw [rk_snoc f l k (by omega)]
    split
    · omega
    · split <;> simp only [List.length_append, List.length_nil, List.length_cons] <;> omega

theorem rtext_any (f : Int) (l : List (Int × List UInt8)) (hs : small (l.map (·.1))) (hl : ∀ p ∈ l, p.2.length ≤ 10) (b1 b2 c1 c2 : Nat) (w : World)
    (hc1 : ∀ j, j < (l.map (·.1)).length → w.cell? ⟨b1, j, none⟩ = some (.int .i64 (pF l j))) (hc2 : ∀ j, j < l.length → w.cell? ⟨b2, j, none⟩ = some (.string ⟨(pT l j).toArray⟩)) :
    Calls Try.prog 22 #[.int .i64 f, .slice (some ⟨b1, 0, none⟩) l.length c1, .slice (some ⟨b2, 0, none⟩) l.length c2] w fun e w' =>
      e = .returned (.tuple #[.string ⟨(rtext f l).1.toArray⟩, .int .i64 (rtext f l).2]) ∧ w' = w := by
  have hlen : l.length ≤ 10 := by have := hs.1; simpa using this
  have kn := known_any f (l.map (·.1)) hs b1 c1 w hc1
  rw [List.length_map] at kn hc1
  replace kn := Lib.hid kn
  replace hc1 := Lib.hid hc1
  replace hc2 := Lib.hid hc2
  replace hl := Lib.hid hl
  by_cases hk : known f (l.map (·.1)) = f
  · have hkb : (known f (l.map (·.1)) != f) = false := by simpa using hk
    have hfin := Lib.hid (show rtext f l = (rtextGo f [] l, 0) by simp [rtext, hk])
    generalize known f (l.map (·.1)) = kf at *
    clear hk
    go_enter Try.func22, Try.ntmps22
    go_wp2_with (go_at_call 17; refine kn.out.mono ?_; rintro e w' ⟨rfl, rfl⟩)
    go_loop [8, 9] (fun s i => ∃ k : Nat, k ≤ l.length ∧ i = .int .i64 k ∧ s = .string ⟨(rk f l k).toArray⟩) (fun _ i => l.length - (intOf i).toNat)
    case atStart => exact ⟨0, Nat.zero_le _, rfl, rfl⟩
    case round =>
      obtain ⟨k, hk, rfl, rfl⟩ := hrel
      by_cases hlt : k < l.length
      · have g1 := hc1.out k hlt
        have g2 := hc2.out k hlt
        have hsn := rk_snoc f l k hlt
        have hrl := rk_len f l hl.out k hk
        have ht := pT_len l hl.out k hlt
        generalize pF l k = x at *
        generalize pT l k = t at *
        generalize rk f l k = s at *
        replace hsn := Lib.hid hsn
        go_wp2_with (go_at_call 19; refine (has_any _ _ _).mono ?_; rintro e w' ⟨rfl, rfl⟩)
        · go_round
          case rel => exact ⟨k + 1, by omega, by go_num, by rw [hsn.out, if_neg (by simp_all), if_neg (by simp_all), ← bytes_append, ← bytes_append]⟩
          case measure => simp [intOf]; omega
        · go_round
          case rel => exact ⟨k + 1, by omega, by go_num, by rw [hsn.out, if_neg (by simp_all), if_pos (by simp_all), ← bytes_append]; simp_all⟩
          case measure => simp [intOf]; omega
        · go_round
          case rel => exact ⟨k + 1, by omega, by go_num, by rw [hsn.out, if_pos (by simp_all)]⟩
          case measure => simp [intOf]; omega
      · obtain rfl : k = l.length := by omega
        have hfin2 := Lib.hid (show rk f l l.length = (rtext f l).1 by rw [hfin.out]; simp [rk])
        go_wp2
        go_ret2
        exact ⟨tuple_si hfin2.out (by rw [hfin.out]), rfl⟩
  · have hkb : (known f (l.map (·.1)) != f) = true := by simpa using hk
    have hfin := Lib.hid (show rtext f l = ([], 1) by simp [rtext, hk])
    generalize known f (l.map (·.1)) = kf at *
    clear hk
    go_enter Try.func22, Try.ntmps22
    go_wp2_with (go_at_call 17; refine kn.out.mono ?_; rintro e w' ⟨rfl, rfl⟩)
    go_ret2
    exact ⟨by rw [hfin.out]; rfl, rfl⟩
end Go.Proofs.Ytmkjeojamhfgfaa.Fl
