/- Lemmas and contracts for the statement of PwDisplayKeeps: joined by program out of this session's texts. -/
import Derived.Test.YtaipkdglhfhhiaaGreatDoorBdPwDisplayKeeps3
import Derived.Outline
namespace Go.Proofs.YtaipkdglhfhhiaaGreatDoor.Pt
open Go Go.RowKit Go.Proofs.YtaipkdglhfhhiaaGreatDoor.Nm Go.Proofs.YtaipkdglhfhhiaaGreatDoor.Ty Go.Proofs.YtaipkdglhfhhiaaGreatDoorW.PrintWords
set_option linter.unusedVariables false
set_option linter.unusedSimpArgs false
theorem wrap_small' {i : Int} (h0 : -9223372036854775808 ≤ i) (h : i ≤ 9223372036854775807) : wrap64 i = i := by
 unfold wrap64
 omega
theorem bs_at (L : List UInt8) (n : Nat) (h : n < L.length) : ∃ x, L.drop n = x :: L.drop (n + 1) ∧ Go.Proofs.YtaipkdglhfhhiaaGreatDoorW.PrintWords.bt (bs L) (n : Int) = (x.toNat : Int) := by
 obtain ⟨x, hx, hb⟩ := drop_at L n h; refine ⟨x, hx, ?_⟩
 have h' : n < (bs L).size := by rw [mk_size]; exact h
 have e := Go.Proofs.YtaipkdglhfhhiaaGreatDoor.Nm.bt_at (bs L) n h'; unfold Go.Proofs.YtaipkdglhfhhiaaGreatDoorW.PrintWords.bt; simp only [Int.toNat_natCast]; rw [dif_pos h', e]
 exact hb
theorem u8_iff (x : UInt8) (n : Nat) (hn : n < 256) : ((x.toNat : Int) = n) ↔ x = UInt8.ofNat n := by
 constructor
 ·exact u8_ne hn
 ·rintro rfl
  simp
  omega
theorem j4_ok (L : List UInt8) (k : Nat) (wide : Bool) (p : Int) (ts : List (Nat × List UInt8)) (vo : Bool) (d : Int) (nm : ByteArray) (r : List UInt8) (hp : p = (L.length : Int) ↔ r = []) :
  arbiterref02_ParseDesc.j4 (k + 1) (bs L) wide p (ts.map toS) vo d nm = some (tup5 (descEnd ⟨ts, vo, d, nm.data.toList⟩ wide r)) := by
 simp only [arbiterref02_ParseDesc.j4]; rw [mk_size]
 by_cases hr : r = []
 ·rw [if_pos (hp.2 hr)]
  have e : descEnd ⟨ts, vo, d, nm.data.toList⟩ wide r = if wide || decide (20 < ts.length) then (.zero, 5) else (⟨ts, vo, d, nm.data.toList⟩, 0) := by
   unfold descEnd; rw [if_neg (fun h => h hr)]
  rw [e, List.length_map]
  cases wide
  ·rw [if_neg (show ¬ false = true by decide), Bool.false_or]
   by_cases h20 : 20 < ts.length
   ·rw [if_pos (show (ts.length : Int) > 20 by omega), if_pos (show decide (20 < ts.length) = true from decide_eq_true h20)]; rfl
   ·rw [if_neg (show ¬ (ts.length : Int) > 20 by omega), if_neg (show ¬ decide (20 < ts.length) = true by simp [h20])]
    simp only [tup5, mk_data]
  ·rw [if_pos rfl, Bool.true_or, if_pos rfl]; rfl
 ·have e : descEnd ⟨ts, vo, d, nm.data.toList⟩ wide r = (.zero, 4) := by
   unfold descEnd; rw [if_pos hr]
  rw [if_neg (fun h => hr (hp.1 h)), e]; rfl
theorem read_f (L : List UInt8) (hL : L.length ≤ 2000) (n : Nat) (hn : n ≤ L.length) : arbiterref02_read.f (bs L) n = some (tup3 (readF L n)) := by
 unfold arbiterref02_read.f; rw [mk_size, Int.toNat_natCast, mk_toList, if_pos ⟨by omega, hn, by omega⟩]
theorem j3_ok (L : List UInt8) (hL : L.length ≤ 2000) (k n : Nat) (hn : n ≤ L.length) (ts : List (Nat × List UInt8)) :
  arbiterref02_ParseDesc.j3 (k + 2) (bs L) (wideL ts) n (took (L.drop n) 86) (ts.map toS) false 0 ⟨#[]⟩ = some (tup5 (descRet ts (L.drop n))) := by
 rw [show k + 2 = (k + 1) + 1 from rfl]; simp only [arbiterref02_ParseDesc.j3]; unfold descRet
 cases h86 : took (L.drop n) 86
 ·rw [if_neg (by decide), if_neg (by decide), read_f L hL n hn, Option.bind_some]
  cases hr : (rd (L.drop n)).rest with
  | none =>
   have hp : (readF L n).2.2 = -1 := by unfold readF; rw [hr]
   simp only [tup3, hp]
   have E : ∀ (wd : Bool) (d : Int) (nm : ByteArray), arbiterref02_ParseDesc.j4 (k + 1) (bs L) wd (-1) (ts.map toS) false d nm = some (tup5 (.zero, 4)) := by
    intro wd d nm; rw [j4_ok L k wd (-1) ts false d nm [0] (by constructor <;> intro h <;> first | omega | cases h)]
    rfl
   split <;> exact E _ _ _
  | some r =>
   obtain ⟨m, hm, h1, h2, h3⟩ := place_drop L n hn r hr
   have hp : (readF L n).2.2 = m := by unfold readF; rw [hr]; exact hm
   have hn2 : (readF L n).2.1 = (rd (L.drop n)).name := by unfold readF; exact rdNm_name _ _ hr
   have hn1 : (readF L n).1 = (rd (L.drop n)).dims := by unfold readF; rw [rd_dims]
   simp only [tup3, hp, hn1, hn2]
   have hrr : ((m : Int) = (L.length : Int)) ↔ r = [] := by
    rw [← h3, List.drop_eq_nil_iff]
    omega
   have E : ∀ wd : Bool, arbiterref02_ParseDesc.j4 (k + 1) (bs L) wd m (ts.map toS) false (rd (L.drop n)).dims (bs (rd (L.drop n)).name) = some (tup5 (descEnd ⟨ts, false, (rd (L.drop n)).dims, (rd (L.drop n)).name⟩ wd r)) := by
    intro wd; rw [j4_ok L k wd m ts false _ _ r hrr, mk_toList]
   rw [E, E]
   cases wideL ts
   ·rw [if_neg (by decide)]
    simp only [Bool.false_or]; rw [show decide (((rd (L.drop n)).dims : Int) > 255) = decide (255 < (rd (L.drop n)).dims) from by by_cases h : 255 < (rd (L.drop n)).dims <;> simp [h] <;> omega]
   ·rw [if_pos rfl, Bool.true_or]
 ·rw [if_pos rfl, if_pos rfl]
  have hne : L.drop n ≠ [] := by intro h; rw [h] at h86; cases h86
  have hlt : n < L.length := by
   rw [ne_eq, List.drop_eq_nil_iff] at hne
   omega
  rw [wrap_small' (by omega) (by omega)]; refine j4_ok L k (wideL ts) _ ts true 0 ⟨#[]⟩ _ ?_; rw [List.tail_drop, List.drop_eq_nil_iff]
  omega
theorem l0_ok (L : List UInt8) (hL : L.length ≤ 2000) (m : Nat) : ∀ (n : Nat) (ts : List (Nat × List UInt8)) (k : Nat), n ≤ L.length → L.length - n < m → ts.length + (L.length - n) ≤ 2000 → 2 * m + 4 ≤ k →
  arbiterref02_ParseDesc.l0 k (bs L) (wideL ts) n (ts.map toS) false 0 ⟨#[]⟩ = some (tup5 (descOf (prep ts (rdArgs m (L.drop n))))) := by
 induction m with
 | zero => intro n ts k _ h; omega
 | succ m ih =>
  intro n ts k hn hm hts hk
  obtain ⟨k, rfl⟩ : ∃ j, k = j + 1 + 1 + 2 := ⟨k - 4, by omega⟩
  rw [show k + 1 + 1 + 2 = (k + 1 + 2) + 1 from rfl]; simp only [arbiterref02_ParseDesc.l0]; rw [mk_size]
  by_cases hlt : n < L.length
  ·obtain ⟨x, hx, hb⟩ := bs_at L n hlt
   rw [if_pos (by omega), if_pos (by omega), hb]; rw [show k + 1 + 2 = (k + 2) + 1 from rfl]; simp only [arbiterref02_ParseDesc.j2]
   by_cases h41 : x = 41
   ·have ht : took (L.drop n) 41 = true := by rw [hx, took_cons]; simp [h41]
    rw [rdArgs_close m _ ts ht]; rw [if_neg (by rw [h41]; decide), mk_size, if_neg (by omega)]; rw [wrap_small' (by omega) (by omega)]
    show _ = some (tup5 (descRet ts (L.drop n).tail))
    rw [List.tail_drop]; rw [← j3_ok L hL k (n + 1) (by omega) ts]
    by_cases h2 : n + 1 < L.length
    ·obtain ⟨y, hy, hby⟩ := bs_at L (n + 1) h2
     rw [if_pos (by omega), if_pos (by omega)]
     have e : (Go.Proofs.YtaipkdglhfhhiaaGreatDoorW.PrintWords.bt (bs L) ((n : Int) + 1) == 86) = took (L.drop (n + 1)) 86 := by
      rw [show (n : Int) + 1 = ((n + 1 : Nat) : Int) from by omega, hby, hy, took_cons]; rw [Bool.eq_iff_iff, beq_iff_eq, decide_eq_true_iff]
      exact u8_iff y 86 (by decide)
     rw [e]; rfl
    ·rw [if_neg (by omega)]
     have e : took (L.drop (n + 1)) 86 = false := by rw [List.drop_eq_nil_of_le (by omega)]; rfl
     rw [e]; rfl
   ·have ht : took (L.drop n) 41 = false := by rw [hx, took_cons]; simp [h41]
    have hne : ((x.toNat : Int) != 41) = true := by
     rw [bne_iff_ne]
     exact fun h => h41 (u8_ne (n := 41) (by decide) h)
    rw [if_pos hne, read_f L hL n hn, Option.bind_some]
    cases hr : (rd (L.drop n)).rest with
    | none =>
     have hp : (readF L n).2.2 = -1 := by unfold readF; rw [hr]
     simp only [tup3, hp]; rw [if_pos (by decide), rdArgs_fail m _ ts ht hr]
     rfl
    | some r =>
     obtain ⟨p, hp0, h1, h2, h3⟩ := place_drop L n hn r hr
     have hp : (readF L n).2.2 = p := by unfold readF; rw [hr]; exact hp0
     have hn2 : (readF L n).2.1 = (rd (L.drop n)).name := by unfold readF; exact rdNm_name _ _ hr
     have hn1 : (readF L n).1 = (rd (L.drop n)).dims := by unfold readF; rw [rd_dims]
     simp only [tup3, hp, hn1, hn2]; rw [if_neg (show ¬ (p : Int) < 0 by omega), List.length_map]; rw [rdArgs_step m _ r ts ht hr, ← h3]; have I := ih p (ts ++ [((rd (L.drop n)).dims, (rd (L.drop n)).name)]) (k + 2) h2 (by omega) (by simp; omega) (by omega); rw [wideL_snoc, List.map_append, List.map_cons, List.map_nil, toS] at I; rw [← I]
     have hlen : ts.length < 5864062014805 := by omega
     cases wideL ts
     ·rw [if_neg (show ¬ false = true by decide), if_pos hlen]
      simp only [Bool.false_or]; rw [show decide (((rd (L.drop n)).dims : Int) > 255) = decide (255 < (rd (L.drop n)).dims) from by by_cases h : 255 < (rd (L.drop n)).dims <;> simp [h] <;> omega]
     ·rw [if_pos rfl, if_pos hlen, Bool.true_or]
  ·obtain rfl : n = L.length := by omega
   rw [if_neg (by omega), List.drop_length]; rw [show k + 1 + 2 = (k + 2) + 1 from rfl]; simp only [arbiterref02_ParseDesc.j2]; rw [if_neg (by decide), mk_size, if_pos (by omega)]; have : prep ts (rdArgs (m + 1) []) = none := rdArgs_fail m [] ts rfl rfl; rw [this]
   rfl
theorem pdesc_f (a0 : ByteArray) (k : Nat) (hk : 5000 ≤ k) : arbiterref02_ParseDesc.f k a0 = some (tup5 (parseD a0.data.toList)) := by
 obtain ⟨L, rfl⟩ : ∃ L, a0 = bs L := ⟨a0.data.toList, (mk_data a0).symm⟩
 rw [mk_toList]; unfold arbiterref02_ParseDesc.f; rw [mk_size]
 by_cases hbig : 2000 < L.length
 ·rw [if_pos (by omega), parseD_big L hbig]; rfl
 ·rw [if_neg (by omega)]
  obtain ⟨k, rfl⟩ : ∃ j, k = j + 1 := ⟨k - 1, by omega⟩
  cases L with
  | nil =>
   rw [if_pos (show (([] : List UInt8).length : Int) = 0 from rfl), parseD_not [] hbig rfl]; simp only [arbiterref02_ParseDesc.j0]; rw [if_pos trivial]; rfl
  | cons x l =>
   obtain ⟨y, hy, hby⟩ := bs_at (x :: l) 0 (by simp); rw [if_neg (show ¬ (((x :: l).length : Int) = 0) by simp only [List.length_cons]; omega), if_pos (show 0 < ((x :: l).length : Int) by simp only [List.length_cons]; omega)]; have hby' : Go.Proofs.YtaipkdglhfhhiaaGreatDoorW.PrintWords.bt (bs (x :: l)) 0 = (y.toNat : Int) := hby
   obtain rfl : x = y := by simp at hy; exact hy
   rw [hby']; simp only [arbiterref02_ParseDesc.j0]
   by_cases h40 : x = 40
   ·have ht : took (x :: l) 40 = true := by rw [took_cons]; simp [h40]
    rw [if_neg (by rw [h40]; decide), parseD_args _ hbig ht]; simp only [List.length_cons] at hbig ⊢; have I := l0_ok (x :: l) (by simp; omega) ((x :: l).length + 1) 1 [] k (by simp) (by simp only [List.length_cons]; omega) (by simp; omega) (by simp only [List.length_cons]; omega); rw [prep_nil] at I
    exact I
   ·have ht : took (x :: l) 40 = false := by rw [took_cons]; simp [h40]
    have hne : ((x.toNat : Int) != 40) = true := by
     rw [bne_iff_ne]
     exact fun h => h40 (u8_ne (n := 40) (by decide) h)
    rw [if_pos hne, parseD_not _ hbig ht]; rfl
end Go.Proofs.YtaipkdglhfhhiaaGreatDoor.Pt

namespace Go.Proofs.YtaipkdglhfhhiaaGreatDoor.Pt
open Go.RowKit Go.Proofs.YtaipkdglhfhhiaaGreatDoorW.PrintWords Go.Proofs.YtaipkdglhfhhiaaGreatDoorW.PrintLast Go.Proofs.YtaipkdglhfhhiaaGreatDoorW.PrintMore
attribute [local go_sem] max2_int min2_int max_two min_two max_three min_three max_four min_four   -- for this text's walks alone
set_option linter.unusedVariables false
set_option linter.unusedSimpArgs false
def arbiterref06_named.l0 : Nat → List S85 → ByteArray → Int → Option (Int)
 | 0, _, _, _ => none
 | k + 1, x0, x1, x5 => if x5 < (x0.length : Int) then (if 0 ≤ x5 then (if ((rd_T85 x0 x5).f0).toList = x1.toList then (some x5) else (arbiterref06_named.l0 k x0 x1 (wrap64 (x5 + 1)))) else (none)) else (some (-1))
def arbiterref06_named.f (k : Nat) (a0 : List S85) (a1 : ByteArray) : Option (Int) := arbiterref06_named.l0 k a0 a1 0
set_option maxHeartbeats 8000000 in
set_option maxRecDepth 100000 in
theorem arbiterref06_named.calls (k : Nat) (G_ : Nat) (a0 : List S85) (a1 : ByteArray) (r : Int) (w : World) (hq0 : ROK w G_ a0) (h : arbiterref06_named.f k a0 a1 = some r) :
  Calls Tryz.prog 91 #[.pointer (some ⟨G_, 0, none⟩), .string a1] w fun e w' => e = .returned (.int .i64 r) ∧ Drawn0 w w' := by
 obtain ⟨AQa0, cQa0, hp0, hrq0, hcq0⟩ := ROK.open hq0; have HPa0 := Aside0.mk hp0; have HRqa0 := Aside0.mk hrq0; have HCqa0 := Aside0.mk hcq0; clear hp0 hrq0 hcq0; have HQa0 := Aside0.mk hq0; clear hq0; have H : (arbiterref06_named.l0 k a0 a1 0) = some r := h; clear h; have H' := Aside0.mk H; clear H; go_enter Tryz.func91, Tryz.ntmps91; go_wp2
 go_loopg [5] k (fun kq v5 w' => ∃ (x5_1 : Int), v5 = .int .i64 x5_1 ∧ Aside0 (arbiterref06_named.l0 kq a0 a1 x5_1 = some r) ∧ Aside0 (kq ≤ k) ∧ Drawn0 w w')
 case atStart => exact ⟨(0), vX, H', ⟨Nat.le_refl _⟩, by repeat (first | exact Drawn0.refl _ | apply Drawn0.step)⟩
 case round =>
  clear H'
  try clear p2
  obtain ⟨x5_1, rfl, HA, HK1, ⟨m1, rfl⟩⟩ := hrel
  cases gk with
  | zero => exact absurd HA.out (by simp [arbiterref06_named.l0])
  | succ k1 =>
   have H := HA.out; clear HA; simp only [arbiterref06_named.l0] at H
   by_cases c3 : x5_1 < (a0.length : Int)
   ·rw [if_pos c3] at H
    have c3b0 : decide (x5_1 < (a0.length : Int)) = true := decide_eq_true c3; clear c3
    by_cases c4 : 0 ≤ x5_1
    ·rw [if_pos c4] at H
     have c4b0 : decide (0 ≤ x5_1) = true := decide_eq_true c4; clear c4
     by_cases c5 : ((rd_T85 a0 x5_1).f0).toList = a1.toList
     ·rw [if_pos c5] at H
      have c5b0 : (((rd_T85 a0 x5_1).f0).toList == a1.toList) = true := beq_iff_eq.mpr c5; have c5b1 : (((rd_T85 a0 x5_1).f0).toList != a1.toList) = false := bne_eq_false_iff_eq.mpr c5; clear c5; obtain rfl := Option.some.inj H; have hcpq6 := HPa0.out; have hcpq7 := HPa0.out; have p154 : 0 ≤ (x5_1 : Int) := qX; have q154 : x5_1 < (a0.length : Int) := qX; obtain ⟨ad154, A154_2, c154_2, A154_5, c154_5, e154, hx154_0, hx154_1, hx154_2, hx154_3, hx154_4, hx154_5, hl154_2, hi154_2, hl154_5, hi154_5⟩ := at_T85 HRqa0.out x5_1 p154 q154
      cases e154
      have HR154_2 := Aside0.mk hi154_2; have HC154_2 := Aside0.mk hl154_2; clear hi154_2 hl154_2; have HR154_5 := Aside0.mk hi154_5; have HC154_5 := Aside0.mk hl154_5; clear hi154_5 hl154_5; replace p154 := eq_true p154; replace q154 := eq_true q154; go_wp2; go_ret
      exact ⟨by first | rfl | (simp; done) | (simp [*]; done), by repeat (first | exact Drawn0.refl _ | apply Drawn0.step)⟩
     ·rw [if_neg c5] at H
      have c5b0 : (((rd_T85 a0 x5_1).f0).toList == a1.toList) = false := beq_eq_false_iff_ne.mpr c5; have c5b1 : (((rd_T85 a0 x5_1).f0).toList != a1.toList) = true := bne_iff_ne.mpr c5; have H' := Aside0.mk H; clear H; have hcpq8 := HPa0.out; have hcpq9 := HPa0.out; have p154 : 0 ≤ (x5_1 : Int) := qX; have q154 : x5_1 < (a0.length : Int) := qX; obtain ⟨ad154, A154_2, c154_2, A154_5, c154_5, e154, hx154_0, hx154_1, hx154_2, hx154_3, hx154_4, hx154_5, hl154_2, hi154_2, hl154_5, hi154_5⟩ := at_T85 HRqa0.out x5_1 p154 q154
      cases e154
      have HR154_2 := Aside0.mk hi154_2; have HC154_2 := Aside0.mk hl154_2; clear hi154_2 hl154_2; have HR154_5 := Aside0.mk hi154_5; have HC154_5 := Aside0.mk hl154_5; clear hi154_5 hl154_5; replace p154 := eq_true p154; replace q154 := eq_true q154; go_wp2
      go_roundg k1
      case measure => have := HK1.out; omega
      case rel => exact ⟨(wrap64 (x5_1 + 1)), vX, H', ⟨by have := HK1.out; omega⟩, by repeat (first | exact Drawn0.refl _ | apply Drawn0.step)⟩
    ·rw [if_neg c4] at H
     exact absurd H (by simp)
   ·rw [if_neg c3] at H
    have c3b0 : decide (x5_1 < (a0.length : Int)) = false := decide_eq_false c3; clear c3; obtain rfl := Option.some.inj H; have hcpq10 := HPa0.out; go_wp2; go_ret
    exact ⟨by first | rfl | (simp; done) | (simp [*]; done), by repeat (first | exact Drawn0.refl _ | apply Drawn0.step)⟩
end Go.Proofs.YtaipkdglhfhhiaaGreatDoor.Pt

namespace Go.Proofs.YtaipkdglhfhhiaaGreatDoor.Pt
open Go.RowKit Go.Proofs.YtaipkdglhfhhiaaGreatDoorW.PrintWords Go.Proofs.YtaipkdglhfhhiaaGreatDoorW.PrintLast Go.Proofs.YtaipkdglhfhhiaaGreatDoorW.PrintMore
attribute [local go_sem] max2_int min2_int max_two min_two max_three min_three max_four min_four   -- for this text's walks alone
set_option linter.unusedVariables false
set_option linter.unusedSimpArgs false
def arbiterref06_In.f (a0 : List S85) (a1 : Int) : Option (Bool) := if a1 ≥ 0 then (some (decide (a1 < (a0.length : Int)))) else (some false)
set_option maxHeartbeats 8000000 in
set_option maxRecDepth 100000 in
theorem arbiterref06_In.calls (G_ : Nat) (a0 : List S85) (a1 : Int) (r : Bool) (w : World) (hq0 : ROK w G_ a0) (h : arbiterref06_In.f a0 a1 = some r) :
  Calls Tryz.prog 51 #[.pointer (some ⟨G_, 0, none⟩), .int .i64 a1] w fun e w' => e = .returned (.bool r) ∧ Drawn0 w w' := by
 obtain ⟨AQa0, cQa0, hp0, hrq0, hcq0⟩ := ROK.open hq0; have HPa0 := Aside0.mk hp0; have HRqa0 := Aside0.mk hrq0; have HCqa0 := Aside0.mk hcq0; clear hp0 hrq0 hcq0; have HQa0 := Aside0.mk hq0; clear hq0; have H : (if a1 ≥ 0 then (some (decide (a1 < (a0.length : Int)))) else (some false)) = some r := h; clear h
 by_cases c3 : a1 ≥ 0
 ·rw [if_pos c3] at H
  have c3b0 : decide (0 ≤ a1) = true := decide_eq_true c3; clear c3; obtain rfl := Option.some.inj H; have hcpq4 := HPa0.out; go_enter Tryz.func51, Tryz.ntmps51; go_wp2; go_ret
  exact ⟨by first | rfl | (simp; done) | (simp [*]; done), by repeat (first | exact Drawn0.refl _ | apply Drawn0.step)⟩
 ·rw [if_neg c3] at H
  have c3b0 : decide (0 ≤ a1) = false := decide_eq_false c3; clear c3; obtain rfl := Option.some.inj H; go_enter Tryz.func51, Tryz.ntmps51; go_wp2; go_ret
  exact ⟨by first | rfl | (simp; done) | (simp [*]; done), by repeat (first | exact Drawn0.refl _ | apply Drawn0.step)⟩
def arbiterref06_IsIface.f (a0 : List S85) (a1 : Int) : Option (Bool) := (arbiterref06_In.f a0 a1).bind fun t155 => (if t155 = true then (if 0 ≤ a1 then (if a1 < (a0.length : Int) then ((arbiterref03_Has.f ((rd_T85 a0 a1).f3) 512).bind fun t157 => (some t157)) else (none)) else (none)) else (some false))
set_option maxHeartbeats 8000000 in
set_option maxRecDepth 100000 in
theorem arbiterref06_IsIface.calls (G_ : Nat) (a0 : List S85) (a1 : Int) (r : Bool) (w : World) (hq0 : ROK w G_ a0) (h : arbiterref06_IsIface.f a0 a1 = some r) :
  Calls Tryz.prog 65 #[.pointer (some ⟨G_, 0, none⟩), .int .i64 a1] w fun e w' => e = .returned (.bool r) ∧ Below w.heap.size w w' := by
 obtain ⟨AQa0, cQa0, hp0, hrq0, hcq0⟩ := ROK.open hq0; have HPa0 := Aside0.mk hp0; have HRqa0 := Aside0.mk hrq0; have HCqa0 := Aside0.mk hcq0; clear hp0 hrq0 hcq0; have HQa0 := Aside0.mk hq0; clear hq0; have HB := Aside0.mk (Below.refl w.heap.size w); have H : ((arbiterref06_In.f a0 a1).bind fun t155 => (if t155 = true then (if 0 ≤ a1 then (if a1 < (a0.length : Int) then ((arbiterref03_Has.f ((rd_T85 a0 a1).f3) 512).bind fun t157 => (some t157)) else (none)) else (none)) else (some false))) = some r := h; clear h; replace H := Option.bind_eq_some_iff.mp H; obtain ⟨t155, A30, H⟩ := H; replace H : (if t155 = true then (if 0 ≤ a1 then (if a1 < (a0.length : Int) then ((arbiterref03_Has.f ((rd_T85 a0 a1).f3) 512).bind fun t157 => (some t157)) else (none)) else (none)) else (some false)) = some r := H; have A3 := Aside0.mk A30; clear A30
 by_cases c4 : t155 = true
 ·subst c4
  have H1 : (if 0 ≤ a1 then (if a1 < (a0.length : Int) then ((arbiterref03_Has.f ((rd_T85 a0 a1).f3) 512).bind fun t157 => (some t157)) else (none)) else (none)) = some r := by rw [if_pos rfl] at H; exact H
  clear H; have H := H1; clear H1
  by_cases c5 : 0 ≤ a1
  ·rw [if_pos c5] at H
   have c5b0 : decide (0 ≤ a1) = true := decide_eq_true c5; clear c5
   by_cases c6 : a1 < (a0.length : Int)
   ·rw [if_pos c6] at H
    have c6b0 : decide (a1 < (a0.length : Int)) = true := decide_eq_true c6; clear c6; replace H := Option.bind_eq_some_iff.mp H; obtain ⟨t157, A70, H⟩ := H; replace H : (some t157) = some r := H; have A7 := Aside0.mk A70; clear A70; obtain rfl := Option.some.inj H; go_enter Tryz.func65, Tryz.ntmps65; go_wp2_with (first | ((with_reducible refine gate_callee (f := 51) rfl ?_); refine gX (some 7) Tryz.func51 #[.pointer (some ⟨G_, 0, none⟩), .int .i64 a1] ?_; (with_reducible refine (arbiterref06_In.calls G_ a0 a1 true _ ?side1 A3.out).mono ?_); (case side1 => repeat (first | (with_reducible exact HQa0.out) | (with_reducible refine ROK.alloc ?_ _) | (with_reducible refine ROK.drewN ?_ _) | (with_reducible refine ROK.drew ?_) | exact ROK.below HQa0.out HB.out | exact ROK.below HQa0.out (bX HB))); rintro e w' ⟨rfl, ⟨nd, rfl⟩⟩; refine ⟨_, rfl, ?_⟩; have hcpq8 := HPa0.out; have p156 : 0 ≤ (a1 : Int) := qX; have q156 : a1 < (a0.length : Int) := qX; obtain ⟨ad156, A156_2, c156_2, A156_5, c156_5, e156, hx156_0, hx156_1, hx156_2, hx156_3, hx156_4, hx156_5, hl156_2, hi156_2, hl156_5, hi156_5⟩ := at_T85 HRqa0.out a1 p156 q156; cases e156; have HR156_2 := Aside0.mk hi156_2; have HC156_2 := Aside0.mk hl156_2; clear hi156_2 hl156_2; have HR156_5 := Aside0.mk hi156_5; have HC156_5 := Aside0.mk hl156_5; clear hi156_5 hl156_5; replace p156 := eq_true p156; replace q156 := eq_true q156) | (go_at_call 53; (with_reducible refine (arbiterref03_Has.calls ((rd_T85 a0 a1).f3) 512 t157 _ A7.out).mono ?_); rintro e w9 ⟨rfl, hb⟩; have n0_ := Aside0.mk (below_step (bX HB) hb); clear HB; have HB := n0_; clear n0_; (try clear hb); (try clear hb2); (try clear hk); (try clear hi))); go_ret
    exact ⟨by first | rfl | (simp [errW_none, errW_some] <;> rfl) | (simp [*, errW_none, errW_some] <;> rfl), bX HB⟩
   ·rw [if_neg c6] at H
    exact absurd H (by simp)
  ·rw [if_neg c5] at H
   exact absurd H (by simp)
 ·replace c4 := Bool.eq_false_iff.mpr c4
  subst c4
  have H1 : (some false) = some r := by rw [if_neg (show ¬ (false = true) by decide)] at H; exact H
  clear H; have H := H1; clear H1; obtain rfl := Option.some.inj H; go_enter Tryz.func65, Tryz.ntmps65; go_wp2_with (first | ((with_reducible refine gate_callee (f := 51) rfl ?_); refine gX (some 7) Tryz.func51 #[.pointer (some ⟨G_, 0, none⟩), .int .i64 a1] ?_; (with_reducible refine (arbiterref06_In.calls G_ a0 a1 false _ ?side1 A3.out).mono ?_); (case side1 => repeat (first | (with_reducible exact HQa0.out) | (with_reducible refine ROK.alloc ?_ _) | (with_reducible refine ROK.drewN ?_ _) | (with_reducible refine ROK.drew ?_) | exact ROK.below HQa0.out HB.out | exact ROK.below HQa0.out (bX HB))); rintro e w' ⟨rfl, ⟨nd, rfl⟩⟩; refine ⟨_, rfl, ?_⟩)); go_ret
  exact ⟨by first | rfl | (simp [errW_none, errW_some] <;> rfl) | (simp [*, errW_none, errW_some] <;> rfl), bX HB⟩
def arbiterref06_together.f (a0_0 : ByteArray) (a0_1 : ByteArray) (l0_2 : List ByteArray) (a0_3 : Int) (a0_4 : Int) (l0_5 : List (S105)) (a1_0 : ByteArray) (a1_1 : ByteArray) (l1_2 : List ByteArray) (a1_3 : Int) (a1_4 : Int) (l1_5 : List (S105)) : Option (Bool) := if a0_4 = a1_4 then ((arbiterref01_Package.f a0_0).bind fun t160 => ((arbiterref01_Package.f a1_0).bind fun t161 => (some (t160.toList == t161.toList)))) else (some false)
def arbiterref06_together.T1 : Bool × List (List Nat × List Nat) := (true, [([], []), ([0], [0]), ([], []), ([2], [2]), ([1, 3], [1, 3]), ([4], [4]), ([5], [5]), ([6, 5], [5, 6]), ([7, 5, 5], [5, 7]), ([5], [5]), ([9, 5], [5, 9]), ([10, 8, 5], [5, 10]), ([8, 11, 5], [5, 8, 11]), ([5, 12], [5, 12]), ([13, 11, 0, 1, 2, 3, 4, 5, 6, 7, 8, 9, 10, 11, 12, 13], [13])])
def arbiterref06_together.B1 : List Nat := [0, 1, 0, 4, 15, 31, 63, 127, 255, 63, 575, 2047, 4095, 8191, 16383]
theorem arbiterref06_together.tab1 : rtab .any (opsOf Tryz.f96 1) = arbiterref06_together.T1 := by kernel_rfl
theorem arbiterref06_together.bits1 : waitsOk arbiterref06_together.T1.2 arbiterref06_together.B1 = true := by kernel_rfl
set_option maxHeartbeats 8000000 in
set_option maxRecDepth 100000 in
theorem arbiterref06_together.calls (a0_0 : ByteArray) (a0_1 : ByteArray) (A0_2 : Option Addr) (c0_2 : Nat) (l0_2 : List ByteArray) (a0_3 : Int) (a0_4 : Int) (A0_5 : Option Addr) (c0_5 : Nat) (l0_5 : List (S105)) (a1_0 : ByteArray) (a1_1 : ByteArray) (A1_2 : Option Addr) (c1_2 : Nat) (l1_2 : List ByteArray) (a1_3 : Int) (a1_4 : Int) (A1_5 : Option Addr) (c1_5 : Nat) (l1_5 : List (S105)) (r : Bool) (w : World) (hr0_2 : Kd.C Kd.string w A0_2 l0_2.length l0_2) (hc0_2 : l0_2.length ≤ c0_2) (hr0_5 : Kd.C k105 w A0_5 l0_5.length l0_5) (hc0_5 : l0_5.length ≤ c0_5) (hr1_2 : Kd.C Kd.string w A1_2 l1_2.length l1_2) (hc1_2 : l1_2.length ≤ c1_2) (hr1_5 : Kd.C k105 w A1_5 l1_5.length l1_5) (hc1_5 : l1_5.length ≤ c1_5) (h : arbiterref06_together.f a0_0 a0_1 l0_2 a0_3 a0_4 l0_5 a1_0 a1_1 l1_2 a1_3 a1_4 l1_5 = some r) :
  Calls Tryz.prog 96 #[.agg #[.string a0_0, .string a0_1, .slice A0_2 l0_2.length c0_2, .int .i64 a0_3, .int .i64 a0_4, .slice A0_5 l0_5.length c0_5], .agg #[.string a1_0, .string a1_1, .slice A1_2 l1_2.length c1_2, .int .i64 a1_3, .int .i64 a1_4, .slice A1_5 l1_5.length c1_5]] w fun e w' => e = .returned (.bool r) ∧ Below w.heap.size w w' := by
 have hu85 := Tryz.underlying85; have HR0_2 := Aside0.mk hr0_2; have HC0_2 := Aside0.mk hc0_2; clear hr0_2 hc0_2; have HR0_5 := Aside0.mk hr0_5; have HC0_5 := Aside0.mk hc0_5; clear hr0_5 hc0_5; have HR1_2 := Aside0.mk hr1_2; have HC1_2 := Aside0.mk hc1_2; clear hr1_2 hc1_2; have HR1_5 := Aside0.mk hr1_5; have HC1_5 := Aside0.mk hc1_5; clear hr1_5 hc1_5; have HB := Aside0.mk (Below.refl w.heap.size w); have H : (if a0_4 = a1_4 then ((arbiterref01_Package.f a0_0).bind fun t160 => ((arbiterref01_Package.f a1_0).bind fun t161 => (some (t160.toList == t161.toList)))) else (some false)) = some r := h; clear h
 by_cases c3 : a0_4 = a1_4
 ·rw [if_pos c3] at H
  have c3b0 : (a0_4 == a1_4) = true := beq_iff_eq.mpr c3; have c3b1 : (a0_4 != a1_4) = false := bne_eq_false_iff_eq.mpr c3; clear c3; replace H := Option.bind_eq_some_iff.mp H; obtain ⟨t160, A40, H⟩ := H; replace H : ((arbiterref01_Package.f a1_0).bind fun t161 => (some (t160.toList == t161.toList))) = some r := H; have A4 := Aside0.mk A40; clear A40; replace H := Option.bind_eq_some_iff.mp H; obtain ⟨t161, A50, H⟩ := H; replace H : (some (t160.toList == t161.toList)) = some r := H; have A5 := Aside0.mk A50; clear A50; obtain rfl := Option.some.inj H; go_enter Tryz.func96, Tryz.ntmps96
  try go_wp2_with (first | ((with_reducible refine gate_dst (N := 2) rfl ?_); refine eX 2 #[.string a0_0, .string a0_1, .slice A0_2 l0_2.length c0_2, .int .i64 a0_3, .int .i64 a0_4, .slice A0_5 l0_5.length c0_5] 85 ?_; intro gb158 hg w6 hbox hb; have n0_ := Aside0.mk (below_step (bX HB) hb); have n1_ := Aside0.mk (hbox); have n2_ := Aside0.mk ((by rw [hg]; exact (below_size (bX HB)) : w.heap.size ≤ gb158)); have n3_ := Aside0.mk ((by rw [hg]; exact (below_size (bX HB)) : w.heap.size ≤ gb158)); clear HB; have HB := n0_; have BK158 := n1_; have GW158 := n2_; have GE158 := n3_; clear n0_ n1_ n2_ n3_; clear hb hbox hg) | ((with_reducible refine gate_dst (N := 3) rfl ?_); refine eX 3 #[.string a1_0, .string a1_1, .slice A1_2 l1_2.length c1_2, .int .i64 a1_3, .int .i64 a1_4, .slice A1_5 l1_5.length c1_5] 85 ?_; intro gb159 hg w7 hbox hb; have n0_ := Aside0.mk (blk_below (kX BK158) hb); have n1_ := Aside0.mk (below_step (bX1 HB GE158) hb); have n2_ := Aside0.mk (hbox); have n3_ := Aside0.mk ((by rw [hg]; exact (below_size (bX1 HB GE158)) : w.heap.size ≤ gb159)); have n4_ := Aside0.mk ((by rw [hg]; exact (below_size (bX1 HB GE158)) : w.heap.size ≤ gb159)); have n5_ := Aside0.mk ((by rw [hg]; exact Nat.ne_of_lt (blk_lt (kX BK158)) : gb158 ≠ gb159)); have n6_ := Aside0.mk ((by rw [hg]; exact Nat.ne_of_gt (blk_lt (kX BK158)) : gb159 ≠ gb158)); clear BK158; clear HB; have BK158 := n0_; have HB := n1_; have BK159 := n2_; have GW159 := n3_; have GE159 := n4_; have NB158_159 := n5_; have NB159_158 := n6_; clear n0_ n1_ n2_ n3_ n4_ n5_ n6_; clear hb hbox hg))
  have n0_ := Aside0.mk (blk_drew BK158.out); have n1_ := Aside0.mk (blk_drew BK159.out); have n2_ := Aside0.mk (below_drew1 HB.out); clear BK158; clear BK159; clear HB; have BK158 := n0_; have BK159 := n1_; have HB := n2_; clear n0_ n1_ n2_; refine start_ (n := 15) (S := fun w' => w'.cell? ⟨gb158, 0, none⟩ = some (.string a0_0) ∧ w'.cell? ⟨gb158, 1, none⟩ = some (.string a0_1) ∧ w'.cell? ⟨gb158, 2, none⟩ = some (.slice A0_2 l0_2.length c0_2) ∧ w'.cell? ⟨gb158, 3, none⟩ = some (.int .i64 a0_3) ∧ w'.cell? ⟨gb158, 4, none⟩ = some (.int .i64 a0_4) ∧ w'.cell? ⟨gb158, 5, none⟩ = some (.slice A0_5 l0_5.length c0_5) ∧ w'.cell? ⟨gb159, 0, none⟩ = some (.string a1_0) ∧ w'.cell? ⟨gb159, 1, none⟩ = some (.string a1_1) ∧ w'.cell? ⟨gb159, 2, none⟩ = some (.slice A1_2 l1_2.length c1_2) ∧ w'.cell? ⟨gb159, 3, none⟩ = some (.int .i64 a1_3) ∧ w'.cell? ⟨gb159, 4, none⟩ = some (.int .i64 a1_4) ∧ w'.cell? ⟨gb159, 5, none⟩ = some (.slice A1_5 l1_5.length c1_5)) (ds := []) #[false, false, false, false, false, false, false, false, false, false, false, false, false, false, false] (by kernel_rfl) rfl rfl ⟨(blk_cell BK158.out 0).trans rfl, (blk_cell BK158.out 1).trans rfl, (blk_cell BK158.out 2).trans rfl, (blk_cell BK158.out 3).trans rfl, (blk_cell BK158.out 4).trans rfl, (blk_cell BK158.out 5).trans rfl, (blk_cell BK159.out 0).trans rfl, (blk_cell BK159.out 1).trans rfl, (blk_cell BK159.out 2).trans rfl, (blk_cell BK159.out 3).trans rfl, (blk_cell BK159.out 4).trans rfl, (blk_cell BK159.out 5).trans rfl⟩ (fun hHeld => ?_); refine with_tabW arbiterref06_together.tab1 arbiterref06_together.bits1 (fun HT_ HW_ => ?_); generalize w7.drew = w8 at BK158 BK159 HB hHeld ⊢; refine pX HT_ 0 (some 5) ?_; refine pX HT_ 2 (some 7) ?_; refine tX HT_ HW_ hHeld 1 (some 6) ?_; refine tX HT_ HW_ hHeld 3 (some 8) ?_; refine pX HT_ 4 (some 9) ?_; refine pX HT_ 5 (some 10) ?_; refine pX HT_ 6 (some 11) ?_; refine pX HT_ 9 (some 14) ?_; refine tX HT_ HW_ hHeld 7 (some 12) ?_; refine tX HT_ HW_ hHeld 10 (some 15) ?_; refine oX HT_ 8 (some 13) (fun K hK => ?_); refine hX Tryz.func52 #[.string a0_0] ?_
  with_reducible refine (arbiterref01_Package.calls a0_0 t160 _ A4.out).mono ?_
  rintro e w9 ⟨rfl, hb⟩; refine ⟨_, rfl, ?_⟩; have n0_ := Aside0.mk (blk_below (kX BK158) hb); have n1_ := Aside0.mk (blk_below (kX BK159) hb); have n2_ := Aside0.mk (below_step (bX2 HB GE158 GE159) hb); clear BK158; clear BK159; clear HB; have BK158 := n0_; have BK159 := n1_; have HB := n2_; clear n0_ n1_ n2_
  (try clear hb)
  (try clear hb2)
  (try clear hk)
  (try clear hi)
  refine hK.out _ _ ⟨(blk_cell BK158.out 0).trans rfl, (blk_cell BK158.out 1).trans rfl, (blk_cell BK158.out 2).trans rfl, (blk_cell BK158.out 3).trans rfl, (blk_cell BK158.out 4).trans rfl, (blk_cell BK158.out 5).trans rfl, (blk_cell BK159.out 0).trans rfl, (blk_cell BK159.out 1).trans rfl, (blk_cell BK159.out 2).trans rfl, (blk_cell BK159.out 3).trans rfl, (blk_cell BK159.out 4).trans rfl, (blk_cell BK159.out 5).trans rfl⟩ (fun hHeld => ?_); clear hK K; refine nX (some 13) ?_; refine oX HT_ 11 (some 16) (fun K hK => ?_); refine hX Tryz.func52 #[.string a1_0] ?_
  with_reducible refine (arbiterref01_Package.calls a1_0 t161 _ A5.out).mono ?_
  rintro e w10 ⟨rfl, hb⟩; refine ⟨_, rfl, ?_⟩; have n0_ := Aside0.mk (blk_below (kX BK158) hb); have n1_ := Aside0.mk (blk_below (kX BK159) hb); have n2_ := Aside0.mk (below_step (bX2 HB GE158 GE159) hb); clear BK158; clear BK159; clear HB; have BK158 := n0_; have BK159 := n1_; have HB := n2_; clear n0_ n1_ n2_
  (try clear hb)
  (try clear hb2)
  (try clear hk)
  (try clear hi)
  refine hK.out _ _ ⟨(blk_cell BK158.out 0).trans rfl, (blk_cell BK158.out 1).trans rfl, (blk_cell BK158.out 2).trans rfl, (blk_cell BK158.out 3).trans rfl, (blk_cell BK158.out 4).trans rfl, (blk_cell BK158.out 5).trans rfl, (blk_cell BK159.out 0).trans rfl, (blk_cell BK159.out 1).trans rfl, (blk_cell BK159.out 2).trans rfl, (blk_cell BK159.out 3).trans rfl, (blk_cell BK159.out 4).trans rfl, (blk_cell BK159.out 5).trans rfl⟩ (fun hHeld => ?_); clear hK K; refine nX (some 16) ?_; refine pX HT_ 12 (some 17) ?_; refine pX HT_ 13 (some 18) ?_; refine pX HT_ 14 (some 4) ?_; refine done_ (done_of HT_.out (by kernel_rfl)) ?_
  try go_wp2
  go_ret
  exact ⟨by first | rfl | (simp [errW_none, errW_some] <;> rfl) | (simp [*, errW_none, errW_some] <;> rfl), bX2 HB GE158 GE159⟩
 ·rw [if_neg c3] at H
  have c3b0 : (a0_4 == a1_4) = false := beq_eq_false_iff_ne.mpr c3; have c3b1 : (a0_4 != a1_4) = true := bne_iff_ne.mpr c3; obtain rfl := Option.some.inj H; go_enter Tryz.func96, Tryz.ntmps96
  try go_wp2_with (first | ((with_reducible refine gate_dst (N := 2) rfl ?_); refine eX 2 #[.string a0_0, .string a0_1, .slice A0_2 l0_2.length c0_2, .int .i64 a0_3, .int .i64 a0_4, .slice A0_5 l0_5.length c0_5] 85 ?_; intro gb158 hg w11 hbox hb; have n0_ := Aside0.mk (below_step (bX HB) hb); have n1_ := Aside0.mk (hbox); have n2_ := Aside0.mk ((by rw [hg]; exact (below_size (bX HB)) : w.heap.size ≤ gb158)); have n3_ := Aside0.mk ((by rw [hg]; exact (below_size (bX HB)) : w.heap.size ≤ gb158)); clear HB; have HB := n0_; have BK158 := n1_; have GW158 := n2_; have GE158 := n3_; clear n0_ n1_ n2_ n3_; clear hb hbox hg) | ((with_reducible refine gate_dst (N := 3) rfl ?_); refine eX 3 #[.string a1_0, .string a1_1, .slice A1_2 l1_2.length c1_2, .int .i64 a1_3, .int .i64 a1_4, .slice A1_5 l1_5.length c1_5] 85 ?_; intro gb159 hg w12 hbox hb; have n0_ := Aside0.mk (blk_below (kX BK158) hb); have n1_ := Aside0.mk (below_step (bX1 HB GE158) hb); have n2_ := Aside0.mk (hbox); have n3_ := Aside0.mk ((by rw [hg]; exact (below_size (bX1 HB GE158)) : w.heap.size ≤ gb159)); have n4_ := Aside0.mk ((by rw [hg]; exact (below_size (bX1 HB GE158)) : w.heap.size ≤ gb159)); have n5_ := Aside0.mk ((by rw [hg]; exact Nat.ne_of_lt (blk_lt (kX BK158)) : gb158 ≠ gb159)); have n6_ := Aside0.mk ((by rw [hg]; exact Nat.ne_of_gt (blk_lt (kX BK158)) : gb159 ≠ gb158)); clear BK158; clear HB; have BK158 := n0_; have HB := n1_; have BK159 := n2_; have GW159 := n3_; have GE159 := n4_; have NB158_159 := n5_; have NB159_158 := n6_; clear n0_ n1_ n2_ n3_ n4_ n5_ n6_; clear hb hbox hg))
  have n0_ := Aside0.mk (blk_drew BK158.out); have n1_ := Aside0.mk (blk_drew BK159.out); have n2_ := Aside0.mk (below_drew1 HB.out); clear BK158; clear BK159; clear HB; have BK158 := n0_; have BK159 := n1_; have HB := n2_; clear n0_ n1_ n2_; refine start_ (n := 15) (S := fun w' => w'.cell? ⟨gb158, 0, none⟩ = some (.string a0_0) ∧ w'.cell? ⟨gb158, 1, none⟩ = some (.string a0_1) ∧ w'.cell? ⟨gb158, 2, none⟩ = some (.slice A0_2 l0_2.length c0_2) ∧ w'.cell? ⟨gb158, 3, none⟩ = some (.int .i64 a0_3) ∧ w'.cell? ⟨gb158, 4, none⟩ = some (.int .i64 a0_4) ∧ w'.cell? ⟨gb158, 5, none⟩ = some (.slice A0_5 l0_5.length c0_5) ∧ w'.cell? ⟨gb159, 0, none⟩ = some (.string a1_0) ∧ w'.cell? ⟨gb159, 1, none⟩ = some (.string a1_1) ∧ w'.cell? ⟨gb159, 2, none⟩ = some (.slice A1_2 l1_2.length c1_2) ∧ w'.cell? ⟨gb159, 3, none⟩ = some (.int .i64 a1_3) ∧ w'.cell? ⟨gb159, 4, none⟩ = some (.int .i64 a1_4) ∧ w'.cell? ⟨gb159, 5, none⟩ = some (.slice A1_5 l1_5.length c1_5)) (ds := []) #[false, false, false, false, false, false, false, false, false, false, false, false, false, false, false] (by kernel_rfl) rfl rfl ⟨(blk_cell BK158.out 0).trans rfl, (blk_cell BK158.out 1).trans rfl, (blk_cell BK158.out 2).trans rfl, (blk_cell BK158.out 3).trans rfl, (blk_cell BK158.out 4).trans rfl, (blk_cell BK158.out 5).trans rfl, (blk_cell BK159.out 0).trans rfl, (blk_cell BK159.out 1).trans rfl, (blk_cell BK159.out 2).trans rfl, (blk_cell BK159.out 3).trans rfl, (blk_cell BK159.out 4).trans rfl, (blk_cell BK159.out 5).trans rfl⟩ (fun hHeld => ?_); refine with_tabW arbiterref06_together.tab1 arbiterref06_together.bits1 (fun HT_ HW_ => ?_); generalize w12.drew = w13 at BK158 BK159 HB hHeld ⊢; refine pX HT_ 0 (some 5) ?_; refine pX HT_ 2 (some 7) ?_; refine tX HT_ HW_ hHeld 1 (some 6) ?_; refine tX HT_ HW_ hHeld 3 (some 8) ?_; refine pX HT_ 4 (some 9) ?_; refine pX HT_ 5 (some 10) ?_; refine uX HT_ 6 (some 11) ?_; refine uX HT_ 7 (some 12) ?_; refine uX HT_ 8 (some 13) ?_; refine uX HT_ 9 (some 14) ?_; refine uX HT_ 10 (some 15) ?_; refine uX HT_ 11 (some 16) ?_; refine uX HT_ 12 (some 17) ?_; refine pX HT_ 13 (some 18) ?_; refine pX HT_ 14 (some 4) ?_; refine done_ (done_of HT_.out (by kernel_rfl)) ?_
  try go_wp2
  go_ret
  exact ⟨by first | rfl | (simp [errW_none, errW_some] <;> rfl) | (simp [*, errW_none, errW_some] <;> rfl), bX2 HB GE158 GE159⟩
def arbiterref06_open.f (a0_0 : ByteArray) (a0_1 : ByteArray) (l0_2 : List ByteArray) (a0_3 : Int) (a0_4 : Int) (l0_5 : List (S105)) (a1_0 : ByteArray) (a1_1 : ByteArray) (l1_2 : List ByteArray) (a1_3 : Int) (a1_4 : Int) (l1_5 : List (S105)) : Option (Bool) := (arbiterref03_Has.f a1_3 1).bind fun t164 => (if t164 = true then (some true) else ((arbiterref06_together.f a0_0 a0_1 l0_2 a0_3 a0_4 l0_5 a1_0 a1_1 l1_2 a1_3 a1_4 l1_5).bind fun t165 => (some t165)))
set_option maxHeartbeats 8000000 in
set_option maxRecDepth 100000 in
theorem arbiterref06_open.calls (a0_0 : ByteArray) (a0_1 : ByteArray) (A0_2 : Option Addr) (c0_2 : Nat) (l0_2 : List ByteArray) (a0_3 : Int) (a0_4 : Int) (A0_5 : Option Addr) (c0_5 : Nat) (l0_5 : List (S105)) (a1_0 : ByteArray) (a1_1 : ByteArray) (A1_2 : Option Addr) (c1_2 : Nat) (l1_2 : List ByteArray) (a1_3 : Int) (a1_4 : Int) (A1_5 : Option Addr) (c1_5 : Nat) (l1_5 : List (S105)) (r : Bool) (w : World) (hr0_2 : Kd.C Kd.string w A0_2 l0_2.length l0_2) (hc0_2 : l0_2.length ≤ c0_2) (hr0_5 : Kd.C k105 w A0_5 l0_5.length l0_5) (hc0_5 : l0_5.length ≤ c0_5) (hr1_2 : Kd.C Kd.string w A1_2 l1_2.length l1_2) (hc1_2 : l1_2.length ≤ c1_2) (hr1_5 : Kd.C k105 w A1_5 l1_5.length l1_5) (hc1_5 : l1_5.length ≤ c1_5) (h : arbiterref06_open.f a0_0 a0_1 l0_2 a0_3 a0_4 l0_5 a1_0 a1_1 l1_2 a1_3 a1_4 l1_5 = some r) :
  Calls Tryz.prog 92 #[.agg #[.string a0_0, .string a0_1, .slice A0_2 l0_2.length c0_2, .int .i64 a0_3, .int .i64 a0_4, .slice A0_5 l0_5.length c0_5], .agg #[.string a1_0, .string a1_1, .slice A1_2 l1_2.length c1_2, .int .i64 a1_3, .int .i64 a1_4, .slice A1_5 l1_5.length c1_5]] w fun e w' => e = .returned (.bool r) ∧ Below w.heap.size w w' := by
 have hu85 := Tryz.underlying85; have HR0_2 := Aside0.mk hr0_2; have HC0_2 := Aside0.mk hc0_2; clear hr0_2 hc0_2; have HR0_5 := Aside0.mk hr0_5; have HC0_5 := Aside0.mk hc0_5; clear hr0_5 hc0_5; have HR1_2 := Aside0.mk hr1_2; have HC1_2 := Aside0.mk hc1_2; clear hr1_2 hc1_2; have HR1_5 := Aside0.mk hr1_5; have HC1_5 := Aside0.mk hc1_5; clear hr1_5 hc1_5; have HB := Aside0.mk (Below.refl w.heap.size w); have H : ((arbiterref03_Has.f a1_3 1).bind fun t164 => (if t164 = true then (some true) else ((arbiterref06_together.f a0_0 a0_1 l0_2 a0_3 a0_4 l0_5 a1_0 a1_1 l1_2 a1_3 a1_4 l1_5).bind fun t165 => (some t165)))) = some r := h; clear h; replace H := Option.bind_eq_some_iff.mp H; obtain ⟨t164, A30, H⟩ := H; replace H : (if t164 = true then (some true) else ((arbiterref06_together.f a0_0 a0_1 l0_2 a0_3 a0_4 l0_5 a1_0 a1_1 l1_2 a1_3 a1_4 l1_5).bind fun t165 => (some t165))) = some r := H; have A3 := Aside0.mk A30; clear A30
 by_cases c4 : t164 = true
 ·subst c4
  have H1 : (some true) = some r := by rw [if_pos rfl] at H; exact H
  clear H; have H := H1; clear H1; obtain rfl := Option.some.inj H; go_enter Tryz.func92, Tryz.ntmps92; go_wp2_with (first | ((with_reducible refine gate_dst (N := 2) rfl ?_); refine eX 2 #[.string a0_0, .string a0_1, .slice A0_2 l0_2.length c0_2, .int .i64 a0_3, .int .i64 a0_4, .slice A0_5 l0_5.length c0_5] 85 ?_; intro gb162 hg w5 hbox hb; have n0_ := Aside0.mk (below_step (bX HB) hb); have n1_ := Aside0.mk (hbox); have n2_ := Aside0.mk ((by rw [hg]; exact (below_size (bX HB)) : w.heap.size ≤ gb162)); have n3_ := Aside0.mk ((by rw [hg]; exact (below_size (bX HB)) : w.heap.size ≤ gb162)); clear HB; have HB := n0_; have BK162 := n1_; have GW162 := n2_; have GE162 := n3_; clear n0_ n1_ n2_ n3_; clear hb hbox hg) | ((with_reducible refine gate_dst (N := 3) rfl ?_); refine eX 3 #[.string a1_0, .string a1_1, .slice A1_2 l1_2.length c1_2, .int .i64 a1_3, .int .i64 a1_4, .slice A1_5 l1_5.length c1_5] 85 ?_; intro gb163 hg w6 hbox hb; have n0_ := Aside0.mk (blk_below (kX BK162) hb); have n1_ := Aside0.mk (below_step (bX1 HB GE162) hb); have n2_ := Aside0.mk (hbox); have n3_ := Aside0.mk ((by rw [hg]; exact (below_size (bX1 HB GE162)) : w.heap.size ≤ gb163)); have n4_ := Aside0.mk ((by rw [hg]; exact (below_size (bX1 HB GE162)) : w.heap.size ≤ gb163)); have n5_ := Aside0.mk ((by rw [hg]; exact Nat.ne_of_lt (blk_lt (kX BK162)) : gb162 ≠ gb163)); have n6_ := Aside0.mk ((by rw [hg]; exact Nat.ne_of_gt (blk_lt (kX BK162)) : gb163 ≠ gb162)); clear BK162; clear HB; have BK162 := n0_; have HB := n1_; have BK163 := n2_; have GW163 := n3_; have GE163 := n4_; have NB162_163 := n5_; have NB163_162 := n6_; clear n0_ n1_ n2_ n3_ n4_ n5_ n6_; clear hb hbox hg; have hnb7 := NB163_162.out; have hnc7 := NB162_163.out; obtain ⟨hcz8_0, hcz8_1, hcz8_2, hcz8_3, hcz8_4, hcz8_5, hfz8_0, hfz8_1, hfz8_2, hfz8_3, hfz8_4, hfz8_5⟩ := c6X BK163) | ((with_reducible refine gate_callee (f := 53) rfl ?_); refine gX (some 7) Tryz.func53 #[.int .i64 a1_3, .int .i64 1] ?_; (with_reducible refine (arbiterref03_Has.calls a1_3 1 true _ A3.out).mono ?_); rintro e w9 ⟨rfl, hb⟩; refine ⟨_, rfl, ?_⟩; have n0_ := Aside0.mk (blk_below (kX BK162) hb); have n1_ := Aside0.mk (blk_below (kX BK163) hb); have n2_ := Aside0.mk (below_step (bX2 HB GE162 GE163) hb); clear BK162; clear BK163; clear HB; have BK162 := n0_; have BK163 := n1_; have HB := n2_; clear n0_ n1_ n2_; (try clear hb); (try clear hb2); (try clear hk); (try clear hi))); go_ret
  exact ⟨by first | rfl | (simp [errW_none, errW_some] <;> rfl) | (simp [*, errW_none, errW_some] <;> rfl), bX2 HB GE162 GE163⟩
 ·replace c4 := Bool.eq_false_iff.mpr c4
  subst c4
  have H1 : ((arbiterref06_together.f a0_0 a0_1 l0_2 a0_3 a0_4 l0_5 a1_0 a1_1 l1_2 a1_3 a1_4 l1_5).bind fun t165 => (some t165)) = some r := by rw [if_neg (show ¬ (false = true) by decide)] at H; exact H
  clear H; have H := H1; clear H1; replace H := Option.bind_eq_some_iff.mp H; obtain ⟨t165, A100, H⟩ := H; replace H : (some t165) = some r := H; have A10 := Aside0.mk A100; clear A100; obtain rfl := Option.some.inj H; go_enter Tryz.func92, Tryz.ntmps92; go_wp2_with (first | ((with_reducible refine gate_dst (N := 2) rfl ?_); refine eX 2 #[.string a0_0, .string a0_1, .slice A0_2 l0_2.length c0_2, .int .i64 a0_3, .int .i64 a0_4, .slice A0_5 l0_5.length c0_5] 85 ?_; intro gb162 hg w11 hbox hb; have n0_ := Aside0.mk (below_step (bX HB) hb); have n1_ := Aside0.mk (hbox); have n2_ := Aside0.mk ((by rw [hg]; exact (below_size (bX HB)) : w.heap.size ≤ gb162)); have n3_ := Aside0.mk ((by rw [hg]; exact (below_size (bX HB)) : w.heap.size ≤ gb162)); clear HB; have HB := n0_; have BK162 := n1_; have GW162 := n2_; have GE162 := n3_; clear n0_ n1_ n2_ n3_; clear hb hbox hg) | ((with_reducible refine gate_dst (N := 3) rfl ?_); refine eX 3 #[.string a1_0, .string a1_1, .slice A1_2 l1_2.length c1_2, .int .i64 a1_3, .int .i64 a1_4, .slice A1_5 l1_5.length c1_5] 85 ?_; intro gb163 hg w12 hbox hb; have n0_ := Aside0.mk (blk_below (kX BK162) hb); have n1_ := Aside0.mk (below_step (bX1 HB GE162) hb); have n2_ := Aside0.mk (hbox); have n3_ := Aside0.mk ((by rw [hg]; exact (below_size (bX1 HB GE162)) : w.heap.size ≤ gb163)); have n4_ := Aside0.mk ((by rw [hg]; exact (below_size (bX1 HB GE162)) : w.heap.size ≤ gb163)); have n5_ := Aside0.mk ((by rw [hg]; exact Nat.ne_of_lt (blk_lt (kX BK162)) : gb162 ≠ gb163)); have n6_ := Aside0.mk ((by rw [hg]; exact Nat.ne_of_gt (blk_lt (kX BK162)) : gb163 ≠ gb162)); clear BK162; clear HB; have BK162 := n0_; have HB := n1_; have BK163 := n2_; have GW163 := n3_; have GE163 := n4_; have NB162_163 := n5_; have NB163_162 := n6_; clear n0_ n1_ n2_ n3_ n4_ n5_ n6_; clear hb hbox hg; have hnb13 := NB163_162.out; have hnc13 := NB162_163.out; obtain ⟨hcz14_0, hcz14_1, hcz14_2, hcz14_3, hcz14_4, hcz14_5, hfz14_0, hfz14_1, hfz14_2, hfz14_3, hfz14_4, hfz14_5⟩ := c6X BK163) | ((with_reducible refine gate_callee (f := 53) rfl ?_); refine gX (some 7) Tryz.func53 #[.int .i64 a1_3, .int .i64 1] ?_; (with_reducible refine (arbiterref03_Has.calls a1_3 1 false _ A3.out).mono ?_); rintro e w15 ⟨rfl, hb⟩; refine ⟨_, rfl, ?_⟩; have n0_ := Aside0.mk (blk_below (kX BK162) hb); have n1_ := Aside0.mk (blk_below (kX BK163) hb); have n2_ := Aside0.mk (below_step (bX2 HB GE162 GE163) hb); clear BK162; clear BK163; clear HB; have BK162 := n0_; have BK163 := n1_; have HB := n2_; clear n0_ n1_ n2_; (try clear hb); (try clear hb2); (try clear hk); (try clear hi); obtain ⟨hcz16_0, hcz16_1, hcz16_2, hcz16_3, hcz16_4, hcz16_5, hfz16_0, hfz16_1, hfz16_2, hfz16_3, hfz16_4, hfz16_5⟩ := c6X BK162; obtain ⟨hcz17_0, hcz17_1, hcz17_2, hcz17_3, hcz17_4, hcz17_5, hfz17_0, hfz17_1, hfz17_2, hfz17_3, hfz17_4, hfz17_5⟩ := c6X BK163) | (go_at_call 96; (with_reducible refine (arbiterref06_together.calls a0_0 a0_1 _ _ l0_2 a0_3 a0_4 _ _ l0_5 a1_0 a1_1 _ _ l1_2 a1_3 a1_4 _ _ l1_5 t165 _ ?side1 ?side2 ?side3 ?side4 ?side5 ?side6 ?side7 ?side8 A10.out).mono ?_); (case side1 => repeat (first | exact (Kd.C_below HR0_2.out HB.out) | (with_reducible refine Kd.C_alloc ?_ _) | (with_reducible refine Kd.C_drewN ?_ _) | (with_reducible refine Kd.C_drew ?_))); (case side2 => exact HC0_2.out); (case side3 => repeat (first | exact (Kd.C_below HR0_5.out HB.out) | (with_reducible refine Kd.C_alloc ?_ _) | (with_reducible refine Kd.C_drewN ?_ _) | (with_reducible refine Kd.C_drew ?_))); (case side4 => exact HC0_5.out); (case side5 => repeat (first | exact (Kd.C_below HR1_2.out HB.out) | (with_reducible refine Kd.C_alloc ?_ _) | (with_reducible refine Kd.C_drewN ?_ _) | (with_reducible refine Kd.C_drew ?_))); (case side6 => exact HC1_2.out); (case side7 => repeat (first | exact (Kd.C_below HR1_5.out HB.out) | (with_reducible refine Kd.C_alloc ?_ _) | (with_reducible refine Kd.C_drewN ?_ _) | (with_reducible refine Kd.C_drew ?_))); (case side8 => exact HC1_5.out); rintro e w18 ⟨rfl, hb⟩; have n0_ := Aside0.mk (blk_below (kX BK162) hb); have n1_ := Aside0.mk (blk_below (kX BK163) hb); have n2_ := Aside0.mk (below_step (bX2 HB GE162 GE163) hb); clear BK162; clear BK163; clear HB; have BK162 := n0_; have BK163 := n1_; have HB := n2_; clear n0_ n1_ n2_; (try clear hb); (try clear hb2); (try clear hk); (try clear hi))); go_ret
  exact ⟨by first | rfl | (simp [errW_none, errW_some] <;> rfl) | (simp [*, errW_none, errW_some] <;> rfl), bX2 HB GE162 GE163⟩
end Go.Proofs.YtaipkdglhfhhiaaGreatDoor.Pt

namespace Go.Proofs.YtaipkdglhfhhiaaGreatDoor.Pt
open Go Go.RowKit Go.Proofs.YtaipkdglhfhhiaaGreatDoor.Nm Go.Proofs.YtaipkdglhfhhiaaGreatDoor.Ty Go.Proofs.YtaipkdglhfhhiaaGreatDoor.Hi Go.Proofs.YtaipkdglhfhhiaaGreatDoorW.PrintWords
set_option linter.unusedVariables false
set_option linter.unusedSimpArgs false
def csOf (es : List Ent) : List S85 := es.map (·.c)
theorem cs_len (es : List Ent) : (csOf es).length = es.length := List.length_map _
theorem cs_rd {es : List Ent} {i : Int} (h0 : 0 ≤ i) (h1 : i < es.length) : rd_T85 (csOf es) i = (ent es i).c := by
 have hi : i.toNat < es.length := by omega
 simp [rd_T85, csOf, ent, List.getD_eq_getElem?_getD, List.getElem?_eq_getElem hi]
theorem num_wrap {j : Nat} (h : j ≤ 1000000) : wrap64 ((j : Int) + 1) = ((j + 1 : Nat) : Int) := by
 rw [wrap_small' (by omega) (by omega)]; push_cast
 rfl
def rnm (es : List Ent) (s : ByteArray) : Int := if (nameF es s).2 = 0 then (nameF es s).1 else -1
def idxR (L : List ByteArray) (s : ByteArray) (i : Nat) : Int := match (L.drop i).findIdx? (fun t => decide (t = s)) with | some j => ((i + j : Nat) : Int) | none => -1
theorem idxR_step {L : List ByteArray} {s : ByteArray} {i : Nat} (hi : i < L.length) : idxR L s i = if L[i] = s then (i : Int) else idxR L s (i + 1) := by
 unfold idxR; rw [List.drop_eq_getElem_cons hi, List.findIdx?_cons]
 by_cases h : L[i] = s
 ·rw [if_pos h, decide_eq_true h]
  simp
 ·rw [if_neg h, decide_eq_false h]
  cases (L.drop (i + 1)).findIdx? (fun t => decide (t = s)) with
  | none => simp
  | some j => simp; omega
theorem named_l0 (es : List Ent) (hl : es.length ≤ 1000) (s : ByteArray) : ∀ (d i k : Nat), i ≤ es.length → es.length - i ≤ d → d < k → arbiterref06_named.l0 k (csOf es) s i = some (idxR (es.map (·.c.f0)) s i) := by
 intro d
 induction d with
 | zero =>
  intro i k hi hd hk
  obtain ⟨k, rfl⟩ : ∃ m, k = m + 1 := ⟨k - 1, by omega⟩
  simp only [arbiterref06_named.l0]; rw [cs_len, if_neg (by omega)]; unfold idxR; rw [List.drop_eq_nil_of_le (by rw [List.length_map]; omega)]
  rfl
 | succ d ih =>
  intro i k hi hd hk
  obtain ⟨k, rfl⟩ : ∃ m, k = m + 1 := ⟨k - 1, by omega⟩
  by_cases hlt : i < es.length
  ·simp only [arbiterref06_named.l0]
   rw [cs_len, if_pos (by omega : (i : Int) < es.length), if_pos (by omega : 0 ≤ (i : Int)), cs_rd (by omega) (by omega)]
   have hm : i < (es.map (·.c.f0)).length := by rw [List.length_map]; exact hlt
   rw [idxR_step hm]
   have he : (es.map (·.c.f0))[i] = (ent es (i : Int)).c.f0 := by
    simp [ent, List.getD_eq_getElem?_getD, List.getElem?_eq_getElem hlt]
   rw [he]
   by_cases h : (ent es (i : Int)).c.f0 = s
   ·rw [if_pos h, if_pos (by rw [h])]
   ·rw [if_neg h, if_neg (fun e => h (ba_eq e)), num_wrap (by omega)]
    exact ih (i + 1) k (by omega) (by omega) (by omega)
  ·simp only [arbiterref06_named.l0]
   rw [cs_len, if_neg (by omega)]; unfold idxR; rw [List.drop_eq_nil_of_le (by rw [List.length_map]; omega)]
   rfl
theorem named_ok (es : List Ent) (hl : es.length ≤ 1000) (s : ByteArray) (k : Nat) (hk : es.length < k) : arbiterref06_named.f k (csOf es) s = some (rnm es s) := by
 unfold arbiterref06_named.f; have := named_l0 es hl s es.length 0 k (by omega) (by omega) hk; rw [show ((0 : Nat) : Int) = 0 from rfl] at this; rw [this]; unfold idxR rnm nameF; rw [List.drop_zero]
 cases (es.map (·.c.f0)).findIdx? (fun t => decide (t = s)) with
 | none => rfl
 | some j => simp
theorem in_ok (es : List Ent) (i : Int) : arbiterref06_In.f (csOf es) i = some (inB es i) := by
 unfold arbiterref06_In.f inB; rw [cs_len]
 by_cases h : i ≥ 0
 ·rw [if_pos h]
  congr 1
  simp
  omega
 ·rw [if_neg h, decide_eq_false (by omega)]
theorem isif_ok (es : List Ent) (i : Int) : arbiterref06_IsIface.f (csOf es) i = some (inB es i && isI (ent es i).c) := by
 unfold arbiterref06_IsIface.f; rw [in_ok, Option.bind_some]
 cases h : inB es i with
 | false => rfl
 | true =>
  have h2 : 0 ≤ i ∧ i < es.length := of_decide_eq_true h; rw [if_pos rfl, if_pos h2.1, cs_len, if_pos h2.2, cs_rd h2.1 h2.2]
  rfl
theorem open_ok (c p : S85) (h0 : c.f0.size < 4611686018427387904) (h1 : p.f0.size < 4611686018427387904) : arbiterref06_open.f c.f0 c.f1 c.f2 c.f3 c.f4 c.f5 p.f0 p.f1 p.f2 p.f3 p.f4 p.f5 = some (Go.bits .and .i64 p.f3 1 != 0 || tog c p) := by
 unfold arbiterref06_open.f arbiterref03_Has.f arbiterref06_together.f arbiterref01_Package.f tog; rw [Option.bind_some]; change (if (Go.bits .and .i64 p.f3 1 != 0) = true then _ else _) = _
 cases Go.bits .and .i64 p.f3 1 != 0 with
 | true => rfl
 | false =>
  rw [if_neg (by decide), if_pos h0, if_pos h1, Bool.false_or]
  by_cases h : c.f4 = p.f4
  ·rw [if_pos h, h]
   simp
  ·rw [if_neg h, beq_eq_false_iff_ne.2 h]
   rfl
def takeB (es : List Ent) (c : S85) : Bool :=
 chkC c == 0 && (!decide (es.length ≥ 300) && (decide (rnm es c.f0 < 0) && ((aboveF es c c.f1 false).2 == 0 && c.f2.all fun n => (aboveF es c n true).2 == 0)))
theorem ifsF_all (es : List Ent) (c : S85) : ∀ l : List ByteArray, ((ifsF es c l).1 == 0) = l.all fun n => (aboveF es c n true).2 == 0
 | [] => rfl
 | n :: l => by
  unfold ifsF; rw [List.all_cons]
  by_cases h : (aboveF es c n true).2 = 0
  ·rw [if_pos h, beq_iff_eq.2 h, Bool.true_and]
   exact ifsF_all es c l
  ·rw [if_neg h, beq_eq_false_iff_ne.2 h, Bool.false_and]
theorem rnm_neg (es : List Ent) (s : ByteArray) : rnm es s < 0 ↔ ¬ (nameF es s).2 = 0 := by
 unfold rnm
 by_cases h : (nameF es s).2 = 0
 ·rw [if_pos h]
  have := nameF_in h
  constructor
  ·intro h2; omega
  ·intro h2; exact absurd h h2
 ·rw [if_neg h]
  exact ⟨fun _ => h, fun _ => by omega⟩
theorem cs_step (es : List Ent) (c : S85) : csOf (stepF es c) = if takeB es c = true then csOf es ++ [c] else csOf es := by
 unfold stepF defF takeB
 by_cases h0 : chkC c = 0
 ·rw [if_neg (fun h => h h0), beq_iff_eq.2 h0, Bool.true_and]
  by_cases h1 : es.length ≥ 300
  ·rw [if_pos h1, decide_eq_true h1]; rfl
  ·rw [if_neg h1, decide_eq_false h1, Bool.not_false, Bool.true_and]
   by_cases h2 : (nameF es c.f0).2 = 0
   ·rw [if_pos h2, decide_eq_false (fun h => (rnm_neg es c.f0).1 h h2), Bool.false_and]; rfl
   ·rw [if_neg h2, decide_eq_true ((rnm_neg es c.f0).2 h2), Bool.true_and]
    by_cases h3 : (aboveF es c c.f1 false).2 = 0
    ·rw [if_neg (fun h => h h3), beq_iff_eq.2 h3, Bool.true_and, ← ifsF_all]
     by_cases h4 : (ifsF es c c.f2).1 = 0
     ·rw [if_neg (fun h => h h4), beq_iff_eq.2 h4, if_pos rfl]
      simp [csOf, putE]
     ·rw [if_pos h4, beq_eq_false_iff_ne.2 h4]; rfl
    ·rw [if_pos h3, beq_eq_false_iff_ne.2 h3, Bool.false_and]; rfl
 ·rw [if_pos h0, beq_eq_false_iff_ne.2 h0, Bool.false_and]; rfl
theorem sup_ok (es : List Ent) (c : S85) (n : ByteArray) : ((aboveF es c n false).2 == 0) = (!decide (rnm es n < 0) && (!(isI (ent es (rnm es n)).c || (isI c && rnm es n != 0)) && (Go.bits .and .i64 (ent es (rnm es n)).c.f3 1 != 0 || tog c (ent es (rnm es n)).c))) := by
 unfold aboveF
 by_cases h : (nameF es n).2 = 0
 ·have e : rnm es n = (nameF es n).1 := if_pos h
  rw [if_pos h, decide_eq_false (fun h2 => (rnm_neg es n).1 h2 h), Bool.not_false, Bool.true_and, e]; unfold fitF; generalize (nameF es n).1 = i; generalize isI (ent es i).c = a; generalize isI c = b; generalize hd : (i != 0) = d; generalize tog c (ent es i).c = t; rw [show (Go.bits .and .i64 (ent es i).c.f3 1 != 0) = !(Go.bits .and .i64 (ent es i).c.f3 1 == 0) from rfl]; generalize (Go.bits .and .i64 (ent es i).c.f3 1 == 0) = p
  cases a <;> cases b <;> cases d <;> cases t <;> cases p <;> rfl
 ·rw [if_neg h, decide_eq_true ((rnm_neg es n).2 h)]; rfl
theorem if_ok (es : List Ent) (c : S85) (n : ByteArray) : ((aboveF es c n true).2 == 0) = (!decide (rnm es n < 0) && (isI (ent es (rnm es n)).c && (Go.bits .and .i64 (ent es (rnm es n)).c.f3 1 != 0 || tog c (ent es (rnm es n)).c))) := by
 unfold aboveF
 by_cases h : (nameF es n).2 = 0
 ·have e : rnm es n = (nameF es n).1 := if_pos h
  rw [if_pos h, decide_eq_false (fun h2 => (rnm_neg es n).1 h2 h), Bool.not_false, Bool.true_and, e]; unfold fitF; generalize (nameF es n).1 = i; generalize isI (ent es i).c = a; generalize tog c (ent es i).c = t; rw [show (Go.bits .and .i64 (ent es i).c.f3 1 != 0) = !(Go.bits .and .i64 (ent es i).c.f3 1 == 0) from rfl]; generalize (Go.bits .and .i64 (ent es i).c.f3 1 == 0) = p
  cases a <;> cases t <;> cases p <;> rfl
 ·rw [if_neg h, decide_eq_true ((rnm_neg es n).2 h)]; rfl
theorem rnm_in {es : List Ent} {n : ByteArray} (h : ¬ rnm es n < 0) : 0 ≤ rnm es n ∧ rnm es n < es.length ∧ (ent es (rnm es n)).c.f0 = n := by
 have h2 : (nameF es n).2 = 0 := Classical.byContradiction fun h3 => h ((rnm_neg es n).2 h3); have e : rnm es n = (nameF es n).1 := if_pos h2; rw [e]
 exact nameF_in h2
end Go.Proofs.YtaipkdglhfhhiaaGreatDoor.Pt

namespace Go.Proofs.YtaipkdglhfhhiaaGreatDoor.Hi
open Go Go.RowKit Go.Proofs.YtaipkdglhfhhiaaGreatDoor.Nm Go.Proofs.YtaipkdglhfhhiaaGreatDoorW.PrintWords Go.Proofs.YtaipkdglhfhhiaaGreatDoorW.PrintLast Go.Proofs.YtaipkdglhfhhiaaGreatDoorW.PrintMore Go.Proofs.YtaipkdglhfhhiaaGreatDoor.Pt
set_option linter.unusedVariables false
set_option linter.unusedSimpArgs false
set_option maxRecDepth 100000
theorem ent_take {es : List Ent} {n : Nat} {k : Int} (h0 : 0 ≤ k) (h1 : k < n) : ent (es.take n) k = ent es k := by
 unfold ent; rw [List.getD_eq_getElem?_getD, List.getD_eq_getElem?_getD, List.getElem?_take_of_lt (by omega)]
structure Src (es : List Ent) (i : Int) : Prop where
 len : (ent es i).c.f2.length ≤ 20
 sup : 1 ≤ i → (ent es (ent es i).above).c.f0 = (ent es i).c.f1
 ifs : ∀ n ∈ (ent es i).c.f2, ∃ k, 0 ≤ k ∧ k < i ∧ (ent es k).c.f0 = n ∧ isI (ent es k).c = true ∧ k ∈ (ent es i).clo
 clo : 1 ≤ i → ∀ j ∈ (ent es i).clo, j ∈ (ent es (ent es i).above).clo ∨ ∃ n ∈ (ent es i).c.f2, ∃ k, 0 ≤ k ∧ k < i ∧ (ent es k).c.f0 = n ∧ (j = k ∨ j ∈ (ent es k).clo)
theorem Thy.src_ {es : List Ent} (h : Thy es) {i : Int} (h0 : 0 ≤ i) (h1 : i < es.length) : Src es i := by
 by_cases h3 : 3 ≤ i
 ·have hx := get_ent h0 h1
  have ht := h.src _ _ hx (by omega); obtain ⟨s0, s1, s2, s3, s5⟩ := sound_sizes ht.sound; have hsp := aboveF_in ht.sup
  have hl : (es.take i.toNat).length = i.toNat := by rw [List.length_take]; omega
  rw [hl] at hsp
  have ha : (ent es i).above = (aboveF (es.take i.toNat) (ent es i).c (ent es i).c.f1 false).1 := by
   have := ht.isx; rw [this]
   rfl
  have hclo : (ent es i).clo = closF (es.take i.toNat) (ent (es.take i.toNat) (ent es i).above).clo ((ent es i).c.f2.map fun n => (aboveF (es.take i.toNat) (ent es i).c n true).1) := by
   have := congrArg Ent.clo ht.isx; rw [this, ha]
   show closF _ _ _ = _
   rw [if_pos hsp.1]
  have hif : ∀ n ∈ (ent es i).c.f2, 0 ≤ (aboveF (es.take i.toNat) (ent es i).c n true).1 ∧ (aboveF (es.take i.toNat) (ent es i).c n true).1 < i ∧ (ent es (aboveF (es.take i.toNat) (ent es i).c n true).1).c.f0 = n ∧ isI (ent es (aboveF (es.take i.toNat) (ent es i).c n true).1).c = true := by
   intro n hn; have h4 := aboveF_in (ht.ifs n hn); have h5 := (aboveF_fit (ht.ifs n hn)).1; rw [hl] at h4; have h6 := (nameF_in h4.2.2.2).2.2; rw [← h4.2.2.1] at h6; rw [ent_take h4.1 h4.2.1] at h5 h6
   exact ⟨h4.1, by omega, h6, h5⟩
  refine ⟨s2, fun _ => ?_, fun n hn => ?_, fun _ j hj => ?_⟩
  ·rw [ha]
   have h6 := (nameF_in hsp.2.2.2).2.2; rw [← hsp.2.2.1, ent_take hsp.1 hsp.2.1] at h6
   exact h6
  ·obtain ⟨a1, a2, a3, a4⟩ := hif n hn
   refine ⟨_, a1, a2, a3, a4, ?_⟩; rw [hclo]
   exact mem_closF.2 (.inr ⟨_, List.mem_map_of_mem hn, .inl rfl⟩)
  ·rw [hclo] at hj
   rcases mem_closF.1 hj with hj | ⟨k, hk, hj⟩
   ·rw [ent_take (by rw [ha]; exact hsp.1) (by rw [ha]; exact hsp.2.1)] at hj
    exact .inl hj
   ·obtain ⟨n, hn, rfl⟩ := List.mem_map.1 hk
    obtain ⟨a1, a2, a3, a4⟩ := hif n hn; rw [ent_take a1 (by omega)] at hj
    exact .inr ⟨n, hn, _, a1, a2, a3, hj⟩
 ·obtain ⟨o0, o1, o2⟩ := h.obj
  have : i = 0 ∨ i = 1 ∨ i = 2 := by omega
  rcases this with rfl | rfl | rfl
  ·refine ⟨by rw [o0]; decide, fun h => absurd h (by omega), fun n hn => ?_, fun h => absurd h (by omega)⟩
   rw [o0] at hn
   cases hn
  ·refine ⟨by rw [o1]; decide, fun _ => by rw [o1]; show (ent es 0).c.f0 = _; rw [o0]; rfl, fun n hn => ?_, fun _ j hj => ?_⟩
   ·rw [o1] at hn
    cases hn
   ·rw [o1] at hj
    cases hj
  ·refine ⟨by rw [o2]; decide, fun _ => by rw [o2]; show (ent es 0).c.f0 = _; rw [o0]; rfl, fun n hn => ?_, fun _ j hj => ?_⟩
   ·rw [o2] at hn
    cases hn
   ·rw [o2] at hj
    cases hj
end Go.Proofs.YtaipkdglhfhhiaaGreatDoor.Hi

namespace Go.Proofs.YtaipkdglhfhhiaaGreatDoor.Hi
open Go Go.RowKit Go.Proofs.YtaipkdglhfhhiaaGreatDoor.Nm Go.Proofs.YtaipkdglhfhhiaaGreatDoorW.PrintWords Go.Proofs.YtaipkdglhfhhiaaGreatDoorW.PrintLast Go.Proofs.YtaipkdglhfhhiaaGreatDoorW.PrintMore Go.Proofs.YtaipkdglhfhhiaaGreatDoor.Pt
set_option linter.unusedVariables false
set_option linter.unusedSimpArgs false
set_option maxRecDepth 100000
def chL (es : List Ent) (a : Int) : List Int := chainL es es.length a
theorem chain_more {es : List Ent} (h : Tree es) : ∀ (k : Nat) (a : Int), 0 ≤ a → a < es.length → (ent es a).depth < k → ∀ j, chainL es (k + j) a = chainL es k a
 | 0, a, h0, h1, hk, j => by
  have := (h.depth_ h0 h1).1
  omega
 | k + 1, a, h0, h1, hk, j => by
  rw [show k + 1 + j = (k + j) + 1 by omega, chainL, chainL]
  rcases h.at_ h0 h1 with ⟨h2, hz⟩ | ⟨h2, h3, hz⟩
  ·rw [if_pos (by omega), if_pos (by omega)]
  ·rw [if_neg (by omega), if_neg (by omega), chain_more h k _ h2 (by omega) (by omega) j]
theorem chL_up {es : List Ent} (h : Tree es) {a : Int} (h0 : 0 ≤ a) (h1 : a < es.length) : chL es a = a :: (if (ent es a).above < 0 then [] else chL es (ent es a).above) := by
 unfold chL
 obtain ⟨N, hN⟩ : ∃ N, es.length = N + 1 := ⟨es.length - 1, by omega⟩
 rw [hN, chainL]
 rcases h.at_ h0 h1 with ⟨h2, hz⟩ | ⟨h2, h3, hz⟩
 ·rw [if_pos (by omega), if_pos (by omega)]
 ·rw [if_neg (by omega), if_neg (by omega), chain_more h N _ h2 (by omega) (by have := (h.depth_ h2 (by omega)).2; omega) 1]
theorem chL_top {es : List Ent} (h : Tree es) {a : Int} (h0 : 0 ≤ a) (h1 : a < es.length) (ha : (ent es a).above < 0) : chL es a = [a] := by
 rw [chL_up h h0 h1, if_pos ha]
theorem chL_step {es : List Ent} (h : Tree es) {a : Int} (h0 : 0 ≤ a) (h1 : a < es.length) (ha : ¬ (ent es a).above < 0) : chL es a = a :: chL es (ent es a).above ∧ 0 ≤ (ent es a).above ∧ (ent es a).above < a := by
 rcases h.at_ h0 h1 with ⟨h2, hz⟩ | ⟨h2, h3, hz⟩
 ·omega
 ·exact ⟨by rw [chL_up h h0 h1, if_neg ha], h2, h3⟩
theorem tree_ind {es : List Ent} (h : Tree es) {P : Int → Prop} (top : ∀ a : Int, 0 ≤ a → a < es.length → (ent es a).above < 0 → (ent es a).depth = 0 → P a)
  (up : ∀ a : Int, 0 ≤ a → a < es.length → 0 ≤ (ent es a).above → (ent es a).above < a → (ent es a).depth = (ent es (ent es a).above).depth + 1 → P (ent es a).above → P a) : ∀ (n : Nat) (a : Int), a.toNat < n → 0 ≤ a → a < es.length → P a
 | 0, a, hn, _, _ => absurd hn (by omega)
 | n + 1, a, hn, h0, h1 => by
  rcases h.at_ h0 h1 with ⟨h2, hz⟩ | ⟨h2, h3, hz⟩
  ·exact top a h0 h1 (by omega) hz
  ·exact up a h0 h1 h2 h3 hz (tree_ind h top up n _ (by omega) h2 (by omega))
theorem chL_len {es : List Ent} (h : Tree es) {a : Int} (h0 : 0 ≤ a) (h1 : a < es.length) : ((chL es a).length : Int) = (ent es a).depth + 1 := by
 refine tree_ind h (P := fun a => ((chL es a).length : Int) = (ent es a).depth + 1) (fun a h0 h1 ha hd => ?_) (fun a h0 h1 ha ha2 hd ih => ?_) _ a (Nat.lt_succ_self _) h0 h1
 ·rw [chL_top h h0 h1 ha, hd]; rfl
 ·rw [(chL_step h h0 h1 (by omega)).1, List.length_cons, hd]
  push_cast
  omega
theorem foldI_app (k m acc : List Int) : foldI (k ++ m) acc = foldI m (foldI k acc) := List.foldl_append
theorem addI_in {l : List Int} {i : Int} (h : i ∈ l) : addI l i = l := by
 unfold addI; rw [if_pos (by simpa using h)]
theorem addI_new {l : List Int} {i : Int} (h : i ∉ l) : addI l i = l ++ [i] := by
 unfold addI; rw [if_neg (by simpa using h)]
theorem foldI_in {ks : List Int} : ∀ {l : List Int}, (∀ k ∈ ks, k ∈ l) → foldI ks l = l := by
 induction ks with
 | nil => exact fun _ => rfl
 | cons a ks ih =>
  intro l h
  show foldI ks (addI l a) = l
  rw [addI_in (h a List.mem_cons_self)]
  exact ih fun k hk => h k (List.mem_cons_of_mem _ hk)
theorem foldI_add (c l : List Int) (k : Int) : foldI (addI c k) l = addI (foldI c l) k := by
 by_cases h : k ∈ c
 ·rw [addI_in h, addI_in (mem_foldI.2 (.inr h))]
 ·rw [addI_new h, foldI_app]
  rfl
theorem foldI_foldI (ks c l : List Int) : foldI (foldI ks c) l = foldI ks (foldI c l) := by
 induction ks generalizing c with
 | nil => rfl
 | cons a ks ih =>
  show foldI (foldI ks (addI c a)) l = foldI ks (addI (foldI c l) a)
  rw [ih, foldI_add]
theorem foldI_closF (es : List Ent) (ifs c l : List Int) : foldI (closF es c ifs) l = closF es (foldI c l) ifs := by
 induction ifs generalizing c with
 | nil => rfl
 | cons a ifs ih =>
  show foldI (closF es (addI (foldI (ent es a).clo c) a) ifs) l = closF es (addI (foldI (ent es a).clo (foldI c l)) a) ifs
  rw [ih, foldI_add, foldI_foldI]
theorem foldI_nodup {ks : List Int} : ∀ {l : List Int}, (l ++ ks).Nodup → foldI ks l = l ++ ks := by
 induction ks with
 | nil => intro l _; simp [foldI]
 | cons a ks ih =>
  intro l h
  show foldI ks (addI l a) = _
  have ha : a ∉ l := by
   intro hl
   exact (List.nodup_append.1 h).2.2 a hl a List.mem_cons_self rfl
  rw [addI_new ha, ih (by rw [List.append_assoc]; exact h), List.append_assoc]
  rfl
theorem foldI_nil {ks : List Int} (h : ks.Nodup) : foldI ks [] = ks := foldI_nodup h
theorem Thy.clo_eq {es : List Ent} (h : Thy es) {i : Int} (h0 : 1 ≤ i) (h1 : i < es.length) : ∃ ks : List Int, (ent es i).clo = closF es (ent es (ent es i).above).clo ks ∧ ks.length = (ent es i).c.f2.length ∧
  ∀ (j : Nat) (n : ByteArray), (ent es i).c.f2[j]? = some n → ∃ k, ks[j]? = some k ∧ 0 ≤ k ∧ k < i ∧ (ent es k).c.f0 = n := by
 by_cases h3 : 3 ≤ i
 ·have hx := get_ent (show 0 ≤ i by omega) h1
  have ht := h.src _ _ hx (by omega); have hsp := aboveF_in ht.sup
  have hl : (es.take i.toNat).length = i.toNat := by rw [List.length_take]; omega
  rw [hl] at hsp
  have ha : (ent es i).above = (aboveF (es.take i.toNat) (ent es i).c (ent es i).c.f1 false).1 := by
   have := ht.isx; rw [this]
   rfl
  have hclo : (ent es i).clo = closF (es.take i.toNat) (ent (es.take i.toNat) (ent es i).above).clo ((ent es i).c.f2.map fun n => (aboveF (es.take i.toNat) (ent es i).c n true).1) := by
   have := congrArg Ent.clo ht.isx; rw [this, ha]
   show closF _ _ _ = _
   rw [if_pos hsp.1]
  have hif : ∀ n ∈ (ent es i).c.f2, 0 ≤ (aboveF (es.take i.toNat) (ent es i).c n true).1 ∧ (aboveF (es.take i.toNat) (ent es i).c n true).1 < i ∧ (ent es (aboveF (es.take i.toNat) (ent es i).c n true).1).c.f0 = n := by
   intro n hn; have h4 := aboveF_in (ht.ifs n hn); rw [hl] at h4; have h6 := (nameF_in h4.2.2.2).2.2; rw [← h4.2.2.1] at h6; rw [ent_take h4.1 h4.2.1] at h6
   exact ⟨h4.1, by omega, h6⟩
  have hco : ∀ (ks acc : List Int), (∀ k ∈ ks, 0 ≤ k ∧ k < i) → closF (es.take i.toNat) acc ks = closF es acc ks := by
   intro ks
   induction ks with
   | nil => exact fun _ _ => rfl
   | cons a ks ih =>
    intro acc hk
    show closF (es.take i.toNat) (addI (foldI (ent (es.take i.toNat) a).clo acc) a) ks = closF es (addI (foldI (ent es a).clo acc) a) ks
    have := hk a List.mem_cons_self; rw [ent_take this.1 (by omega)]
    exact ih _ fun k hk2 => hk k (List.mem_cons_of_mem _ hk2)
  refine ⟨(ent es i).c.f2.map fun n => (aboveF (es.take i.toNat) (ent es i).c n true).1, ?_, by rw [List.length_map], fun j n hj => ?_⟩
  ·conv => lhs; rw [hclo]
   rw [ent_take (by rw [ha]; exact hsp.1) (by rw [ha]; exact hsp.2.1)]; refine hco _ _ fun k hk => ?_; obtain ⟨n, hn, rfl⟩ := List.mem_map.1 hk
   exact ⟨(hif n hn).1, (hif n hn).2.1⟩
  ·have hn := List.mem_of_getElem? hj
   refine ⟨_, by rw [List.getElem?_map, hj]; rfl, (hif n hn).1, (hif n hn).2.1, (hif n hn).2.2⟩
 ·obtain ⟨o0, o1, o2⟩ := h.obj
  have : i = 1 ∨ i = 2 := by omega
  rcases this with rfl | rfl
  ·refine ⟨[], ?_, ?_, fun j n hj => ?_⟩
   ·rw [o1]; show _ = closF es (ent es 0).clo []; rw [o0]; rfl
   ·rw [o1]; rfl
   ·rw [o1] at hj; simp [ifaceC] at hj
  ·refine ⟨[], ?_, ?_, fun j n hj => ?_⟩
   ·rw [o2]; show _ = closF es (ent es 0).clo []; rw [o0]; rfl
   ·rw [o2]; rfl
   ·rw [o2] at hj; simp [ifaceC] at hj
end Go.Proofs.YtaipkdglhfhhiaaGreatDoor.Hi

namespace Go.Proofs.YtaipkdglhfhhiaaGreatDoor.Pt
open Go.RowKit Go.Proofs.YtaipkdglhfhhiaaGreatDoorW.PrintWords Go.Proofs.YtaipkdglhfhhiaaGreatDoorW.PrintLast Go.Proofs.YtaipkdglhfhhiaaGreatDoorW.PrintMore
attribute [local go_sem] max2_int min2_int max_two min_two max_three min_three max_four min_four   -- for this text's walks alone
set_option linter.unusedVariables false
set_option linter.unusedSimpArgs false
theorem eqA24 (d : Nat) (w : World) (x0 y0 : Int) (x1 y1 : ByteArray) :
  (Op.equalIn (d + 2) 24 (.agg #[.int .i64 x0, .string x1]) (.agg #[.int .i64 y0, .string y1])).run Tryz.prog w = .ok (x0 == y0 && (x1.toList == y1.toList)) w := by
 refine eqA_of Tryz.underlying24 (by kernel_rfl) ?_; refine eqf_cons (by rfl) (by go_simp; rfl) (by go_simp; rfl) (by go_simp) ?_
 exact eqf_last (by rfl) (by go_simp; rfl) (by go_simp; rfl) (by go_simp)
end Go.Proofs.YtaipkdglhfhhiaaGreatDoor.Pt

namespace Go.Proofs.YtaipkdglhfhhiaaGreatDoor.Pt
open Go.RowKit Go.Proofs.YtaipkdglhfhhiaaGreatDoorW.PrintWords Go.Proofs.YtaipkdglhfhhiaaGreatDoorW.PrintLast Go.Proofs.YtaipkdglhfhhiaaGreatDoorW.PrintMore
attribute [local go_sem] max2_int min2_int max_two min_two max_three min_three max_four min_four   -- for this text's walks alone
set_option linter.unusedVariables false
set_option linter.unusedSimpArgs false
attribute [local go_sem high] eqA24
def arrays_Loaded.f (a0 : List Hi.Ent) (a1_0 : Int) (a1_1 : ByteArray) : Option (Int) := (types_Check.f a1_0 a1_1).bind fun t140 => (if t140 = 0 then ((hier_World_ByName.f a0 a1_1).bind fun bt141 => (if a1_1.toList = ([] : List UInt8) then (some 0) else (if bt141.2 = 0 then (some 0) else (some 20)))) else (some t140))
def arrays_isInt.f (a0_0 : Int) (a0_1 : ByteArray) : Option (Bool) := some (a0_0 == 0 && (a0_1.toList == ([] : List UInt8)))
def arrays_top.f (a0 : ByteArray) : Option (Bool) := if a0.toList = ([79, 98, 106, 101, 99, 116] : List UInt8) then (some true) else (if a0.toList = ([67, 108, 111, 110, 101, 97, 98, 108, 101] : List UInt8) then (some true) else (some (a0.toList == ([83, 101, 114, 105, 97, 108, 105, 122, 97, 98, 108, 101] : List UInt8))))
mutual
def arrays_below.j1 : Nat → List Hi.Ent → Int → ByteArray → Int → ByteArray → Option (Bool)
 | 0, _, _, _, _, _ => none
 | k + 1, x0, x145000, x145001, x146000, x146001 => (arrays_isInt.f x145000 x145001).bind fun t146 => (if t146 = true then (arrays_below.j2 k x0 true x145000 x145001 x146000 x146001) else ((arrays_isInt.f x146000 x146001).bind fun t147 => (arrays_below.j2 k x0 t147 x145000 x145001 x146000 x146001)))
def arrays_below.j2 : Nat → List Hi.Ent → Bool → Int → ByteArray → Int → ByteArray → Option (Bool)
 | 0, _, _, _, _, _, _ => none
 | k + 1, x0, x27, x145000, x145001, x146000, x146001 => if x27 = true then (some (x145000 == x146000 && (x145001.toList == x146001.toList))) else (if x145000 > 0 then ((arrays_top.f x146001).bind fun t148 => (some t148)) else (if x146000 > 0 then (some false) else ((hier_World_ByName.f x0 x145001).bind fun bt149 => ((hier_World_ByName.f x0 x146001).bind fun bt151 => ((hier_World_Extends.f x0 bt149.1 bt151.1).bind fun t153 => (some t153))))))
def arrays_below.l0 : Nat → List Hi.Ent → Int → ByteArray → Int → ByteArray → Option (Bool)
 | 0, _, _, _, _, _ => none
 | k + 1, x0, x145000, x145001, x146000, x146001 => if x145000 > 0 then (if x146000 > 0 then (arrays_below.l0 k x0 (wrap64 (x145000 - 1)) x145001 (wrap64 (x146000 - 1)) x146001) else (arrays_below.j1 k x0 x145000 x145001 x146000 x146001)) else (arrays_below.j1 k x0 x145000 x145001 x146000 x146001)
end
def arrays_below.f (k : Nat) (a0 : List Hi.Ent) (a1_0 : Int) (a1_1 : ByteArray) (a2_0 : Int) (a2_1 : ByteArray) : Option (Bool) := arrays_below.l0 k a0 a1_0 a1_1 a2_0 a2_1
end Go.Proofs.YtaipkdglhfhhiaaGreatDoor.Pt

namespace Go.Proofs.YtaipkdglhfhhiaaGreatDoor.Pt
open Go Go.RowKit Go.Proofs.YtaipkdglhfhhiaaGreatDoor.Nm Go.Proofs.YtaipkdglhfhhiaaGreatDoor.Ty Go.Proofs.YtaipkdglhfhhiaaGreatDoor.Hi Go.Proofs.YtaipkdglhfhhiaaGreatDoorW.PrintWords Go.Proofs.YtaipkdglhfhhiaaGreatDoorW.PrintLast Go.Proofs.YtaipkdglhfhhiaaGreatDoorW.PrintMore
set_option linter.unusedVariables false
set_option linter.unusedSimpArgs false
set_option maxHeartbeats 1000000
set_option maxRecDepth 100000
def loadF (es : List Ent) (d : Int) (s : ByteArray) : Int :=
 if chk d s.data.toList = 0 then (if s.toList = [] then 0 else if (nameF es s).2 = 0 then 0 else 20) else chk d s.data.toList
def intT (d : Int) (s : ByteArray) : Bool := d == 0 && (s.toList == ([] : List UInt8))
def topB (t : ByteArray) : Bool := if t.toList = ([79, 98, 106, 101, 99, 116] : List UInt8) then true else if t.toList = ([67, 108, 111, 110, 101, 97, 98, 108, 101] : List UInt8) then true else t.toList == ([83, 101, 114, 105, 97, 108, 105, 122, 97, 98, 108, 101] : List UInt8)
def redF (es : List Ent) (a : Int) (s : ByteArray) (b : Int) (t : ByteArray) : Bool :=
 if (intT a s || intT b t) = true then (a == b && (s.toList == t.toList)) else if a > 0 then topB t else if b > 0 then false else extF es (nameF es s).1 (nameF es t).1
def belowF (es : List Ent) (a : Int) (s : ByteArray) (b : Int) (t : ByteArray) : Bool := redF es (a - min a b) s (b - min a b) t
def subF (es : List Ent) (a : Int) (s : ByteArray) (b : Int) (t : ByteArray) : Bool × Int :=
 if loadF es a s ≠ 0 then (false, loadF es a s) else if loadF es b t ≠ 0 then (false, loadF es b t) else (belowF es a s b t, 0)
end Go.Proofs.YtaipkdglhfhhiaaGreatDoor.Pt

namespace Go.Proofs.YtaipkdglhfhhiaaGreatDoor.Pt
open Go Go.RowKit Go.Proofs.YtaipkdglhfhhiaaGreatDoor.Nm Go.Proofs.YtaipkdglhfhhiaaGreatDoor.Ty Go.Proofs.YtaipkdglhfhhiaaGreatDoor.Hi Go.Proofs.YtaipkdglhfhhiaaGreatDoorW.PrintWords Go.Proofs.YtaipkdglhfhhiaaGreatDoorW.PrintLast Go.Proofs.YtaipkdglhfhhiaaGreatDoorW.PrintMore
set_option linter.unusedVariables false
set_option linter.unusedSimpArgs false
set_option maxRecDepth 100000
theorem _root_.Go.Proofs.YtaipkdglhfhhiaaGreatDoor.Hi.Thy.name_inj {es : List Ent} (h : Thy es) {i j : Int} (h0 : 0 ≤ i) (h1 : i < es.length) (h2 : 0 ≤ j) (h3 : j < es.length) (he : (ent es i).c.f0 = (ent es j).c.f0) : i = j := by
 have hi : (es.map (·.c.f0))[i.toNat]? = some (ent es i).c.f0 := by
  rw [List.getElem?_map, get_ent h0 h1]; rfl
 have hj : (es.map (·.c.f0))[j.toNat]? = some (ent es j).c.f0 := by
  rw [List.getElem?_map, get_ent h2 h3]; rfl
 have hl : (es.map (·.c.f0)).length = es.length := List.length_map _; rw [List.getElem?_eq_getElem (by omega)] at hi hj; have hij := (Option.some.inj hi).trans (he.trans (Option.some.inj hj).symm); have hp := List.pairwise_iff_getElem.1 h.names
 rcases Nat.lt_trichotomy i.toNat j.toNat with hlt | heq | hlt
 ·exact absurd hij (hp _ _ (by omega) (by omega) hlt)
 ·omega
 ·exact absurd hij.symm (hp _ _ (by omega) (by omega) hlt)
theorem nameF_of {es : List Ent} (h : Thy es) {i : Int} (h0 : 0 ≤ i) (h1 : i < es.length) : nameF es (ent es i).c.f0 = (i, 0) := by
 have h2 : (nameF es (ent es i).c.f0).2 = 0 := by
  unfold nameF
  cases hf : (es.map (·.c.f0)).findIdx? (fun t => decide (t = (ent es i).c.f0)) with
  | some k => rfl
  | none =>
   rw [List.findIdx?_eq_none_iff] at hf; have := hf _ (List.mem_map_of_mem (List.mem_of_getElem? (get_ent h0 h1))); simp at this
 have h3 := nameF_in h2; have h4 := h.name_inj h3.1 h3.2.1 h0 h1 h3.2.2
 exact Prod.ext h4 h2
end Go.Proofs.YtaipkdglhfhhiaaGreatDoor.Pt

namespace Go.Proofs.YtaipkdglhfhhiaaGreatDoor.Pt
open Go.RowKit Go.Proofs.YtaipkdglhfhhiaaGreatDoorW.PrintWords Go.Proofs.YtaipkdglhfhhiaaGreatDoorW.PrintLast Go.Proofs.YtaipkdglhfhhiaaGreatDoorW.PrintMore
attribute [local go_sem] max2_int min2_int max_two min_two max_three min_three max_four min_four   -- for this text's walks alone
set_option linter.unusedVariables false
set_option linter.unusedSimpArgs false
def arbiterref06_SamePackage.f (a0 : List S85) (a1 : Int) (a2 : Int) : Option (Bool) := (arbiterref06_In.f a0 a1).bind fun t166 => (if t166 = true then ((arbiterref06_In.f a0 a2).bind fun t167 => (if t167 = true then (if 0 ≤ a1 then (if a1 < (a0.length : Int) then (if 0 ≤ a2 then (if a2 < (a0.length : Int) then ((arbiterref06_together.f ((rd_T85 a0 a1).f0) ((rd_T85 a0 a1).f1) ((rd_T85 a0 a1).f2) ((rd_T85 a0 a1).f3) ((rd_T85 a0 a1).f4) ((rd_T85 a0 a1).f5) ((rd_T85 a0 a2).f0) ((rd_T85 a0 a2).f1) ((rd_T85 a0 a2).f2) ((rd_T85 a0 a2).f3) ((rd_T85 a0 a2).f4) ((rd_T85 a0 a2).f5)).bind fun t170 => (some t170)) else (none)) else (none)) else (none)) else (none)) else (some false))) else (some false))
def arbiterref06_Chain.l0 : Nat → List S85 → Int → List Int → Option (List Int × Int)
 | 0, _, _, _ => none
 | k + 1, x0, x1, x6 => if x1 = 0 then (some (x6, 0)) else (if 0 ≤ x1 then (if x1 < (x0.length : Int) then ((arbiterref06_named.f k x0 ((rd_T85 x0 x1).f1)).bind fun t176 => (if x6.length < 17592186044416 then (arbiterref06_Chain.l0 k x0 t176 (x6 ++ [t176])) else (none))) else (none)) else (none))
def arbiterref06_Chain.f (k : Nat) (a0 : List S85) (a1 : Int) : Option (List Int × Int) := (arbiterref06_In.f a0 a1).bind fun t171 => (if t171 = true then (arbiterref06_Chain.l0 k a0 a1 (([a1] : List Int))) else (some (([] : List Int), 3)))
set_option maxHeartbeats 8000000 in
set_option maxRecDepth 100000 in
theorem arbiterref06_Chain.calls (k : Nat) (G_ : Nat) (a0 : List S85) (a1 : Int) (r1 : List Int) (r2 : Int) (w : World) (hq0 : ROK w G_ a0) (h : arbiterref06_Chain.f k a0 a1 = some (r1, r2)) :
  Calls Tryz.prog 73 #[.pointer (some ⟨G_, 0, none⟩), .int .i64 a1] w fun e w' => ∃ v0_ : Value, e = .returned (.tuple #[v0_, .int .i64 r2]) ∧ Kd.R (Kd.int .i64) 3 w' w.heap.size (fun _ => True) v0_ r1 ∧ Below w.heap.size w w' := by
 obtain ⟨AQa0, cQa0, hp0, hrq0, hcq0⟩ := ROK.open hq0; have HPa0 := Aside0.mk hp0; have HRqa0 := Aside0.mk hrq0; have HCqa0 := Aside0.mk hcq0; clear hp0 hrq0 hcq0; have HQa0 := Aside0.mk hq0; clear hq0; have HB := Aside0.mk (Below.refl w.heap.size w); have H : ((arbiterref06_In.f a0 a1).bind fun t171 => (if t171 = true then (arbiterref06_Chain.l0 k a0 a1 (([a1] : List Int))) else (some (([] : List Int), 3)))) = some (r1, r2) := h; clear h; replace H := Option.bind_eq_some_iff.mp H; obtain ⟨t171, A30, H⟩ := H; replace H : (if t171 = true then (arbiterref06_Chain.l0 k a0 a1 (([a1] : List Int))) else (some (([] : List Int), 3))) = some (r1, r2) := H; have A3 := Aside0.mk A30; clear A30
 by_cases c4 : t171 = true
 ·subst c4
  have H1 : (arbiterref06_Chain.l0 k a0 a1 (([a1] : List Int))) = some (r1, r2) := by rw [if_pos rfl] at H; exact H
  clear H; have H := H1; clear H1
  obtain ⟨y172, hy172⟩ : ∃ y_ : List Int, y_ = (([a1] : List Int)) := ⟨_, rfl⟩
  replace H : (arbiterref06_Chain.l0 k a0 a1 y172) = some (r1, r2) := by first | (rw [hy172]; with_reducible exact H) | (have H2_ := (Option.bind_some _ _).symm.trans H; rw [hy172]; with_reducible exact H2_) | (have H2_ := (Option.bind_some _ _).symm.trans H; with_reducible exact H2_) | with_reducible exact H | (rw [hy172]; exact H) | exact H
  have Ny172 := Aside0.mk hy172; clear hy172; have H' := Aside0.mk H; clear H; go_enter Tryz.func73, Tryz.ntmps73; go_wp2_with (first | ((with_reducible refine gate_callee (f := 51) rfl ?_); refine gX (some 9) Tryz.func51 #[.pointer (some ⟨G_, 0, none⟩), .int .i64 a1] ?_; (with_reducible refine (arbiterref06_In.calls G_ a0 a1 true _ ?side1 A3.out).mono ?_); (case side1 => repeat (first | (with_reducible exact HQa0.out) | (with_reducible refine ROK.alloc ?_ _) | (with_reducible refine ROK.drewN ?_ _) | (with_reducible refine ROK.drew ?_) | exact ROK.below HQa0.out HB.out | exact ROK.below HQa0.out (bX HB))); rintro e w' ⟨rfl, ⟨nd, rfl⟩⟩; refine ⟨_, rfl, ?_⟩) | ((with_reducible refine gate_dst (N := 12) rfl ?_); refine Kd.R_lit (Kd.int .i64) _ 3 ?hg (N := 12) ?hd (xs := ([a1] : List Int)) (inner := [.int .i64 a1]) (ok := fun _ => True) (okp := fun _ => True) ?hr ?hp (fun _ hk => hk) trivial (Below.refl _ _) (Nat.le_refl _) (by simp) ?_; (case hd => rfl); (case hg => rfl); (case hr => first | (go_simp; done) | (go_simp; rfl)); (case hp => exact (Reps.one (show Kd.M (Kd.int .i64) _ _ _ a1 [.int .i64 a1] from rfl) (Reps.none _ _))); intro v173 w5 ho6 hb hg_ hnew_; clear hg_ hnew_; (first | rw [← Ny172.out] at ho6 | (simp only [Int.reduceToNat] at ho6; rw [← Ny172.out] at ho6)); have n0_ := Aside0.mk (Kd.R_lower ho6 (below_size (bX HB))); have n1_ := Aside0.mk (below_step (bX HB) hb); clear HB; have HO174 := n0_; have HB := n1_; clear n0_ n1_; clear hb ho6))
  go_loopg [1, 6] k (fun kq v1 v6 w' => ∃ (x1_1 : Int) (x6_1 : List Int), v1 = .int .i64 x1_1 ∧ Aside0 (arbiterref06_Chain.l0 kq a0 x1_1 x6_1 = some (r1, r2)) ∧ Aside0 (kq ≤ k) ∧ Aside0 (Kd.R (Kd.int .i64) 3 w' w.heap.size (fun _ => True) v6 x6_1) ∧ Aside0 (Below w.heap.size w w'))
  case atStart => exact ⟨(a1), (y172), vX, H', ⟨Nat.le_refl _⟩, ⟨rX HO174⟩, ⟨bX HB⟩⟩
  case round =>
   clear H'
   try clear p2
   try clear c4
   try clear c5
   obtain ⟨x1_1, x6_1, rfl, HA, HK1, HO_6, HB⟩ := hrel
   cases gk with
   | zero => exact absurd HA.out (by simp [arbiterref06_Chain.l0])
   | succ k1 =>
    have H := HA.out; clear HA; simp only [arbiterref06_Chain.l0] at H
    by_cases c7 : x1_1 = 0
    ·rw [if_pos c7] at H
     have c7b0 : (x1_1 == 0) = true := beq_iff_eq.mpr c7; have c7b1 : (x1_1 != 0) = false := bne_eq_false_iff_eq.mpr c7; clear c7; simp only [Option.some.injEq, Prod.mk.injEq] at H; obtain ⟨rfl, rfl⟩ := H; go_wp2; go_ret2
     exact ⟨_, by first | rfl | (simp [errW_none, errW_some] <;> rfl) | (simp [*, errW_none, errW_some] <;> rfl), by (with_reducible repeat (first | apply Kd.R_alloc | apply Kd.R_drewN | apply Kd.R_drew)); exact HO_6.out, bX HB⟩
    ·rw [if_neg c7] at H
     have c7b0 : (x1_1 == 0) = false := beq_eq_false_iff_ne.mpr c7; have c7b1 : (x1_1 != 0) = true := bne_iff_ne.mpr c7
     by_cases c8 : 0 ≤ x1_1
     ·rw [if_pos c8] at H
      have c8b0 : decide (0 ≤ x1_1) = true := decide_eq_true c8; clear c8
      by_cases c9 : x1_1 < (a0.length : Int)
      ·rw [if_pos c9] at H
       have c9b0 : decide (x1_1 < (a0.length : Int)) = true := decide_eq_true c9; clear c9; replace H := Option.bind_eq_some_iff.mp H; obtain ⟨t176, A100, H⟩ := H; replace H : (if x6_1.length < 17592186044416 then (arbiterref06_Chain.l0 k1 a0 t176 (x6_1 ++ [t176])) else (none)) = some (r1, r2) := H; have A10 := Aside0.mk A100; clear A100
       by_cases c11 : x6_1.length < 17592186044416
       ·rw [if_pos c11] at H
        have LMc11 := Aside0.mk c11; clear c11
        obtain ⟨y177, hy177⟩ : ∃ y_ : List Int, y_ = (x6_1 ++ [t176]) := ⟨_, rfl⟩
        replace H : (arbiterref06_Chain.l0 k1 a0 t176 y177) = some (r1, r2) := by first | (rw [hy177]; with_reducible exact H) | (have H2_ := (Option.bind_some _ _).symm.trans H; rw [hy177]; with_reducible exact H2_) | (have H2_ := (Option.bind_some _ _).symm.trans H; with_reducible exact H2_) | with_reducible exact H | (rw [hy177]; exact H) | exact H
        have Ny177 := Aside0.mk hy177; clear hy177; have H' := Aside0.mk H; clear H; have hcpq12 := pw_cell_below HB.out HPa0.out; have p175 : 0 ≤ (x1_1 : Int) := qX; have q175 : x1_1 < (a0.length : Int) := qX; obtain ⟨ad175, A175_2, c175_2, A175_5, c175_5, e175, hx175_0, hx175_1, hx175_2, hx175_3, hx175_4, hx175_5, hl175_2, hi175_2, hl175_5, hi175_5⟩ := at_T85 HRqa0.out x1_1 p175 q175
        cases e175
        replace hx175_0 := (HB.out.cell (World.block_lt_of_cell? w _ hx175_0)).trans hx175_0; replace hx175_1 := (HB.out.cell (World.block_lt_of_cell? w _ hx175_1)).trans hx175_1; replace hx175_2 := (HB.out.cell (World.block_lt_of_cell? w _ hx175_2)).trans hx175_2; replace hx175_3 := (HB.out.cell (World.block_lt_of_cell? w _ hx175_3)).trans hx175_3; replace hx175_4 := (HB.out.cell (World.block_lt_of_cell? w _ hx175_4)).trans hx175_4; replace hx175_5 := (HB.out.cell (World.block_lt_of_cell? w _ hx175_5)).trans hx175_5; have HR175_2 := Aside0.mk hi175_2; have HC175_2 := Aside0.mk hl175_2; clear hi175_2 hl175_2; have HR175_5 := Aside0.mk hi175_5; have HC175_5 := Aside0.mk hl175_5; clear hi175_5 hl175_5; replace p175 := eq_true p175; replace q175 := eq_true q175; go_wp2_with (first | ((with_reducible refine gate_callee (f := 91) rfl ?_); refine gX (some 24) Tryz.func91 #[.pointer (some ⟨G_, 0, none⟩), .string ((rd_T85 a0 x1_1).f1)] ?_; (with_reducible refine (arbiterref06_named.calls k1 G_ a0 ((rd_T85 a0 x1_1).f1) t176 _ ?side1 A10.out).mono ?_); (case side1 => repeat (first | (with_reducible exact HQa0.out) | (with_reducible refine ROK.alloc ?_ _) | (with_reducible refine ROK.drewN ?_ _) | (with_reducible refine ROK.drew ?_) | exact ROK.below HQa0.out HB.out | exact ROK.below HQa0.out (bX HB))); rintro e w' ⟨rfl, ⟨nd, rfl⟩⟩; refine ⟨_, rfl, ?_⟩) | ((with_reducible refine gate_builtin (b := .append) (xs := #[.tmp 25, .tmp 27]) rfl ?_); at_builtin; refine Kd.R_append (Kd.int .i64) (w0 := w) w.heap.size rfl (.tmp 25) (.tmp 27) 49 3 (.int .i64 0) 8 rfl Tryz.underlying49 info3 rfl (by decide) (by omega) u6 x6_1 t176 [.int .i64 t176] (fun _ => True) (fun _ => False) rfl rfl ?aP (fun _ hk => hk.elim) ?aF ?aO ?aB ?aS ?aL ?_; (case aP => exact rfl); (case aB => exact (bX HB)); (case aF => exact (fun _ _ => trivial)); (case aO => exact (rX HO_6)); (case aS => exact (below_size (bX HB))); (case aL => have := LMc11.out; omega); intro v178 w13 ho hb hg hat; rw [← Ny177.out] at ho; have n0_ := Aside0.mk (hb); have n1_ := Aside0.mk (ho); clear HB; clear HO_6; have HB := n0_; have HO179 := n1_; clear n0_ n1_; clear ho hb hg hat))
        go_roundg k1
        case measure => have := HK1.out; omega
        case rel => exact ⟨(t176), (y177), vX, H', ⟨by have := HK1.out; omega⟩, ⟨rX HO179⟩, ⟨bX HB⟩⟩
       ·rw [if_neg c11] at H
        exact absurd H (by simp)
      ·rw [if_neg c9] at H
       exact absurd H (by simp)
     ·rw [if_neg c8] at H
      exact absurd H (by simp)
 ·replace c4 := Bool.eq_false_iff.mpr c4
  subst c4
  have H1 : (some (([] : List Int), 3)) = some (r1, r2) := by rw [if_neg (show ¬ (false = true) by decide)] at H; exact H
  clear H; have H := H1; clear H1; simp only [Option.some.injEq, Prod.mk.injEq] at H; obtain ⟨rfl, rfl⟩ := H; go_enter Tryz.func73, Tryz.ntmps73; go_wp2_with (first | ((with_reducible refine gate_callee (f := 51) rfl ?_); refine gX (some 9) Tryz.func51 #[.pointer (some ⟨G_, 0, none⟩), .int .i64 a1] ?_; (with_reducible refine (arbiterref06_In.calls G_ a0 a1 false _ ?side1 A3.out).mono ?_); (case side1 => repeat (first | (with_reducible exact HQa0.out) | (with_reducible refine ROK.alloc ?_ _) | (with_reducible refine ROK.drewN ?_ _) | (with_reducible refine ROK.drew ?_) | exact ROK.below HQa0.out HB.out | exact ROK.below HQa0.out (bX HB))); rintro e w' ⟨rfl, ⟨nd, rfl⟩⟩; refine ⟨_, rfl, ?_⟩)); go_ret2
  exact ⟨_, by first | rfl | (simp [errW_none, errW_some] <;> rfl) | (simp [*, errW_none, errW_some] <;> rfl), by first | exact Kd.R_nil _ _ _ _ _ | exact Kd.N_nil _ _ _ _ _ | exact Kd.V_nil _ _ _ _ _ | exact Kd.Q_nil _ _ _ _ _ | exact Kd.S_nil _ _ _ _ _, bX HB⟩
end Go.Proofs.YtaipkdglhfhhiaaGreatDoor.Pt

namespace Go.Proofs.YtaipkdglhfhhiaaGreatDoor.Pt
open Go.RowKit Go.Proofs.YtaipkdglhfhhiaaGreatDoorW.PrintWords Go.Proofs.YtaipkdglhfhhiaaGreatDoorW.PrintLast Go.Proofs.YtaipkdglhfhhiaaGreatDoorW.PrintMore
attribute [local go_sem] max2_int min2_int max_two min_two max_three min_three max_four min_four   -- for this text's walks alone
set_option linter.unusedVariables false
set_option linter.unusedSimpArgs false
def arbiterref06_Has.l0 : Nat → List Int → Int → Int → Option (Bool)
 | 0, _, _, _ => none
 | k + 1, x0, x1, x5 => if x5 < (x0.length : Int) then (if 0 ≤ x5 then (if (rd x0 x5) = x1 then (some true) else (arbiterref06_Has.l0 k x0 x1 (wrap64 (x5 + 1)))) else (none)) else (some false)
def arbiterref06_Has.f (k : Nat) (l0 : List Int) (a1 : Int) : Option (Bool) := arbiterref06_Has.l0 k l0 a1 0
set_option maxHeartbeats 8000000 in
set_option maxRecDepth 100000 in
theorem arbiterref06_Has.calls (k : Nat) (A0 : Option Addr) (c0 : Nat) (l0 : List Int) (a1 : Int) (r : Bool) (w : World) (hr0 : Kd.C (Kd.int .i64) w A0 l0.length l0) (hc0 : l0.length ≤ c0) (h : arbiterref06_Has.f k l0 a1 = some r) :
  Calls Tryz.prog 102 #[.slice A0 l0.length c0, .int .i64 a1] w fun e w' => e = .returned (.bool r) ∧ Drawn0 w w' := by
 have HR0 := Aside0.mk hr0; have HC0 := Aside0.mk hc0; clear hr0 hc0; have H : (arbiterref06_Has.l0 k l0 a1 0) = some r := h; clear h; have H' := Aside0.mk H; clear H; go_enter Tryz.func102, Tryz.ntmps102; go_wp2
 go_loopg [5] k (fun kq v5 w' => ∃ (x5_1 : Int), v5 = .int .i64 x5_1 ∧ Aside0 (arbiterref06_Has.l0 kq l0 a1 x5_1 = some r) ∧ Aside0 (kq ≤ k) ∧ Drawn0 w w')
 case atStart => exact ⟨(0), vX, H', ⟨Nat.le_refl _⟩, by repeat (first | exact Drawn0.refl _ | apply Drawn0.step)⟩
 case round =>
  clear H'
  try clear c1
  try clear p2
  obtain ⟨x5_1, rfl, HA, HK1, ⟨m1, rfl⟩⟩ := hrel
  cases gk with
  | zero => exact absurd HA.out (by simp [arbiterref06_Has.l0])
  | succ k1 =>
   have H := HA.out; clear HA; simp only [arbiterref06_Has.l0] at H
   by_cases c3 : x5_1 < (l0.length : Int)
   ·rw [if_pos c3] at H
    have c3b0 : decide (x5_1 < (l0.length : Int)) = true := decide_eq_true c3; clear c3
    by_cases c4 : 0 ≤ x5_1
    ·rw [if_pos c4] at H
     have c4b0 : decide (0 ≤ x5_1) = true := decide_eq_true c4; clear c4
     by_cases c5 : (rd l0 x5_1) = a1
     ·rw [if_pos c5] at H
      have c5b0 : ((rd l0 x5_1) == a1) = true := beq_iff_eq.mpr c5; have c5b1 : ((rd l0 x5_1) != a1) = false := bne_eq_false_iff_eq.mpr c5; clear c5; obtain rfl := Option.some.inj H; have p180 : 0 ≤ (x5_1 : Int) := qX; have q180 : x5_1 < (l0.length : Int) := qX; obtain ⟨ad180, e180, hx180_0⟩ := Kd.at_int HR0.out x5_1 p180 q180
      cases e180
      replace p180 := eq_true p180; replace q180 := eq_true q180; go_wp2; go_ret
      exact ⟨by first | rfl | (simp; done) | (simp [*]; done), by repeat (first | exact Drawn0.refl _ | apply Drawn0.step)⟩
     ·rw [if_neg c5] at H
      have c5b0 : ((rd l0 x5_1) == a1) = false := beq_eq_false_iff_ne.mpr c5; have c5b1 : ((rd l0 x5_1) != a1) = true := bne_iff_ne.mpr c5; have H' := Aside0.mk H; clear H; have p180 : 0 ≤ (x5_1 : Int) := qX; have q180 : x5_1 < (l0.length : Int) := qX; obtain ⟨ad180, e180, hx180_0⟩ := Kd.at_int HR0.out x5_1 p180 q180
      cases e180
      replace p180 := eq_true p180; replace q180 := eq_true q180; go_wp2
      go_roundg k1
      case measure => have := HK1.out; omega
      case rel => exact ⟨(wrap64 (x5_1 + 1)), vX, H', ⟨by have := HK1.out; omega⟩, by repeat (first | exact Drawn0.refl _ | apply Drawn0.step)⟩
    ·rw [if_neg c4] at H
     exact absurd H (by simp)
   ·rw [if_neg c3] at H
    have c3b0 : decide (x5_1 < (l0.length : Int)) = false := decide_eq_false c3; clear c3; obtain rfl := Option.some.inj H; go_wp2; go_ret
    exact ⟨by first | rfl | (simp; done) | (simp [*]; done), by repeat (first | exact Drawn0.refl _ | apply Drawn0.step)⟩
end Go.Proofs.YtaipkdglhfhhiaaGreatDoor.Pt

namespace Go.Proofs.YtaipkdglhfhhiaaGreatDoor.Pt
open Go.RowKit Go.Proofs.YtaipkdglhfhhiaaGreatDoorW.PrintWords Go.Proofs.YtaipkdglhfhhiaaGreatDoorW.PrintLast Go.Proofs.YtaipkdglhfhhiaaGreatDoorW.PrintMore
attribute [local go_sem] max2_int min2_int max_two min_two max_three min_three max_four min_four   -- for this text's walks alone
set_option linter.unusedVariables false
set_option linter.unusedSimpArgs false
mutual
def arbiterref06_gather.j0 : Nat → List S85 → Int → List Int → Option (List Int)
 | 0, _, _, _ => none
 | k + 1, x0, x1, x2 => arbiterref06_gather.l0 k x0 x1 x2 0
def arbiterref06_gather.l0 : Nat → List S85 → Int → List Int → Int → Option (List Int)
 | 0, _, _, _, _ => none
 | k + 1, x0, x1, x2, x7 => if 0 ≤ x1 then (if x1 < (x0.length : Int) then (if x7 < (((rd_T85 x0 x1).f2).length : Int) then (if 0 ≤ x7 then ((arbiterref06_named.f k x0 (rdOf ByteArray.empty ((rd_T85 x0 x1).f2) x7)).bind fun t189 => ((arbiterref06_Has.f k x2 t189).bind fun t190 => (if t190 = true then (arbiterref06_gather.l0 k x0 x1 x2 (wrap64 (x7 + 1))) else ((arbiterref06_gather.f k x0 t189 x2).bind fun t191 => (if t191.length < 17592186044416 then (arbiterref06_gather.l0 k x0 x1 (t191 ++ [t189]) (wrap64 (x7 + 1))) else (none)))))) else (none)) else (some x2)) else (none)) else (none)
def arbiterref06_gather.f : Nat → List S85 → Int → List Int → Option (List Int)
 | 0, _, _, _ => none
 | k + 1, a0, a1, l2 => if a1 = 0 then (arbiterref06_gather.j0 k a0 a1 l2) else (if 0 ≤ a1 then (if a1 < (a0.length : Int) then ((arbiterref06_named.f k a0 ((rd_T85 a0 a1).f1)).bind fun t182 => ((arbiterref06_gather.f k a0 t182 l2).bind fun t183 => (arbiterref06_gather.j0 k a0 a1 t183))) else (none)) else (none))
end
set_option maxHeartbeats 8000000 in
set_option maxRecDepth 100000 in
theorem arbiterref06_gather.calls (k : Nat) : ∀ (G_ : Nat) (a0 : List S85) (a1 : Int) (P2_ : Nat → Prop) (u9000_ : Value) (l2 : List Int) (r : List Int) (w0 w : World) (hB : Below w0.heap.size w0 w) (hq0 : ROK w0 G_ a0) (ho2 : Kd.R (Kd.int .i64) 3 w w0.heap.size P2_ u9000_ l2) (h : arbiterref06_gather.f k a0 a1 l2 = some r),
  Calls Tryz.prog 103 #[.pointer (some ⟨G_, 0, none⟩), .int .i64 a1, u9000_] w fun e w' => ∃ v0_ : Value, e = .returned (v0_) ∧ Kd.R (Kd.int .i64) 3 w' w0.heap.size (fun k_ => (P2_ k_ ∨ w.heap.size ≤ k_)) v0_ r ∧ Below w0.heap.size w0 w' ∧ Kept w w' (fun k_ => P2_ k_) := by
 induction k using Nat.strongRecOn with
 | _ k ih =>
 intro G_ a0 a1 P2_ u9000_ l2 r w0 w hB hq0 ho2 h
 cases k with
 | zero => exact absurd h (by simp [arbiterref06_gather.f])
 | succ k =>
 simp only [arbiterref06_gather.f] at h; obtain ⟨AQa0, cQa0, hp0, hrq0, hcq0⟩ := ROK.open hq0; have HPa0 := Aside0.mk hp0; have HRqa0 := Aside0.mk hrq0; have HCqa0 := Aside0.mk hcq0; clear hp0 hrq0 hcq0; have HQa0 := Aside0.mk hq0; clear hq0; have HO2 := Aside0.mk (show Kd.R (Kd.int .i64) 3 w w0.heap.size (fun k_ => (P2_ k_ ∨ w.heap.size ≤ k_)) u9000_ l2 from Kd.R_mono ho2 (fun k_ hk => (.inl hk))); have HK := Aside0.mk (Kept.refl w (fun k_ => P2_ k_)); have HW0 := Aside0.mk hB.size; have HB := Aside0.mk hB; clear hB; have H : (if a1 = 0 then (arbiterref06_gather.j0 k a0 a1 l2) else (if 0 ≤ a1 then (if a1 < (a0.length : Int) then ((arbiterref06_named.f k a0 ((rd_T85 a0 a1).f1)).bind fun t182 => ((arbiterref06_gather.f k a0 t182 l2).bind fun t183 => (arbiterref06_gather.j0 k a0 a1 t183))) else (none)) else (none))) = some r := h; clear h; have HC4 := Aside0.mk H; clear H; go_enter Tryz.func103, Tryz.ntmps103
 go_upto_if 10 with (fail)
 go_cut [2] (fun v2 wc => ∃ (kq : Nat) (x2_3 : List Int), Aside0 (arbiterref06_gather.j0 kq a0 a1 x2_3 = some r) ∧ Aside0 (kq ≤ k) ∧ Aside0 (Kd.R (Kd.int .i64) 3 wc w0.heap.size (fun k_ => (P2_ k_ ∨ w.heap.size ≤ k_)) v2 x2_3) ∧ Aside0 (Kept w wc (fun k_ => P2_ k_)) ∧ Aside0 (Below w0.heap.size w0 wc))
 case first =>
  have H := HC4.out; clear HC4
  by_cases c5 : a1 = 0
  ·rw [if_pos c5] at H
   have c5b0 : (a1 == 0) = true := beq_iff_eq.mpr c5; have c5b1 : (a1 != 0) = false := bne_eq_false_iff_eq.mpr c5; clear c5
   (first | rw [c5b0] | (simp only [i64_w, i32_w]; rw [c5b0]) | skip)
   have H' := Aside0.mk H; clear H; go_wp2; go_meet
   case rel => exact ⟨_, (l2), H', ⟨by first | omega | exact Nat.le_refl _⟩, ⟨rX HO2⟩, ⟨by repeat (first | (with_reducible first | exact HK.out | apply Kept.alloc | apply Kept.drewN | apply Kept.drew) | exact HK.out)⟩, ⟨bX HB⟩⟩
  ·rw [if_neg c5] at H
   have c5b0 : (a1 == 0) = false := beq_eq_false_iff_ne.mpr c5; have c5b1 : (a1 != 0) = true := bne_iff_ne.mpr c5
   (first | rw [c5b0] | (simp only [i64_w, i32_w]; rw [c5b0]) | skip)
   by_cases c6 : 0 ≤ a1
   ·rw [if_pos c6] at H
    have c6b0 : decide (0 ≤ a1) = true := decide_eq_true c6; clear c6
    by_cases c7 : a1 < (a0.length : Int)
    ·rw [if_pos c7] at H
     have c7b0 : decide (a1 < (a0.length : Int)) = true := decide_eq_true c7; clear c7; replace H := Option.bind_eq_some_iff.mp H; obtain ⟨t182, A80, H⟩ := H; replace H : ((arbiterref06_gather.f k a0 t182 l2).bind fun t183 => (arbiterref06_gather.j0 k a0 a1 t183)) = some r := H; have A8 := Aside0.mk A80; clear A80; replace H := Option.bind_eq_some_iff.mp H; obtain ⟨t183, A90, H⟩ := H; replace H : (arbiterref06_gather.j0 k a0 a1 t183) = some r := H; have A9 := Aside0.mk A90; clear A90; have H' := Aside0.mk H; clear H; have hcpq10 := pw_cell_below HB.out HPa0.out; have p181 : 0 ≤ (a1 : Int) := qX; have q181 : a1 < (a0.length : Int) := qX; obtain ⟨ad181, A181_2, c181_2, A181_5, c181_5, e181, hx181_0, hx181_1, hx181_2, hx181_3, hx181_4, hx181_5, hl181_2, hi181_2, hl181_5, hi181_5⟩ := at_T85 HRqa0.out a1 p181 q181
     cases e181
     replace hx181_0 := (HB.out.cell (World.block_lt_of_cell? w0 _ hx181_0)).trans hx181_0; replace hx181_1 := (HB.out.cell (World.block_lt_of_cell? w0 _ hx181_1)).trans hx181_1; replace hx181_2 := (HB.out.cell (World.block_lt_of_cell? w0 _ hx181_2)).trans hx181_2; replace hx181_3 := (HB.out.cell (World.block_lt_of_cell? w0 _ hx181_3)).trans hx181_3; replace hx181_4 := (HB.out.cell (World.block_lt_of_cell? w0 _ hx181_4)).trans hx181_4; replace hx181_5 := (HB.out.cell (World.block_lt_of_cell? w0 _ hx181_5)).trans hx181_5; have HR181_2 := Aside0.mk hi181_2; have HC181_2 := Aside0.mk hl181_2; clear hi181_2 hl181_2; have HR181_5 := Aside0.mk hi181_5; have HC181_5 := Aside0.mk hl181_5; clear hi181_5 hl181_5; replace p181 := eq_true p181; replace q181 := eq_true q181; go_wp2_with (first | ((with_reducible refine gate_callee (f := 91) rfl ?_); refine gX (some 21) Tryz.func91 #[.pointer (some ⟨G_, 0, none⟩), .string ((rd_T85 a0 a1).f1)] ?_; (with_reducible refine (arbiterref06_named.calls k G_ a0 ((rd_T85 a0 a1).f1) t182 _ ?side1 A8.out).mono ?_); (case side1 => repeat (first | (with_reducible exact HQa0.out) | (with_reducible refine ROK.alloc ?_ _) | (with_reducible refine ROK.drewN ?_ _) | (with_reducible refine ROK.drew ?_) | exact ROK.below HQa0.out HB.out | exact ROK.below HQa0.out (bX HB))); rintro e w' ⟨rfl, ⟨nd, rfl⟩⟩; refine ⟨_, rfl, ?_⟩; obtain ⟨Ao11, co11, eo11⟩ := Kd.R_slice HO2.out; subst eo11) | ((with_reducible refine gate_callee (f := 103) rfl ?_); refine gX (some 23) Tryz.func103 #[.pointer (some ⟨G_, 0, none⟩), .int .i64 t182, .slice Ao11 l2.length co11] ?_; (with_reducible refine (ih k (by omega) G_ a0 t182 (fun k_ => some k_ = (.slice Ao11 l2.length co11 : Value).ownBlock) (.slice Ao11 l2.length co11) l2 t183 w0 _ ?side1 HQa0.out ?side2 A9.out).mono ?_); (case side1 => repeat (first | (with_reducible first | exact HB.out | apply below_alloc | apply pw_below_drewN | apply below_drew1) | exact HB.out)); (case side2 => exact Kd.R_tight rfl HO2.out); rintro e w12 ⟨v184, rfl, ho0, hb, hkp⟩; refine ⟨_, rfl, ?_⟩; have n0_ := Aside0.mk (Kd.R_mono (ok' := fun k_ => (P2_ k_ ∨ w.heap.size ≤ k_)) ho0 (fun k_ hk_ => Or.elim hk_ (fun hs_ => (HO2.out.1 k_ (hs_).symm)) (fun hn_ => (.inr (Nat.le_trans (by first | exact HK.out.1 | exact (show Kept w _ (fun k_ => P2_ k_) from by repeat (first | (with_reducible first | exact HK.out | apply Kept.alloc | apply Kept.drewN | apply Kept.drew) | exact HK.out)).1) hn_))))); have n1_ := Aside0.mk (Kept.then_ (S := (fun k_ => P2_ k_)) (by repeat (first | (with_reducible first | exact HK.out | apply Kept.alloc | apply Kept.drewN | apply Kept.drew) | exact HK.out)) hkp (fun k_ hs_ => (fun e_ => (HO2.out.1 k_ e_.symm)) hs_)); have n2_ := Aside0.mk (hb); clear HK; clear HB; clear HO2; have HO185 := n0_; have HK := n1_; have HB := n2_; clear n0_ n1_ n2_; (try clear hb); (try clear hkp); (try clear ho0))); go_meet
     case rel => exact ⟨_, (t183), H', ⟨by first | omega | exact Nat.le_refl _⟩, ⟨rX HO185⟩, ⟨by repeat (first | (with_reducible first | exact HK.out | apply Kept.alloc | apply Kept.drewN | apply Kept.drew) | exact HK.out)⟩, ⟨bX HB⟩⟩
    ·rw [if_neg c7] at H
     exact absurd H (by simp)
   ·rw [if_neg c6] at H
    exact absurd H (by simp)
 case rest =>
  clear HC4
  try clear c1
  try clear p1
  try clear q1
  try clear hx1
  try clear p2
  try clear c5
  try clear c5b0
  try clear c5b1
  try clear c6
  try clear c6b0
  try clear c7
  try clear c7b0
  try clear c9
  try clear c10
  try clear q10
  try clear hx181_0
  try clear hx181_1
  try clear hx181_2
  try clear hx181_3
  try clear hx181_4
  try clear hx181_5
  try clear p181
  try clear q181
  obtain ⟨kq, x2_3, HA, HJ3, HO_2, HK, HB⟩ := hcut
  cases kq with
  | zero => exact absurd HA.out (by simp [arbiterref06_gather.j0])
  | succ kj3 =>
   have H := HA.out; clear HA; simp only [arbiterref06_gather.j0] at H; have H' := Aside0.mk H; clear H; go_wp2
   go_loopg [2, 7] kj3 (fun kq v2 v7 w' => ∃ (x2_2 : List Int) (x7_2 : Int), v7 = .int .i64 x7_2 ∧ Aside0 (arbiterref06_gather.l0 kq a0 a1 x2_2 x7_2 = some r) ∧ Aside0 (kq ≤ kj3) ∧ Aside0 (Kd.R (Kd.int .i64) 3 w' w0.heap.size (fun k_ => (P2_ k_ ∨ w.heap.size ≤ k_)) v2 x2_2) ∧ Aside0 (Kept w w' (fun k_ => P2_ k_)) ∧ Aside0 (Below w0.heap.size w0 w'))
   case atStart => exact ⟨(x2_3), (0), vX, H', ⟨Nat.le_refl _⟩, ⟨rX HO_2⟩, ⟨by repeat (first | (with_reducible first | exact HK.out | apply Kept.alloc | apply Kept.drewN | apply Kept.drew) | exact HK.out)⟩, ⟨bX HB⟩⟩
   case round =>
    clear H'
    try clear c1
    try clear p1
    try clear q1
    try clear hx1
    try clear p2
    try clear c5
    try clear c5b0
    try clear c5b1
    try clear c6
    try clear c6b0
    try clear c7
    try clear c7b0
    try clear c9
    try clear c10
    try clear q10
    try clear hx181_0
    try clear hx181_1
    try clear hx181_2
    try clear hx181_3
    try clear hx181_4
    try clear hx181_5
    try clear p1
    try clear p181
    try clear p2
    try clear q1
    try clear q10
    try clear q181
    obtain ⟨x2_2, x7_2, rfl, HA, HK2, HO_2, HK, HB⟩ := hrel
    cases gk with
    | zero => exact absurd HA.out (by simp [arbiterref06_gather.l0])
    | succ k2 =>
     have H := HA.out; clear HA; simp only [arbiterref06_gather.l0] at H
     by_cases c13 : 0 ≤ a1
     ·rw [if_pos c13] at H
      have c13b0 : decide (0 ≤ a1) = true := decide_eq_true c13; clear c13
      by_cases c14 : a1 < (a0.length : Int)
      ·rw [if_pos c14] at H
       have c14b0 : decide (a1 < (a0.length : Int)) = true := decide_eq_true c14; clear c14
       by_cases c15 : x7_2 < (((rd_T85 a0 a1).f2).length : Int)
       ·rw [if_pos c15] at H
        have c15b0 : decide (x7_2 < (((rd_T85 a0 a1).f2).length : Int)) = true := decide_eq_true c15; clear c15
        by_cases c16 : 0 ≤ x7_2
        ·rw [if_pos c16] at H
         have c16b0 : decide (0 ≤ x7_2) = true := decide_eq_true c16; clear c16; replace H := Option.bind_eq_some_iff.mp H; obtain ⟨t189, A170, H⟩ := H; replace H : ((arbiterref06_Has.f k2 x2_2 t189).bind fun t190 => (if t190 = true then (arbiterref06_gather.l0 k2 a0 a1 x2_2 (wrap64 (x7_2 + 1))) else ((arbiterref06_gather.f k2 a0 t189 x2_2).bind fun t191 => (if t191.length < 17592186044416 then (arbiterref06_gather.l0 k2 a0 a1 (t191 ++ [t189]) (wrap64 (x7_2 + 1))) else (none))))) = some r := H; have A17 := Aside0.mk A170; clear A170; replace H := Option.bind_eq_some_iff.mp H; obtain ⟨t190, A180, H⟩ := H; replace H : (if t190 = true then (arbiterref06_gather.l0 k2 a0 a1 x2_2 (wrap64 (x7_2 + 1))) else ((arbiterref06_gather.f k2 a0 t189 x2_2).bind fun t191 => (if t191.length < 17592186044416 then (arbiterref06_gather.l0 k2 a0 a1 (t191 ++ [t189]) (wrap64 (x7_2 + 1))) else (none)))) = some r := H; have A18 := Aside0.mk A180; clear A180
         by_cases c19 : t190 = true
         ·subst c19
          have H1 : (arbiterref06_gather.l0 k2 a0 a1 x2_2 (wrap64 (x7_2 + 1))) = some r := by rw [if_pos rfl] at H; exact H
          clear H; have H := H1; clear H1; have H' := Aside0.mk H; clear H; have hcpq20 := pw_cell_below HB.out HPa0.out; have p186 : 0 ≤ (a1 : Int) := qX; have q186 : a1 < (a0.length : Int) := qX; obtain ⟨ad186, A186_2, c186_2, A186_5, c186_5, e186, hx186_0, hx186_1, hx186_2, hx186_3, hx186_4, hx186_5, hl186_2, hi186_2, hl186_5, hi186_5⟩ := at_T85 HRqa0.out a1 p186 q186
          cases e186
          replace hx186_0 := (HB.out.cell (World.block_lt_of_cell? w0 _ hx186_0)).trans hx186_0; replace hx186_1 := (HB.out.cell (World.block_lt_of_cell? w0 _ hx186_1)).trans hx186_1; replace hx186_2 := (HB.out.cell (World.block_lt_of_cell? w0 _ hx186_2)).trans hx186_2; replace hx186_3 := (HB.out.cell (World.block_lt_of_cell? w0 _ hx186_3)).trans hx186_3; replace hx186_4 := (HB.out.cell (World.block_lt_of_cell? w0 _ hx186_4)).trans hx186_4; replace hx186_5 := (HB.out.cell (World.block_lt_of_cell? w0 _ hx186_5)).trans hx186_5; have HR186_2 := Aside0.mk hi186_2; have HC186_2 := Aside0.mk hl186_2; clear hi186_2 hl186_2; have HR186_5 := Aside0.mk hi186_5; have HC186_5 := Aside0.mk hl186_5; clear hi186_5 hl186_5; replace p186 := eq_true p186; replace q186 := eq_true q186; have hcpq21 := pw_cell_below HB.out HPa0.out; have p187 : 0 ≤ (a1 : Int) := qX; have q187 : a1 < (a0.length : Int) := qX; obtain ⟨ad187, A187_2, c187_2, A187_5, c187_5, e187, hx187_0, hx187_1, hx187_2, hx187_3, hx187_4, hx187_5, hl187_2, hi187_2, hl187_5, hi187_5⟩ := at_T85 HRqa0.out a1 p187 q187
          obtain rfl : ad186 = ad187 := (by injection e187)
          replace hx187_0 := (HB.out.cell (World.block_lt_of_cell? w0 _ hx187_0)).trans hx187_0; replace hx187_1 := (HB.out.cell (World.block_lt_of_cell? w0 _ hx187_1)).trans hx187_1; replace hx187_2 := (HB.out.cell (World.block_lt_of_cell? w0 _ hx187_2)).trans hx187_2; replace hx187_3 := (HB.out.cell (World.block_lt_of_cell? w0 _ hx187_3)).trans hx187_3; replace hx187_4 := (HB.out.cell (World.block_lt_of_cell? w0 _ hx187_4)).trans hx187_4; replace hx187_5 := (HB.out.cell (World.block_lt_of_cell? w0 _ hx187_5)).trans hx187_5; have HR187_2 := Aside0.mk hi187_2; have HC187_2 := Aside0.mk hl187_2; clear hi187_2 hl187_2; have HR187_5 := Aside0.mk hi187_5; have HC187_5 := Aside0.mk hl187_5; clear hi187_5 hl187_5; replace p187 := eq_true p187; replace q187 := eq_true q187; have ea_ := Option.some.inj (hx186_2.symm.trans hx187_2); injection ea_ with ea_ en_ ec_; subst ea_; subst ec_; clear en_; have ea_ := Option.some.inj (hx186_5.symm.trans hx187_5); injection ea_ with ea_ en_ ec_; subst ea_; subst ec_; clear en_; have p188 : 0 ≤ (x7_2 : Int) := qX; have q188 : x7_2 < (((rd_T85 a0 a1).f2).length : Int) := qX; obtain ⟨ad188, e188, hx188_0⟩ := Kd.at_string HR187_2.out x7_2 p188 q188
          cases e188
          replace hx188_0 := (HB.out.cell (World.block_lt_of_cell? w0 _ hx188_0)).trans hx188_0; replace p188 := eq_true p188; replace q188 := eq_true q188; go_wp2_with (first | ((with_reducible refine gate_callee (f := 91) rfl ?_); refine gX (some 49) Tryz.func91 #[.pointer (some ⟨G_, 0, none⟩), .string (rdOf ByteArray.empty ((rd_T85 a0 a1).f2) x7_2)] ?_; (with_reducible refine (arbiterref06_named.calls k2 G_ a0 (rdOf ByteArray.empty ((rd_T85 a0 a1).f2) x7_2) t189 _ ?side1 A17.out).mono ?_); (case side1 => repeat (first | (with_reducible exact HQa0.out) | (with_reducible refine ROK.alloc ?_ _) | (with_reducible refine ROK.drewN ?_ _) | (with_reducible refine ROK.drew ?_) | exact ROK.below HQa0.out HB.out | exact ROK.below HQa0.out (bX HB))); rintro e w' ⟨rfl, ⟨nd, rfl⟩⟩; refine ⟨_, rfl, ?_⟩; obtain ⟨Ao22, co22, eo22⟩ := Kd.R_slice HO_2.out; subst eo22) | ((with_reducible refine gate_callee (f := 102) rfl ?_); refine gX (some 52) Tryz.func102 #[.slice Ao22 x2_2.length co22, .int .i64 t189] ?_; (with_reducible refine (arbiterref06_Has.calls k2 _ _ x2_2 t189 true _ ?side1 ?side2 A18.out).mono ?_); (case side1 => repeat (first | exact (Kd.R_reads' HO_2.out).2.2 | (with_reducible refine Kd.C_alloc ?_ _) | (with_reducible refine Kd.C_drewN ?_ _) | (with_reducible refine Kd.C_drew ?_))); (case side2 => exact (Kd.R_reads' HO_2.out).2.1); rintro e w' ⟨rfl, ⟨nd, rfl⟩⟩; refine ⟨_, rfl, ?_⟩))
          go_roundg k2
          case measure => have := HJ3.out; have := HK2.out; omega
          case rel => exact ⟨(x2_2), (wrap64 (x7_2 + 1)), vX, H', ⟨by have := HJ3.out; have := HK2.out; omega⟩, ⟨rX HO_2⟩, ⟨by repeat (first | (with_reducible first | exact HK.out | apply Kept.alloc | apply Kept.drewN | apply Kept.drew) | exact HK.out)⟩, ⟨bX HB⟩⟩
         ·replace c19 := Bool.eq_false_iff.mpr c19
          subst c19
          have H1 : ((arbiterref06_gather.f k2 a0 t189 x2_2).bind fun t191 => (if t191.length < 17592186044416 then (arbiterref06_gather.l0 k2 a0 a1 (t191 ++ [t189]) (wrap64 (x7_2 + 1))) else (none))) = some r := by rw [if_neg (show ¬ (false = true) by decide)] at H; exact H
          clear H; have H := H1; clear H1; replace H := Option.bind_eq_some_iff.mp H; obtain ⟨t191, A230, H⟩ := H; replace H : (if t191.length < 17592186044416 then (arbiterref06_gather.l0 k2 a0 a1 (t191 ++ [t189]) (wrap64 (x7_2 + 1))) else (none)) = some r := H; have A23 := Aside0.mk A230; clear A230
          by_cases c24 : t191.length < 17592186044416
          ·rw [if_pos c24] at H
           have LMc24 := Aside0.mk c24; clear c24
           obtain ⟨y194, hy194⟩ : ∃ y_ : List Int, y_ = (t191 ++ [t189]) := ⟨_, rfl⟩
           replace H : (arbiterref06_gather.l0 k2 a0 a1 y194 (wrap64 (x7_2 + 1))) = some r := by first | (rw [hy194]; with_reducible exact H) | (have H2_ := (Option.bind_some _ _).symm.trans H; rw [hy194]; with_reducible exact H2_) | (have H2_ := (Option.bind_some _ _).symm.trans H; with_reducible exact H2_) | with_reducible exact H | (rw [hy194]; exact H) | exact H
           have Ny194 := Aside0.mk hy194; clear hy194; have H' := Aside0.mk H; clear H; have hcpq25 := pw_cell_below HB.out HPa0.out; have p186 : 0 ≤ (a1 : Int) := qX; have q186 : a1 < (a0.length : Int) := qX; obtain ⟨ad186, A186_2, c186_2, A186_5, c186_5, e186, hx186_0, hx186_1, hx186_2, hx186_3, hx186_4, hx186_5, hl186_2, hi186_2, hl186_5, hi186_5⟩ := at_T85 HRqa0.out a1 p186 q186
           cases e186
           replace hx186_0 := (HB.out.cell (World.block_lt_of_cell? w0 _ hx186_0)).trans hx186_0; replace hx186_1 := (HB.out.cell (World.block_lt_of_cell? w0 _ hx186_1)).trans hx186_1; replace hx186_2 := (HB.out.cell (World.block_lt_of_cell? w0 _ hx186_2)).trans hx186_2; replace hx186_3 := (HB.out.cell (World.block_lt_of_cell? w0 _ hx186_3)).trans hx186_3; replace hx186_4 := (HB.out.cell (World.block_lt_of_cell? w0 _ hx186_4)).trans hx186_4; replace hx186_5 := (HB.out.cell (World.block_lt_of_cell? w0 _ hx186_5)).trans hx186_5; have HR186_2 := Aside0.mk hi186_2; have HC186_2 := Aside0.mk hl186_2; clear hi186_2 hl186_2; have HR186_5 := Aside0.mk hi186_5; have HC186_5 := Aside0.mk hl186_5; clear hi186_5 hl186_5; replace p186 := eq_true p186; replace q186 := eq_true q186; have hcpq26 := pw_cell_below HB.out HPa0.out; have p187 : 0 ≤ (a1 : Int) := qX; have q187 : a1 < (a0.length : Int) := qX; obtain ⟨ad187, A187_2, c187_2, A187_5, c187_5, e187, hx187_0, hx187_1, hx187_2, hx187_3, hx187_4, hx187_5, hl187_2, hi187_2, hl187_5, hi187_5⟩ := at_T85 HRqa0.out a1 p187 q187
           obtain rfl : ad186 = ad187 := (by injection e187)
           replace hx187_0 := (HB.out.cell (World.block_lt_of_cell? w0 _ hx187_0)).trans hx187_0; replace hx187_1 := (HB.out.cell (World.block_lt_of_cell? w0 _ hx187_1)).trans hx187_1; replace hx187_2 := (HB.out.cell (World.block_lt_of_cell? w0 _ hx187_2)).trans hx187_2; replace hx187_3 := (HB.out.cell (World.block_lt_of_cell? w0 _ hx187_3)).trans hx187_3; replace hx187_4 := (HB.out.cell (World.block_lt_of_cell? w0 _ hx187_4)).trans hx187_4; replace hx187_5 := (HB.out.cell (World.block_lt_of_cell? w0 _ hx187_5)).trans hx187_5; have HR187_2 := Aside0.mk hi187_2; have HC187_2 := Aside0.mk hl187_2; clear hi187_2 hl187_2; have HR187_5 := Aside0.mk hi187_5; have HC187_5 := Aside0.mk hl187_5; clear hi187_5 hl187_5; replace p187 := eq_true p187; replace q187 := eq_true q187; have ea_ := Option.some.inj (hx186_2.symm.trans hx187_2); injection ea_ with ea_ en_ ec_; subst ea_; subst ec_; clear en_; have ea_ := Option.some.inj (hx186_5.symm.trans hx187_5); injection ea_ with ea_ en_ ec_; subst ea_; subst ec_; clear en_; have p188 : 0 ≤ (x7_2 : Int) := qX; have q188 : x7_2 < (((rd_T85 a0 a1).f2).length : Int) := qX; obtain ⟨ad188, e188, hx188_0⟩ := Kd.at_string HR187_2.out x7_2 p188 q188
           cases e188
           replace hx188_0 := (HB.out.cell (World.block_lt_of_cell? w0 _ hx188_0)).trans hx188_0; replace p188 := eq_true p188; replace q188 := eq_true q188; go_wp2_with (first | ((with_reducible refine gate_callee (f := 91) rfl ?_); refine gX (some 49) Tryz.func91 #[.pointer (some ⟨G_, 0, none⟩), .string (rdOf ByteArray.empty ((rd_T85 a0 a1).f2) x7_2)] ?_; (with_reducible refine (arbiterref06_named.calls k2 G_ a0 (rdOf ByteArray.empty ((rd_T85 a0 a1).f2) x7_2) t189 _ ?side1 A17.out).mono ?_); (case side1 => repeat (first | (with_reducible exact HQa0.out) | (with_reducible refine ROK.alloc ?_ _) | (with_reducible refine ROK.drewN ?_ _) | (with_reducible refine ROK.drew ?_) | exact ROK.below HQa0.out HB.out | exact ROK.below HQa0.out (bX HB))); rintro e w' ⟨rfl, ⟨nd, rfl⟩⟩; refine ⟨_, rfl, ?_⟩; obtain ⟨Ao27, co27, eo27⟩ := Kd.R_slice HO_2.out; subst eo27) | ((with_reducible refine gate_callee (f := 102) rfl ?_); refine gX (some 52) Tryz.func102 #[.slice Ao27 x2_2.length co27, .int .i64 t189] ?_; (with_reducible refine (arbiterref06_Has.calls k2 _ _ x2_2 t189 false _ ?side1 ?side2 A18.out).mono ?_); (case side1 => repeat (first | exact (Kd.R_reads' HO_2.out).2.2 | (with_reducible refine Kd.C_alloc ?_ _) | (with_reducible refine Kd.C_drewN ?_ _) | (with_reducible refine Kd.C_drew ?_))); (case side2 => exact (Kd.R_reads' HO_2.out).2.1); rintro e w' ⟨rfl, ⟨nd, rfl⟩⟩; refine ⟨_, rfl, ?_⟩) | ((with_reducible refine gate_callee (f := 103) rfl ?_); refine gX (some 57) Tryz.func103 #[.pointer (some ⟨G_, 0, none⟩), .int .i64 t189, .slice Ao27 x2_2.length co27] ?_; (with_reducible refine (ih k2 (by have := HJ3.out; have := HK2.out; omega) G_ a0 t189 (fun k_ => some k_ = (.slice Ao27 x2_2.length co27 : Value).ownBlock) (.slice Ao27 x2_2.length co27) x2_2 t191 w0 _ ?side1 HQa0.out ?side2 A23.out).mono ?_); (case side1 => repeat (first | (with_reducible first | exact HB.out | apply below_alloc | apply pw_below_drewN | apply below_drew1) | exact HB.out)); (case side2 => exact Kd.R_tight rfl HO_2.out); rintro e w28 ⟨v192, rfl, ho0, hb, hkp⟩; refine ⟨_, rfl, ?_⟩; have n0_ := Aside0.mk (Kd.R_mono (ok' := fun k_ => (P2_ k_ ∨ w.heap.size ≤ k_)) ho0 (fun k_ hk_ => Or.elim hk_ (fun hs_ => (HO_2.out.1 k_ (hs_).symm)) (fun hn_ => (.inr (Nat.le_trans (by first | exact HK.out.1 | exact (show Kept w _ (fun k_ => P2_ k_) from by repeat (first | (with_reducible first | exact HK.out | apply Kept.alloc | apply Kept.drewN | apply Kept.drew) | exact HK.out)).1) hn_))))); have n1_ := Aside0.mk (Kept.then_ (S := (fun k_ => P2_ k_)) (by repeat (first | (with_reducible first | exact HK.out | apply Kept.alloc | apply Kept.drewN | apply Kept.drew) | exact HK.out)) hkp (fun k_ hs_ => (fun e_ => (HO_2.out.1 k_ e_.symm)) hs_)); have n2_ := Aside0.mk (hb); clear HK; clear HB; clear HO_2; have HO193 := n0_; have HK := n1_; have HB := n2_; clear n0_ n1_ n2_; (try clear hb); (try clear hkp); (try clear ho0)) | ((with_reducible refine gate_builtin (b := .append) (xs := #[.tmp 57, .tmp 59]) rfl ?_); at_builtin; refine Kd.R_append (Kd.int .i64) (w0 := w0) w0.heap.size rfl (.tmp 57) (.tmp 59) 49 3 (.int .i64 0) 8 rfl Tryz.underlying49 info3 rfl (by decide) (by omega) v192 t191 t189 [.int .i64 t189] (fun k_ => (P2_ k_ ∨ w.heap.size ≤ k_)) (fun _ => False) rfl rfl ?aP (fun _ hk => hk.elim) ?aF ?aO ?aB ?aS ?aL ?_; (case aP => exact rfl); (case aB => exact (bX HB)); (case aF => exact (fun k_ hk => (.inr (Nat.le_trans (by first | exact HK.out.1 | exact (show Kept w _ (fun k_ => P2_ k_) from by repeat (first | (with_reducible first | exact HK.out | apply Kept.alloc | apply Kept.drewN | apply Kept.drew) | exact HK.out)).1) hk)))); (case aO => exact (rX HO193)); (case aS => exact (below_size (bX HB))); (case aL => have := LMc24.out; omega); intro v195 w29 ho hb hg hat; rw [← Ny194.out] at ho; have n0_ := Aside0.mk (hb); have n1_ := Aside0.mk (Kept.of_grown (S := (fun k_ => P2_ k_)) hg (by repeat (first | (with_reducible first | exact HK.out | apply Kept.alloc | apply Kept.drewN | apply Kept.drew) | exact HK.out)) (fun k_ e_ => (HO193.out.1 k_ e_))); have n2_ := Aside0.mk (ho); clear HB; clear HK; clear HO193; have HB := n0_; have HK := n1_; have HO196 := n2_; clear n0_ n1_ n2_; clear ho hb hg hat))
           go_roundg k2
           case measure => have := HJ3.out; have := HK2.out; omega
           case rel => exact ⟨(y194), (wrap64 (x7_2 + 1)), vX, H', ⟨by have := HJ3.out; have := HK2.out; omega⟩, ⟨rX HO196⟩, ⟨by repeat (first | (with_reducible first | exact HK.out | apply Kept.alloc | apply Kept.drewN | apply Kept.drew) | exact HK.out)⟩, ⟨bX HB⟩⟩
          ·rw [if_neg c24] at H
           exact absurd H (by simp)
        ·rw [if_neg c16] at H
         exact absurd H (by simp)
       ·rw [if_neg c15] at H
        have c15b0 : decide (x7_2 < (((rd_T85 a0 a1).f2).length : Int)) = false := decide_eq_false c15; clear c15; obtain rfl := Option.some.inj H; have hcpq30 := pw_cell_below HB.out HPa0.out; have p186 : 0 ≤ (a1 : Int) := qX; have q186 : a1 < (a0.length : Int) := qX; obtain ⟨ad186, A186_2, c186_2, A186_5, c186_5, e186, hx186_0, hx186_1, hx186_2, hx186_3, hx186_4, hx186_5, hl186_2, hi186_2, hl186_5, hi186_5⟩ := at_T85 HRqa0.out a1 p186 q186
        cases e186
        replace hx186_0 := (HB.out.cell (World.block_lt_of_cell? w0 _ hx186_0)).trans hx186_0; replace hx186_1 := (HB.out.cell (World.block_lt_of_cell? w0 _ hx186_1)).trans hx186_1; replace hx186_2 := (HB.out.cell (World.block_lt_of_cell? w0 _ hx186_2)).trans hx186_2; replace hx186_3 := (HB.out.cell (World.block_lt_of_cell? w0 _ hx186_3)).trans hx186_3; replace hx186_4 := (HB.out.cell (World.block_lt_of_cell? w0 _ hx186_4)).trans hx186_4; replace hx186_5 := (HB.out.cell (World.block_lt_of_cell? w0 _ hx186_5)).trans hx186_5; have HR186_2 := Aside0.mk hi186_2; have HC186_2 := Aside0.mk hl186_2; clear hi186_2 hl186_2; have HR186_5 := Aside0.mk hi186_5; have HC186_5 := Aside0.mk hl186_5; clear hi186_5 hl186_5; replace p186 := eq_true p186; replace q186 := eq_true q186; go_wp2; go_ret
        exact ⟨_, by first | rfl | (simp [errW_none, errW_some] <;> rfl) | (simp [*, errW_none, errW_some] <;> rfl), by (with_reducible repeat (first | apply Kd.R_alloc | apply Kd.R_drewN | apply Kd.R_drew)); exact HO_2.out, bX HB, by repeat (first | (with_reducible first | exact HK.out | apply Kept.alloc | apply Kept.drewN | apply Kept.drew) | exact HK.out)⟩
      ·rw [if_neg c14] at H
       exact absurd H (by simp)
     ·rw [if_neg c13] at H
      exact absurd H (by simp)
def arbiterref06_Extends.j0 : Nat → List S85 → Int → Int → Bool → Option (Bool)
 | 0, _, _, _, _ => none
 | k + 1, x0, x1, x2, x18 => if x18 = true then (some false) else ((arbiterref06_Chain.f k x0 x1).bind fun bt199 => ((arbiterref06_Has.f k bt199.1 x2).bind fun t203 => (if t203 = true then (some true) else ((arbiterref06_gather.f k x0 x1 ([] : List Int)).bind fun t204 => ((arbiterref06_Has.f k t204 x2).bind fun t207 => (some t207))))))
def arbiterref06_Extends.f (k : Nat) (a0 : List S85) (a1 : Int) (a2 : Int) : Option (Bool) := (arbiterref06_In.f a0 a1).bind fun t197 => (if t197 = true then ((arbiterref06_In.f a0 a2).bind fun t198 => (arbiterref06_Extends.j0 k a0 a1 a2 (!t198))) else (arbiterref06_Extends.j0 k a0 a1 a2 true))
def access_Package.f (a0 : List Hi.Ent) (a1 : Int) : Option (Int × ByteArray × Int) := (access_homeOf.f a0 a1).bind fun bt208 => (some (bt208.1, bt208.2.1, bt208.2.2.2.2.2.2.2.2))
end Go.Proofs.YtaipkdglhfhhiaaGreatDoor.Pt

namespace Go.Proofs.YtaipkdglhfhhiaaGreatDoor.Pt
open Go.RowKit Go.Proofs.YtaipkdglhfhhiaaGreatDoorW.PrintWords Go.Proofs.YtaipkdglhfhhiaaGreatDoorW.PrintLast Go.Proofs.YtaipkdglhfhhiaaGreatDoorW.PrintMore
attribute [local go_sem] max2_int min2_int max_two min_two max_three min_three max_four min_four   -- for this text's walks alone
set_option linter.unusedVariables false
set_option linter.unusedSimpArgs false
def arbiterref08_Package.f (a0 : List S85) (a1 : Int) : Option (Int × ByteArray × Int) := (arbiterref06_In.f a0 a1).bind fun t223 => (if t223 = true then (if 0 ≤ a1 then (if a1 < (a0.length : Int) then ((arbiterref01_Package.f ((rd_T85 a0 a1).f0)).bind fun t226 => (some ((rd_T85 a0 a1).f4, t226, 0))) else (none)) else (none)) else (some (0, (⟨#[]⟩ : ByteArray), 3)))
def arbiterref08_ClassOpen.j0 : Nat → List S85 → Int → Int → Bool → Option (Bool × Int)
 | 0, _, _, _, _ => none
 | k + 1, x0, x1, x2, x17 => if x17 = true then (some (false, 3)) else (if 0 ≤ x2 then (if x2 < (x0.length : Int) then ((arbiterref03_Has.f ((rd_T85 x0 x2).f3) 1).bind fun t230 => (if t230 = true then (some (true, 0)) else ((arbiterref06_SamePackage.f x0 x1 x2).bind fun t231 => (some (t231, 0))))) else (none)) else (none))
def arbiterref08_ClassOpen.f (k : Nat) (a0 : List S85) (a1 : Int) (a2 : Int) : Option (Bool × Int) := (arbiterref06_In.f a0 a1).bind fun t227 => (if t227 = true then ((arbiterref06_In.f a0 a2).bind fun t228 => (arbiterref08_ClassOpen.j0 k a0 a1 a2 (!t228))) else (arbiterref08_ClassOpen.j0 k a0 a1 a2 true))
def arbiterref06_ByName.f (k : Nat) (a0 : List S85) (a1 : ByteArray) : Option (Int × Int) := (arbiterref06_named.f k a0 a1).bind fun t232 => (if t232 < 0 then (some (0, 6)) else (some (t232, 0)))
end Go.Proofs.YtaipkdglhfhhiaaGreatDoor.Pt

namespace Go.Proofs.YtaipkdglhfhhiaaGreatDoor.Pt
open Go Go.RowKit Go.Proofs.YtaipkdglhfhhiaaGreatDoor.Nm Go.Proofs.YtaipkdglhfhhiaaGreatDoor.Ty Go.Proofs.YtaipkdglhfhhiaaGreatDoor.Hi Go.Proofs.YtaipkdglhfhhiaaGreatDoorW.PrintWords
set_option linter.unusedVariables false
set_option linter.unusedSimpArgs false
theorem has_l0 (l : List Int) (hl : l.length ≤ 1000) (a : Int) : ∀ (d i k : Nat), i ≤ l.length → l.length - i ≤ d → d < k → arbiterref06_Has.l0 k l a i = some (decide (a ∈ l.drop i)) := by
 intro d
 induction d with
 | zero =>
  intro i k hi hd hk
  obtain ⟨k, rfl⟩ : ∃ m, k = m + 1 := ⟨k - 1, by omega⟩
  simp only [arbiterref06_Has.l0]; rw [if_neg (by omega), List.drop_eq_nil_of_le (by omega)]; simp
 | succ d ih =>
  intro i k hi hd hk
  obtain ⟨k, rfl⟩ : ∃ m, k = m + 1 := ⟨k - 1, by omega⟩
  simp only [arbiterref06_Has.l0]
  by_cases hlt : i < l.length
  ·rw [if_pos (by omega), if_pos (by omega), List.drop_eq_getElem_cons hlt]
   have he : Go.Proofs.YtaipkdglhfhhiaaGreatDoorW.PrintWords.rd l (i : Int) = l[i] := by
    simp [Go.Proofs.YtaipkdglhfhhiaaGreatDoorW.PrintWords.rd, List.getD_eq_getElem?_getD, List.getElem?_eq_getElem hlt]
   rw [he]
   by_cases h : l[i] = a
   ·rw [if_pos h, decide_eq_true (by rw [h]; exact List.mem_cons_self)]
   ·rw [if_neg h, num_wrap (by omega), ih (i + 1) k (by omega) (by omega) (by omega)]
    congr 1
    rw [decide_eq_decide, List.mem_cons]
    exact ⟨.inr, fun h2 => h2.resolve_left (fun e => h e.symm)⟩
  ·rw [if_neg (by omega), List.drop_eq_nil_of_le (by omega)]
   simp
theorem has_ok (l : List Int) (hl : l.length ≤ 1000) (a : Int) (k : Nat) (hk : l.length < k) : arbiterref06_Has.f k l a = some (decide (a ∈ l)) := by
 unfold arbiterref06_Has.f; have := has_l0 l hl a l.length 0 k (by omega) (by omega) hk; rw [show ((0 : Nat) : Int) = 0 from rfl, List.drop_zero] at this
 exact this
theorem rnm_of {es : List Ent} (h : Thy es) {i : Int} (h0 : 0 ≤ i) (h1 : i < es.length) : rnm es (ent es i).c.f0 = i := by
 unfold rnm; rw [nameF_of h h0 h1, if_pos rfl]
theorem rnm_sup {es : List Ent} (h : Thy es) {i : Int} (h0 : 1 ≤ i) (h1 : i < es.length) : rnm es (ent es i).c.f1 = (ent es i).above ∧ 0 ≤ (ent es i).above ∧ (ent es i).above < i := by
 obtain ⟨a1, a2, _, _⟩ := h.sup _ _ (get_ent (by omega) h1) (by omega); rw [← (h.src_ (by omega) h1).sup h0, rnm_of h a1 (by omega)]
 exact ⟨rfl, a1, by omega⟩
theorem chain_l0 {es : List Ent} (h : Thy es) (hl : es.length ≤ 1000) : ∀ (n : Nat) (i : Int) (acc : List Int) (k : Nat), 0 ≤ i → i < es.length → i.toNat ≤ n → n + es.length + 2 < k → acc.length + n ≤ 10000 →
  arbiterref06_Chain.l0 k (csOf es) i (acc ++ [i]) = some (acc ++ chL es i, 0) := by
 have ht := h.good.tree
 have hz : ∀ (acc : List Int) (k : Nat), arbiterref06_Chain.l0 (k + 1) (csOf es) 0 (acc ++ [0]) = some (acc ++ chL es 0, 0) := by
  intro acc k; have h3 := len_base h.base; simp only [arbiterref06_Chain.l0]; rw [if_pos trivial, chL_top ht (by omega) (by omega) (by rw [h.obj.1]; decide)]
 intro n
 induction n with
 | zero =>
  intro i acc k h0 h1 hn hk ha
  obtain ⟨k, rfl⟩ : ∃ m, k = m + 1 := ⟨k - 1, by omega⟩
  obtain rfl : i = 0 := by omega
  exact hz acc k
 | succ n ih =>
  intro i acc k h0 h1 hn hk ha
  obtain ⟨k, rfl⟩ : ∃ m, k = m + 1 := ⟨k - 1, by omega⟩
  by_cases e0 : i = 0
  ·subst e0
   exact hz acc k
  ·obtain ⟨r1, r2, r3⟩ := rnm_sup h (by omega : 1 ≤ i) h1
   simp only [arbiterref06_Chain.l0]; rw [if_neg e0, if_pos h0, cs_len, if_pos h1, cs_rd h0 h1, named_ok es hl _ k (by omega), Option.bind_some, r1, if_pos (by simp; omega), ih (ent es i).above (acc ++ [i]) k r2 (by omega) (by omega) (by omega) (by simp; omega), (chL_step ht h0 h1 (by omega)).1]; simp
theorem chain_eq {es : List Ent} (h : Thy es) (hl : es.length ≤ 1000) {i : Int} (h0 : 0 ≤ i) (h1 : i < es.length) (k : Nat) (hk : 2 * es.length + 2 < k) : arbiterref06_Chain.f k (csOf es) i = some (chL es i, 0) := by
 have e := chain_l0 h hl i.toNat i [] k h0 h1 (Nat.le_refl _) (by omega) (by simp; omega); unfold arbiterref06_Chain.f; rw [in_ok, Option.bind_some, show inB es i = true from decide_eq_true ⟨h0, h1⟩, if_pos rfl]
 exact e
structure Shut (es : List Ent) (l : List Int) : Prop where
 rng : Rng es.length l
 up : ∀ j ∈ l, ∀ k ∈ (ent es j).clo, k ∈ l
theorem rng_snoc {n : Nat} {l : List Int} (h : Rng n l) {i : Int} (h0 : 0 ≤ i) (h1 : i < n) (hi : i ∉ l) : Rng n (l ++ [i]) := by
 have := h.add h0 h1; unfold addI at this
 rwa [if_neg (by simpa using hi)] at this
theorem shut_fold {es : List Ent} (h : Thy es) {i : Int} (h0 : 0 ≤ i) (h1 : i < es.length) {l : List Int} (hs : Shut es l) : Shut es (foldI (ent es i).clo l) := by
 have hc := fun j hj => h.clo _ _ (get_ent h0 h1) j hj; refine ⟨?_, fun j hj k hk => ?_⟩
 ·have : ∀ (ks acc : List Int), (∀ k ∈ ks, 0 ≤ k ∧ k < (es.length : Int)) → Rng es.length acc → Rng es.length (foldI ks acc) := by
   intro ks
   induction ks with
   | nil => exact fun _ _ ha => ha
   | cons a ks ih => exact fun acc hk ha => ih _ (fun k hk2 => hk k (List.mem_cons_of_mem _ hk2)) (ha.add (hk a List.mem_cons_self).1 (hk a List.mem_cons_self).2)
  exact this _ _ (fun k hk => ⟨(hc k hk).1, by have := (hc k hk).2.1; omega⟩) hs.rng
 ·rcases mem_foldI.1 hj with hj | hj
  ·exact mem_foldI.2 (.inl (hs.up j hj k hk))
  ·exact mem_foldI.2 (.inr ((hc j hj).2.2.2 k hk))
theorem gather_eq {es : List Ent} (h : Thy es) (hl : es.length ≤ 1000) : ∀ (n : Nat) (i : Int) (l : List Int) (k : Nat), 0 ≤ i → i < es.length → i.toNat ≤ n → 30 * n + 2000 < k → Shut es l →
  arbiterref06_gather.f k (csOf es) i l = some (foldI (ent es i).clo l) := by
 have hzero : ∀ (l : List Int) (k : Nat), 3 ≤ k → arbiterref06_gather.f k (csOf es) 0 l = some (foldI (ent es 0).clo l) := by
  intro l k hk
  obtain ⟨k, rfl⟩ : ∃ m, k = m + 3 := ⟨k - 3, by omega⟩
  have h3 := len_base h.base; rw [arbiterref06_gather.f, if_pos rfl, arbiterref06_gather.j0, arbiterref06_gather.l0, if_pos (by omega), cs_len, if_pos (by omega), cs_rd (by omega) (by omega), h.obj.1, if_neg (by decide)]
  rfl
 intro n
 induction n with
 | zero =>
  intro i l k h0 h1 hn hk hs
  obtain rfl : i = 0 := by omega
  exact hzero l k (by omega)
 | succ n ih =>
  intro i l k h0 h1 hn hk hs
  by_cases e0 : i = 0
  ·subst e0
   exact hzero l k (by omega)
  ·obtain ⟨k, rfl⟩ : ∃ m, k = m + 2 := ⟨k - 2, by omega⟩
   obtain ⟨r1, r2, r3⟩ := rnm_sup h (by omega : 1 ≤ i) h1; have eu := ih (ent es i).above l (k + 1) r2 (by omega) (by omega) (by omega) hs; obtain ⟨ks, hcl, hks, hkn⟩ := h.clo_eq (by omega : 1 ≤ i) h1; have hsl := (h.src_ h0 h1).len
   have hloop : ∀ (d j kk : Nat) (acc : List Int), j ≤ (ent es i).c.f2.length → (ent es i).c.f2.length - j ≤ d → 30 * n + 2000 + d < kk → Shut es acc →
     arbiterref06_gather.l0 kk (csOf es) i acc j = some (closF es acc (ks.drop j)) := by
    intro d
    induction d with
    | zero =>
     intro j kk acc hj hd hkk hsa
     obtain ⟨kk, rfl⟩ : ∃ m, kk = m + 1 := ⟨kk - 1, by omega⟩
     rw [arbiterref06_gather.l0, if_pos h0, cs_len, if_pos h1, cs_rd h0 h1, if_neg (by omega), List.drop_eq_nil_of_le (by omega)]
     rfl
    | succ d ihd =>
     intro j kk acc hj hd hkk hsa
     obtain ⟨kk, rfl⟩ : ∃ m, kk = m + 1 := ⟨kk - 1, by omega⟩
     by_cases hlt : j < (ent es i).c.f2.length
     ·have hm : rdOf ByteArray.empty (ent es i).c.f2 (j : Int) = (ent es i).c.f2[j] := by
       simp [rdOf, List.getD_eq_getElem?_getD, List.getElem?_eq_getElem hlt]
      obtain ⟨q, qk, q0, q1, q2⟩ := hkn j _ (List.getElem?_eq_getElem hlt)
      have hq : rnm es ((ent es i).c.f2[j]) = q := by rw [← q2]; exact rnm_of h q0 (by omega)
      have hacc : acc.length ≤ es.length := hsa.rng.len
      have hdr : ks.drop j = q :: ks.drop (j + 1) := by
       have hj2 : j < ks.length := by omega
       rw [List.drop_eq_getElem_cons hj2]; rw [List.getElem?_eq_getElem hj2] at qk; rw [Option.some.inj qk]
      rw [arbiterref06_gather.l0, if_pos h0, cs_len, if_pos h1, cs_rd h0 h1, if_pos (by omega), if_pos (by omega), hm, named_ok es hl _ kk (by omega), Option.bind_some, hq, has_ok acc (by omega) q kk (by omega), Option.bind_some, hdr]
      show _ = some (closF es (addI (foldI (ent es q).clo acc) q) (ks.drop (j + 1)))
      by_cases hc : q ∈ acc
      ·rw [decide_eq_true hc, if_pos rfl, num_wrap (by omega), foldI_in (hsa.up q hc), addI_in hc]
       exact ihd (j + 1) kk acc (by omega) (by omega) (by omega) hsa
      ·have sv := shut_fold h q0 (by omega) hsa
       have hqv : q ∉ foldI (ent es q).clo acc := by
        intro hqv
        rcases mem_foldI.1 hqv with h3 | h3
        ·exact hc h3
        ·have := h.clo _ _ (get_ent q0 (by omega)) q h3
         omega
       have hv := sv.rng.len; rw [decide_eq_false hc, if_neg (by decide), ih q acc kk q0 (by omega) (by omega) (by omega) hsa, Option.bind_some, if_pos (by omega), num_wrap (by omega), addI_new hqv]; refine ihd (j + 1) kk _ (by omega) (by omega) (by omega) ⟨rng_snoc sv.rng q0 (by omega) hqv, fun a ha b hb => ?_⟩; rw [List.mem_append, List.mem_singleton] at ha ⊢
       rcases ha with ha | rfl
       ·exact .inl (sv.up a ha b hb)
       ·exact .inl (mem_foldI.2 (.inr hb))
     ·rw [arbiterref06_gather.l0, if_pos h0, cs_len, if_pos h1, cs_rd h0 h1, if_neg (by omega), List.drop_eq_nil_of_le (by omega)]
      rfl
   rw [arbiterref06_gather.f, if_neg e0, if_pos h0, cs_len, if_pos h1, cs_rd h0 h1, named_ok es hl _ (k + 1) (by omega), Option.bind_some, r1, eu, Option.bind_some, arbiterref06_gather.j0]; rw [show (0 : Int) = ((0 : Nat) : Int) from rfl, hloop (ent es i).c.f2.length 0 k _ (by omega) (by omega) (by omega) (shut_fold h r2 (by omega) hs), List.drop_zero, hcl, foldI_closF]
end Go.Proofs.YtaipkdglhfhhiaaGreatDoor.Pt

namespace Go.Proofs.YtaipkdglhfhhiaaGreatDoor.Pt
open Go.RowKit Go.Proofs.YtaipkdglhfhhiaaGreatDoorW.PrintWords Go.Proofs.YtaipkdglhfhhiaaGreatDoorW.PrintLast Go.Proofs.YtaipkdglhfhhiaaGreatDoorW.PrintMore
attribute [local go_sem] max2_int min2_int max_two min_two max_three min_three max_four min_four   -- for this text's walks alone
set_option linter.unusedVariables false
set_option linter.unusedSimpArgs false
def arbiterref07_Loaded.f (k : Nat) (a0 : List S85) (a1_0 : Int) (a1_1 : ByteArray) : Option (Int) := (arbiterref02_Check.f a1_0 a1_1).bind fun t234 => (if t234 = 0 then (if a1_1.toList = ([] : List UInt8) then (some 0) else ((arbiterref06_ByName.f k a0 a1_1).bind fun bt235 => (if bt235.2 = 0 then (some 0) else (some 20)))) else (some 1))
def arbiterref08_TypeOpen.f (k : Nat) (a0 : List S85) (a1 : Int) (a2_0 : Int) (a2_1 : ByteArray) : Option (Bool × Int) := (arbiterref06_In.f a0 a1).bind fun t238 => (if t238 = true then ((arbiterref07_Loaded.f k a0 a2_0 a2_1).bind fun t239 => (if t239 = 0 then (if a2_1.toList = ([] : List UInt8) then (some (true, 0)) else ((arbiterref06_ByName.f k a0 a2_1).bind fun bt240 => ((arbiterref08_ClassOpen.f k a0 a1 bt240.1).bind fun bt242 => (some (bt242.1, bt242.2))))) else (some (false, t239)))) else (some (false, 3)))
end Go.Proofs.YtaipkdglhfhhiaaGreatDoor.Pt

namespace Go.Proofs.YtaipkdglhfhhiaaGreatDoor.Pt
open Go.RowKit Go.Proofs.YtaipkdglhfhhiaaGreatDoorW.PrintWords Go.Proofs.YtaipkdglhfhhiaaGreatDoorW.PrintLast Go.Proofs.YtaipkdglhfhhiaaGreatDoorW.PrintMore
attribute [local go_sem] max2_int min2_int max_two min_two max_three min_three max_four min_four   -- for this text's walks alone
set_option linter.unusedVariables false
set_option linter.unusedSimpArgs false
def arbiterref06_Closure.f (k : Nat) (a0 : List S85) (a1 : Int) : Option (List Int × Int) := (arbiterref06_In.f a0 a1).bind fun t470 => (if t470 = true then ((arbiterref06_gather.f k a0 a1 ([] : List Int)).bind fun t471 => (some (t471, 0))) else (some (([] : List Int), 3)))
set_option maxHeartbeats 8000000 in
set_option maxRecDepth 100000 in
theorem arbiterref06_Closure.calls (k : Nat) (G_ : Nat) (a0 : List S85) (a1 : Int) (r1 : List Int) (r2 : Int) (w : World) (hq0 : ROK w G_ a0) (h : arbiterref06_Closure.f k a0 a1 = some (r1, r2)) :
  Calls Tryz.prog 68 #[.pointer (some ⟨G_, 0, none⟩), .int .i64 a1] w fun e w' => ∃ v0_ : Value, e = .returned (.tuple #[v0_, .int .i64 r2]) ∧ Kd.R (Kd.int .i64) 3 w' w.heap.size (fun _ => True) v0_ r1 ∧ Below w.heap.size w w' := by
 obtain ⟨AQa0, cQa0, hp0, hrq0, hcq0⟩ := ROK.open hq0; have HPa0 := Aside0.mk hp0; have HRqa0 := Aside0.mk hrq0; have HCqa0 := Aside0.mk hcq0; clear hp0 hrq0 hcq0; have HQa0 := Aside0.mk hq0; clear hq0; have HB := Aside0.mk (Below.refl w.heap.size w); have H : ((arbiterref06_In.f a0 a1).bind fun t470 => (if t470 = true then ((arbiterref06_gather.f k a0 a1 ([] : List Int)).bind fun t471 => (some (t471, 0))) else (some (([] : List Int), 3)))) = some (r1, r2) := h; clear h; replace H := Option.bind_eq_some_iff.mp H; obtain ⟨t470, A30, H⟩ := H; replace H : (if t470 = true then ((arbiterref06_gather.f k a0 a1 ([] : List Int)).bind fun t471 => (some (t471, 0))) else (some (([] : List Int), 3))) = some (r1, r2) := H; have A3 := Aside0.mk A30; clear A30
 by_cases c4 : t470 = true
 ·subst c4
  have H1 : ((arbiterref06_gather.f k a0 a1 ([] : List Int)).bind fun t471 => (some (t471, 0))) = some (r1, r2) := by rw [if_pos rfl] at H; exact H
  clear H; have H := H1; clear H1; replace H := Option.bind_eq_some_iff.mp H; obtain ⟨t471, A50, H⟩ := H; replace H : (some (t471, 0)) = some (r1, r2) := H; have A5 := Aside0.mk A50; clear A50; simp only [Option.some.injEq, Prod.mk.injEq] at H; obtain ⟨rfl, rfl⟩ := H; go_enter Tryz.func68, Tryz.ntmps68; go_wp2_with (first | ((with_reducible refine gate_callee (f := 51) rfl ?_); refine gX (some 8) Tryz.func51 #[.pointer (some ⟨G_, 0, none⟩), .int .i64 a1] ?_; (with_reducible refine (arbiterref06_In.calls G_ a0 a1 true _ ?side1 A3.out).mono ?_); (case side1 => repeat (first | (with_reducible exact HQa0.out) | (with_reducible refine ROK.alloc ?_ _) | (with_reducible refine ROK.drewN ?_ _) | (with_reducible refine ROK.drew ?_) | exact ROK.below HQa0.out HB.out | exact ROK.below HQa0.out (bX HB))); rintro e w' ⟨rfl, ⟨nd, rfl⟩⟩; refine ⟨_, rfl, ?_⟩) | ((with_reducible refine gate_callee (f := 103) rfl ?_); refine gX (some 12) Tryz.func103 #[.pointer (some ⟨G_, 0, none⟩), .int .i64 a1, .slice none 0 0] ?_; (refine (arbiterref06_gather.calls k G_ a0 a1 (fun k_ => some k_ = (.slice none 0 0 : Value).ownBlock) (.slice none 0 0) ([] : List Int) t471 w _ ?side1 HQa0.out ?side2 A5.out).mono ?_); (case side1 => repeat (first | (with_reducible first | exact HB.out | apply below_alloc | apply pw_below_drewN | apply below_drew1) | exact HB.out)); (case side2 => exact Kd.R_nil _ _ _ _ _); rintro e w6 ⟨v472, rfl, ho0, hb, hkp⟩; refine ⟨_, rfl, ?_⟩; have n0_ := Aside0.mk (Kd.R_mono (ok' := fun k_ => True) ho0 (fun k_ hk_ => trivial)); have n1_ := Aside0.mk (hb); clear HB; have HO473 := n0_; have HB := n1_; clear n0_ n1_; (try clear hb); (try clear hkp); (try clear ho0))); go_ret2
  exact ⟨_, by first | rfl | (simp [errW_none, errW_some] <;> rfl) | (simp [*, errW_none, errW_some] <;> rfl), by (with_reducible repeat (first | apply Kd.R_alloc | apply Kd.R_drewN | apply Kd.R_drew)); exact HO473.out, bX HB⟩
 ·replace c4 := Bool.eq_false_iff.mpr c4
  subst c4
  have H1 : (some (([] : List Int), 3)) = some (r1, r2) := by rw [if_neg (show ¬ (false = true) by decide)] at H; exact H
  clear H; have H := H1; clear H1; simp only [Option.some.injEq, Prod.mk.injEq] at H; obtain ⟨rfl, rfl⟩ := H; go_enter Tryz.func68, Tryz.ntmps68; go_wp2_with (first | ((with_reducible refine gate_callee (f := 51) rfl ?_); refine gX (some 8) Tryz.func51 #[.pointer (some ⟨G_, 0, none⟩), .int .i64 a1] ?_; (with_reducible refine (arbiterref06_In.calls G_ a0 a1 false _ ?side1 A3.out).mono ?_); (case side1 => repeat (first | (with_reducible exact HQa0.out) | (with_reducible refine ROK.alloc ?_ _) | (with_reducible refine ROK.drewN ?_ _) | (with_reducible refine ROK.drew ?_) | exact ROK.below HQa0.out HB.out | exact ROK.below HQa0.out (bX HB))); rintro e w' ⟨rfl, ⟨nd, rfl⟩⟩; refine ⟨_, rfl, ?_⟩)); go_ret2
  exact ⟨_, by first | rfl | (simp [errW_none, errW_some] <;> rfl) | (simp [*, errW_none, errW_some] <;> rfl), by first | exact Kd.R_nil _ _ _ _ _ | exact Kd.N_nil _ _ _ _ _ | exact Kd.V_nil _ _ _ _ _ | exact Kd.Q_nil _ _ _ _ _ | exact Kd.S_nil _ _ _ _ _, bX HB⟩
end Go.Proofs.YtaipkdglhfhhiaaGreatDoor.Pt

namespace Go.Proofs.YtaipkdglhfhhiaaGreatDoor.Pt
open Go.RowKit Go.Proofs.YtaipkdglhfhhiaaGreatDoorW.PrintWords Go.Proofs.YtaipkdglhfhhiaaGreatDoorW.PrintLast Go.Proofs.YtaipkdglhfhhiaaGreatDoorW.PrintMore
attribute [local go_sem] max2_int min2_int max_two min_two max_three min_three max_four min_four   -- for this text's walks alone
set_option linter.unusedVariables false
set_option linter.unusedSimpArgs false
mutual
def arbiterref15_Test.j0 : Nat → List S85 → Int → Int → Bool → Option (Bool × Int × Int)
 | 0, _, _, _, _ => none
 | k + 1, x0, x1, x2, x21 => if x21 = true then (some (false, 0, 3)) else ((arbiterref06_Extends.f k x0 x1 x2).bind fun t494 => ((arbiterref06_IsIface.f x0 x2).bind fun t495 => (if t495 = true then (arbiterref15_Test.j1 k x0 x1 x2 t494 (x1 == x2)) else (arbiterref15_Test.j1 k x0 x1 x2 t494 true))))
def arbiterref15_Test.j1 : Nat → List S85 → Int → Int → Bool → Bool → Option (Bool × Int × Int)
 | 0, _, _, _, _, _ => none
 | k + 1, x0, x1, x2, x6, x34 => if x34 = true then (some (x6, 1, 0)) else ((arbiterref06_Closure.f k x0 x1).bind fun bt496 => (arbiterref15_Test.l0 k x2 x6 1 bt496.1 0))
def arbiterref15_Test.l0 : Nat → Int → Bool → Int → List Int → Int → Option (Bool × Int × Int)
 | 0, _, _, _, _, _ => none
 | k + 1, x2, x6, x7, x9, x11 => if x11 < (x9.length : Int) then (if 0 ≤ x11 then (if (rd x9 x11) = x2 then (some (x6, wrap64 (x7 + 1), 0)) else (arbiterref15_Test.l0 k x2 x6 (wrap64 (x7 + 1)) x9 (wrap64 (x11 + 1)))) else (none)) else (some (x6, x7, 0))
end
def arbiterref15_Test.f (k : Nat) (a0 : List S85) (a1 : Int) (a2 : Int) : Option (Bool × Int × Int) := (arbiterref06_In.f a0 a1).bind fun t492 => (if t492 = true then ((arbiterref06_In.f a0 a2).bind fun t493 => (arbiterref15_Test.j0 k a0 a1 a2 (!t493))) else (arbiterref15_Test.j0 k a0 a1 a2 true))
end Go.Proofs.YtaipkdglhfhhiaaGreatDoor.Pt

namespace Go.Proofs.YtaipkdglhfhhiaaGreatDoor.Pt
open Go.RowKit Go.Proofs.YtaipkdglhfhhiaaGreatDoorW.PrintWords Go.Proofs.YtaipkdglhfhhiaaGreatDoorW.PrintLast Go.Proofs.YtaipkdglhfhhiaaGreatDoorW.PrintMore
attribute [local go_sem] max2_int min2_int max_two min_two max_three min_three max_four min_four   -- for this text's walks alone
set_option linter.unusedVariables false
set_option linter.unusedSimpArgs false
def arbiterref07_IsInt.f (a0_0 : Int) (a0_1 : ByteArray) : Option (Bool) := if a0_0 = 0 then (some (a0_1.toList == ([] : List UInt8))) else (some false)
def arbiterref07_Holder.f (k : Nat) (a0 : List S85) (a1_0 : Int) (a1_1 : ByteArray) : Option (Int × Int) := (arbiterref07_Loaded.f k a0 a1_0 a1_1).bind fun t313 => (if t313 = 0 then ((arbiterref07_IsInt.f a1_0 a1_1).bind fun t314 => (if t314 = true then (some (0, 2)) else (if a1_0 > 0 then (some (0, 0)) else ((arbiterref06_ByName.f k a0 a1_1).bind fun bt315 => (some (bt315.1, 0)))))) else (some (0, t313)))
def arbiterref07_lower.f (a0_0 : Int) (a0_1 : ByteArray) : Option (Int × ByteArray) := some (wrap64 (a0_0 - 1), a0_1)
end Go.Proofs.YtaipkdglhfhhiaaGreatDoor.Pt

namespace Go.Proofs.YtaipkdglhfhhiaaGreatDoor.Pt
open Go.RowKit Go.Proofs.YtaipkdglhfhhiaaGreatDoorW.PrintWords Go.Proofs.YtaipkdglhfhhiaaGreatDoorW.PrintLast Go.Proofs.YtaipkdglhfhhiaaGreatDoorW.PrintMore
attribute [local go_sem] max2_int min2_int max_two min_two max_three min_three max_four min_four   -- for this text's walks alone
set_option linter.unusedVariables false
set_option linter.unusedSimpArgs false
mutual
def arbiterref07_below.j0 : Nat → List S85 → Bool → Int → ByteArray → Int → ByteArray → Option (Bool)
 | 0, _, _, _, _, _, _ => none
 | k + 1, x0, x16, x502000, x502001, x503000, x503001 => if x16 = true then ((arbiterref07_IsInt.f x502000 x502001).bind fun t505 => (if t505 = true then ((arbiterref07_IsInt.f x503000 x503001).bind fun t506 => (some t506)) else (some false))) else (if x502000 = 0 then (arbiterref07_below.j1 k x0 (x503000 == 0) x502000 x502001 x503000 x503001) else (arbiterref07_below.j1 k x0 false x502000 x502001 x503000 x503001))
def arbiterref07_below.j1 : Nat → List S85 → Bool → Int → ByteArray → Int → ByteArray → Option (Bool)
 | 0, _, _, _, _, _, _ => none
 | k + 1, x0, x30, x502000, x502001, x503000, x503001 => if x30 = true then ((arbiterref06_ByName.f k x0 x502001).bind fun bt507 => ((arbiterref06_ByName.f k x0 x503001).bind fun bt509 => ((arbiterref06_Extends.f k x0 bt507.1 bt509.1).bind fun t511 => (some t511)))) else (if x502000 = 0 then (some false) else (if x503000 = 0 then (if x503001.toList = ([79, 98, 106, 101, 99, 116] : List UInt8) then (some true) else (if x503001.toList = ([67, 108, 111, 110, 101, 97, 98, 108, 101] : List UInt8) then (some true) else (some (x503001.toList == ([83, 101, 114, 105, 97, 108, 105, 122, 97, 98, 108, 101] : List UInt8))))) else ((arbiterref07_lower.f x502000 x502001).bind fun bt512 => ((arbiterref07_lower.f x503000 x503001).bind fun bt514 => ((arbiterref07_below.f k x0 bt512.1 bt512.2 bt514.1 bt514.2).bind fun t516 => (some t516))))))
def arbiterref07_below.f : Nat → List S85 → Int → ByteArray → Int → ByteArray → Option (Bool)
 | 0, _, _, _, _, _ => none
 | k + 1, a0, a1_0, a1_1, a2_0, a2_1 => (arbiterref07_IsInt.f a1_0 a1_1).bind fun t503 => (if t503 = true then (arbiterref07_below.j0 k a0 true a1_0 a1_1 a2_0 a2_1) else ((arbiterref07_IsInt.f a2_0 a2_1).bind fun t504 => (arbiterref07_below.j0 k a0 t504 a1_0 a1_1 a2_0 a2_1)))
end
end Go.Proofs.YtaipkdglhfhhiaaGreatDoor.Pt

namespace Go.Proofs.YtaipkdglhfhhiaaGreatDoor.Pt
open Go.RowKit Go.Proofs.YtaipkdglhfhhiaaGreatDoorW.PrintWords Go.Proofs.YtaipkdglhfhhiaaGreatDoorW.PrintLast Go.Proofs.YtaipkdglhfhhiaaGreatDoorW.PrintMore
attribute [local go_sem] max2_int min2_int max_two min_two max_three min_three max_four min_four   -- for this text's walks alone
set_option linter.unusedVariables false
set_option linter.unusedSimpArgs false
def arbiterref07_Sub.f (k : Nat) (a0 : List S85) (a1_0 : Int) (a1_1 : ByteArray) (a2_0 : Int) (a2_1 : ByteArray) : Option (Bool × Int) := (arbiterref07_Loaded.f k a0 a1_0 a1_1).bind fun t519 => (if t519 = 0 then ((arbiterref07_Loaded.f k a0 a2_0 a2_1).bind fun t520 => (if t520 = 0 then ((arbiterref07_below.f k a0 a1_0 a1_1 a2_0 a2_1).bind fun t521 => (some (t521, 0))) else (some (false, t520)))) else (some (false, t519)))
def arbiterref15_TestTypes.j0 : Nat → List S85 → Bool → Bool → Int → ByteArray → Int → ByteArray → Option (Bool × Int × Int)
 | 0, _, _, _, _, _, _, _ => none
 | k + 1, x0, x6, x37, x523000, x523001, x524000, x524001 => if x37 = true then ((arbiterref06_ByName.f k x0 x523001).bind fun bt526 => ((arbiterref06_ByName.f k x0 x524001).bind fun bt528 => ((arbiterref15_Test.f k x0 bt526.1 bt528.1).bind fun bt530 => (some (x6, bt530.2.1, 0))))) else (some (x6, 1, 0))
def arbiterref15_TestTypes.f (k : Nat) (a0 : List S85) (a1_0 : Int) (a1_1 : ByteArray) (a2_0 : Int) (a2_1 : ByteArray) : Option (Bool × Int × Int) := (arbiterref07_Sub.f k a0 a1_0 a1_1 a2_0 a2_1).bind fun bt524 => (if bt524.2 = 0 then (if a1_0 = a2_0 then (if a1_1.toList = ([] : List UInt8) then (arbiterref15_TestTypes.j0 k a0 bt524.1 false a1_0 a1_1 a2_0 a2_1) else (arbiterref15_TestTypes.j0 k a0 bt524.1 (a2_1.toList != ([] : List UInt8)) a1_0 a1_1 a2_0 a2_1)) else (arbiterref15_TestTypes.j0 k a0 bt524.1 false a1_0 a1_1 a2_0 a2_1)) else (some (false, 0, bt524.2)))
def arbiterref06_Depth.f (k : Nat) (a0 : List S85) (a1 : Int) : Option (Int × Int) := (arbiterref06_Chain.f k a0 a1).bind fun bt533 => (if bt533.2 = 0 then (some (wrap64 ((bt533.1.length : Int) - 1), 0)) else (some (0, bt533.2)))
def arbiterref15_Deepest.l0 : Nat → List S85 → Int → Int → Option (Int)
 | 0, _, _, _ => none
 | k + 1, x0, x3, x4 => if x4 < (x0.length : Int) then ((arbiterref06_Depth.f k x0 x4).bind fun bt537 => (if bt537.1 > x3 then (arbiterref15_Deepest.l0 k x0 bt537.1 (wrap64 (x4 + 1))) else (arbiterref15_Deepest.l0 k x0 x3 (wrap64 (x4 + 1))))) else (some x3)
def arbiterref15_Deepest.f (k : Nat) (a0 : List S85) : Option (Int) := arbiterref15_Deepest.l0 k a0 0 0
def arbiterref06_SameNums.l0 : Nat → List Int → List Int → Int → Option (Bool)
 | 0, _, _, _ => none
 | k + 1, x0, x1, x5 => if x5 < (x0.length : Int) then (if 0 ≤ x5 then (if x5 < (x1.length : Int) then (if (rd x0 x5) = (rd x1 x5) then (arbiterref06_SameNums.l0 k x0 x1 (wrap64 (x5 + 1))) else (some false)) else (none)) else (none)) else (some true)
def arbiterref06_SameNums.f (k : Nat) (l0 : List Int) (l1 : List Int) : Option (Bool) := if (l0.length : Int) = (l1.length : Int) then (arbiterref06_SameNums.l0 k l0 l1 0) else (some false)
set_option maxHeartbeats 8000000 in
set_option maxRecDepth 100000 in
theorem arbiterref06_SameNums.calls (k : Nat) (A0 : Option Addr) (c0 : Nat) (l0 : List Int) (A1 : Option Addr) (c1 : Nat) (l1 : List Int) (r : Bool) (w : World) (hr0 : Kd.C (Kd.int .i64) w A0 l0.length l0) (hc0 : l0.length ≤ c0) (hr1 : Kd.C (Kd.int .i64) w A1 l1.length l1) (hc1 : l1.length ≤ c1) (h : arbiterref06_SameNums.f k l0 l1 = some r) :
  Calls Tryz.prog 76 #[.slice A0 l0.length c0, .slice A1 l1.length c1] w fun e w' => e = .returned (.bool r) ∧ Drawn0 w w' := by
 have HR0 := Aside0.mk hr0; have HC0 := Aside0.mk hc0; clear hr0 hc0; have HR1 := Aside0.mk hr1; have HC1 := Aside0.mk hc1; clear hr1 hc1; have H : (if (l0.length : Int) = (l1.length : Int) then (arbiterref06_SameNums.l0 k l0 l1 0) else (some false)) = some r := h; clear h
 by_cases c3 : (l0.length : Int) = (l1.length : Int)
 ·rw [if_pos c3] at H
  have c3b0 : ((l0.length : Int) == (l1.length : Int)) = true := beq_iff_eq.mpr c3; have c3b1 : ((l0.length : Int) != (l1.length : Int)) = false := bne_eq_false_iff_eq.mpr c3
  have c3b2 : (l0.length == l1.length) = true := by first | simpa using c3 | (simp at c3 ⊢; omega)
  clear c3; have H' := Aside0.mk H; clear H; go_enter Tryz.func76, Tryz.ntmps76; go_wp2
  repeat (go_quiet (fail); try go_wp2)
  go_loopg [5] k (fun kq v5 w' => ∃ (x5_1 : Int), v5 = .int .i64 x5_1 ∧ Aside0 (arbiterref06_SameNums.l0 kq l0 l1 x5_1 = some r) ∧ Aside0 (kq ≤ k) ∧ Drawn0 w w')
  case atStart => exact ⟨(0), vX, H', ⟨Nat.le_refl _⟩, by repeat (first | exact Drawn0.refl _ | apply Drawn0.step)⟩
  case round =>
   clear H'
   try clear c1
   try clear p2
   try clear c3
   try clear c3b0
   try clear c3b1
   try clear c3b2
   obtain ⟨x5_1, rfl, HA, HK1, ⟨m1, rfl⟩⟩ := hrel
   cases gk with
   | zero => exact absurd HA.out (by simp [arbiterref06_SameNums.l0])
   | succ k1 =>
    have H := HA.out; clear HA; simp only [arbiterref06_SameNums.l0] at H
    by_cases c4 : x5_1 < (l0.length : Int)
    ·rw [if_pos c4] at H
     have c4b0 : decide (x5_1 < (l0.length : Int)) = true := decide_eq_true c4; clear c4
     by_cases c5 : 0 ≤ x5_1
     ·rw [if_pos c5] at H
      have c5b0 : decide (0 ≤ x5_1) = true := decide_eq_true c5; clear c5
      by_cases c6 : x5_1 < (l1.length : Int)
      ·rw [if_pos c6] at H
       have c6b0 : decide (x5_1 < (l1.length : Int)) = true := decide_eq_true c6; clear c6
       by_cases c7 : (rd l0 x5_1) = (rd l1 x5_1)
       ·rw [if_pos c7] at H
        have c7b0 : ((rd l0 x5_1) == (rd l1 x5_1)) = true := beq_iff_eq.mpr c7; have c7b1 : ((rd l0 x5_1) != (rd l1 x5_1)) = false := bne_eq_false_iff_eq.mpr c7; clear c7; have H' := Aside0.mk H; clear H; have p539 : 0 ≤ (x5_1 : Int) := qX; have q539 : x5_1 < (l0.length : Int) := qX; obtain ⟨ad539, e539, hx539_0⟩ := Kd.at_int HR0.out x5_1 p539 q539
        cases e539
        replace p539 := eq_true p539; replace q539 := eq_true q539; have p540 : 0 ≤ (x5_1 : Int) := qX; have q540 : x5_1 < (l1.length : Int) := qX; obtain ⟨ad540, e540, hx540_0⟩ := Kd.at_int HR1.out x5_1 p540 q540
        cases e540
        replace p540 := eq_true p540; replace q540 := eq_true q540; go_wp2
        repeat (go_quiet (fail); try go_wp2)
        go_roundg k1
        case measure => have := HK1.out; omega
        case rel => exact ⟨(wrap64 (x5_1 + 1)), vX, H', ⟨by have := HK1.out; omega⟩, by repeat (first | exact Drawn0.refl _ | apply Drawn0.step)⟩
       ·rw [if_neg c7] at H
        have c7b0 : ((rd l0 x5_1) == (rd l1 x5_1)) = false := beq_eq_false_iff_ne.mpr c7; have c7b1 : ((rd l0 x5_1) != (rd l1 x5_1)) = true := bne_iff_ne.mpr c7; obtain rfl := Option.some.inj H; have p539 : 0 ≤ (x5_1 : Int) := qX; have q539 : x5_1 < (l0.length : Int) := qX; obtain ⟨ad539, e539, hx539_0⟩ := Kd.at_int HR0.out x5_1 p539 q539
        cases e539
        replace p539 := eq_true p539; replace q539 := eq_true q539; have p540 : 0 ≤ (x5_1 : Int) := qX; have q540 : x5_1 < (l1.length : Int) := qX; obtain ⟨ad540, e540, hx540_0⟩ := Kd.at_int HR1.out x5_1 p540 q540
        cases e540
        replace p540 := eq_true p540; replace q540 := eq_true q540; go_wp2
        repeat (go_quiet (fail); try go_wp2)
        go_ret
        exact ⟨by first | rfl | (simp; done) | (simp [*]; done), by repeat (first | exact Drawn0.refl _ | apply Drawn0.step)⟩
      ·rw [if_neg c6] at H
       exact absurd H (by simp)
     ·rw [if_neg c5] at H
      exact absurd H (by simp)
    ·rw [if_neg c4] at H
     have c4b0 : decide (x5_1 < (l0.length : Int)) = false := decide_eq_false c4; clear c4; obtain rfl := Option.some.inj H; go_wp2
     repeat (go_quiet (fail); try go_wp2)
     go_ret
     exact ⟨by first | rfl | (simp; done) | (simp [*]; done), by repeat (first | exact Drawn0.refl _ | apply Drawn0.step)⟩
 ·rw [if_neg c3] at H
  have c3b0 : ((l0.length : Int) == (l1.length : Int)) = false := beq_eq_false_iff_ne.mpr c3; have c3b1 : ((l0.length : Int) != (l1.length : Int)) = true := bne_iff_ne.mpr c3
  have c3b2 : (l0.length == l1.length) = false := by first | simpa using c3 | (simp at c3 ⊢; omega)
  obtain rfl := Option.some.inj H; go_enter Tryz.func76, Tryz.ntmps76; go_wp2
  repeat (go_quiet (fail); try go_wp2)
  go_ret
  exact ⟨by first | rfl | (simp; done) | (simp [*]; done), by repeat (first | exact Drawn0.refl _ | apply Drawn0.step)⟩
def arbiterref15_Same.f (k : Nat) (l0_0 : List Int) (l0_1 : List Int) (l0_2 : List Int) (l1_0 : List Int) (l1_1 : List Int) (l1_2 : List Int) : Option (Bool) := (arbiterref06_SameNums.f k l0_0 l1_0).bind fun t543 => (if t543 = true then ((arbiterref06_SameNums.f k l0_1 l1_1).bind fun t544 => (if t544 = true then ((arbiterref06_SameNums.f k l0_2 l1_2).bind fun t545 => (some t545)) else (some false))) else (some false))
set_option maxHeartbeats 8000000 in
set_option maxRecDepth 100000 in
theorem arbiterref15_Same.calls (k : Nat) (A0_0 : Option Addr) (c0_0 : Nat) (l0_0 : List Int) (A0_1 : Option Addr) (c0_1 : Nat) (l0_1 : List Int) (A0_2 : Option Addr) (c0_2 : Nat) (l0_2 : List Int) (A1_0 : Option Addr) (c1_0 : Nat) (l1_0 : List Int) (A1_1 : Option Addr) (c1_1 : Nat) (l1_1 : List Int) (A1_2 : Option Addr) (c1_2 : Nat) (l1_2 : List Int) (r : Bool) (w : World) (hr0_0 : Kd.C (Kd.int .i64) w A0_0 l0_0.length l0_0) (hc0_0 : l0_0.length ≤ c0_0) (hr0_1 : Kd.C (Kd.int .i64) w A0_1 l0_1.length l0_1) (hc0_1 : l0_1.length ≤ c0_1) (hr0_2 : Kd.C (Kd.int .i64) w A0_2 l0_2.length l0_2) (hc0_2 : l0_2.length ≤ c0_2) (hr1_0 : Kd.C (Kd.int .i64) w A1_0 l1_0.length l1_0) (hc1_0 : l1_0.length ≤ c1_0) (hr1_1 : Kd.C (Kd.int .i64) w A1_1 l1_1.length l1_1) (hc1_1 : l1_1.length ≤ c1_1) (hr1_2 : Kd.C (Kd.int .i64) w A1_2 l1_2.length l1_2) (hc1_2 : l1_2.length ≤ c1_2) (h : arbiterref15_Same.f k l0_0 l0_1 l0_2 l1_0 l1_1 l1_2 = some r) :
  Calls Tryz.prog 29 #[.agg #[.slice A0_0 l0_0.length c0_0, .slice A0_1 l0_1.length c0_1, .slice A0_2 l0_2.length c0_2], .agg #[.slice A1_0 l1_0.length c1_0, .slice A1_1 l1_1.length c1_1, .slice A1_2 l1_2.length c1_2]] w fun e w' => e = .returned (.bool r) ∧ Below w.heap.size w w' := by
 have hu51 := Tryz.underlying51; have HR0_0 := Aside0.mk hr0_0; have HC0_0 := Aside0.mk hc0_0; clear hr0_0 hc0_0; have HR0_1 := Aside0.mk hr0_1; have HC0_1 := Aside0.mk hc0_1; clear hr0_1 hc0_1; have HR0_2 := Aside0.mk hr0_2; have HC0_2 := Aside0.mk hc0_2; clear hr0_2 hc0_2; have HR1_0 := Aside0.mk hr1_0; have HC1_0 := Aside0.mk hc1_0; clear hr1_0 hc1_0; have HR1_1 := Aside0.mk hr1_1; have HC1_1 := Aside0.mk hc1_1; clear hr1_1 hc1_1; have HR1_2 := Aside0.mk hr1_2; have HC1_2 := Aside0.mk hc1_2; clear hr1_2 hc1_2; have HB := Aside0.mk (Below.refl w.heap.size w); have H : ((arbiterref06_SameNums.f k l0_0 l1_0).bind fun t543 => (if t543 = true then ((arbiterref06_SameNums.f k l0_1 l1_1).bind fun t544 => (if t544 = true then ((arbiterref06_SameNums.f k l0_2 l1_2).bind fun t545 => (some t545)) else (some false))) else (some false))) = some r := h; clear h; replace H := Option.bind_eq_some_iff.mp H; obtain ⟨t543, A30, H⟩ := H; replace H : (if t543 = true then ((arbiterref06_SameNums.f k l0_1 l1_1).bind fun t544 => (if t544 = true then ((arbiterref06_SameNums.f k l0_2 l1_2).bind fun t545 => (some t545)) else (some false))) else (some false)) = some r := H; have A3 := Aside0.mk A30; clear A30
 by_cases c4 : t543 = true
 ·subst c4
  have H1 : ((arbiterref06_SameNums.f k l0_1 l1_1).bind fun t544 => (if t544 = true then ((arbiterref06_SameNums.f k l0_2 l1_2).bind fun t545 => (some t545)) else (some false))) = some r := by rw [if_pos rfl] at H; exact H
  clear H; have H := H1; clear H1; replace H := Option.bind_eq_some_iff.mp H; obtain ⟨t544, A50, H⟩ := H; replace H : (if t544 = true then ((arbiterref06_SameNums.f k l0_2 l1_2).bind fun t545 => (some t545)) else (some false)) = some r := H; have A5 := Aside0.mk A50; clear A50
  by_cases c6 : t544 = true
  ·subst c6
   have H1 : ((arbiterref06_SameNums.f k l0_2 l1_2).bind fun t545 => (some t545)) = some r := by rw [if_pos rfl] at H; exact H
   clear H; have H := H1; clear H1; replace H := Option.bind_eq_some_iff.mp H; obtain ⟨t545, A70, H⟩ := H; replace H : (some t545) = some r := H; have A7 := Aside0.mk A70; clear A70; obtain rfl := Option.some.inj H; go_enter Tryz.func29, Tryz.ntmps29; go_wp2_with (first | ((with_reducible refine gate_dst (N := 2) rfl ?_); refine eX 2 #[.slice A0_0 l0_0.length c0_0, .slice A0_1 l0_1.length c0_1, .slice A0_2 l0_2.length c0_2] 51 ?_; intro gb541 hg w8 hbox hb; have n0_ := Aside0.mk (below_step (bX HB) hb); have n1_ := Aside0.mk (hbox); have n2_ := Aside0.mk ((by rw [hg]; exact (below_size (bX HB)) : w.heap.size ≤ gb541)); have n3_ := Aside0.mk ((by rw [hg]; exact (below_size (bX HB)) : w.heap.size ≤ gb541)); clear HB; have HB := n0_; have BK541 := n1_; have GW541 := n2_; have GE541 := n3_; clear n0_ n1_ n2_ n3_; clear hb hbox hg) | ((with_reducible refine gate_dst (N := 3) rfl ?_); refine eX 3 #[.slice A1_0 l1_0.length c1_0, .slice A1_1 l1_1.length c1_1, .slice A1_2 l1_2.length c1_2] 51 ?_; intro gb542 hg w9 hbox hb; have n0_ := Aside0.mk (blk_below (kX BK541) hb); have n1_ := Aside0.mk (below_step (bX1 HB GE541) hb); have n2_ := Aside0.mk (hbox); have n3_ := Aside0.mk ((by rw [hg]; exact (below_size (bX1 HB GE541)) : w.heap.size ≤ gb542)); have n4_ := Aside0.mk ((by rw [hg]; exact (below_size (bX1 HB GE541)) : w.heap.size ≤ gb542)); have n5_ := Aside0.mk ((by rw [hg]; exact Nat.ne_of_lt (blk_lt (kX BK541)) : gb541 ≠ gb542)); have n6_ := Aside0.mk ((by rw [hg]; exact Nat.ne_of_gt (blk_lt (kX BK541)) : gb542 ≠ gb541)); clear BK541; clear HB; have BK541 := n0_; have HB := n1_; have BK542 := n2_; have GW542 := n3_; have GE542 := n4_; have NB541_542 := n5_; have NB542_541 := n6_; clear n0_ n1_ n2_ n3_ n4_ n5_ n6_; clear hb hbox hg; have hnb10 := NB541_542.out; have hnc10 := NB542_541.out; obtain ⟨hcz11_0, hcz11_1, hcz11_2, hfz11_0, hfz11_1, hfz11_2⟩ := c3X BK541; obtain ⟨hcz12_0, hcz12_1, hcz12_2, hfz12_0, hfz12_1, hfz12_2⟩ := c3X BK542) | ((with_reducible refine gate_callee (f := 76) rfl ?_); refine gX (some 9) Tryz.func76 #[.slice A0_0 l0_0.length c0_0, .slice A1_0 l1_0.length c1_0] ?_; (with_reducible refine (arbiterref06_SameNums.calls k _ _ l0_0 _ _ l1_0 true _ ?side1 ?side2 ?side3 ?side4 A3.out).mono ?_); (case side1 => repeat (first | exact (Kd.C_below HR0_0.out HB.out) | (with_reducible refine Kd.C_alloc ?_ _) | (with_reducible refine Kd.C_drewN ?_ _) | (with_reducible refine Kd.C_drew ?_))); (case side2 => exact HC0_0.out); (case side3 => repeat (first | exact (Kd.C_below HR1_0.out HB.out) | (with_reducible refine Kd.C_alloc ?_ _) | (with_reducible refine Kd.C_drewN ?_ _) | (with_reducible refine Kd.C_drew ?_))); (case side4 => exact HC1_0.out); rintro e w' ⟨rfl, ⟨nd, rfl⟩⟩; refine ⟨_, rfl, ?_⟩) | (go_at_call 76; (with_reducible refine (arbiterref06_SameNums.calls k _ _ l0_1 _ _ l1_1 true _ ?side1 ?side2 ?side3 ?side4 A5.out).mono ?_); (case side1 => repeat (first | exact (Kd.C_below HR0_1.out (bX2 HB GE541 GE542)) | (with_reducible refine Kd.C_alloc ?_ _) | (with_reducible refine Kd.C_drewN ?_ _) | (with_reducible refine Kd.C_drew ?_))); (case side2 => exact HC0_1.out); (case side3 => repeat (first | exact (Kd.C_below HR1_1.out (bX2 HB GE541 GE542)) | (with_reducible refine Kd.C_alloc ?_ _) | (with_reducible refine Kd.C_drewN ?_ _) | (with_reducible refine Kd.C_drew ?_))); (case side4 => exact HC1_1.out); rintro e w' ⟨rfl, ⟨nd, rfl⟩⟩) | (go_at_call 76; (with_reducible refine (arbiterref06_SameNums.calls k _ _ l0_2 _ _ l1_2 t545 _ ?side1 ?side2 ?side3 ?side4 A7.out).mono ?_); (case side1 => repeat (first | exact (Kd.C_below HR0_2.out (bX2 HB GE541 GE542)) | (with_reducible refine Kd.C_alloc ?_ _) | (with_reducible refine Kd.C_drewN ?_ _) | (with_reducible refine Kd.C_drew ?_))); (case side2 => exact HC0_2.out); (case side3 => repeat (first | exact (Kd.C_below HR1_2.out (bX2 HB GE541 GE542)) | (with_reducible refine Kd.C_alloc ?_ _) | (with_reducible refine Kd.C_drewN ?_ _) | (with_reducible refine Kd.C_drew ?_))); (case side4 => exact HC1_2.out); rintro e w' ⟨rfl, ⟨nd, rfl⟩⟩)); go_ret
   exact ⟨by first | rfl | (simp [errW_none, errW_some] <;> rfl) | (simp [*, errW_none, errW_some] <;> rfl), bX2 HB GE541 GE542⟩
  ·replace c6 := Bool.eq_false_iff.mpr c6
   subst c6
   have H1 : (some false) = some r := by rw [if_neg (show ¬ (false = true) by decide)] at H; exact H
   clear H; have H := H1; clear H1; obtain rfl := Option.some.inj H; go_enter Tryz.func29, Tryz.ntmps29; go_wp2_with (first | ((with_reducible refine gate_dst (N := 2) rfl ?_); refine eX 2 #[.slice A0_0 l0_0.length c0_0, .slice A0_1 l0_1.length c0_1, .slice A0_2 l0_2.length c0_2] 51 ?_; intro gb541 hg w13 hbox hb; have n0_ := Aside0.mk (below_step (bX HB) hb); have n1_ := Aside0.mk (hbox); have n2_ := Aside0.mk ((by rw [hg]; exact (below_size (bX HB)) : w.heap.size ≤ gb541)); have n3_ := Aside0.mk ((by rw [hg]; exact (below_size (bX HB)) : w.heap.size ≤ gb541)); clear HB; have HB := n0_; have BK541 := n1_; have GW541 := n2_; have GE541 := n3_; clear n0_ n1_ n2_ n3_; clear hb hbox hg) | ((with_reducible refine gate_dst (N := 3) rfl ?_); refine eX 3 #[.slice A1_0 l1_0.length c1_0, .slice A1_1 l1_1.length c1_1, .slice A1_2 l1_2.length c1_2] 51 ?_; intro gb542 hg w14 hbox hb; have n0_ := Aside0.mk (blk_below (kX BK541) hb); have n1_ := Aside0.mk (below_step (bX1 HB GE541) hb); have n2_ := Aside0.mk (hbox); have n3_ := Aside0.mk ((by rw [hg]; exact (below_size (bX1 HB GE541)) : w.heap.size ≤ gb542)); have n4_ := Aside0.mk ((by rw [hg]; exact (below_size (bX1 HB GE541)) : w.heap.size ≤ gb542)); have n5_ := Aside0.mk ((by rw [hg]; exact Nat.ne_of_lt (blk_lt (kX BK541)) : gb541 ≠ gb542)); have n6_ := Aside0.mk ((by rw [hg]; exact Nat.ne_of_gt (blk_lt (kX BK541)) : gb542 ≠ gb541)); clear BK541; clear HB; have BK541 := n0_; have HB := n1_; have BK542 := n2_; have GW542 := n3_; have GE542 := n4_; have NB541_542 := n5_; have NB542_541 := n6_; clear n0_ n1_ n2_ n3_ n4_ n5_ n6_; clear hb hbox hg; have hnb15 := NB541_542.out; have hnc15 := NB542_541.out; obtain ⟨hcz16_0, hcz16_1, hcz16_2, hfz16_0, hfz16_1, hfz16_2⟩ := c3X BK541; obtain ⟨hcz17_0, hcz17_1, hcz17_2, hfz17_0, hfz17_1, hfz17_2⟩ := c3X BK542) | ((with_reducible refine gate_callee (f := 76) rfl ?_); refine gX (some 9) Tryz.func76 #[.slice A0_0 l0_0.length c0_0, .slice A1_0 l1_0.length c1_0] ?_; (with_reducible refine (arbiterref06_SameNums.calls k _ _ l0_0 _ _ l1_0 true _ ?side1 ?side2 ?side3 ?side4 A3.out).mono ?_); (case side1 => repeat (first | exact (Kd.C_below HR0_0.out HB.out) | (with_reducible refine Kd.C_alloc ?_ _) | (with_reducible refine Kd.C_drewN ?_ _) | (with_reducible refine Kd.C_drew ?_))); (case side2 => exact HC0_0.out); (case side3 => repeat (first | exact (Kd.C_below HR1_0.out HB.out) | (with_reducible refine Kd.C_alloc ?_ _) | (with_reducible refine Kd.C_drewN ?_ _) | (with_reducible refine Kd.C_drew ?_))); (case side4 => exact HC1_0.out); rintro e w' ⟨rfl, ⟨nd, rfl⟩⟩; refine ⟨_, rfl, ?_⟩) | (go_at_call 76; (with_reducible refine (arbiterref06_SameNums.calls k _ _ l0_1 _ _ l1_1 false _ ?side1 ?side2 ?side3 ?side4 A5.out).mono ?_); (case side1 => repeat (first | exact (Kd.C_below HR0_1.out (bX2 HB GE541 GE542)) | (with_reducible refine Kd.C_alloc ?_ _) | (with_reducible refine Kd.C_drewN ?_ _) | (with_reducible refine Kd.C_drew ?_))); (case side2 => exact HC0_1.out); (case side3 => repeat (first | exact (Kd.C_below HR1_1.out (bX2 HB GE541 GE542)) | (with_reducible refine Kd.C_alloc ?_ _) | (with_reducible refine Kd.C_drewN ?_ _) | (with_reducible refine Kd.C_drew ?_))); (case side4 => exact HC1_1.out); rintro e w' ⟨rfl, ⟨nd, rfl⟩⟩)); go_ret
   exact ⟨by first | rfl | (simp [errW_none, errW_some] <;> rfl) | (simp [*, errW_none, errW_some] <;> rfl), bX2 HB GE541 GE542⟩
 ·replace c4 := Bool.eq_false_iff.mpr c4
  subst c4
  have H1 : (some false) = some r := by rw [if_neg (show ¬ (false = true) by decide)] at H; exact H
  clear H; have H := H1; clear H1; obtain rfl := Option.some.inj H; go_enter Tryz.func29, Tryz.ntmps29; go_wp2_with (first | ((with_reducible refine gate_dst (N := 2) rfl ?_); refine eX 2 #[.slice A0_0 l0_0.length c0_0, .slice A0_1 l0_1.length c0_1, .slice A0_2 l0_2.length c0_2] 51 ?_; intro gb541 hg w18 hbox hb; have n0_ := Aside0.mk (below_step (bX HB) hb); have n1_ := Aside0.mk (hbox); have n2_ := Aside0.mk ((by rw [hg]; exact (below_size (bX HB)) : w.heap.size ≤ gb541)); have n3_ := Aside0.mk ((by rw [hg]; exact (below_size (bX HB)) : w.heap.size ≤ gb541)); clear HB; have HB := n0_; have BK541 := n1_; have GW541 := n2_; have GE541 := n3_; clear n0_ n1_ n2_ n3_; clear hb hbox hg) | ((with_reducible refine gate_dst (N := 3) rfl ?_); refine eX 3 #[.slice A1_0 l1_0.length c1_0, .slice A1_1 l1_1.length c1_1, .slice A1_2 l1_2.length c1_2] 51 ?_; intro gb542 hg w19 hbox hb; have n0_ := Aside0.mk (blk_below (kX BK541) hb); have n1_ := Aside0.mk (below_step (bX1 HB GE541) hb); have n2_ := Aside0.mk (hbox); have n3_ := Aside0.mk ((by rw [hg]; exact (below_size (bX1 HB GE541)) : w.heap.size ≤ gb542)); have n4_ := Aside0.mk ((by rw [hg]; exact (below_size (bX1 HB GE541)) : w.heap.size ≤ gb542)); have n5_ := Aside0.mk ((by rw [hg]; exact Nat.ne_of_lt (blk_lt (kX BK541)) : gb541 ≠ gb542)); have n6_ := Aside0.mk ((by rw [hg]; exact Nat.ne_of_gt (blk_lt (kX BK541)) : gb542 ≠ gb541)); clear BK541; clear HB; have BK541 := n0_; have HB := n1_; have BK542 := n2_; have GW542 := n3_; have GE542 := n4_; have NB541_542 := n5_; have NB542_541 := n6_; clear n0_ n1_ n2_ n3_ n4_ n5_ n6_; clear hb hbox hg; have hnb20 := NB541_542.out; have hnc20 := NB542_541.out; obtain ⟨hcz21_0, hcz21_1, hcz21_2, hfz21_0, hfz21_1, hfz21_2⟩ := c3X BK541; obtain ⟨hcz22_0, hcz22_1, hcz22_2, hfz22_0, hfz22_1, hfz22_2⟩ := c3X BK542) | ((with_reducible refine gate_callee (f := 76) rfl ?_); refine gX (some 9) Tryz.func76 #[.slice A0_0 l0_0.length c0_0, .slice A1_0 l1_0.length c1_0] ?_; (with_reducible refine (arbiterref06_SameNums.calls k _ _ l0_0 _ _ l1_0 false _ ?side1 ?side2 ?side3 ?side4 A3.out).mono ?_); (case side1 => repeat (first | exact (Kd.C_below HR0_0.out HB.out) | (with_reducible refine Kd.C_alloc ?_ _) | (with_reducible refine Kd.C_drewN ?_ _) | (with_reducible refine Kd.C_drew ?_))); (case side2 => exact HC0_0.out); (case side3 => repeat (first | exact (Kd.C_below HR1_0.out HB.out) | (with_reducible refine Kd.C_alloc ?_ _) | (with_reducible refine Kd.C_drewN ?_ _) | (with_reducible refine Kd.C_drew ?_))); (case side4 => exact HC1_0.out); rintro e w' ⟨rfl, ⟨nd, rfl⟩⟩; refine ⟨_, rfl, ?_⟩)); go_ret
  exact ⟨by first | rfl | (simp [errW_none, errW_some] <;> rfl) | (simp [*, errW_none, errW_some] <;> rfl), bX2 HB GE541 GE542⟩
end Go.Proofs.YtaipkdglhfhhiaaGreatDoor.Pt

namespace Go.Proofs.YtaipkdglhfhhiaaGreatDoor.Hi
open Go Go.RowKit Go.Proofs.YtaipkdglhfhhiaaGreatDoor.Nm Go.Proofs.YtaipkdglhfhhiaaGreatDoorW.PrintWords Go.Proofs.YtaipkdglhfhhiaaGreatDoorW.PrintLast Go.Proofs.YtaipkdglhfhhiaaGreatDoorW.PrintMore Go.Proofs.YtaipkdglhfhhiaaGreatDoor.Pt
set_option linter.unusedVariables false
set_option linter.unusedSimpArgs false
set_option maxRecDepth 100000
def superF (es : List Ent) (i : Int) : Int × Int := if 0 ≤ i ∧ i < es.length then (if (ent es i).above < 0 then (0, 6) else ((ent es i).above, 0)) else (0, 3)
def depthF (es : List Ent) (i : Int) : Int × Int := if 0 ≤ i ∧ i < es.length then ((ent es i).depth, 0) else (0, 3)
def closureF (es : List Ent) (i : Int) : List Int × Int := if 0 ≤ i ∧ i < es.length then ((ent es i).clo, 0) else ([], 3)
def chainF (es : List Ent) (i : Int) : List Int × Int := if 0 ≤ i ∧ i < es.length then (chL es i, 0) else ([], 3)
def rcL (es : List Ent) (i : Int) : List Int := (chL es i).reverse
def buildF (es : List Ent) (i : Int) : List Int × List Int × List Int × Int := if 0 ≤ i ∧ i < es.length then ((rcL es i).take 8, (rcL es i).drop 8, (ent es i).clo, 0) else ([], [], [], 3)
def atF (p q : List Int) (d : Int) : Int := if d < p.length then p.getD d.toNat 0 else if 8 ≤ d ∧ d - 8 < q.length then q.getD (d - 8).toNat 0 else -1
def scanN (t : Int) : List Int → Int
 | [] => 0
 | x :: l => if x = t then 1 else 1 + scanN t l
def lookF (es : List Ent) (s t : Int) : Bool × Int :=
 if isI (ent es t).c = true ∧ s = t then (true, 1)
 else if isI (ent es t).c = false then (atF (buildF es s).1 (buildF es s).2.1 (ent es t).depth == t, 1)
 else (decide (t ∈ (ent es s).clo), 1 + scanN t (ent es s).clo)
def testF (es : List Ent) (s t : Int) : Bool × Int × Int :=
 if 0 ≤ s ∧ s < es.length then (if 0 ≤ t ∧ t < es.length then ((lookF es s t).1, (lookF es s t).2, 0) else (false, 0, 3)) else (false, 0, 3)
end Go.Proofs.YtaipkdglhfhhiaaGreatDoor.Hi

namespace Go.Proofs.YtaipkdglhfhhiaaGreatDoor.Hi
open Go Go.RowKit Go.Proofs.YtaipkdglhfhhiaaGreatDoor.Nm Go.Proofs.YtaipkdglhfhhiaaGreatDoorW.PrintWords Go.Proofs.YtaipkdglhfhhiaaGreatDoorW.PrintLast Go.Proofs.YtaipkdglhfhhiaaGreatDoorW.PrintMore Go.Proofs.YtaipkdglhfhhiaaGreatDoor.Pt
set_option linter.unusedVariables false
set_option linter.unusedSimpArgs false
set_option maxHeartbeats 2000000
set_option maxRecDepth 100000
theorem depth_any (w : World) (g : Nat) (es : List Ent) (hq : WOK w g es) (i : Int) :
  Calls Tryz.prog 75 #[.pointer (some ⟨g, 0, none⟩), .int .i64 i] w fun e w' => e = .returned (.tuple #[.int .i64 (depthF es i).1, .int .i64 (depthF es i).2]) ∧ Below w.heap.size w w' := by
 generalize hV : depthF es i = V; replace hV := Lib.hid hV; unfold depthF at hV
 by_cases hi : 0 ≤ i ∧ i < es.length
 ·obtain ⟨p, A2, c2, A5, c5, A8, c8, hb, l2, g2, l5, g5, l8, R8, HA⟩ := at_in hq hi.1 hi.2
  rw [if_pos hi] at hV; have CA := Lib.hid (HA w (Below.refl _ _)); generalize ent es i = x at *; replace hb := Lib.hid hb; have hz := hV.out; subst hz; clear HA hq l2 g2 l5 g5 l8 R8 hV; go_enter Tryz.func75, Tryz.ntmps75; go_wp2_with fail; refine CA.out.mono ?_; rintro e w1 ⟨rfl, hb1⟩; have p7 : w1.cell? ⟨p, 7, none⟩ = some (.int .i64 x.depth) := (blk_cell (blk_below hb.out hb1) 7).trans rfl; replace hb1 := Lib.hid hb1; clear CA; go_wp2; go_ret2
  exact ⟨rfl, hb1.out⟩
 ·have CA := Lib.hid (at_out hq hi w (Below.refl _ _))
  rw [if_neg hi] at hV; have hz := hV.out; subst hz; clear hq hV; go_enter Tryz.func75, Tryz.ntmps75; go_wp2_with fail; refine CA.out.mono ?_; rintro e w1 ⟨rfl, hb1⟩; replace hb1 := Lib.hid hb1; clear CA; go_wp2; go_ret2
  exact ⟨rfl, hb1.out⟩
theorem closure_any (w : World) (g : Nat) (es : List Ent) (hq : WOK w g es) (i : Int) :
  Calls Tryz.prog 71 #[.pointer (some ⟨g, 0, none⟩), .int .i64 i] w fun e w' => ∃ v, e = .returned (.tuple #[v, .int .i64 (closureF es i).2]) ∧ Kd.R (Kd.int .i64) 3 w' w.heap.size (fun _ => True) v (closureF es i).1 ∧ Below w.heap.size w w' := by
 generalize hV : closureF es i = V; replace hV := Lib.hid hV; unfold closureF at hV
 by_cases hi : 0 ≤ i ∧ i < es.length
 ·have hcl := (hq.fine _ (List.mem_of_getElem? (get_ent hi.1 hi.2))).2.2
  obtain ⟨p, A2, c2, A5, c5, A8, c8, hb, l2, g2, l5, g5, l8, ⟨base, R8⟩, HA⟩ := at_in hq hi.1 hi.2; rw [if_pos hi] at hV; have CA := Lib.hid (HA w (Below.refl _ _)); generalize ent es i = x at *; have CL := Lib.hid (fun (W : World) (hb : Below w.heap.size w W) => cloneInt A8 c8 x.clo W (Kd.C_below (Kd.R_reads' R8).2.2 hb) (by omega)); replace hb := Lib.hid hb; have hz := hV.out; subst hz; clear HA hq l2 g2 l5 g5 l8 R8 hV; go_enter Tryz.func71, Tryz.ntmps71; go_wp2_with fail; refine CA.out.mono ?_; rintro e w1 ⟨rfl, hb1⟩; have p8 : w1.cell? ⟨p, 8, none⟩ = some (.slice A8 x.clo.length c8) := (blk_cell (blk_below hb.out hb1) 8).trans rfl; have C2 := Lib.hid (CL.out w1 hb1); replace hb1 := Lib.hid hb1; clear CA CL; go_wp2_with fail; refine C2.out.mono ?_; rintro e w2 ⟨v, rfl, R2, hb2⟩; obtain ⟨A9, c9, rfl⟩ := Kd.R_slice R2; have R3 := Lib.hid (Kd.R_lower R2 hb1.out.size); replace hb2 := Lib.hid hb2; clear C2 R2; go_wp2; go_ret2
  exact ⟨_, rfl, R3.out, hb1.out.trans (hb2.out.mono hb1.out.size)⟩
 ·have CA := Lib.hid (at_out hq hi w (Below.refl _ _))
  rw [if_neg hi] at hV; have hz := hV.out; subst hz; clear hq hV; go_enter Tryz.func71, Tryz.ntmps71; go_wp2_with fail; refine CA.out.mono ?_; rintro e w1 ⟨rfl, hb1⟩; replace hb1 := Lib.hid hb1; clear CA; go_wp2; go_ret2
  exact ⟨_, rfl, Kd.R_nil _ _ _ _ _, hb1.out⟩
theorem chain_any (w : World) (g : Nat) (es : List Ent) (hq : WOK w g es) (i : Int) :
  Calls Tryz.prog 69 #[.pointer (some ⟨g, 0, none⟩), .int .i64 i] w fun e w' => ∃ v, e = .returned (.tuple #[v, .int .i64 (chainF es i).2]) ∧ Kd.R (Kd.int .i64) 3 w' w.heap.size (fun _ => True) v (chainF es i).1 ∧ Below w.heap.size w w' := by
 generalize hV : chainF es i = V; replace hV := Lib.hid hV; unfold chainF at hV
 by_cases hi : 0 ≤ i ∧ i < es.length
 ·obtain ⟨p, A2, c2, A5, c5, A8, c8, hb, l2, g2, l5, g5, l8, _, HA⟩ := at_in hq hi.1 hi.2
  rw [if_pos hi] at hV; have CA := Lib.hid (HA w (Below.refl _ _)); have HW := Lib.hid hq; have hlen := hq.len; have hz := hV.out; subst hz; clear HA hb l2 g2 l5 g5 l8 hV; have hgl := Lib.hid hq.inn; clear hq; go_enter Tryz.func69, Tryz.ntmps69; go_wp2
  go_step3
  go_wp2_with fail; refine CA.out.mono ?_; rintro e w1 ⟨rfl, hb1⟩; replace hb1 := Lib.hid hb1; clear CA; go_wp2
  go_step3
  go_wp2
  go_loopw [1, 6] (fun v1 v6 wr => ∃ (c : Int) (acc : List Int), v1 = .int .i64 c ∧ Hid (0 ≤ c ∧ c < es.length) ∧ Hid (Kd.R (Kd.int .i64) 3 wr w.heap.size (fun _ => True) v6 acc) ∧ Hid (acc ++ chL es c = chL es i) ∧ Hid (acc.length + c.toNat ≤ i.toNat) ∧ Hid (Below w.heap.size w wr)) (fun v1 _ _ => (intOf v1).toNat)
  case atStart => exact ⟨i, [], rfl, Lib.hid hi, Lib.hid (Kd.R_nil _ _ _ _ _), Lib.hid rfl, Lib.hid (by simp), hb1⟩
  case round =>
   clear hb1; obtain ⟨c, acc, rfl, hc, hR, hA, hL, hbr⟩ := hrel; obtain ⟨Aa, ca, rfl⟩ := Kd.R_slice hR.out
   have hll : acc.length ≤ 1000 := by
    have h1 := hL.out; have h2 := hc.out
    omega
   obtain ⟨base, v, mb, ps, h⟩ := hgl.out; obtain ⟨Av, cv, rfl⟩ := Kd.R_slice h.row; obtain ⟨hnl, ad, p2, A2', c2', A5', c5', A8', c8', rfl, hrow, hent, _, _, _⟩ := WIn_all_at h hc.out.1 hc.out.2; have hg0 : w.cell? ⟨g, 0, none⟩ = some (.slice (some ad) ps.length cv) := (blk_cell h.blk 0).trans rfl; have u6 : w.cell? ⟨p2, 6, none⟩ = some (.int .i64 (ent es c).above) := (blk_cell hent 6).trans rfl
   have hlt2 : c < (ps.length : Int) := by have := hc.out.2; omega
   have hge2 : 0 ≤ c := hc.out.1; have HT := Lib.hid HW.out.tree; replace hg0 := Lib.hid hg0; replace hrow := Lib.hid hrow; replace u6 := Lib.hid u6; clear h hent; have hll2 : Hid ((acc ++ [c]).length = acc.length + 1) := Lib.hid (by simp)
   by_cases ha : (ent es c).above < 0
   ·have hd : decide ((ent es c).above < 0) = true := decide_eq_true ha
    have hF : Hid (acc ++ [c] = chL es i) := Lib.hid (by rw [← hA.out, chL_top HT.out hc.out.1 hc.out.2 ha]); clear hA; generalize (ent es c).above = ab at *; clear ha; go_wp2_with (at_builtin; refine Kd.R_append (Kd.int .i64) (w0 := w) (W := wr) w.heap.size rfl (.tmp 11) (.tmp 13) 49 3 (.int .i64 0) 8 rfl Tryz.underlying49 info_int rfl (by decide) (by omega) _ acc c [.int .i64 c] (fun _ => True) (fun _ => False) rfl rfl rfl (fun _ h => h.elim) (fun _ _ => trivial) hR.out hbr.out hbr.out.size (by omega) ?_; intro v1 w4 g1 g2 g3 g4; obtain ⟨A12, c12, rfl⟩ := Kd.R_slice g1; rw [hll2.out] at g1; replace g1 := Lib.hid g1; replace g2 := Lib.hid g2; clear g3 g4; have y0 := pw_cell_below g2.out hg0.out; have y1 := pw_cell_below g2.out hrow.out; have y2 := pw_cell_below g2.out u6.out); rw [Exit.noGoto_ret]; go_ret2
    exact ⟨_, rfl, by rw [← hF.out]; exact g1.out, g2.out⟩
   ·have hd : decide ((ent es c).above < 0) = false := decide_eq_false ha
    obtain ⟨e1, e2, e3⟩ := chL_step HT.out hc.out.1 hc.out.2 ha; have hF : Hid ((acc ++ [c]) ++ chL es (ent es c).above = chL es i) := Lib.hid (by rw [← hA.out, e1]; simp); have nr : Hid (0 ≤ (ent es c).above ∧ (ent es c).above < es.length) := Lib.hid ⟨e2, by have := hc.out.2; omega⟩; have nl : Hid ((acc ++ [c]).length + (ent es c).above.toNat ≤ i.toNat) := Lib.hid (by rw [hll2.out]; have := hL.out; omega); clear hA e1; generalize (ent es c).above = ab at *; clear ha; go_wp2_with (at_builtin; refine Kd.R_append (Kd.int .i64) (w0 := w) (W := wr) w.heap.size rfl (.tmp 11) (.tmp 13) 49 3 (.int .i64 0) 8 rfl Tryz.underlying49 info_int rfl (by decide) (by omega) _ acc c [.int .i64 c] (fun _ => True) (fun _ => False) rfl rfl rfl (fun _ h => h.elim) (fun _ _ => trivial) hR.out hbr.out hbr.out.size (by omega) ?_; intro v1 w4 g1 g2 g3 g4; obtain ⟨A12, c12, rfl⟩ := Kd.R_slice g1; rw [hll2.out] at g1; replace g1 := Lib.hid g1; replace g2 := Lib.hid g2; clear g3 g4; have y0 := pw_cell_below g2.out hg0.out; have y1 := pw_cell_below g2.out hrow.out; have y2 := pw_cell_below g2.out u6.out)
    exact ⟨⟨ab, acc ++ [c], rfl, nr, g1, hF, nl, g2⟩, by simp [intOf]; omega⟩
 ·have CA := Lib.hid (at_out hq hi w (Below.refl _ _))
  rw [if_neg hi] at hV; have hz := hV.out; subst hz; clear hq hV; go_enter Tryz.func69, Tryz.ntmps69; go_wp2
  go_step3
  go_wp2_with fail; refine CA.out.mono ?_; rintro e w1 ⟨rfl, hb1⟩; replace hb1 := Lib.hid hb1; clear CA; go_wp2; rw [Exit.noGoto_ret]; go_ret2
  exact ⟨_, rfl, Kd.R_nil _ _ _ _ _, hb1.out⟩
end Go.Proofs.YtaipkdglhfhhiaaGreatDoor.Hi

namespace Go.Proofs.YtaipkdglhfhhiaaGreatDoor.Pt
open Go Go.RowKit Go.Proofs.YtaipkdglhfhhiaaGreatDoor.Nm Go.Proofs.YtaipkdglhfhhiaaGreatDoor.Hi Go.Proofs.YtaipkdglhfhhiaaGreatDoorW.PrintWords Go.Proofs.YtaipkdglhfhhiaaGreatDoorW.PrintLast Go.Proofs.YtaipkdglhfhhiaaGreatDoorW.PrintMore
set_option linter.unusedVariables false
set_option linter.unusedSimpArgs false
def hier_World_Len.f (a0 : List Hi.Ent) : Option Int := some (a0.length : Int)
def hier_World_Super.f (a0 : List Hi.Ent) (a1 : Int) : Option (Int × Int) := some (superF a0 a1)
def hier_World_Depth.f (a0 : List Hi.Ent) (a1 : Int) : Option (Int × Int) := some (depthF a0 a1)
theorem hier_World_Depth.calls (G_ : Nat) (a0 : List Hi.Ent) (a1 : Int) (r1 : Int) (r2 : Int) (w : World) (hq0 : WOK w G_ a0) (h : hier_World_Depth.f a0 a1 = some (r1, r2)) :
  Calls Tryz.prog 75 #[.pointer (some ⟨G_, 0, none⟩), .int .i64 a1] w fun e w' => e = .returned (.tuple #[.int .i64 r1, .int .i64 r2]) ∧ Below w.heap.size w w' := by
 have h := Option.some.inj h
 obtain rfl : (depthF a0 a1).1 = r1 := by rw [h]
 obtain rfl : (depthF a0 a1).2 = r2 := by rw [h]
 exact depth_any w G_ a0 hq0 a1
def hier_World_Closure.f (a0 : List Hi.Ent) (a1 : Int) : Option (List Int × Int) := some (closureF a0 a1)
theorem hier_World_Closure.calls (G_ : Nat) (a0 : List Hi.Ent) (a1 : Int) (r1 : List Int) (r2 : Int) (w : World) (hq0 : WOK w G_ a0) (h : hier_World_Closure.f a0 a1 = some (r1, r2)) :
  Calls Tryz.prog 71 #[.pointer (some ⟨G_, 0, none⟩), .int .i64 a1] w fun e w' => ∃ v0_ : Value, e = .returned (.tuple #[v0_, .int .i64 r2]) ∧ Kd.R (Kd.int .i64) 3 w' w.heap.size (fun _ => True) v0_ r1 ∧ Below w.heap.size w w' := by
 have h := Option.some.inj h
 obtain rfl : (closureF a0 a1).1 = r1 := by rw [h]
 obtain rfl : (closureF a0 a1).2 = r2 := by rw [h]
 exact closure_any w G_ a0 hq0 a1
def hier_World_Chain.f (a0 : List Hi.Ent) (a1 : Int) : Option (List Int × Int) := some (chainF a0 a1)
theorem hier_World_Chain.calls (G_ : Nat) (a0 : List Hi.Ent) (a1 : Int) (r1 : List Int) (r2 : Int) (w : World) (hq0 : WOK w G_ a0) (h : hier_World_Chain.f a0 a1 = some (r1, r2)) :
  Calls Tryz.prog 69 #[.pointer (some ⟨G_, 0, none⟩), .int .i64 a1] w fun e w' => ∃ v0_ : Value, e = .returned (.tuple #[v0_, .int .i64 r2]) ∧ Kd.R (Kd.int .i64) 3 w' w.heap.size (fun _ => True) v0_ r1 ∧ Below w.heap.size w w' := by
 have h := Option.some.inj h
 obtain rfl : (chainF a0 a1).1 = r1 := by rw [h]
 obtain rfl : (chainF a0 a1).2 = r2 := by rw [h]
 exact chain_any w G_ a0 hq0 a1
def slices_Clone_int_int.f (l0 : List Int) : Option (List Int) := if l0.length ≤ 1000000 then some l0 else none
theorem slices_Clone_int_int.calls (A0 : Option Addr) (c0 : Nat) (l0 : List Int) (r : List Int) (w : World) (hr0 : Kd.C (Kd.int .i64) w A0 l0.length l0) (hc0 : l0.length ≤ c0) (h : slices_Clone_int_int.f l0 = some r) :
  Calls Tryz.prog 72 #[.slice A0 l0.length c0] w fun e w' => ∃ v_ : Value, e = .returned v_ ∧ Kd.R (Kd.int .i64) 3 w' w.heap.size (fun _ => True) v_ r ∧ Below w.heap.size w w' := by
 obtain ⟨hl, h⟩ := if_some h; obtain rfl := Option.some.inj h
 exact cloneInt A0 c0 l0 w hr0 (by omega)
end Go.Proofs.YtaipkdglhfhhiaaGreatDoor.Pt

namespace Go.Proofs.YtaipkdglhfhhiaaGreatDoor.Pt
open Go.RowKit Go.Proofs.YtaipkdglhfhhiaaGreatDoorW.PrintWords Go.Proofs.YtaipkdglhfhhiaaGreatDoorW.PrintLast Go.Proofs.YtaipkdglhfhhiaaGreatDoorW.PrintMore
attribute [local go_sem] max2_int min2_int max_two min_two max_three min_three max_four min_four   -- for this text's walks alone
set_option linter.unusedVariables false
set_option linter.unusedSimpArgs false
def display_at.f (l0_0 : List Int) (l0_1 : List Int) (l0_2 : List Int) (a1 : Int) : Option (Int) := if a1 < (l0_0.length : Int) then (if 0 ≤ a1 then (some (rd l0_0 a1)) else (none)) else (if a1 ≥ 8 then (if (wrap64 (a1 - 8)) < (l0_1.length : Int) then (if 0 ≤ (wrap64 (a1 - 8)) then (some (rd l0_1 (wrap64 (a1 - 8)))) else (none)) else (some (-1))) else (some (-1)))
set_option maxHeartbeats 8000000 in
set_option maxRecDepth 100000 in
theorem display_at.calls (A0_0 : Option Addr) (c0_0 : Nat) (l0_0 : List Int) (A0_1 : Option Addr) (c0_1 : Nat) (l0_1 : List Int) (A0_2 : Option Addr) (c0_2 : Nat) (l0_2 : List Int) (a1 : Int) (r : Int) (w : World) (hr0_0 : Kd.C (Kd.int .i64) w A0_0 l0_0.length l0_0) (hc0_0 : l0_0.length ≤ c0_0) (hr0_1 : Kd.C (Kd.int .i64) w A0_1 l0_1.length l0_1) (hc0_1 : l0_1.length ≤ c0_1) (hr0_2 : Kd.C (Kd.int .i64) w A0_2 l0_2.length l0_2) (hc0_2 : l0_2.length ≤ c0_2) (h : display_at.f l0_0 l0_1 l0_2 a1 = some r) :
  Calls Tryz.prog 104 #[.agg #[.slice A0_0 l0_0.length c0_0, .slice A0_1 l0_1.length c0_1, .slice A0_2 l0_2.length c0_2], .int .i64 a1] w fun e w' => e = .returned (.int .i64 r) ∧ Below w.heap.size w w' := by
 have hu51 := Tryz.underlying51; have HR0_0 := Aside0.mk hr0_0; have HC0_0 := Aside0.mk hc0_0; clear hr0_0 hc0_0; have HR0_1 := Aside0.mk hr0_1; have HC0_1 := Aside0.mk hc0_1; clear hr0_1 hc0_1; have HR0_2 := Aside0.mk hr0_2; have HC0_2 := Aside0.mk hc0_2; clear hr0_2 hc0_2; have HB := Aside0.mk (Below.refl w.heap.size w); have H : (if a1 < (l0_0.length : Int) then (if 0 ≤ a1 then (some (rd l0_0 a1)) else (none)) else (if a1 ≥ 8 then (if (wrap64 (a1 - 8)) < (l0_1.length : Int) then (if 0 ≤ (wrap64 (a1 - 8)) then (some (rd l0_1 (wrap64 (a1 - 8)))) else (none)) else (some (-1))) else (some (-1)))) = some r := h; clear h
 by_cases c3 : a1 < (l0_0.length : Int)
 ·rw [if_pos c3] at H
  have c3b0 : decide (a1 < (l0_0.length : Int)) = true := decide_eq_true c3; clear c3
  by_cases c4 : 0 ≤ a1
  ·rw [if_pos c4] at H
   have c4b0 : decide (0 ≤ a1) = true := decide_eq_true c4; clear c4; obtain rfl := Option.some.inj H; go_enter Tryz.func104, Tryz.ntmps104; go_wp2_with (first | ((with_reducible refine gate_dst (N := 2) rfl ?_); (try (refine gate_guard (by rfl) ?_; dsimp only)); refine eX 2 #[.slice A0_0 l0_0.length c0_0, .slice A0_1 l0_1.length c0_1, .slice A0_2 l0_2.length c0_2] 51 ?_; intro gb425 hg w5 hbox hb; have n0_ := Aside0.mk (below_step (bX HB) hb); have n1_ := Aside0.mk (hbox); have n2_ := Aside0.mk ((by rw [hg]; exact (below_size (bX HB)) : w.heap.size ≤ gb425)); have n3_ := Aside0.mk ((by rw [hg]; exact (below_size (bX HB)) : w.heap.size ≤ gb425)); clear HB; have HB := n0_; have BK425 := n1_; have GW425 := n2_; have GE425 := n3_; clear n0_ n1_ n2_ n3_; clear hb hbox hg; obtain ⟨hcz6_0, hcz6_1, hcz6_2, hfz6_0, hfz6_1, hfz6_2⟩ := c3X BK425; have p426 : 0 ≤ (a1 : Int) := qX; have q426 : a1 < (l0_0.length : Int) := qX; obtain ⟨ad426, e426, hx426_0⟩ := Kd.at_int HR0_0.out a1 p426 q426; cases e426; replace hx426_0 := (HB.out.cell (World.block_lt_of_cell? w _ hx426_0)).trans hx426_0; replace p426 := eq_true p426; replace q426 := eq_true q426)); go_ret
   exact ⟨by first | rfl | (simp [errW_none, errW_some] <;> rfl) | (simp [*, errW_none, errW_some] <;> rfl), bX1 HB GE425⟩
  ·rw [if_neg c4] at H
   exact absurd H (by simp)
 ·rw [if_neg c3] at H
  have c3b0 : decide (a1 < (l0_0.length : Int)) = false := decide_eq_false c3; clear c3
  by_cases c7 : a1 ≥ 8
  ·rw [if_pos c7] at H
   have c7b0 : decide (8 ≤ a1) = true := decide_eq_true c7; clear c7
   by_cases c8 : (wrap64 (a1 - 8)) < (l0_1.length : Int)
   ·rw [if_pos c8] at H
    have c8b0 : decide ((wrap64 (a1 - 8)) < (l0_1.length : Int)) = true := decide_eq_true c8; clear c8
    obtain ⟨ji9, hji9⟩ : ∃ j_ : Int, (wrap64 (a1 - 8)) = j_ := ⟨_, rfl⟩
    replace H : (if 0 ≤ (ji9) then (some (rd l0_1 (ji9))) else (none)) = some r := by first | (rw [hji9] at H; exact H) | (simp only [hji9] at H ⊢; exact H)
    (try rw [hji9] at c8b0)
    have hji9w : (IntKind.i64.wrap (a1 - 8)) = ji9 := (i64_w _).trans hji9
    by_cases c10 : 0 ≤ (ji9)
    ·rw [if_pos c10] at H
     have c10b0 : decide (0 ≤ (ji9)) = true := decide_eq_true c10; clear c10; obtain rfl := Option.some.inj H; go_enter Tryz.func104, Tryz.ntmps104; go_wp2_with (first | ((with_reducible refine gate_dst (N := 2) rfl ?_); (try (refine gate_guard (by rfl) ?_; dsimp only)); refine eX 2 #[.slice A0_0 l0_0.length c0_0, .slice A0_1 l0_1.length c0_1, .slice A0_2 l0_2.length c0_2] 51 ?_; intro gb425 hg w11 hbox hb; have n0_ := Aside0.mk (below_step (bX HB) hb); have n1_ := Aside0.mk (hbox); have n2_ := Aside0.mk ((by rw [hg]; exact (below_size (bX HB)) : w.heap.size ≤ gb425)); have n3_ := Aside0.mk ((by rw [hg]; exact (below_size (bX HB)) : w.heap.size ≤ gb425)); clear HB; have HB := n0_; have BK425 := n1_; have GW425 := n2_; have GE425 := n3_; clear n0_ n1_ n2_ n3_; clear hb hbox hg; obtain ⟨hcz12_0, hcz12_1, hcz12_2, hfz12_0, hfz12_1, hfz12_2⟩ := c3X BK425; have p427 : 0 ≤ ((ji9) : Int) := qX; have q427 : (ji9) < (l0_1.length : Int) := qX; obtain ⟨ad427, e427, hx427_0⟩ := Kd.at_int HR0_1.out (ji9) p427 q427; cases e427; replace hx427_0 := (HB.out.cell (World.block_lt_of_cell? w _ hx427_0)).trans hx427_0; replace p427 := eq_true p427; replace q427 := eq_true q427)); go_ret
     exact ⟨by first | rfl | (simp [errW_none, errW_some] <;> rfl) | (simp only [← hji9]; first | rfl | (simp [errW_none, errW_some] <;> rfl)) | (simp [*, errW_none, errW_some] <;> rfl), bX1 HB GE425⟩
    ·rw [if_neg c10] at H
     exact absurd H (by simp)
   ·rw [if_neg c8] at H
    have c8b0 : decide ((wrap64 (a1 - 8)) < (l0_1.length : Int)) = false := decide_eq_false c8; clear c8; obtain rfl := Option.some.inj H; go_enter Tryz.func104, Tryz.ntmps104; go_wp2_with (first | ((with_reducible refine gate_dst (N := 2) rfl ?_); (try (refine gate_guard (by rfl) ?_; dsimp only)); refine eX 2 #[.slice A0_0 l0_0.length c0_0, .slice A0_1 l0_1.length c0_1, .slice A0_2 l0_2.length c0_2] 51 ?_; intro gb425 hg w13 hbox hb; have n0_ := Aside0.mk (below_step (bX HB) hb); have n1_ := Aside0.mk (hbox); have n2_ := Aside0.mk ((by rw [hg]; exact (below_size (bX HB)) : w.heap.size ≤ gb425)); have n3_ := Aside0.mk ((by rw [hg]; exact (below_size (bX HB)) : w.heap.size ≤ gb425)); clear HB; have HB := n0_; have BK425 := n1_; have GW425 := n2_; have GE425 := n3_; clear n0_ n1_ n2_ n3_; clear hb hbox hg; obtain ⟨hcz14_0, hcz14_1, hcz14_2, hfz14_0, hfz14_1, hfz14_2⟩ := c3X BK425)); go_ret
    exact ⟨by first | rfl | (simp [errW_none, errW_some] <;> rfl) | (simp [*, errW_none, errW_some] <;> rfl), bX1 HB GE425⟩
  ·rw [if_neg c7] at H
   have c7b0 : decide (8 ≤ a1) = false := decide_eq_false c7; clear c7; obtain rfl := Option.some.inj H; go_enter Tryz.func104, Tryz.ntmps104; go_wp2_with (first | ((with_reducible refine gate_dst (N := 2) rfl ?_); (try (refine gate_guard (by rfl) ?_; dsimp only)); refine eX 2 #[.slice A0_0 l0_0.length c0_0, .slice A0_1 l0_1.length c0_1, .slice A0_2 l0_2.length c0_2] 51 ?_; intro gb425 hg w15 hbox hb; have n0_ := Aside0.mk (below_step (bX HB) hb); have n1_ := Aside0.mk (hbox); have n2_ := Aside0.mk ((by rw [hg]; exact (below_size (bX HB)) : w.heap.size ≤ gb425)); have n3_ := Aside0.mk ((by rw [hg]; exact (below_size (bX HB)) : w.heap.size ≤ gb425)); clear HB; have HB := n0_; have BK425 := n1_; have GW425 := n2_; have GE425 := n3_; clear n0_ n1_ n2_ n3_; clear hb hbox hg; obtain ⟨hcz16_0, hcz16_1, hcz16_2, hfz16_0, hfz16_1, hfz16_2⟩ := c3X BK425)); go_ret
   exact ⟨by first | rfl | (simp [errW_none, errW_some] <;> rfl) | (simp [*, errW_none, errW_some] <;> rfl), bX1 HB GE425⟩
end Go.Proofs.YtaipkdglhfhhiaaGreatDoor.Pt

namespace Go.Proofs.YtaipkdglhfhhiaaGreatDoor.Pt
open Go.RowKit Go.Proofs.YtaipkdglhfhhiaaGreatDoorW.PrintWords Go.Proofs.YtaipkdglhfhhiaaGreatDoorW.PrintLast Go.Proofs.YtaipkdglhfhhiaaGreatDoorW.PrintMore
attribute [local go_sem] max2_int min2_int max_two min_two max_three min_three max_four min_four   -- for this text's walks alone
set_option linter.unusedVariables false
set_option linter.unusedSimpArgs false
def slices_Reverse_int_int.l0 : Nat → List Int → Int → Int → Option (List Int)
 | 0, _, _, _ => none
 | k + 1, x0, x2, x3 => if x2 < x3 then (if 0 ≤ x3 then (if x3 < (x0.length : Int) then (if 0 ≤ x2 then (if x2 < (x0.length : Int) then (slices_Reverse_int_int.l0 k ((x0.set (x2 : Int).toNat (rd x0 x3)).set (x3 : Int).toNat (rd x0 x2)) (wrap64 (x2 + 1)) (wrap64 (x3 - 1))) else (none)) else (none)) else (none)) else (none)) else (some x0)
def slices_Reverse_int_int.f (k : Nat) (l0 : List Int) : Option (List Int) := slices_Reverse_int_int.l0 k l0 0 (wrap64 ((l0.length : Int) - 1))
def slices_Reverse_int_int.T3 : Bool × List (List Nat × List Nat) := (true, [([], []), ([], []), ([], []), ([], []), ([], []), ([], []), ([4, 5], [4, 5]), ([6], [6]), ([], []), ([], []), ([8, 9], [8, 9]), ([10], [10]), ([0, 1, 0, 1, 4, 5, 6, 7, 11], [0, 1]), ([12, 7, 0, 1, 4, 5, 6, 7, 11], [7, 12]), ([2, 3, 0, 1, 2, 3, 4, 5, 6, 7, 8, 9, 10, 11, 12, 13], [2, 3]), ([14, 11, 13, 0, 1, 2, 3, 4, 5, 6, 7, 8, 9, 10, 11, 12, 13], [11, 14])])
def slices_Reverse_int_int.B3 : List Nat := [0, 0, 0, 0, 0, 0, 48, 112, 0, 0, 768, 1792, 4083, 8179, 16383, 32767]
theorem slices_Reverse_int_int.tab3 : rtab .any (opsOf Tryz.f70 3) = slices_Reverse_int_int.T3 := by kernel_rfl
theorem slices_Reverse_int_int.bits3 : waitsOk slices_Reverse_int_int.T3.2 slices_Reverse_int_int.B3 = true := by kernel_rfl
set_option maxHeartbeats 8000000 in
set_option maxRecDepth 100000 in
theorem slices_Reverse_int_int.calls (k : Nat) (P0_ : Nat → Prop) (u9000_ : Value) (l0 : List Int) (r : List Int) (w0 w : World) (hB : Below w0.heap.size w0 w) (ho0 : Kd.R (Kd.int .i64) 3 w w0.heap.size P0_ u9000_ l0) (h : slices_Reverse_int_int.f k l0 = some r) :
  Calls Tryz.prog 70 #[u9000_] w fun e w' => e = .returned (.tuple #[]) ∧ Kd.R (Kd.int .i64) 3 w' w0.heap.size (fun k_ => (P0_ k_ ∨ w.heap.size ≤ k_)) u9000_ r ∧ Below w0.heap.size w0 w' ∧ Kept w w' (fun k_ => P0_ k_) := by
 have HO0 := Aside0.mk (show Kd.R (Kd.int .i64) 3 w w0.heap.size (fun k_ => (P0_ k_ ∨ w.heap.size ≤ k_)) u9000_ l0 from Kd.R_mono ho0 (fun k_ hk => (.inl hk))); have HK := Aside0.mk (Kept.refl w (fun k_ => P0_ k_)); have HW0 := Aside0.mk hB.size; have HB := Aside0.mk hB; clear hB; have H : (slices_Reverse_int_int.l0 k l0 0 (wrap64 ((l0.length : Int) - 1))) = some r := h; clear h; have H' := Aside0.mk H; clear H; obtain ⟨Ao2, co2, eo2⟩ := Kd.R_slice HO0.out; subst eo2; go_enter Tryz.func70, Tryz.ntmps70; go_wp2
 go_loopg [2, 3] k (fun kq v2 v3 w' => ∃ (x0_1 : List Int) (x2_1 : Int) (x3_1 : Int), v2 = .int .i64 x2_1 ∧ v3 = .int .i64 x3_1 ∧ Aside0 (slices_Reverse_int_int.l0 kq x0_1 x2_1 x3_1 = some r) ∧ Aside0 (kq ≤ k) ∧ Aside0 (Kd.R (Kd.int .i64) 3 w' w0.heap.size (fun k_ => (P0_ k_ ∨ w.heap.size ≤ k_)) (.slice Ao2 l0.length co2) x0_1) ∧ Aside0 (Kept w w' (fun k_ => P0_ k_)) ∧ Aside0 (Below w0.heap.size w0 w'))
 case atStart => exact ⟨(l0), (0), (wrap64 ((l0.length : Int) - 1)), vX, vX, H', ⟨Nat.le_refl _⟩, ⟨rX HO0⟩, ⟨by repeat (first | (with_reducible first | exact HK.out | apply Kept.alloc | apply Kept.drewN | apply Kept.drew) | exact HK.out)⟩, ⟨bX HB⟩⟩
 case round =>
  clear H'
  try clear p2
  obtain ⟨x0_1, x2_1, x3_1, rfl, rfl, HA, HK1, HO_0, HK, HB⟩ := hrel; have hl0_1 := (Kd.R_reads' HO_0.out).1; rw [hl0_1] at HO_0
  (try simp only [hl0_1])
  cases gk with
  | zero => exact absurd HA.out (by simp [slices_Reverse_int_int.l0])
  | succ k1 =>
   have H := HA.out; clear HA; simp only [slices_Reverse_int_int.l0] at H
   by_cases c3 : x2_1 < x3_1
   ·rw [if_pos c3] at H
    have c3b0 : decide (x2_1 < x3_1) = true := decide_eq_true c3; clear c3
    by_cases c4 : 0 ≤ x3_1
    ·rw [if_pos c4] at H
     have c4b0 : decide (0 ≤ x3_1) = true := decide_eq_true c4; clear c4
     by_cases c5 : x3_1 < (x0_1.length : Int)
     ·rw [if_pos c5] at H
      have c5b0 : decide (x3_1 < (x0_1.length : Int)) = true := decide_eq_true c5; clear c5
      by_cases c6 : 0 ≤ x2_1
      ·rw [if_pos c6] at H
       have c6b0 : decide (0 ≤ x2_1) = true := decide_eq_true c6; clear c6
       by_cases c7 : x2_1 < (x0_1.length : Int)
       ·rw [if_pos c7] at H
        have c7b0 : decide (x2_1 < (x0_1.length : Int)) = true := decide_eq_true c7; clear c7
        obtain ⟨y430, hy430⟩ : ∃ y_ : List Int, y_ = (x0_1.set (x2_1 : Int).toNat (rd x0_1 x3_1)) := ⟨_, rfl⟩
        replace H : (slices_Reverse_int_int.l0 k1 (y430.set (x3_1 : Int).toNat (rd x0_1 x2_1)) (wrap64 (x2_1 + 1)) (wrap64 (x3_1 - 1))) = some r := by first | (rw [hy430]; with_reducible exact H) | (have H2_ := (Option.bind_some _ _).symm.trans H; rw [hy430]; with_reducible exact H2_) | (have H2_ := (Option.bind_some _ _).symm.trans H; with_reducible exact H2_) | with_reducible exact H | (rw [hy430]; exact H) | exact H
        have Ny430 := Aside0.mk hy430; clear hy430
        obtain ⟨y431, hy431⟩ : ∃ y_ : List Int, y_ = (y430.set (x3_1 : Int).toNat (rd x0_1 x2_1)) := ⟨_, rfl⟩
        replace H : (slices_Reverse_int_int.l0 k1 y431 (wrap64 (x2_1 + 1)) (wrap64 (x3_1 - 1))) = some r := by first | (rw [hy431]; with_reducible exact H) | (have H2_ := (Option.bind_some _ _).symm.trans H; rw [hy431]; with_reducible exact H2_) | (have H2_ := (Option.bind_some _ _).symm.trans H; with_reducible exact H2_) | with_reducible exact H | (rw [hy431]; exact H) | exact H
        have Ny431 := Aside0.mk hy431; clear hy431; have H' := Aside0.mk H; clear H
        try go_wp2
        have n0_ := Aside0.mk (Kd.R_drew HO_0.out); have n1_ := Aside0.mk (Kept.drew HK.out); have n2_ := Aside0.mk (below_drew1 HB.out); clear HO_0; clear HK; clear HB; have HO_0 := n0_; have HK := n1_; have HB := n2_; clear n0_ n1_ n2_; have p428 : 0 ≤ (x3_1 : Int) := qX; have q428 : x3_1 < (x0_1.length : Int) := qX; obtain ⟨ad428, e428, hx428_0⟩ := Kd.at_int (Kd.R_reads' HO_0.out).2.2 x3_1 p428 q428
        cases e428
        replace p428 := eq_true p428; replace q428 := eq_true q428; have p429 : 0 ≤ (x2_1 : Int) := qX; have q429 : x2_1 < (x0_1.length : Int) := qX; obtain ⟨ad429, e429, hx429_0⟩ := Kd.at_int (Kd.R_reads' HO_0.out).2.2 x2_1 p429 q429
        obtain rfl : ad428 = ad429 := (by injection e429)
        replace p429 := eq_true p429; replace q429 := eq_true q429; have p8 : 0 ≤ (x2_1 : Int) := qX; have q8 : (x2_1 : Int) < ((x0_1.length : Int) : Int) := qX; obtain ⟨go8, co8, eo8, gb8, gl8, cl8, HG8⟩ := Kd.R_form HO_0.out (by omega)
        (first | cases eo8 | (injection eo8 with ea_ en_ ec_; (first | subst ea_ | (injection ea_ with ea_; subst ea_)); subst ec_; clear en_))
        have GB8 := Aside0.mk gb8; have GG8 := Aside0.mk HG8; clear gb8 gl8 HG8; have HMgo8 := Aside0.mk (show (P0_ go8 ∨ w.heap.size ≤ go8) from (HO_0.out.1 _ rfl))
        (first | simp only [add_plain] at hx428_0 | skip)
        (first | simp only [add_plain] at hx429_0 | skip)
        obtain ⟨hx8_0, hf8_0⟩ := Kd.R_celln 0 HO_0.out (x2_1 : Int) p8 q8; replace p8 := eq_true p8; replace q8 := eq_true q8; have HP11 := Kd.R_putn HO_0.out (x2_1 : Int) (rd x0_1 x3_1); rw [← Ny430.out] at HP11; have HQ11 := Aside0.mk HP11; clear HP11; have p9 : 0 ≤ (x3_1 : Int) := qX; have q9 : (x3_1 : Int) < ((x0_1.length : Int) : Int) := qX; obtain ⟨hx9_0, hf9_0⟩ := Kd.R_celln 0 HQ11.out (x3_1 : Int) p9 q9; replace p9 := eq_true p9; replace q9 := eq_true q9; have HP12 := Kd.R_putn HQ11.out (x3_1 : Int) (rd x0_1 x2_1); rw [← Ny431.out] at HP12; have HQ12 := Aside0.mk HP12; clear HP12; refine start_ (n := 16) (S := fun w' => w'.cell? ⟨go8, (x3_1).toNat, none⟩ = some (.int .i64 (rd x0_1 x3_1)) ∧ w'.cell? ⟨go8, (x2_1).toNat, none⟩ = some (.int .i64 (rd x0_1 x2_1))) (ds := [13, 15]) #[false, false, false, false, false, false, false, false, false, false, false, false, false, false, false, false] (by kernel_rfl) rfl rfl ⟨hx428_0, hx429_0⟩ (fun hHeld => ?_); refine with_tabW slices_Reverse_int_int.tab3 slices_Reverse_int_int.bits3 (fun HT_ HW_ => ?_); generalize wr.drew = w10 at HO_0 HK HB GG8 HQ11 HQ12 hf8_0 hf9_0 hx428_0 hx429_0 hx8_0 hx9_0 hHeld ⊢; refine pX HT_ 0 (some 14) ?_; refine pX HT_ 1 (some 15) ?_; refine pX HT_ 2 (some 16) ?_; refine pX HT_ 3 (some 17) ?_; refine pX HT_ 4 (some 18) ?_; refine pX HT_ 5 (some 19) ?_; refine pX HT_ 6 (some 20) ?_; refine pX HT_ 8 (some 22) ?_; refine pX HT_ 9 (some 23) ?_; refine pX HT_ 10 (some 24) ?_; refine tX HT_ HW_ hHeld 7 (some 21) ?_; refine tX HT_ HW_ hHeld 11 (some 25) ?_; refine pX HT_ 12 (some 26) ?_; refine last_ (i := 13) (N := none) #[true, true, true, true, true, true, true, true, true, true, true, true, true, true, false, false] rfl rfl (one_of HT_.out (by kernel_rfl)) (by decide) (fun K hK => ?_); refine skip_ (w1 := ?_) (by rfl) rfl ?_ ?_; rotate_left
        ·go_simp
         rfl
        refine hK.out _ _ ?_; clear hK K; refine pX HT_ 14 (some 27) ?_; refine last_ (i := 15) (N := none) #[true, true, true, true, true, true, true, true, true, true, true, true, true, true, true, true] rfl rfl (one_of HT_.out (by kernel_rfl)) (by decide) (fun K hK => ?_); refine skip_ (w1 := ?_) (by rfl) rfl ?_ ?_; rotate_left
        ·go_simp
         rfl
        refine hK.out _ _ ?_; clear hK K; refine done_ (done_of HT_.out (by kernel_rfl)) ?_
        try go_wp2
        (try simp only [← hl0_1])
        go_roundg k1
        case measure => have := HK1.out; omega
        case rel => exact ⟨(y431), (wrap64 (x2_1 + 1)), (wrap64 (x3_1 - 1)), vX, vX, H', ⟨by have := HK1.out; omega⟩, ⟨by (try simp only [hl0_1]); (with_reducible repeat (first | apply Kd.R_alloc | apply Kd.R_drewN | apply Kd.R_drew)); exact HQ12.out⟩, ⟨by repeat (first | (with_reducible first | exact HK.out | apply Kept.alloc | apply Kept.drewN | apply Kept.drew | refine Kept.setCell ?_ HMgo8.out _ | refine Kept.setCell ?_ HMgo8.out _) | exact HK.out)⟩, ⟨by repeat (first | (with_reducible first | exact HB.out | apply below_alloc | apply pw_below_drewN | apply below_drew1 | refine below_set ?_ GB8.out | refine below_set ?_ GB8.out) | exact HB.out)⟩⟩
       ·rw [if_neg c7] at H
        exact absurd H (by simp)
      ·rw [if_neg c6] at H
       exact absurd H (by simp)
     ·rw [if_neg c5] at H
      exact absurd H (by simp)
    ·rw [if_neg c4] at H
     exact absurd H (by simp)
   ·rw [if_neg c3] at H
    have c3b0 : decide (x2_1 < x3_1) = false := decide_eq_false c3; clear c3; obtain rfl := Option.some.inj H; go_wp2
    first | go_end0 | ((try simp only [Exit.inBlock, Exit.then]); refine bodyPost_ret (results_none rfl _ _ _) rfl ?_)
    exact ⟨by first | rfl | (simp [errW_none, errW_some] <;> rfl) | (simp [*, errW_none, errW_some] <;> rfl), (by first | exact (rX HO_0) | (simp only [hl0_1]; exact (rX HO_0))), bX HB, by repeat (first | (with_reducible first | exact HK.out | apply Kept.alloc | apply Kept.drewN | apply Kept.drew) | exact HK.out)⟩
def display_Build.f (k : Nat) (a0 : List Hi.Ent) (a1 : Int) : Option (List Int × List Int × List Int × Int) := (hier_World_Chain.f a0 a1).bind fun bt433 => (if bt433.2 = 0 then ((slices_Reverse_int_int.f k bt433.1).bind fun t437 => ((hier_World_Closure.f a0 a1).bind fun bt438 => (if 0 ≤ (mn (bt433.1.length : Int) 8) then (if (mn (bt433.1.length : Int) 8) ≤ (bt433.1.length : Int) then ((slices_Clone_int_int.f (t437.take ((mn (bt433.1.length : Int) 8) : Int).toNat)).bind fun t446 => ((slices_Clone_int_int.f (t437.drop ((mn (bt433.1.length : Int) 8) : Int).toNat)).bind fun t453 => (some (t446, t453, bt438.1, 0)))) else (none)) else (none)))) else (some (([] : List Int), ([] : List Int), ([] : List Int), bt433.2)))
def display_Build.T9 : Bool × List (List Nat × List Nat) := (true, [([], []), ([], []), ([0, 1], [0, 1]), ([2], [2]), ([], []), ([], []), ([4, 5], [4, 5]), ([6, 3], [6]), ([], []), ([3, 7, 8], [3, 7, 8]), ([9, 7, 0, 1, 2, 3, 4, 5, 6, 7, 8, 9], [9]), ([10, 0, 1, 2, 3, 4, 5, 6, 7, 8, 9, 10], [])])
def display_Build.B9 : List Nat := [0, 0, 3, 7, 0, 0, 48, 127, 0, 511, 1023, 2047]
theorem display_Build.tab9 : rtab .any (opsOf Tryz.f26 9) = display_Build.T9 := by kernel_rfl
theorem display_Build.bits9 : waitsOk display_Build.T9.2 display_Build.B9 = true := by kernel_rfl
set_option maxHeartbeats 8000000 in
set_option maxRecDepth 100000 in
theorem display_Build.calls (k : Nat) (G_ : Nat) (a0 : List Hi.Ent) (a1 : Int) (r1 : List Int) (r2 : List Int) (r3 : List Int) (r4 : Int) (w : World) (hq0 : WOK w G_ a0) (h : display_Build.f k a0 a1 = some (r1, r2, r3, r4)) :
  Calls Tryz.prog 26 #[.pointer (some ⟨G_, 0, none⟩), .int .i64 a1] w fun e w' => ∃ v0_ v1_ v2_ : Value, e = .returned (.tuple #[.agg #[v0_, v1_, v2_], .int .i64 r4]) ∧ Kd.R (Kd.int .i64) 3 w' w.heap.size (fun k_ => some k_ ≠ (v1_ : Value).ownBlock ∧ some k_ ≠ (v2_ : Value).ownBlock) v0_ r1 ∧ Kd.R (Kd.int .i64) 3 w' w.heap.size (fun k_ => some k_ ≠ (v0_ : Value).ownBlock ∧ some k_ ≠ (v2_ : Value).ownBlock) v1_ r2 ∧ Kd.R (Kd.int .i64) 3 w' w.heap.size (fun k_ => some k_ ≠ (v0_ : Value).ownBlock ∧ some k_ ≠ (v1_ : Value).ownBlock) v2_ r3 ∧ Below w.heap.size w w' := by
 have hu51 := Tryz.underlying51; have HQa0 := Aside0.mk hq0; clear hq0; have HB := Aside0.mk (Below.refl w.heap.size w); have H : ((hier_World_Chain.f a0 a1).bind fun bt433 => (if bt433.2 = 0 then ((slices_Reverse_int_int.f k bt433.1).bind fun t437 => ((hier_World_Closure.f a0 a1).bind fun bt438 => (if 0 ≤ (mn (bt433.1.length : Int) 8) then (if (mn (bt433.1.length : Int) 8) ≤ (bt433.1.length : Int) then ((slices_Clone_int_int.f (t437.take ((mn (bt433.1.length : Int) 8) : Int).toNat)).bind fun t446 => ((slices_Clone_int_int.f (t437.drop ((mn (bt433.1.length : Int) 8) : Int).toNat)).bind fun t453 => (some (t446, t453, bt438.1, 0)))) else (none)) else (none)))) else (some (([] : List Int), ([] : List Int), ([] : List Int), bt433.2)))) = some (r1, r2, r3, r4) := h; clear h; replace H := Option.bind_eq_some_iff.mp H; obtain ⟨⟨t433, t434⟩, A30, H⟩ := H; replace H : (if t434 = 0 then ((slices_Reverse_int_int.f k t433).bind fun t437 => ((hier_World_Closure.f a0 a1).bind fun bt438 => (if 0 ≤ (mn (t433.length : Int) 8) then (if (mn (t433.length : Int) 8) ≤ (t433.length : Int) then ((slices_Clone_int_int.f (t437.take ((mn (t433.length : Int) 8) : Int).toNat)).bind fun t446 => ((slices_Clone_int_int.f (t437.drop ((mn (t433.length : Int) 8) : Int).toNat)).bind fun t453 => (some (t446, t453, bt438.1, 0)))) else (none)) else (none)))) else (some (([] : List Int), ([] : List Int), ([] : List Int), t434))) = some (r1, r2, r3, r4) := H; have A3 := Aside0.mk A30; clear A30
 by_cases c4 : t434 = 0
 ·rw [if_pos c4] at H
  have c4b0 : (t434 == 0) = true := beq_iff_eq.mpr c4; have c4b1 : (t434 != 0) = false := bne_eq_false_iff_eq.mpr c4; clear c4; replace H := Option.bind_eq_some_iff.mp H; obtain ⟨t437, A50, H⟩ := H; replace H : ((hier_World_Closure.f a0 a1).bind fun bt438 => (if 0 ≤ (mn (t433.length : Int) 8) then (if (mn (t433.length : Int) 8) ≤ (t433.length : Int) then ((slices_Clone_int_int.f (t437.take ((mn (t433.length : Int) 8) : Int).toNat)).bind fun t446 => ((slices_Clone_int_int.f (t437.drop ((mn (t433.length : Int) 8) : Int).toNat)).bind fun t453 => (some (t446, t453, bt438.1, 0)))) else (none)) else (none))) = some (r1, r2, r3, r4) := H; have A5 := Aside0.mk A50; clear A50
  obtain ⟨ji6, hji6⟩ : ∃ j_ : Int, (mn (t433.length : Int) 8) = j_ := ⟨_, rfl⟩
  replace H : ((hier_World_Closure.f a0 a1).bind fun bt438 => (if 0 ≤ (ji6) then (if (ji6) ≤ (t433.length : Int) then ((slices_Clone_int_int.f (t437.take ((ji6) : Int).toNat)).bind fun t446 => ((slices_Clone_int_int.f (t437.drop ((ji6) : Int).toNat)).bind fun t453 => (some (t446, t453, bt438.1, 0)))) else (none)) else (none))) = some (r1, r2, r3, r4) := by first | (rw [hji6] at H; exact H) | (simp only [hji6] at H ⊢; exact H)
  (try rw [hji6] at A3)
  (try rw [hji6] at A5)
  (try (have hji6h : ji6 ≤ 8 := by (rw [← hji6]; unfold mn; (repeat' split) <;> omega)))
  (try (have hji6g : ji6 ≤ 64 := by omega))
  (try (have hji6l : 0 ≤ ji6 := by (rw [← hji6]; unfold mn; (repeat' split) <;> omega)))
  (try (have hji6m : 0 ≤ ji6 := by omega))
  have hji6_ : (if 8 < (t433.length : Int) then 8 else (t433.length : Int)) = ji6 := hji6; replace H := Option.bind_eq_some_iff.mp H; obtain ⟨⟨t438, t439⟩, A70, H⟩ := H; replace H : (if 0 ≤ (ji6) then (if (ji6) ≤ (t433.length : Int) then ((slices_Clone_int_int.f (t437.take ((ji6) : Int).toNat)).bind fun t446 => ((slices_Clone_int_int.f (t437.drop ((ji6) : Int).toNat)).bind fun t453 => (some (t446, t453, t438, 0)))) else (none)) else (none)) = some (r1, r2, r3, r4) := H; have A7 := Aside0.mk A70; clear A70
  by_cases c8 : 0 ≤ (ji6)
  ·rw [if_pos c8] at H
   have c8b0 := eq_true c8; have c8b1 : decide (0 ≤ (ji6)) = true := decide_eq_true c8; clear c8
   by_cases c9 : (ji6) ≤ (t433.length : Int)
   ·rw [if_pos c9] at H
    have c9b0 := eq_true c9; have c9b1 : decide ((ji6) ≤ (t433.length : Int)) = true := decide_eq_true c9; clear c9
    obtain ⟨y442, hy442⟩ : ∃ y_ : List Int, y_ = (t437.take ((ji6) : Int).toNat) := ⟨_, rfl⟩
    replace H : ((slices_Clone_int_int.f y442).bind fun t446 => ((slices_Clone_int_int.f (t437.drop ((ji6) : Int).toNat)).bind fun t453 => (some (t446, t453, t438, 0)))) = some (r1, r2, r3, r4) := by first | (rw [hy442]; with_reducible exact H) | (have H2_ := (Option.bind_some _ _).symm.trans H; rw [hy442]; with_reducible exact H2_) | (have H2_ := (Option.bind_some _ _).symm.trans H; with_reducible exact H2_) | with_reducible exact H | (rw [hy442]; exact H) | exact H
    have Ny442 := Aside0.mk hy442; clear hy442; replace H := Option.bind_eq_some_iff.mp H; obtain ⟨t446, A100, H⟩ := H; replace H : ((slices_Clone_int_int.f (t437.drop ((ji6) : Int).toNat)).bind fun t453 => (some (t446, t453, t438, 0))) = some (r1, r2, r3, r4) := H; have A10 := Aside0.mk A100; clear A100; have c11b0 := eq_true (qX : 0 ≤ (ji6)); have c12b0 := eq_true (qX : (ji6) ≤ (t433.length : Int))
    obtain ⟨y449, hy449⟩ : ∃ y_ : List Int, y_ = (t437.drop ((ji6) : Int).toNat) := ⟨_, rfl⟩
    replace H : ((slices_Clone_int_int.f y449).bind fun t453 => (some (t446, t453, t438, 0))) = some (r1, r2, r3, r4) := by first | (rw [hy449]; with_reducible exact H) | (have H2_ := (Option.bind_some _ _).symm.trans H; rw [hy449]; with_reducible exact H2_) | (have H2_ := (Option.bind_some _ _).symm.trans H; with_reducible exact H2_) | with_reducible exact H | (rw [hy449]; exact H) | exact H
    have Ny449 := Aside0.mk hy449; clear hy449; replace H := Option.bind_eq_some_iff.mp H; obtain ⟨t453, A130, H⟩ := H; replace H : (some (t446, t453, t438, 0)) = some (r1, r2, r3, r4) := H; have A13 := Aside0.mk A130; clear A130; simp only [Option.some.injEq, Prod.mk.injEq] at H; obtain ⟨rfl, rfl, rfl, rfl⟩ := H; go_enter Tryz.func26, Tryz.ntmps26
    try go_wp2_with (first | ((with_reducible refine gate_dst (N := 4) rfl ?_); refine eX 4 #[.slice none 0 0, .slice none 0 0, .slice none 0 0] 51 ?_; intro gb432 hg w14 hbox hb; have n0_ := Aside0.mk (below_step (bX HB) hb); have n1_ := Aside0.mk (hbox); have n2_ := Aside0.mk ((by rw [hg]; exact (below_size (bX HB)) : w.heap.size ≤ gb432)); have n3_ := Aside0.mk ((by rw [hg]; exact (below_size (bX HB)) : w.heap.size ≤ gb432)); clear HB; have HB := n0_; have BK432 := n1_; have GW432 := n2_; have GE432 := n3_; clear n0_ n1_ n2_ n3_; clear hb hbox hg) | ((with_reducible refine gate_callee (f := 69) rfl ?_); refine gX (some 17) Tryz.func69 #[.pointer (some ⟨G_, 0, none⟩), .int .i64 a1] ?_; (with_reducible refine (hier_World_Chain.calls G_ a0 a1 t433 t434 _ ?side1 A3.out).mono ?_); (case side1 => repeat (first | (with_reducible exact HQa0.out) | (with_reducible refine WOK.alloc ?_ _) | (with_reducible refine WOK.drewN ?_ _) | (with_reducible refine WOK.drew ?_) | exact WOK.below HQa0.out HB.out | exact WOK.below HQa0.out (bX1 HB GE432))); rintro e w15 ⟨v435, rfl, ho0, hb⟩; refine ⟨_, rfl, ?_⟩; have n0_ := Aside0.mk (Kd.R_lower ho0 (below_size (bX1 HB GE432))); have n1_ := Aside0.mk (blk_below (kX BK432) hb); have n2_ := Aside0.mk (below_step (bX1 HB GE432) hb); clear BK432; clear HB; have HO436 := n0_; have BK432 := n1_; have HB := n2_; clear n0_ n1_ n2_; (try clear hb); (try clear hb2); (try clear hk); (try clear hi); (try clear ho0); obtain ⟨Ao16, co16, eo16⟩ := Kd.R_slice HO436.out; subst eo16) | ((with_reducible refine gate_callee (f := 70) rfl ?_); refine gX (some 25) Tryz.func70 #[.slice Ao16 t433.length co16] ?_; (with_reducible refine (slices_Reverse_int_int.calls k (fun k_ => some k_ = (.slice Ao16 t433.length co16 : Value).ownBlock) (.slice Ao16 t433.length co16) t433 t437 w _ ?side1 ?side2 A5.out).mono ?_); (case side1 => repeat (first | (with_reducible first | exact HB.out | apply below_alloc | apply pw_below_drewN | apply below_drew1 | refine below_set ?_ GE432.out) | exact HB.out)); (case side2 => exact Kd.R_tight rfl HO436.out); rintro e w17 ⟨rfl, hy0, hb, hkp⟩; refine ⟨_, rfl, ?_⟩; have n0_ := Aside0.mk (blk_kept (kX BK432) hkp (fun hs_ => (fun e_ => (Kd.R_ne HO436.out BK432.out (by decide)) e_) hs_)); have n1_ := Aside0.mk (Kd.R_reok rfl hy0 (fun k_ e_ => HO436.out.1 k_ e_)); have n2_ := Aside0.mk (hb); clear BK432; clear HO436; clear HB; have BK432 := n0_; have HO436 := n1_; have HB := n2_; clear n0_ n1_ n2_; (try clear hb); (try clear hkp); (try clear hy0)) | ((with_reducible refine gate_callee (f := 71) rfl ?_); refine gX (some 32) Tryz.func71 #[.pointer (some ⟨G_, 0, none⟩), .int .i64 a1] ?_; (with_reducible refine (hier_World_Closure.calls G_ a0 a1 t438 t439 _ ?side1 A7.out).mono ?_); (case side1 => repeat (first | (with_reducible exact HQa0.out) | (with_reducible refine WOK.alloc ?_ _) | (with_reducible refine WOK.drewN ?_ _) | (with_reducible refine WOK.drew ?_) | exact WOK.below HQa0.out HB.out | exact WOK.below HQa0.out (bX1 HB GE432))); rintro e w18 ⟨v440, rfl, ho0, hb⟩; refine ⟨_, rfl, ?_⟩; have n0_ := Aside0.mk (Kd.R_elder' (rX HO436) (Kd.R_base ho0) hb); have n1_ := Aside0.mk (Kd.R_lower (Kd.R_new' ho0 (Kd.R_lt (rX HO436))) (below_size (bX1 HB GE432))); have n2_ := Aside0.mk (blk_below (kX BK432) hb); have n3_ := Aside0.mk (below_step (bX1 HB GE432) hb); clear HO436; clear BK432; clear HB; have HO436 := n0_; have HO441 := n1_; have BK432 := n2_; have HB := n3_; clear n0_ n1_ n2_ n3_; (try clear hb); (try clear hb2); (try clear hk); (try clear hi); (try clear ho0)))
    have n0_ := Aside0.mk (Kd.R_drew HO436.out); have n1_ := Aside0.mk (Kd.R_drew HO441.out); have n2_ := Aside0.mk (blk_drew BK432.out); have n3_ := Aside0.mk (below_drew1 HB.out); clear HO436; clear HO441; clear BK432; clear HB; have HO436 := n0_; have HO441 := n1_; have BK432 := n2_; have HB := n3_; clear n0_ n1_ n2_ n3_; have hlx20 := (Kd.R_reads' HO436.out).1; have q20 : ((ji6) : Int) ≤ ((t433.length : Int) : Int) := qX; obtain ⟨i020, hi020, _, hsz20, _⟩ := info_parts info3; have hroom20 : t433.length ≤ co16 := (Kd.R_reads' HO436.out).2.1
    have hroomc20 : t437.length ≤ co16 := (by rw [← hlx20]; exact hroom20)
    have hC20 : Kd.C (Kd.int .i64) _ Ao16 t437.length t437 := (Kd.R_reads' HO436.out).2.2; have hcut20 := cut_to (P := Tryz.prog) 49 3 .i64 Tryz.underlying49 hi020 Ao16 t433.length co16 (ji6) (qX) q20 hroom20; have hr20 := Kd.C_take (m := ((ji6) : Int).toNat) hC20 (by omega)
    have hy20 : y442.length = ((ji6) : Int).toNat := (by rw [Ny442.out, List.length_take]; omega)
    rw [← Ny442.out] at hr20; rw [← hy20] at hcut20; have HR445 := Aside0.mk hr20; have HC445 := Aside0.mk (show y442.length ≤ co16 from by omega); clear hr20 hC20 hroom20 hi020 hsz20 hroomc20; have KY20 := Aside0.mk hy20; clear hy20; have KE20 := Aside0.mk hlx20; have KL20 := Aside0.mk (show ((ji6) : Int).toNat ≤ t437.length from by omega); clear hlx20; replace q20 := eq_true q20; have hlx21 := (Kd.R_reads' HO436.out).1; have q21 : ((ji6) : Int) ≤ ((t433.length : Int) : Int) := qX; obtain ⟨i021, hi021, _, hsz21, _⟩ := info_parts info3; have hroom21 : t433.length ≤ co16 := (Kd.R_reads' HO436.out).2.1
    have hroomc21 : t437.length ≤ co16 := (by rw [← hlx21]; exact hroom21)
    have hC21 : Kd.C (Kd.int .i64) _ Ao16 t437.length t437 := (Kd.R_reads' HO436.out).2.2; have q021 : (0 : Int) ≤ ((ji6) : Int) := qX; have hcut21 := cut_from (P := Tryz.prog) 49 3 .i64 Tryz.underlying49 hi021 1 hsz21 Ao16 t433.length co16 (ji6) q021 q21; have hr21 := Kd.C_drop (m := ((ji6) : Int).toNat) (c := co16) hC21 (by omega) hroomc21
    obtain ⟨A21, hA21⟩ : ∃ A1, A1 = (if co16 = ((ji6) : Int).toNat then Ao16 else (Ao16 : Option Addr).map (·.add (((ji6) : Int).toNat * 1))) := ⟨_, rfl⟩
    obtain ⟨c21, hc21⟩ : ∃ c1, c1 = co16 - ((ji6) : Int).toNat := ⟨_, rfl⟩
    have hy21 : y449.length = t433.length - ((ji6) : Int).toNat := (by rw [Ny449.out, List.length_drop] <;> omega)
    rw [show (t437).drop ((ji6) : Int).toNat = y449 from Ny449.out.symm] at hr21
    replace hr21 : Kd.C (Kd.int .i64) _ A21 y449.length y449 := (by rw [hA21]; exact hr21)
    rw [← hy21, ← hA21, ← hc21] at hcut21; have HR452 := Aside0.mk hr21; have HC452 := Aside0.mk (show y449.length ≤ c21 from by rw [hy21, hc21]; exact Nat.sub_le_sub_right hroom21 _); clear hr21 hC21 hroom21 hi021 hsz21 hc21 hroomc21; have KY21 := Aside0.mk hy21; have KA21 := Aside0.mk hA21; clear hy21 hA21; have KE21 := Aside0.mk hlx21; have KL21 := Aside0.mk (show ((ji6) : Int).toNat ≤ t437.length from by omega); clear hlx21; replace q21 := eq_true q21; refine start_ (n := 12) (S := fun w' => True) (ds := []) #[false, false, false, false, false, false, false, false, false, false, false, false] (by kernel_rfl) rfl rfl trivial (fun hHeld => ?_); refine with_tabW display_Build.tab9 display_Build.bits9 (fun HT_ HW_ => ?_); generalize w18.drew = w19 at HO436 HO441 BK432 HB HR445 HR452 hHeld ⊢; refine pX HT_ 0 (some 35) ?_; refine pX HT_ 1 (some 36) ?_; refine pX HT_ 2 (some 37) ?_; refine pX HT_ 4 (some 39) ?_; refine pX HT_ 5 (some 40) ?_; refine pX HT_ 6 (some 41) ?_; refine pX HT_ 8 (some 43) ?_; refine oX HT_ 3 (some 38) (fun K hK => ?_); refine hX Tryz.func72 #[.slice Ao16 y442.length co16] ?_
    with_reducible refine (slices_Clone_int_int.calls _ _ y442 t446 _ ?side1 ?side2 A10.out).mono ?_
    (case side1 => repeat (first | exact (by repeat (first | (with_reducible exact HR445.out) | (with_reducible refine Kd.C_alloc ?_ _) | (with_reducible refine Kd.C_drewN ?_ _) | (with_reducible refine Kd.C_drew ?_) | exact HR445.out)) | (with_reducible refine Kd.C_alloc ?_ _) | (with_reducible refine Kd.C_drewN ?_ _) | (with_reducible refine Kd.C_drew ?_)))
    (case side2 => exact HC445.out)
    rintro e w22 ⟨v447, rfl, ho0, hb⟩; refine ⟨_, rfl, ?_⟩; have n0_ := Aside0.mk (Kd.R_elder' (rX HO436) (Kd.R_base ho0) hb); have n1_ := Aside0.mk (Kd.R_elder' (rX HO441) (Kd.R_base ho0) hb); have n2_ := Aside0.mk (Kd.R_lower (Kd.R_new' (Kd.R_new' ho0 (Kd.R_lt (rX HO436))) (Kd.R_lt (rX HO441))) (below_size (bX1 HB GE432))); have n3_ := Aside0.mk (blk_below (kX BK432) hb); have n4_ := Aside0.mk (Kd.C_below (by repeat (first | (with_reducible exact HR445.out) | (with_reducible refine Kd.C_alloc ?_ _) | (with_reducible refine Kd.C_drewN ?_ _) | (with_reducible refine Kd.C_drew ?_) | exact HR445.out)) hb); have n5_ := Aside0.mk (Kd.C_below (by repeat (first | (with_reducible exact HR452.out) | (with_reducible refine Kd.C_alloc ?_ _) | (with_reducible refine Kd.C_drewN ?_ _) | (with_reducible refine Kd.C_drew ?_) | exact HR452.out)) hb); have n6_ := Aside0.mk (below_step (bX1 HB GE432) hb); clear HO436; clear HO441; clear BK432; clear HR445; clear HR452; clear HB; have HO436 := n0_; have HO441 := n1_; have HO448 := n2_; have BK432 := n3_; have HR445 := n4_; have HR452 := n5_; have HB := n6_; clear n0_ n1_ n2_ n3_ n4_ n5_ n6_
    (try clear hb)
    (try clear hb2)
    (try clear hk)
    (try clear hi)
    (try clear ho0)
    refine hK.out _ _ trivial (fun hHeld => ?_); clear hK K; refine nX (some 38) ?_; refine oX HT_ 7 (some 42) (fun K hK => ?_); refine hX Tryz.func72 #[.slice A21 y449.length c21] ?_
    with_reducible refine (slices_Clone_int_int.calls _ _ y449 t453 _ ?side1 ?side2 A13.out).mono ?_
    (case side1 => repeat (first | exact (by repeat (first | (with_reducible exact HR452.out) | (with_reducible refine Kd.C_alloc ?_ _) | (with_reducible refine Kd.C_drewN ?_ _) | (with_reducible refine Kd.C_drew ?_) | exact HR452.out)) | (with_reducible refine Kd.C_alloc ?_ _) | (with_reducible refine Kd.C_drewN ?_ _) | (with_reducible refine Kd.C_drew ?_)))
    (case side2 => exact HC452.out)
    rintro e w23 ⟨v454, rfl, ho0, hb⟩; refine ⟨_, rfl, ?_⟩; have n0_ := Aside0.mk (Kd.R_elder' (rX HO436) (Kd.R_base ho0) hb); have n1_ := Aside0.mk (Kd.R_elder' (rX HO441) (Kd.R_base ho0) hb); have n2_ := Aside0.mk (Kd.R_elder' (rX HO448) (Kd.R_base ho0) hb); have n3_ := Aside0.mk (Kd.R_lower (Kd.R_new' (Kd.R_new' (Kd.R_new' ho0 (Kd.R_lt (rX HO436))) (Kd.R_lt (rX HO441))) (Kd.R_lt (rX HO448))) (below_size (bX1 HB GE432))); have n4_ := Aside0.mk (blk_below (kX BK432) hb); have n5_ := Aside0.mk (Kd.C_below (by repeat (first | (with_reducible exact HR445.out) | (with_reducible refine Kd.C_alloc ?_ _) | (with_reducible refine Kd.C_drewN ?_ _) | (with_reducible refine Kd.C_drew ?_) | exact HR445.out)) hb); have n6_ := Aside0.mk (Kd.C_below (by repeat (first | (with_reducible exact HR452.out) | (with_reducible refine Kd.C_alloc ?_ _) | (with_reducible refine Kd.C_drewN ?_ _) | (with_reducible refine Kd.C_drew ?_) | exact HR452.out)) hb); have n7_ := Aside0.mk (below_step (bX1 HB GE432) hb); clear HO436; clear HO441; clear HO448; clear BK432; clear HR445; clear HR452; clear HB; have HO436 := n0_; have HO441 := n1_; have HO448 := n2_; have HO455 := n3_; have BK432 := n4_; have HR445 := n5_; have HR452 := n6_; have HB := n7_; clear n0_ n1_ n2_ n3_ n4_ n5_ n6_ n7_
    (try clear hb)
    (try clear hb2)
    (try clear hk)
    (try clear hi)
    (try clear ho0)
    obtain ⟨Ao24, co24, eo24⟩ := Kd.R_slice HO441.out
    (first | subst eo24 | (injection eo24 with f1_ f2_ f3_; have f4_ := f1_.symm; have f5_ := f3_.symm; clear f1_ f2_ f3_; subst f4_; subst f5_))
    obtain ⟨Ao25, co25, eo25⟩ := Kd.R_slice HO455.out
    (first | subst eo25 | (injection eo25 with f1_ f2_ f3_; have f4_ := f1_.symm; have f5_ := f3_.symm; clear f1_ f2_ f3_; subst f4_; subst f5_))
    obtain ⟨Ao26, co26, eo26⟩ := Kd.R_slice HO448.out
    (first | subst eo26 | (injection eo26 with f1_ f2_ f3_; have f4_ := f1_.symm; have f5_ := f3_.symm; clear f1_ f2_ f3_; subst f4_; subst f5_))
    refine hK.out _ _ trivial (fun hHeld => ?_); clear hK K; refine nX (some 42) ?_; refine pX HT_ 9 (some 44) ?_; refine oX HT_ 10 none (fun K hK => ?_); have hs27 : w23.cell? ⟨gb432, 0, none⟩ = some (.slice none 0 0) := (blk_cell BK432.out 0).trans rfl; have hfs27 := blk_frozen BK432.out 0; have hs28 : w23.cell? ⟨gb432, 1, none⟩ = some (.slice none 0 0) := (blk_cell BK432.out 1).trans rfl; have hfs28 := blk_frozen BK432.out 1; have hs29 : w23.cell? ⟨gb432, 2, none⟩ = some (.slice none 0 0) := (blk_cell BK432.out 2).trans rfl; have hfs29 := blk_frozen BK432.out 2; refine skip_ (w1 := ?_) (by rfl) rfl ?_ ?_; rotate_left
    ·go_simp
     rfl
    refine hK.out _ _ trivial (fun hHeld => ?_); clear hK K; refine pX HT_ 11 (some 5) ?_; refine done_ (done_of HT_.out (by kernel_rfl)) ?_
    try go_wp2
    refine bodyPost_ret (results_ct rfl _ _ gb432 51 #[.slice Ao26 t446.length co26, .slice Ao25 t453.length co25, .slice Ao24 t438.length co24] (0, 0) _ rfl (by (with_reducible repeat (first | refine blk_drewN ?_ _ | refine blk_drew ?_ | refine blk_alloc ?_ _)); refine blk_put (cs := #[.slice Ao26 t446.length co26, .slice Ao25 t453.length co25, .slice none 0 0]) ?_ 2 _ rfl; (with_reducible repeat (first | refine blk_drewN ?_ _ | refine blk_drew ?_ | refine blk_alloc ?_ _)); refine blk_put (cs := #[.slice Ao26 t446.length co26, .slice none 0 0, .slice none 0 0]) ?_ 1 _ rfl; (with_reducible repeat (first | refine blk_drewN ?_ _ | refine blk_drew ?_ | refine blk_alloc ?_ _)); refine blk_put (cs := #[.slice none 0 0, .slice none 0 0, .slice none 0 0]) ?_ 0 _ rfl; (with_reducible repeat (first | refine blk_drewN ?_ _ | refine blk_drew ?_ | refine blk_alloc ?_ _)); exact BK432.out) Tryz.underlying51 rfl (by kernel_rfl)) rfl ?_
    exact ⟨_, _, _, by first | rfl | (simp [errW_none, errW_some] <;> rfl) | (simp only [← hji6]; first | rfl | (simp [errW_none, errW_some] <;> rfl)) | (simp [*, errW_none, errW_some] <;> rfl), by (with_reducible repeat (first | apply Kd.R_alloc | apply Kd.R_drewN | apply Kd.R_drew)); exact Kd.R_mono (Kd.R_far (p := ⟨gb432, 2, none⟩) (Kd.R_far (p := ⟨gb432, 1, none⟩) (Kd.R_far (p := ⟨gb432, 0, none⟩) (Kd.R_types HO448.out BK432.out (by decide)) (fun _ hk => hk.2) (.slice Ao26 t446.length co26)) (fun _ hk => hk.2) (.slice Ao25 t453.length co25)) (fun _ hk => hk.2) (.slice Ao24 t438.length co24)) (fun _ hk => ⟨hk.1.2, hk.1.1.2⟩), by (with_reducible repeat (first | apply Kd.R_alloc | apply Kd.R_drewN | apply Kd.R_drew)); exact Kd.R_mono (Kd.R_far (p := ⟨gb432, 2, none⟩) (Kd.R_far (p := ⟨gb432, 1, none⟩) (Kd.R_far (p := ⟨gb432, 0, none⟩) (Kd.R_types HO455.out BK432.out (by decide)) (fun _ hk => hk.2) (.slice Ao26 t446.length co26)) (fun _ hk => hk.2) (.slice Ao25 t453.length co25)) (fun _ hk => hk.2) (.slice Ao24 t438.length co24)) (fun _ hk => ⟨hk.1.2, hk.1.1.2⟩), by (with_reducible repeat (first | apply Kd.R_alloc | apply Kd.R_drewN | apply Kd.R_drew)); exact Kd.R_mono (Kd.R_far (p := ⟨gb432, 2, none⟩) (Kd.R_far (p := ⟨gb432, 1, none⟩) (Kd.R_far (p := ⟨gb432, 0, none⟩) (Kd.R_types HO441.out BK432.out (by decide)) (fun _ hk => hk.2) (.slice Ao26 t446.length co26)) (fun _ hk => hk.2) (.slice Ao25 t453.length co25)) (fun _ hk => hk.2) (.slice Ao24 t438.length co24)) (fun _ hk => ⟨hk.1.1.2, hk.1.2⟩), bX1 HB GE432⟩
   ·rw [if_neg c9] at H
    exact absurd H (by simp)
  ·rw [if_neg c8] at H
   exact absurd H (by simp)
 ·rw [if_neg c4] at H
  have c4b0 : (t434 == 0) = false := beq_eq_false_iff_ne.mpr c4; have c4b1 : (t434 != 0) = true := bne_iff_ne.mpr c4; simp only [Option.some.injEq, Prod.mk.injEq] at H; obtain ⟨rfl, rfl, rfl, rfl⟩ := H; go_enter Tryz.func26, Tryz.ntmps26; go_wp2_with (first | ((with_reducible refine gate_dst (N := 4) rfl ?_); refine eX 4 #[.slice none 0 0, .slice none 0 0, .slice none 0 0] 51 ?_; intro gb432 hg w30 hbox hb; have n0_ := Aside0.mk (below_step (bX HB) hb); have n1_ := Aside0.mk (hbox); have n2_ := Aside0.mk ((by rw [hg]; exact (below_size (bX HB)) : w.heap.size ≤ gb432)); have n3_ := Aside0.mk ((by rw [hg]; exact (below_size (bX HB)) : w.heap.size ≤ gb432)); clear HB; have HB := n0_; have BK432 := n1_; have GW432 := n2_; have GE432 := n3_; clear n0_ n1_ n2_ n3_; clear hb hbox hg) | ((with_reducible refine gate_callee (f := 69) rfl ?_); refine gX (some 17) Tryz.func69 #[.pointer (some ⟨G_, 0, none⟩), .int .i64 a1] ?_; (with_reducible refine (hier_World_Chain.calls G_ a0 a1 t433 t434 _ ?side1 A3.out).mono ?_); (case side1 => repeat (first | (with_reducible exact HQa0.out) | (with_reducible refine WOK.alloc ?_ _) | (with_reducible refine WOK.drewN ?_ _) | (with_reducible refine WOK.drew ?_) | exact WOK.below HQa0.out HB.out | exact WOK.below HQa0.out (bX1 HB GE432))); rintro e w31 ⟨v435, rfl, ho0, hb⟩; refine ⟨_, rfl, ?_⟩; have n0_ := Aside0.mk (Kd.R_lower ho0 (below_size (bX1 HB GE432))); have n1_ := Aside0.mk (blk_below (kX BK432) hb); have n2_ := Aside0.mk (below_step (bX1 HB GE432) hb); clear BK432; clear HB; have HO436 := n0_; have BK432 := n1_; have HB := n2_; clear n0_ n1_ n2_; (try clear hb); (try clear hb2); (try clear hk); (try clear hi); (try clear ho0); obtain ⟨hcz32_0, hcz32_1, hcz32_2, hfz32_0, hfz32_1, hfz32_2⟩ := c3X BK432)); refine bodyPost_ret (results_ct rfl _ _ gb432 51 #[.slice none 0 0, .slice none 0 0, .slice none 0 0] (0, 0) _ rfl (by (with_reducible repeat (first | refine blk_drewN ?_ _ | refine blk_drew ?_ | refine blk_alloc ?_ _)); refine blk_put (cs := #[.slice none 0 0, .slice none 0 0, .slice none 0 0]) ?_ 2 _ rfl; (with_reducible repeat (first | refine blk_drewN ?_ _ | refine blk_drew ?_ | refine blk_alloc ?_ _)); refine blk_put (cs := #[.slice none 0 0, .slice none 0 0, .slice none 0 0]) ?_ 1 _ rfl; (with_reducible repeat (first | refine blk_drewN ?_ _ | refine blk_drew ?_ | refine blk_alloc ?_ _)); refine blk_put (cs := #[.slice none 0 0, .slice none 0 0, .slice none 0 0]) ?_ 0 _ rfl; (with_reducible repeat (first | refine blk_drewN ?_ _ | refine blk_drew ?_ | refine blk_alloc ?_ _)); exact BK432.out) Tryz.underlying51 rfl (by kernel_rfl)) rfl ?_
  exact ⟨_, _, _, by first | rfl | (simp [errW_none, errW_some] <;> rfl) | (simp [*, errW_none, errW_some] <;> rfl), by first | exact Kd.R_nil _ _ _ _ _ | exact Kd.N_nil _ _ _ _ _ | exact Kd.V_nil _ _ _ _ _ | exact Kd.Q_nil _ _ _ _ _ | exact Kd.S_nil _ _ _ _ _, by first | exact Kd.R_nil _ _ _ _ _ | exact Kd.N_nil _ _ _ _ _ | exact Kd.V_nil _ _ _ _ _ | exact Kd.Q_nil _ _ _ _ _ | exact Kd.S_nil _ _ _ _ _, by first | exact Kd.R_nil _ _ _ _ _ | exact Kd.N_nil _ _ _ _ _ | exact Kd.V_nil _ _ _ _ _ | exact Kd.Q_nil _ _ _ _ _ | exact Kd.S_nil _ _ _ _ _, bX1 HB GE432⟩
def display_Deepest.l0 : Nat → List Hi.Ent → Int → Int → Int → Option (Int × Int)
 | 0, _, _, _, _ => none
 | k + 1, x0, x4, x11, x12 => if x12 < x11 then ((hier_World_Depth.f x0 x12).bind fun bt457 => (display_Deepest.l0 k x0 (mx x4 bt457.1) x11 (wrap64 (x12 + 1)))) else (some (x4, 0))
def display_Deepest.f (k : Nat) (a0 : List Hi.Ent) : Option (Int × Int) := (hier_World_Len.f a0).bind fun t456 => (display_Deepest.l0 k a0 0 t456 0)
end Go.Proofs.YtaipkdglhfhhiaaGreatDoor.Pt

namespace Go.Proofs.YtaipkdglhfhhiaaGreatDoor.Pt
open Go Go.RowKit Go.Proofs.YtaipkdglhfhhiaaGreatDoor.Nm Go.Proofs.YtaipkdglhfhhiaaGreatDoor.Hi Go.Proofs.YtaipkdglhfhhiaaGreatDoorW.PrintWords Go.Proofs.YtaipkdglhfhhiaaGreatDoorW.PrintLast Go.Proofs.YtaipkdglhfhhiaaGreatDoorW.PrintMore
set_option linter.unusedVariables false
set_option linter.unusedSimpArgs false
set_option maxHeartbeats 2000000
set_option maxRecDepth 100000
theorem rev_l0 (l : List Int) (hl : l.length ≤ 1000) : ∀ (k i : Nat) (acc : List Int), acc.length = l.length → l.length < k + i → i ≤ l.length →
  (∀ j, j < l.length → acc[j]? = if j < i ∨ l.length ≤ j + i then l[l.length - 1 - j]? else l[j]?) → slices_Reverse_int_int.l0 k acc (i : Int) ((l.length : Int) - 1 - i) = some l.reverse := by
 intro k
 induction k with
 | zero => intro i acc _ h1 h2 _; omega
 | succ k ih =>
  intro i acc ha h1 h2 hp; rw [slices_Reverse_int_int.l0]
  by_cases h : (i : Int) < (l.length : Int) - 1 - i
  ·obtain ⟨q, hq⟩ : ∃ q : Nat, (l.length : Int) - 1 - i = q := ⟨l.length - 1 - i, by omega⟩
   have hr : ∀ j : Nat, j < l.length → rd acc (j : Int) = (acc[j]?).getD 0 := fun j _ => by simp [rd, List.getD_eq_getElem?_getD]
   rw [if_pos h, hq, if_pos (by omega), if_pos (by omega), if_pos (by omega), if_pos (by omega), Int.toNat_natCast, Int.toNat_natCast, hr q (by omega), hr i (by omega), hp q (by omega), hp i (by omega)]; rw [if_neg (by omega), if_neg (by omega), show wrap64 ((i : Int) + 1) = ((i + 1 : Nat) : Int) by unfold wrap64; omega, show wrap64 ((q : Int) - 1) = (l.length : Int) - 1 - ((i + 1 : Nat) : Int) by unfold wrap64; omega]; refine ih (i + 1) _ (by simp [ha]) (by omega) (by omega) fun j hj => ?_
   have hg : ∀ m : Nat, m < l.length → some ((l[m]?).getD 0) = l[m]? := fun m hm => by rw [List.getElem?_eq_getElem hm]; rfl
   rw [List.getElem?_set, List.getElem?_set, List.length_set, ha]
   by_cases c1 : q = j
   ·subst c1
    rw [if_pos rfl, if_pos hj, if_pos (by omega), hg i (by omega)]
    congr 1
    omega
   ·rw [if_neg c1]
    by_cases c2 : i = j
    ·subst c2
     rw [if_pos rfl, if_pos hj, if_pos (by omega), hg q (by omega)]
     congr 1
     omega
    ·rw [if_neg c2, hp j hj]
     by_cases c3 : j < i ∨ l.length ≤ j + i
     ·rw [if_pos c3, if_pos (by omega)]
     ·rw [if_neg c3, if_neg (by omega)]
  ·rw [if_neg h]
   congr 1
   refine List.ext_getElem? fun j => ?_
   by_cases hj : j < l.length
   ·rw [hp j hj, List.getElem?_reverse hj]
    by_cases c3 : j < i ∨ l.length ≤ j + i
    ·rw [if_pos c3]
    ·rw [if_neg c3]
     congr 1
     omega
   ·rw [List.getElem?_eq_none (by omega), List.getElem?_eq_none (by rw [List.length_reverse]; omega)]
theorem rev_tot (l : List Int) (hl : l.length ≤ 1000) (k : Nat) (hk : l.length < k) : slices_Reverse_int_int.f k l = some l.reverse := by
 unfold slices_Reverse_int_int.f
 have := rev_l0 l hl k 0 l rfl (by omega) (by omega) fun j hj => by rw [if_neg (by omega)]
 rw [show wrap64 ((l.length : Int) - 1) = (l.length : Int) - 1 - ((0 : Nat) : Int) by unfold wrap64; omega]
 exact this
theorem build_tot (es : List Ent) (ht : Tree es) (hl : es.length ≤ 1000) (hc : ∀ x ∈ es, x.clo.length ≤ 1000) (k : Nat) (hk : 1000 < k) (i : Int) : display_Build.f k es i = some (buildF es i) := by
 unfold display_Build.f; rw [show hier_World_Chain.f es i = some (chainF es i) from rfl, Option.bind_some, show hier_World_Closure.f es i = some (closureF es i) from rfl]
 by_cases hi : 0 ≤ i ∧ i < es.length
 ·have h1 := chL_len ht hi.1 hi.2
  have h2 := ht.depth_ hi.1 hi.2
  have hcl : (chL es i).length ≤ 1000 := by omega
  rw [show chainF es i = (chL es i, 0) from if_pos hi, show closureF es i = ((ent es i).clo, 0) from if_pos hi, buildF, if_pos hi]
  show (if (0 : Int) = 0 then (slices_Reverse_int_int.f k (chL es i)).bind _ else _) = _
  rw [if_pos rfl, rev_tot _ hcl k (by omega), Option.bind_some, Option.bind_some]
  obtain ⟨m, hm, hm2⟩ : ∃ m : Nat, mn ((chL es i).length : Int) 8 = m ∧ m = min (chL es i).length 8 := ⟨_, by unfold mn; omega, rfl⟩
  show (if 0 ≤ mn ((chL es i).length : Int) 8 then _ else _) = _
  rw [hm, if_pos (by omega), if_pos (show (m : Int) ≤ ((chL es i).length : Int) by omega), Int.toNat_natCast]; unfold slices_Clone_int_int.f; rw [if_pos (by rw [List.length_take, List.length_reverse]; omega), Option.bind_some, if_pos (by rw [List.length_drop, List.length_reverse]; omega), Option.bind_some]
  have e1 : (chL es i).reverse.take m = (rcL es i).take 8 := by
   rw [hm2]; unfold rcL
   by_cases h8 : (chL es i).length ≤ 8
   ·rw [show min (chL es i).length 8 = (chL es i).reverse.length by rw [List.length_reverse]; omega, List.take_length, List.take_of_length_le (by rw [List.length_reverse]; exact h8)]
   ·rw [show min (chL es i).length 8 = 8 by omega]
  have e2 : (chL es i).reverse.drop m = (rcL es i).drop 8 := by
   rw [hm2]; unfold rcL
   by_cases h8 : (chL es i).length ≤ 8
   ·rw [List.drop_eq_nil_of_le (by rw [List.length_reverse]; omega), List.drop_eq_nil_of_le (by rw [List.length_reverse]; omega)]
   ·rw [show min (chL es i).length 8 = 8 by omega]
  rw [e1, e2]
 ·rw [show chainF es i = ([], 3) from if_neg hi, buildF, if_neg hi]
  rfl
theorem at_tot (p q r : List Int) (hp : p.length ≤ 1000) (hq : q.length ≤ 1000) (d : Int) (h0 : 0 ≤ d) (h1 : d ≤ 1000) : display_at.f p q r d = some (atF p q d) := by
 unfold display_at.f atF
 by_cases c1 : d < p.length
 ·rw [if_pos c1, if_pos h0, if_pos c1]
  rfl
 ·rw [if_neg c1, if_neg c1]
  by_cases c2 : d ≥ 8
  ·rw [if_pos c2, show wrap64 (d - 8) = d - 8 by unfold wrap64; omega]
   by_cases c3 : d - 8 < q.length
   ·rw [if_pos c3, if_pos (by omega), if_pos ⟨c2, c3⟩]
    rfl
   ·rw [if_neg c3, if_neg (fun h => c3 h.2)]
  ·rw [if_neg c2, if_neg (fun h => c2 h.1)]
theorem cell_heap {w w' : World} {ad : Addr} {i : Nat} (h : w'.heap[ad.block]? = w.heap[ad.block]?) : w'.cell? (ad.add i) = w.cell? (ad.add i) := by
 unfold World.cell?; rw [add_block, h]
theorem scan_at (l : List Int) (t : Int) (j : Nat) : ((∀ i, i < j → l[i]? ≠ some t) → l[j]? = some t → decide (t ∈ l) = true ∧ scanN t l = (j : Int) + 1) ∧ ((∀ i, i < j → l[i]? ≠ some t) → l.length ≤ j → decide (t ∈ l) = false ∧ scanN t l = (l.length : Int)) := by
 constructor
 ·intro h1 h2
  refine ⟨decide_eq_true (List.mem_of_getElem? h2), ?_⟩
  induction l generalizing j with
  | nil => simp at h2
  | cons x l ih =>
   rw [scanN]
   cases j with
   | zero =>
    rw [if_pos (by simpa using h2)]
    rfl
   | succ j =>
    have h0 := h1 0 (by omega); rw [if_neg (by simpa using h0), ih j (fun i hi => by have := h1 (i + 1) (by omega); simpa using this) (by simpa using h2)]; push_cast
    omega
 ·intro h1 h2
  refine ⟨decide_eq_false (fun hm => ?_), ?_⟩
  ·obtain ⟨i, hi⟩ := List.getElem?_of_mem hm
   have : i < l.length := by
    rcases Nat.lt_or_ge i l.length with h | h
    ·exact h
    ·rw [List.getElem?_eq_none h] at hi; cases hi
   exact h1 i (by omega) hi
  ·induction l generalizing j with
   | nil => rfl
   | cons x l ih =>
    rw [List.length_cons] at h2 ⊢; have h0 := h1 0 (by omega); rw [scanN, if_neg (by simpa using h0), ih (j - 1) (fun i hi => by have := h1 (i + 1) (by omega); simpa using this) (by omega)]; push_cast
    omega
theorem look_any (w wr : World) (g : Nat) (es : List Ent) (hq : WOK w g es) (hb : Below w.heap.size w wr) (br : Nat) (hbr : w.heap.size ≤ br) (n : Int) (h0 : 0 ≤ n) (h1 : n ≤ 1000) (hblk : wr.heap[br]? = some (.cells #[.int .i64 n] 3 (0, 0)))
  (s t : Int) (hs : 0 ≤ s ∧ s < es.length) (ht : 0 ≤ t ∧ t < es.length) :
  Calls Tryz.prog 67 #[.pointer (some ⟨g, 0, none⟩), .int .i64 s, .int .i64 t, .pointer (some ⟨br, 0, none⟩)] wr fun e w' => e = .returned (.bool (lookF es s t).1) ∧ w'.heap[br]? = some (.cells #[.int .i64 (n + (lookF es s t).2)] 3 (0, 0)) ∧ Below w.heap.size w w' := by
 have HW := Lib.hid hq; have IF := Lib.hid (fun (W : World) (hb : Below w.heap.size w W) => hier_World_IsIface.calls g es t (isI (ent es t).c) W (hq.below hb) (by unfold hier_World_IsIface.f; rw [show inB es t = true from decide_eq_true ht]; rfl)); have BD := Lib.hid (fun (W : World) (hb : Below w.heap.size w W) => display_Build.calls 2000 g es s (buildF es s).1 (buildF es s).2.1 (buildF es s).2.2.1 (buildF es s).2.2.2 W (hq.below hb) (build_tot es hq.tree hq.len (fun x hx => (hq.fine x hx).2.2) 2000 (by decide) s)); have DP := Lib.hid (fun (W : World) (hb : Below w.heap.size w W) => hier_World_Depth.calls g es t (ent es t).depth 0 W (hq.below hb) (by unfold hier_World_Depth.f depthF; rw [if_pos ht])); have hdt := hq.tree.depth_ ht.1 ht.2; have hlen := hq.len; have hcl := (hq.fine _ (List.mem_of_getElem? (get_ent hs.1 hs.2))).2.2
 have hbs : (buildF es s).1.length ≤ 1000 ∧ (buildF es s).2.1.length ≤ 1000 ∧ (buildF es s).2.2.1 = (ent es s).clo := by
  have hc := chL_len hq.tree hs.1 hs.2; have hd := hq.tree.depth_ hs.1 hs.2; unfold buildF; rw [if_pos hs]; refine ⟨?_, ?_, rfl⟩
  ·show ((rcL es s).take 8).length ≤ 1000
   rw [List.length_take, rcL, List.length_reverse]; omega
  ·show ((rcL es s).drop 8).length ≤ 1000
   rw [List.length_drop, rcL, List.length_reverse]; omega
 have AT := Lib.hid (at_tot (buildF es s).1 (buildF es s).2.1 (buildF es s).2.2.1 hbs.1 hbs.2.1 (ent es t).depth hdt.1 (by omega)); have hL : Hid (lookF es s t = if isI (ent es t).c = true ∧ s = t then (true, 1) else if isI (ent es t).c = false then (atF (buildF es s).1 (buildF es s).2.1 (ent es t).depth == t, 1) else (decide (t ∈ (buildF es s).2.2.1), 1 + scanN t (buildF es s).2.2.1)) := Lib.hid (by rw [hbs.2.2]; rfl)
 have hclo : (buildF es s).2.2.1.length ≤ 1000 := by rw [hbs.2.2]; exact hcl
 generalize lookF es s t = L at *; generalize buildF es s = B at *; generalize isI (ent es t).c = iI at *; generalize (ent es t).depth = dt at *; obtain ⟨bp, bd, bc, be⟩ := B; have q0 : wr.cell? ⟨br, 0, none⟩ = some (.int .i64 n) := (blk_cell hblk 0).trans rfl; have f0 := blk_frozen hblk 0; have B1 := Lib.hid (blk_put hblk 0 (.int .i64 (n + 1)) rfl); have H1 := Lib.hid (hb.setCell (p := ⟨br, 0, none⟩) hbr (.int .i64 (n + 1))); clear hblk hb hq hbs; go_enter Tryz.func67, Tryz.ntmps67
 go_upto_region 2 with (fail)
 generalize wr.setCell ⟨br, 0, none⟩ (.int .i64 (n + 1)) = w1 at *; have C1 := Lib.hid (IF.out w1 H1.out); clear q0 f0
 cases iI with
 | false =>
  have hL2 : Hid (L = (atF bp bd dt == t, 1)) := Lib.hid (by rw [hL.out, if_neg (fun h => by cases h.1), if_pos rfl]); clear hL; go_wp2_with fail; refine C1.out.mono ?_; rintro e w2 ⟨rfl, hb2⟩; have H2 := Lib.hid (H1.out.trans (hb2.mono H1.out.size)); have B2 := Lib.hid (blk_below B1.out hb2); have CB := Lib.hid (BD.out w2 H2.out); clear C1 hb2 B1 H1; go_wp2_with fail; refine CB.out.mono ?_; rintro e w3 ⟨v0, v1, v2, rfl, R0, R1, R2, hb3⟩; obtain ⟨A0, c0, rfl⟩ := Kd.R_slice R0; obtain ⟨A1, c1, rfl⟩ := Kd.R_slice R1; obtain ⟨A2, c2, rfl⟩ := Kd.R_slice R2; have L0 := Lib.hid (Kd.R_reads' R0).2.1; have L1 := Lib.hid (Kd.R_reads' R1).2.1; have L2 := Lib.hid (Kd.R_reads' R2).2.1; have H3 := Lib.hid (H2.out.trans (hb3.mono H2.out.size)); have B3 := Lib.hid (blk_below B2.out hb3); replace R0 := Lib.hid R0; replace R1 := Lib.hid R1; replace R2 := Lib.hid R2; clear CB hb3 B2 H2; have H4 := Lib.hid (H3.out.alloc H3.out.size (.cells #[.slice A0 bp.length c0, .slice A1 bd.length c1, .slice A2 bc.length c2] 51)); have D4 := Lib.hid (blk_new w3 (.cells #[.slice A0 bp.length c0, .slice A1 bd.length c1, .slice A2 bc.length c2] 51)); have A4 := (Below.refl w3.heap.size w3).alloc (Nat.le_refl _) (.cells #[.slice A0 bp.length c0, .slice A1 bd.length c1, .slice A2 bc.length c2] 51); have B4 := Lib.hid (blk_below B3.out A4); replace R0 := Lib.hid (Kd.C_below (Kd.R_reads' R0.out).2.2 A4); replace R1 := Lib.hid (Kd.C_below (Kd.R_reads' R1.out).2.2 A4); replace R2 := Lib.hid (Kd.C_below (Kd.R_reads' R2.out).2.2 A4); have C4 := Lib.hid (IF.out _ H4.out); clear A4 B3 H3; go_wp2_with fail; refine C4.out.mono ?_; rintro e w5 ⟨rfl, hb5⟩; have H5 := Lib.hid (H4.out.trans (hb5.mono H4.out.size)); have B5 := Lib.hid (blk_below B4.out hb5); have D5 := Lib.hid (blk_below D4.out hb5); replace R0 := Lib.hid (Kd.C_below R0.out hb5); replace R1 := Lib.hid (Kd.C_below R1.out hb5); replace R2 := Lib.hid (Kd.C_below R2.out hb5); have C5 := Lib.hid (DP.out _ H5.out); clear C4 hb5 B4 D4 H4; go_wp2_with fail; refine C5.out.mono ?_; rintro e w6 ⟨rfl, hb6⟩; have H6 := Lib.hid (H5.out.trans (hb6.mono H5.out.size)); have B6 := Lib.hid (blk_below B5.out hb6); have D6 := Lib.hid (blk_below D5.out hb6); replace R0 := Lib.hid (Kd.C_below R0.out hb6); replace R1 := Lib.hid (Kd.C_below R1.out hb6); replace R2 := Lib.hid (Kd.C_below R2.out hb6); clear C5 hb6 B5 D5 H5; have x0 : w6.cell? ⟨w3.heap.size, 0, none⟩ = some (.slice A0 bp.length c0) := (blk_cell D6.out 0).trans rfl; have x1 : w6.cell? ⟨w3.heap.size, 1, none⟩ = some (.slice A1 bd.length c1) := (blk_cell D6.out 1).trans rfl; have x2 : w6.cell? ⟨w3.heap.size, 2, none⟩ = some (.slice A2 bc.length c2) := (blk_cell D6.out 2).trans rfl; have C6 := Lib.hid (display_at.calls A0 c0 bp A1 c1 bd A2 c2 bc dt (atF bp bd dt) w6 R0.out L0.out R1.out L1.out R2.out L2.out AT.out); go_wp2_with fail; refine C6.out.mono ?_; rintro e w7 ⟨rfl, hb7⟩; go_wp2; go_ret
  exact ⟨by rw [hL2.out]; rfl, by rw [hL2.out]; exact blk_below B6.out hb7, H6.out.trans (hb7.mono H6.out.size)⟩
 | true =>
  by_cases hst : s = t
  ·have hst2 : (s == t) = true := beq_iff_eq.2 hst
   have hL2 : Hid (L = (true, 1)) := Lib.hid (by rw [hL.out, if_pos ⟨rfl, hst⟩]); clear hL hst; go_wp2_with fail; refine C1.out.mono ?_; rintro e w2 ⟨rfl, hb2⟩; go_wp2; go_ret
   exact ⟨by rw [hL2.out]; rfl, by rw [hL2.out]; exact blk_below B1.out hb2, H1.out.trans (hb2.mono H1.out.size)⟩
  ·have hst2 : (s == t) = false := beq_eq_false_iff_ne.2 hst
   have hL2 : Hid (L = (decide (t ∈ bc), 1 + scanN t bc)) := Lib.hid (by rw [hL.out, if_neg (fun h => hst h.2), if_neg (by decide)]); clear hL hst; go_wp2_with fail; refine C1.out.mono ?_; rintro e w2 ⟨rfl, hb2⟩; have H2 := Lib.hid (H1.out.trans (hb2.mono H1.out.size)); have B2 := Lib.hid (blk_below B1.out hb2); have CB := Lib.hid (BD.out w2 H2.out); clear C1 hb2 B1 H1; go_wp2_with fail; refine CB.out.mono ?_; rintro e w3 ⟨v0, v1, v2, rfl, R0, R1, R2, hb3⟩; obtain ⟨A0, c0, rfl⟩ := Kd.R_slice R0; obtain ⟨A1, c1, rfl⟩ := Kd.R_slice R1; obtain ⟨A2, c2, rfl⟩ := Kd.R_slice R2
   have hne : Hid (∀ ad, A2 = some ad → ad.block ≠ br) := Lib.hid (by
    rintro ad rfl he; have h1 := ((Kd.R_bound R2).1 ad.block rfl).2.1; have h2 := blk_lt B2.out
    omega)
   have H3 := Lib.hid (H2.out.trans (hb3.mono H2.out.size)); have B3 := Lib.hid (blk_below B2.out hb3); replace R0 := Lib.hid R0; replace R1 := Lib.hid R1; replace R2 := Lib.hid R2; clear CB hb3 B2 H2; have H4 := Lib.hid (H3.out.alloc H3.out.size (.cells #[.slice A0 bp.length c0, .slice A1 bd.length c1, .slice A2 bc.length c2] 51)); have D4 := Lib.hid (blk_new w3 (.cells #[.slice A0 bp.length c0, .slice A1 bd.length c1, .slice A2 bc.length c2] 51)); have A4 := (Below.refl w3.heap.size w3).alloc (Nat.le_refl _) (.cells #[.slice A0 bp.length c0, .slice A1 bd.length c1, .slice A2 bc.length c2] 51); have B4 := Lib.hid (blk_below B3.out A4); replace R0 := Lib.hid (Kd.C_below (Kd.R_reads' R0.out).2.2 A4); replace R1 := Lib.hid (Kd.C_below (Kd.R_reads' R1.out).2.2 A4); replace R2 := Lib.hid (Kd.C_below (Kd.R_reads' R2.out).2.2 A4); have C4 := Lib.hid (IF.out _ H4.out); clear A4 B3 H3; go_wp2_with fail; refine C4.out.mono ?_; rintro e w5 ⟨rfl, hb5⟩; have H5 := Lib.hid (H4.out.trans (hb5.mono H4.out.size)); have B5 := Lib.hid (blk_below B4.out hb5); have D5 := Lib.hid (blk_below D4.out hb5); have M5 := Lib.hid (Kd.C_below R2.out hb5); clear C4 hb5 B4 D4 H4 R0 R1 R2; have x2 : w5.cell? ⟨w3.heap.size, 2, none⟩ = some (.slice A2 bc.length c2) := (blk_cell D5.out 2).trans rfl; go_wp2
   go_loopw [52] (fun v52 wx => ∃ j : Nat, j ≤ bc.length ∧ v52 = .int .i64 j ∧ Hid (∀ i, i < j → bc[i]? ≠ some t) ∧ Hid (wx.heap[br]? = some (.cells #[.int .i64 (n + 1 + j)] 3 (0, 0))) ∧ Hid (∀ ad, A2 = some ad → wx.heap[ad.block]? = w5.heap[ad.block]?) ∧ Hid (Below w.heap.size w wx)) (fun v52 _ => bc.length - (intOf v52).toNat)
   case atStart => exact ⟨0, Nat.zero_le _, rfl, Lib.hid (fun i hi => absurd hi (by omega)), Lib.hid (by simpa using B5.out), Lib.hid (fun _ _ => rfl), H5⟩
   case round =>
    clear B5 D5 H5 x2; obtain ⟨j, hj, rfl, HN, BX, MX, HX⟩ := hrel; have hsc := scan_at bc t j
    by_cases hlt : j < bc.length
    ·have hjd : decide (j < bc.length) = true := decide_eq_true hlt
     obtain ⟨ad, rfl, hcell⟩ := Kd.at_int M5.out (j : Int) (by omega) (by omega)
     have hgj : bc[j]? = some (rd bc (j : Int)) := by simp [rd, List.getD_eq_getElem?_getD, List.getElem?_eq_getElem hlt]
     have hcell : wr.cell? (ad.add (j : Int).toNat) = some (.int .i64 (rd bc (j : Int))) := by rw [cell_heap (MX.out ad rfl)]; exact hcell
     rw [Int.toNat_natCast] at hcell; have q0 : wr.cell? ⟨br, 0, none⟩ = some (.int .i64 (n + 1 + j)) := (blk_cell BX.out 0).trans rfl; have f0 := blk_frozen BX.out 0; have B1 := Lib.hid (blk_put BX.out 0 (.int .i64 (n + 1 + j + 1)) rfl); have H1 := Lib.hid (HX.out.setCell (p := ⟨br, 0, none⟩) hbr (.int .i64 (n + 1 + j + 1)))
     have M1 : Hid (∀ ad', some ad = some ad' → (wr.setCell ⟨br, 0, none⟩ (.int .i64 (n + 1 + j + 1))).heap[ad'.block]? = w5.heap[ad'.block]?) := Lib.hid (by
      intro ad' he
      cases he
      exact (Below.heap_setCell wr ⟨br, 0, none⟩ _ _ (hne.out _ rfl)).trans (MX.out _ rfl))
     generalize hx : rd bc (j : Int) = x at *; clear BX HX MX hx
     by_cases hxt : x = t
     ·have e1 : (x == t) = true := beq_iff_eq.2 hxt
      have hs2 := hsc.1 HN.out (by rw [hgj, hxt]); replace hs2 := Lib.hid hs2; clear hxt hsc; go_wp2; go_ret
      exact ⟨by rw [hL2.out, hs2.out.1]; rfl, by rw [hL2.out]; show _ = some (Obj.cells #[.int .i64 (n + (1 + scanN t bc))] _ _); rw [hs2.out.2, show n + (1 + ((j : Int) + 1)) = n + 1 + j + 1 by omega]; exact B1.out, H1.out⟩
     ·have e1 : (x == t) = false := beq_eq_false_iff_ne.2 hxt
      have hN2 : Hid (∀ i, i < j + 1 → bc[i]? ≠ some t) := Lib.hid (by
       intro i hi
       by_cases hij : i = j
       ·subst hij
        rw [hgj]
        exact fun h => hxt (Option.some.inj h)
       ·exact HN.out i (by omega))
      clear hxt hsc hgj; go_wp2; refine ⟨⟨j + 1, by omega, by push_cast; rfl, hN2, Lib.hid (by rw [show n + 1 + ((j + 1 : Nat) : Int) = n + 1 + j + 1 by omega]; exact B1.out), M1, H1⟩, by simp [intOf]; omega⟩
    ·have hjd : decide (j < bc.length) = false := decide_eq_false hlt
     have hs2 := hsc.2 HN.out (by omega); replace hs2 := Lib.hid hs2
     have hje : j = bc.length := by omega
     replace hje := Lib.hid hje; clear hsc; go_wp2; go_ret
     exact ⟨by rw [hL2.out, hs2.out.1]; rfl, by rw [hL2.out]; show _ = some (Obj.cells #[.int .i64 (n + (1 + scanN t bc))] _ _); rw [hs2.out.2, show n + (1 + (bc.length : Int)) = n + 1 + j by have := hje.out; omega]; exact BX.out, HX.out⟩
theorem index_i0 (s t : Int) (w : World) : (Instr.index 111 (.agg #[.int .i64 s, .int .i64 t]) (.int .i64 0)).run Tryz.prog w = .ok (.int .i64 s) w := by rfl
theorem index_i1 (s t : Int) (w : World) : (Instr.index 111 (.agg #[.int .i64 s, .int .i64 t]) (.int .i64 1)).run Tryz.prog w = .ok (.int .i64 t) w := by rfl
def display_Test.f (a0 : List Hi.Ent) (a1 : Int) (a2 : Int) : Option (Bool × Int × Int) := some (testF a0 a1 a2)
theorem display_Test.calls (G_ : Nat) (a0 : List Hi.Ent) (a1 : Int) (a2 : Int) (r1 : Bool) (r2 : Int) (r3 : Int) (w : World) (hq0 : WOK w G_ a0) (h : display_Test.f a0 a1 a2 = some (r1, r2, r3)) :
  Calls Tryz.prog 23 #[.pointer (some ⟨G_, 0, none⟩), .int .i64 a1, .int .i64 a2] w fun e w' => e = .returned (.tuple #[.bool r1, .int .i64 r2, .int .i64 r3]) ∧ Below w.heap.size w w' := by
 have hF := Lib.hid (Option.some.inj h); have BB := Lib.hid ((Below.refl w.heap.size w).alloc (Nat.le_refl _) (.cells #[.int .i64 0] 3)); have B0 := Lib.hid (blk_new w (.cells #[.int .i64 0] 3)); have CL := Lib.hid (fun (W : World) (hb : Below w.heap.size w W) (i : Int) => hier_World_Class.calls G_ a0 i (classF a0 i).1.f0 (classF a0 i).1.f1 (classF a0 i).1.f2 (classF a0 i).1.f3 (classF a0 i).1.f4 (classF a0 i).1.f5 (classF a0 i).2 W (hq0.below hb) rfl); have LK := Lib.hid (fun (wr : World) (hb : Below w.heap.size w wr) (hblk : wr.heap[w.heap.size]? = some (.cells #[.int .i64 0] 3 (0, 0))) (h1 : 0 ≤ a1 ∧ a1 < a0.length) (h2 : 0 ≤ a2 ∧ a2 < a0.length) => look_any w wr G_ a0 hq0 hb w.heap.size (Nat.le_refl _) 0 (by decide) (by decide) hblk a1 a2 h1 h2); have I0 := fun w => index_i0 a1 a2 w; have I1 := fun w => index_i1 a1 a2 w; have E1 : Hid ((classF a0 a1).2 = if 0 ≤ a1 ∧ a1 < a0.length then 0 else 3) := Lib.hid (by unfold classF; split <;> rfl); have E2 : Hid ((classF a0 a2).2 = if 0 ≤ a2 ∧ a2 < a0.length then 0 else 3) := Lib.hid (by unfold classF; split <;> rfl); have C1 := Lib.hid (CL.out _ BB.out a1); have C2 := Lib.hid (fun W hb => CL.out W hb a2); clear h hq0 CL; unfold testF at hF; generalize classF a0 a1 = K1 at *; generalize classF a0 a2 = K2 at *; obtain ⟨⟨x0, x1, x2, x3, x4, x5⟩, xe⟩ := K1; obtain ⟨⟨y0, y1, y2, y3, y4, y5⟩, ye⟩ := K2; simp only at C1 C2 E1 E2; generalize lookF a0 a1 a2 = L at *; have q0 : (w.alloc (.cells #[.int .i64 0] 3)).cell? ⟨w.heap.size, 0, none⟩ = some (.int .i64 0) := (blk_cell B0.out 0).trans rfl; have f0 := blk_frozen B0.out 0; go_enter Tryz.func23, Tryz.ntmps23; go_wp2_with fail; generalize w.alloc (.cells #[.int .i64 0] 3) = w0 at *; refine wp_loop_rounds 3 ?_; rw [rounds_succ]; go_wp2_with fail; refine C1.out.mono ?_; rintro e w1 ⟨v2, v5, rfl, R2, R5, hb1⟩; obtain ⟨A2, c2, rfl⟩ := Kd.R_slice R2; obtain ⟨A5, c5, rfl⟩ := Kd.R_slice R5; have M1 := Lib.hid ((BB.out.trans (hb1.mono BB.out.size)).alloc (BB.out.trans (hb1.mono BB.out.size)).size (.cells #[.string x0, .string x1, .slice A2 x2.length c2, .int .i64 x3, .int .i64 x4, .slice A5 x5.length c5] 85)); have Z1 := Lib.hid (blk_below (blk_below B0.out hb1) ((Below.refl w1.heap.size w1).alloc (Nat.le_refl _) (.cells #[.string x0, .string x1, .slice A2 x2.length c2, .int .i64 x3, .int .i64 x4, .slice A5 x5.length c5] 85))); have q0 : (w1.alloc (.cells #[.string x0, .string x1, .slice A2 x2.length c2, .int .i64 x3, .int .i64 x4, .slice A5 x5.length c5] 85)).cell? ⟨w.heap.size, 0, none⟩ = some (.int .i64 0) := (blk_cell Z1.out 0).trans rfl; have f0 := blk_frozen Z1.out 0; clear C1 hb1 R2 R5 BB B0
 by_cases h1 : 0 ≤ a1 ∧ a1 < a0.length
 ·have hx : xe = 0 := by rw [E1.out, if_pos h1]
  rw [if_pos h1] at hF; have hk1 := Lib.hid h1; subst hx; clear h1 E1; have L2 := Lib.hid (C2.out _ M1.out); go_wp2_with fail; rw [rounds_succ]; go_wp2_with fail; refine L2.out.mono ?_; rintro e w2 ⟨v2, v5, rfl, R2, R5, hb2⟩; obtain ⟨B2, d2, rfl⟩ := Kd.R_slice R2; obtain ⟨B5, d5, rfl⟩ := Kd.R_slice R5; have M2 := Lib.hid ((M1.out.trans (hb2.mono M1.out.size)).alloc (M1.out.trans (hb2.mono M1.out.size)).size (.cells #[.string y0, .string y1, .slice B2 y2.length d2, .int .i64 y3, .int .i64 y4, .slice B5 y5.length d5] 85)); have Z2 := Lib.hid (blk_below (blk_below Z1.out hb2) ((Below.refl w2.heap.size w2).alloc (Nat.le_refl _) (.cells #[.string y0, .string y1, .slice B2 y2.length d2, .int .i64 y3, .int .i64 y4, .slice B5 y5.length d5] 85))); have q0 : (w2.alloc (.cells #[.string y0, .string y1, .slice B2 y2.length d2, .int .i64 y3, .int .i64 y4, .slice B5 y5.length d5] 85)).cell? ⟨w.heap.size, 0, none⟩ = some (.int .i64 0) := (blk_cell Z2.out 0).trans rfl; have f0 := blk_frozen Z2.out 0; clear L2 hb2 R2 R5 M1 Z1 C2
  by_cases h2 : 0 ≤ a2 ∧ a2 < a0.length
  ·have hy : ye = 0 := by rw [E2.out, if_pos h2]
   rw [if_pos h2] at hF; subst hy; have L3 := Lib.hid (LK.out _ M2.out Z2.out hk1.out h2); clear h2 E2 LK; go_wp2_with fail; rw [rounds_succ]; go_wp2_with fail; refine L3.out.mono ?_; rintro e w3 ⟨rfl, Z3, M3⟩; have q0 : w3.cell? ⟨w.heap.size, 0, none⟩ = some (.int .i64 (0 + L.2)) := (blk_cell Z3 0).trans rfl; rw [Int.zero_add] at q0; have f0 := blk_frozen Z3 0; have Z4 := Lib.hid (blk_put Z3 0 (.int .i64 L.2) rfl); replace M3 := Lib.hid M3; clear L3 Z2 Z3 M2; go_wp2; go_region
   all_goals go_wp2
   have z4 : (w3.setCell ⟨w.heap.size, 0, none⟩ (.int .i64 L.2)).drew.cell? ⟨w.heap.size, 0, none⟩ = some (.int .i64 L.2) := (blk_cell (blk_drew Z4.out) 0).trans rfl; refine bodyPost_ret (v := .tuple #[.bool L.1, .int .i64 L.2, .int .i64 0]) (by simp [results, Tryz.results23, go_sem, z4]) rfl ⟨?_, below_drew1 (Below.setCell (p := ⟨w.heap.size, 0, none⟩) M3.out (Nat.le_refl _) _)⟩; have := hF.out
   cases this
   rfl
  ·have hy : (ye != 0) = true := by rw [E2.out, if_neg h2]; rfl
   have hye : ye = 3 := by rw [E2.out, if_neg h2]
   rw [if_neg h2] at hF; clear h2 E2 LK; go_wp2; have z4 : ((w2.alloc (.cells #[.string y0, .string y1, .slice B2 y2.length d2, .int .i64 y3, .int .i64 y4, .slice B5 y5.length d5] 85)).setCell ⟨w.heap.size, 0, none⟩ (.int .i64 0)).cell? ⟨w.heap.size, 0, none⟩ = some (.int .i64 0) := (blk_cell (blk_put Z2.out 0 (.int .i64 0) rfl) 0).trans rfl; refine bodyPost_ret (v := .tuple #[.bool false, .int .i64 0, .int .i64 3]) (by simp [results, Tryz.results23, go_sem, z4, hye]) rfl ⟨?_, Below.setCell (p := ⟨w.heap.size, 0, none⟩) M2.out (Nat.le_refl _) _⟩; have := hF.out
   cases this
   rfl
 ·have hx : (xe != 0) = true := by rw [E1.out, if_neg h1]; rfl
  have hxe : xe = 3 := by rw [E1.out, if_neg h1]
  rw [if_neg h1] at hF; clear h1 E1 LK; go_wp2; have z4 : ((w1.alloc (.cells #[.string x0, .string x1, .slice A2 x2.length c2, .int .i64 x3, .int .i64 x4, .slice A5 x5.length c5] 85)).setCell ⟨w.heap.size, 0, none⟩ (.int .i64 0)).cell? ⟨w.heap.size, 0, none⟩ = some (.int .i64 0) := (blk_cell (blk_put Z1.out 0 (.int .i64 0) rfl) 0).trans rfl; refine bodyPost_ret (v := .tuple #[.bool false, .int .i64 0, .int .i64 3]) (by simp [results, Tryz.results23, go_sem, z4, hxe]) rfl ⟨?_, Below.setCell (p := ⟨w.heap.size, 0, none⟩) M1.out (Nat.le_refl _) _⟩; have := hF.out
  cases this
  rfl
end Go.Proofs.YtaipkdglhfhhiaaGreatDoor.Pt

namespace Go.Proofs.YtaipkdglhfhhiaaGreatDoor.Pt
open Go Go.RowKit Go.Proofs.YtaipkdglhfhhiaaGreatDoor.Nm Go.Proofs.YtaipkdglhfhhiaaGreatDoor.Hi Go.Proofs.YtaipkdglhfhhiaaGreatDoorW.PrintWords Go.Proofs.YtaipkdglhfhhiaaGreatDoorW.PrintLast Go.Proofs.YtaipkdglhfhhiaaGreatDoorW.PrintMore
set_option linter.unusedVariables false
set_option linter.unusedSimpArgs false
set_option maxHeartbeats 2000000
set_option maxRecDepth 100000
theorem index_two (a : Int) (s : ByteArray) (b : Int) (t : ByteArray) (w : World) : (Instr.index 126 (.agg #[.int .i64 a, .string s, .int .i64 b, .string t]) (.int .i64 0)).run Tryz.prog w = .ok (.agg #[.int .i64 a, .string s]) w := by rfl
def arrays_Sub.f (a0 : List Hi.Ent) (a1_0 : Int) (a1_1 : ByteArray) (a2_0 : Int) (a2_1 : ByteArray) : Option (Bool × Int) := some (subF a0 a1_0 a1_1 a2_0 a2_1)
end Go.Proofs.YtaipkdglhfhhiaaGreatDoor.Pt

namespace Go.Proofs.YtaipkdglhfhhiaaGreatDoor.Pt
open Go.RowKit Go.Proofs.YtaipkdglhfhhiaaGreatDoorW.PrintWords Go.Proofs.YtaipkdglhfhhiaaGreatDoorW.PrintLast Go.Proofs.YtaipkdglhfhhiaaGreatDoorW.PrintMore
attribute [local go_sem] max2_int min2_int max_two min_two max_three min_three max_four min_four   -- for this text's walks alone
set_option linter.unusedVariables false
set_option linter.unusedSimpArgs false
def display_TestTypes.j0 : Nat → List Hi.Ent → Bool → Bool → Int → ByteArray → Int → ByteArray → Option (Bool × Int × Int)
 | 0, _, _, _, _, _, _, _ => none
 | k + 1, x0, x6, x56, x460000, x460001, x461000, x461001 => if x56 = true then (some (x6, 1, 0)) else ((hier_World_ByName.f x0 x460001).bind fun bt463 => ((hier_World_ByName.f x0 x461001).bind fun bt465 => ((display_Test.f x0 bt463.1 bt465.1).bind fun bt467 => (some (bt467.1, bt467.2.1, bt467.2.2)))))
def display_TestTypes.f (k : Nat) (a0 : List Hi.Ent) (a1_0 : Int) (a1_1 : ByteArray) (a2_0 : Int) (a2_1 : ByteArray) : Option (Bool × Int × Int) := (arrays_Sub.f a0 a1_0 a1_1 a2_0 a2_1).bind fun bt461 => (if bt461.2 = 0 then (if (wrap64 (a1_0 - (mn a1_0 a2_0))) > 0 then (display_TestTypes.j0 k a0 bt461.1 true (wrap64 (a1_0 - (mn a1_0 a2_0))) a1_1 (wrap64 (a2_0 - (mn a1_0 a2_0))) a2_1) else (if (wrap64 (a2_0 - (mn a1_0 a2_0))) > 0 then (display_TestTypes.j0 k a0 bt461.1 true (wrap64 (a1_0 - (mn a1_0 a2_0))) a1_1 (wrap64 (a2_0 - (mn a1_0 a2_0))) a2_1) else (if a1_1.toList = ([] : List UInt8) then (display_TestTypes.j0 k a0 bt461.1 true (wrap64 (a1_0 - (mn a1_0 a2_0))) a1_1 (wrap64 (a2_0 - (mn a1_0 a2_0))) a2_1) else (display_TestTypes.j0 k a0 bt461.1 (a2_1.toList == ([] : List UInt8)) (wrap64 (a1_0 - (mn a1_0 a2_0))) a1_1 (wrap64 (a2_0 - (mn a1_0 a2_0))) a2_1)))) else (some (false, 0, bt461.2)))
end Go.Proofs.YtaipkdglhfhhiaaGreatDoor.Pt
