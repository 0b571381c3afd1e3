/- Lemmas and contracts for the statement of TyTypesParse: joined by program out of this session's texts. -/
import Derived.Test.YtpcdfjifhoofjaaDoorBdTyTypesParse1
/- The walks of arbiterref02.read, Parse. -/
namespace Go.Proofs.YtpcdfjifhoofjaaDoor.Ty
open Go Go.RowKit Go.Proofs.YtpcdfjifhoofjaaDoor.Nm
set_option linter.unusedVariables false
set_option linter.unusedSimpArgs false
set_option maxHeartbeats 1000000
set_option maxRecDepth 10000

theorem drop_at (L : List UInt8) (k : Nat) (h : k < L.length) : ∃ x, L.drop k = x :: L.drop (k + 1) ∧ bt (bs L) k = (x.toNat : Int) := by
  refine ⟨L[k], List.drop_eq_getElem_cons h, ?_⟩
  simp [bt, mk_toList, List.getD_eq_getElem?_getD, List.getElem?_eq_getElem h]
/-- The reference's answer: dimensions, name, the place behind. -/
def place (L r : List UInt8) : Int := (L.length : Int) - (r.length : Int)

def ReadAs (L l : List UInt8) (d : Int) (nm : List UInt8) (pos : Int) : Prop :=
  match (rd l).rest with | none => pos = -1 | some r => d = (rd l).dims ∧ nm = (rd l).name ∧ pos = place L r
theorem upTo_step (x : UInt8) (l : List UInt8) (h : x ≠ 59) : upTo (x :: l) = x :: upTo l ∧ behind (x :: l) = behind l := by simp [upTo, behind, h]
/-- The name that the reference's read tells, whether or not there is a type. -/
def rdNm (l : List UInt8) : List UInt8 :=
  match past l with
  | [] => []
  | x :: r => if x = 76 then (match behind r with | none => [] | some _ => upTo r) else []
theorem rdNm_76 (l r : List UInt8) (h : past l = 76 :: r) : rdNm l = (match behind r with | none => [] | some _ => upTo r) := by rw [rdNm, h]; rfl
theorem rdNm_not (l r : List UInt8) (x : UInt8) (h : past l = x :: r) (hx : x ≠ 76) : rdNm l = [] := by rw [rdNm, h]; simp [hx]
theorem rread_ex (L : List UInt8) (n : Nat) (hn : n ≤ L.length) (hL : L.length < 4294967281) (w : World) (hm : ML w) : Calls Tryd.prog 66 #[.string (bs L), .int .i64 n] w fun e w' =>
    ∃ d nm pos, e = .returned (.tuple #[tyV d nm, .int .i64 pos]) ∧ Below w.heap.size w w' ∧ ReadAs L (L.drop n) d nm pos ∧ d = (opens (L.drop n) : Int) ∧ nm = rdNm (L.drop n) := by
  have hz := mk_size L
  have hzl : ((bs L).size : Int) = L.length := by rw [hz]
  have hbt : ∀ k (h : k < (bs L).size), (((bs L)[k]'h).toNat : Int) = bt (bs L) k := fun k h => bt_at _ k h
  replace hbt := Lib.hid hbt
  replace hz := Lib.hid hz
  go_enter Tryd.func66, Tryd.ntmps66
  go_wp2
  go_loopw [1] (fun i wr => ∃ k : Nat, i = .int .i64 ((n + k : Nat) : Int) ∧ n + k ≤ L.length ∧ opens (L.drop (n + k)) + k = opens (L.drop n) ∧ past (L.drop (n + k)) = past (L.drop n) ∧ Two wr w.heap.size 0 ⟨#[]⟩ ∧ Two wr (w.heap.size + 1) k ⟨#[]⟩ ∧ Below w.heap.size w wr) (fun i _ => L.length - (intOf i).toNat)
  case atStart =>
    have A0 := Two.new w 0 ⟨#[]⟩ 37
    have A1 := Two.new (w.alloc (.cells #[.int .i64 0, .string ⟨#[]⟩] 37)) 0 ⟨#[]⟩ 37
    have hz2 : (w.alloc (.cells #[.int .i64 0, .string ⟨#[]⟩] 37)).heap.size = w.heap.size + 1 := by simp
    rw [hz2] at A1
    refine ⟨0, rfl, hn, rfl, rfl, ?_, A1, ?_⟩
    · exact A0.kept (World.grownBy_alloc _ _ none) (by simp)
    · exact ((Below.refl _ _).alloc (Nat.le_refl _) _).alloc (by simp) _
  case round =>
    obtain ⟨k, rfl, hle, hop, hpa, hT, hU, hB⟩ := hrel
    have hne1 : some w.heap.size ≠ some (w.heap.size + 1) := by simp
    have hlt1 := hT.lt
    have hlt2 := hU.lt
    have h1 := hT.c0
    have h2 := hT.c1
    have h3 := hT.f0
    have h4 := hT.f1
    have g1 := hU.c0
    have g2 := hU.c1
    have g3 := hU.f0
    have g4 := hU.f1
    replace hT := Lib.hid hT
    replace hU := Lib.hid hU
    replace hB := Lib.hid hB
    replace hop := Lib.hid hop
    replace hpa := Lib.hid hpa
    replace hne1 := Lib.hid hne1
    by_cases hlt : n + k < L.length
    · obtain ⟨x, hx, hbx⟩ := drop_at L (n + k) hlt
      have hb := (hbt.out (n + k) (by rw [hz.out]; exact hlt)).trans hbx
      have hr : 0 ≤ (x.toNat : Int) ∧ (x.toNat : Int) ≤ 255 := by have := x.toNat_lt; omega
      replace hx := Lib.hid hx
      clear hbx
      by_cases h91 : (x.toNat : Int) = 91
      · go_wp2
        go_roundw
        case rel =>
          have hx91 : x = 91 := u8_ne (n := 91) (by omega) h91
          have e1 := hop.out
          have e2 := hpa.out
          rw [hx.out, hx91] at e1 e2
          refine ⟨k + 1, by go_num, by omega, ?_, ?_, ?_, ?_, ?_⟩
          · simp [opens] at e1; rw [← e1]; rw [show n + (k + 1) = n + k + 1 from rfl]; omega
          · rw [← e2]; simp [past]; rfl
          · exact hT.out.kept (gb_set _ _ _ _) hne1.out
          · have := hU.out.set0 (k + 1); simpa using this
          · exact hB.out.setCell (by simp) _
        case measure => simp [intOf]; omega
      · have hx91 : x ≠ 91 := by rintro rfl; exact h91 rfl
        have hself := past_self (L.drop (n + k)) (by rw [hx.out]; rintro r e; injection e with e; exact hx91 e)
        have hpq : past (L.drop n) = x :: L.drop (n + k + 1) := by rw [← hpa.out, hself.1, hx.out]
        have hk : opens (L.drop n) = k := by have := hop.out; rw [hself.2] at this; omega
        replace hpq := Lib.hid hpq
        replace hk := Lib.hid hk
        clear hop hpa hself
        replace hx91 := Lib.hid hx91
        by_cases h73 : (x.toNat : Int) = 73
        · have hrd : rd (L.drop n) = ⟨k, [], some (L.drop (n + k + 1))⟩ := by
            rw [rd, hpq.out, u8_ne (n := 73) (by omega) h73]
            simp [hk.out]
          have hrm : (k : Int) = (opens (L.drop n) : Int) ∧ ([] : List UInt8) = rdNm (L.drop n) := ⟨by rw [hk.out], (rdNm_not _ _ x hpq.out (by rw [u8_ne (n := 73) (by omega) h73]; decide)).symm⟩
          replace hrm := Lib.hid hrm
          replace hrd := Lib.hid hrd
          clear hpq hk
          go_wp2
          have T5 := (hT.out.set0 k).set1 ⟨#[]⟩
          refine bodyPost_ret (v := .tuple #[tyV k [], .int .i64 (n + k + 1)]) (by simp [results, Tryd.results66, go_sem, tyV, bs_nil, T5.c0, T5.c1]) rfl ⟨k, [], _, rfl, ?_, ?_, hrm.out⟩
          · repeat' (first | exact hB.out | apply Below.setCell | apply Below.alloc | apply Below.drew)
            all_goals (first | omega | (simp; done) | (simp; omega))
          · rw [ReadAs, hrd.out]
            refine ⟨rfl, rfl, ?_⟩
            simp [place]
            omega
        · by_cases h76 : (x.toNat : Int) = 76
          · obtain ⟨q, hq⟩ : ∃ q, q = L.drop (n + k + 1) := ⟨_, rfl⟩
            have hrd : rd (L.drop n) = ⟨k, upTo q, if validB (bs (upTo q)) then behind q else none⟩ := by
              rw [rd, hpq.out, u8_ne (n := 76) (by omega) h76, ← hq]
              simp [hk.out]
            have hrm : (k : Int) = (opens (L.drop n) : Int) ∧ (match behind q with | none => [] | some _ => upTo q) = rdNm (L.drop n) := ⟨by rw [hk.out], by rw [hq]; exact (rdNm_76 _ _ (by rw [hpq.out, u8_ne (n := 76) (by omega) h76]; rfl)).symm⟩
            replace hrm := Lib.hid hrm
            replace hrd := Lib.hid hrd
            replace hq := Lib.hid hq
            clear hpq hk
            go_wp2
            go_loop [7] (fun i => ∃ j : Nat, i = .int .i64 ((n + k + 1 + j : Nat) : Int) ∧ n + k + 1 + j ≤ L.length ∧ upTo q = q.take j ++ upTo (L.drop (n + k + 1 + j)) ∧ behind q = behind (L.drop (n + k + 1 + j))) (fun i => L.length - (intOf i).toNat)
            case atStart => exact ⟨0, by go_num, by omega, by rw [hq.out] <;> simp, by rw [hq.out] <;> simp⟩
            case round =>
              obtain ⟨j, rfl, hle2, hu, hbh⟩ := hrel
              replace hu := Lib.hid hu
              replace hbh := Lib.hid hbh
              by_cases hlt2 : n + k + 1 + j < L.length
              · obtain ⟨y, hy, hby⟩ := drop_at L (n + k + 1 + j) hlt2
                have hc := (hbt.out (n + k + 1 + j) (by rw [hz.out]; exact hlt2)).trans hby
                have hr2 : 0 ≤ (y.toNat : Int) ∧ (y.toNat : Int) ≤ 255 := by have := y.toNat_lt; omega
                replace hy := Lib.hid hy
                clear hby
                by_cases h59 : (y.toNat : Int) = 59
                · have e1 : upTo q = q.take j := by
                    have := hu.out
                    rw [hy.out, u8_ne (n := 59) (by omega) h59] at this
                    simpa [upTo] using this
                  have e2 : behind q = some (L.drop (n + k + 1 + j + 1)) := by
                    have := hbh.out
                    rw [hy.out, u8_ne (n := 59) (by omega) h59] at this
                    simpa [behind] using this
                  have e3 : (bs L).extract (n + k + 1) (n + k + 1 + j) = bs (upTo q) := by
                    apply bytes_inj
                    rw [ex_data, mk_toList, mk_toList, e1, hq.out]
                    rw [List.drop_take]
                    congr 1
                    omega
                  replace e1 := Lib.hid e1
                  replace e2 := Lib.hid e2
                  replace e3 := Lib.hid e3
                  have hcell : ∀ W : World, W = wr.setCell ⟨w.heap.size + 1, 1, none⟩ (.string (bs (upTo q))) → Two W w.heap.size 0 ⟨#[]⟩ ∧ Two W (w.heap.size + 1) k (bs (upTo q)) ∧ Below w.heap.size w W := by
                    rintro W rfl
                    exact ⟨hT.out.kept (gb_set _ _ _ _) hne1.out, hU.out.set1 _, hB.out.setCell (by simp) _⟩
                  replace hcell := Lib.hid hcell
                  have b1 : (n : Int) + k + 1 ≤ n + k + 1 + j := by omega
                  have b2 : (n : Int) + k + 1 + j ≤ L.length := by omega
                  have hsl : ∀ W : World, (Instr.slice 9 (.string (bs L)) (some (.int .i64 ((n : Int) + k + 1))) (some (.int .i64 ((n : Int) + k + 1 + j))) none).run Tryd.prog W = .ok (.string (bs (upTo q))) W := by
                    intro W
                    have i1 : (0 : Int) ≤ (n : Int) + k + 1 := by omega
                    have i3 : (n : Int) + k + 1 + j ≤ (bs L).size := by omega
                    have i4 : ((n : Int) + k + 1).toNat = n + k + 1 := by omega
                    have i5 : ((n : Int) + k + 1 + j).toNat = n + k + 1 + j := by omega
                    rw [run_slice_string _ _ _ _ _ _ _ rfl i1 b1 i3, i4, i5, e3.out]
                  go_wp2_with fail
                  obtain ⟨T5, U5, B5⟩ := hcell.out _ rfl
                  refine (rvalid_any (bs (upTo q)) _).mono ?_
                  rintro e w5 ⟨rfl, hb5⟩
                  have T6 := T5.kept (gb_below hb5) (by simp)
                  have U6 := U5.kept (gb_below hb5) (by simp)
                  have B6 := B5.trans (hb5.mono B5.size)
                  clear T5 U5 B5 hb5 hcell h1 h2 h3 h4 g1 g2 g3 g4 hlt1 hT hU hB
                  have hlt1 := T6.lt
                  have h1 := T6.c0
                  have h2 := T6.c1
                  have h3 := T6.f0
                  have h4 := T6.f1
                  have g1 := U6.c0
                  have g2 := U6.c1
                  replace T6 := Lib.hid T6
                  replace U6 := Lib.hid U6
                  replace B6 := Lib.hid B6
                  cases hv : validB (bs (upTo q))
                  · go_wp2
                    have T5 := (T6.out.set0 k).set1 (bs (upTo q))
                    refine bodyPost_ret (v := .tuple #[tyV k (upTo q), .int .i64 (-1)]) (by simp [results, Tryd.results66, go_sem, tyV, T5.c0, T5.c1]) rfl ⟨k, upTo q, _, rfl, ?_, ?_, hrm.out.1, by rw [← hrm.out.2, e2.out]⟩
                    · repeat' (first | exact B6.out | apply Below.setCell | apply Below.alloc | apply Below.drew)
                      all_goals (first | omega | (simp; done) | (simp; omega))
                    · rw [ReadAs, hrd.out]
                      simp [hv]
                  · go_wp2
                    have T5 := (T6.out.set0 k).set1 (bs (upTo q))
                    refine bodyPost_ret (v := .tuple #[tyV k (upTo q), .int .i64 (n + k + 1 + j + 1)]) (by simp [results, Tryd.results66, go_sem, tyV, T5.c0, T5.c1]) rfl ⟨k, upTo q, _, rfl, ?_, ?_, hrm.out.1, by rw [← hrm.out.2, e2.out]⟩
                    · repeat' (first | exact B6.out | apply Below.setCell | apply Below.alloc | apply Below.drew)
                      all_goals (first | omega | (simp; done) | (simp; omega))
                    · rw [ReadAs, hrd.out]
                      simp only [hv, if_true]
                      rw [e2.out]
                      refine ⟨trivial, trivial, ?_⟩
                      simp [place]
                      omega
                · go_wp2
                  go_round
                  case rel =>
                    have hy59 : y ≠ 59 := by rintro rfl; exact h59 rfl
                    have s1 := upTo_step y (L.drop (n + k + 1 + j + 1)) hy59
                    refine ⟨j + 1, by go_num, by omega, ?_, ?_⟩
                    · rw [hu.out, hy.out, s1.1]
                      have hqj : q.take (j + 1) = q.take j ++ [y] := by
                        have hqy : q[j]? = some y := by
                          rw [hq.out, List.getElem?_drop]
                          have := congrArg List.head? hy.out
                          rw [List.head?_drop] at this
                          exact this
                        rw [List.take_add_one, hqy]
                        rfl
                      rw [hqj, List.append_assoc]
                      rfl
                    · rw [hbh.out, hy.out, s1.2]; rfl
                  case measure => simp [intOf]; omega
              · have hnil : L.drop (n + k + 1 + j) = [] := by rw [show n + k + 1 + j = L.length by omega]; simp
                have e2 : behind q = none := by rw [hbh.out, hnil]; rfl
                replace e2 := Lib.hid e2
                have hej : n + k + 1 + j = L.length := by omega
                clear hu hbh hnil
                go_wp2
                have T5 := (hT.out.set0 k).set1 ⟨#[]⟩
                refine bodyPost_ret (v := .tuple #[tyV k [], .int .i64 (-1)]) (by simp [results, Tryd.results66, go_sem, tyV, bs_nil, T5.c0, T5.c1]) rfl ⟨k, [], _, rfl, ?_, ?_, hrm.out.1, by rw [← hrm.out.2, e2.out]⟩
                · repeat' (first | exact hB.out | apply Below.setCell | apply Below.alloc | apply Below.drew)
                  all_goals (first | omega | (simp; done) | (simp; omega))
                · rw [ReadAs, hrd.out, e2.out]
                  simp
          · have hrd : rd (L.drop n) = ⟨k, [], none⟩ := by
              rw [rd, hpq.out]
              have n1 : x ≠ 73 := by rintro rfl; exact h73 rfl
              have n2 : x ≠ 76 := by rintro rfl; exact h76 rfl
              simp [hk.out, n1, n2]
            have hrm : (k : Int) = (opens (L.drop n) : Int) ∧ ([] : List UInt8) = rdNm (L.drop n) := ⟨by rw [hk.out], (rdNm_not _ _ x hpq.out (by rintro rfl; exact h76 rfl)).symm⟩
            replace hrm := Lib.hid hrm
            replace hrd := Lib.hid hrd
            clear hpq hk
            have h76b : ((x.toNat : Int) != 76) = true := by simp [h76]
            go_wp2
            have T5 := (hT.out.set0 k).set1 ⟨#[]⟩
            refine bodyPost_ret (v := .tuple #[tyV k [], .int .i64 (-1)]) (by simp [results, Tryd.results66, go_sem, tyV, bs_nil, T5.c0, T5.c1]) rfl ⟨k, [], _, rfl, ?_, ?_, hrm.out⟩
            · repeat' (first | exact hB.out | apply Below.setCell | apply Below.alloc | apply Below.drew)
              all_goals (first | omega | (simp; done) | (simp; omega))
            · rw [ReadAs, hrd.out]
    · obtain hend : n + k = L.length := by omega
      have hnil : L.drop (n + k) = [] := by rw [hend]; simp
      have hrd : rd (L.drop n) = ⟨k, [], none⟩ := by
        have e1 := hop.out
        have e2 := hpa.out
        rw [hnil] at e1 e2
        rw [rd, ← e2]
        simp [opens, past] at e1 ⊢
        omega
      have hrm : (k : Int) = (opens (L.drop n) : Int) ∧ ([] : List UInt8) = rdNm (L.drop n) := by
        have e1 := hop.out
        have e2 := hpa.out
        rw [hnil] at e1 e2
        rw [rdNm, ← e2]
        simp [opens, past] at e1 ⊢
        omega
      replace hrm := Lib.hid hrm
      replace hrd := Lib.hid hrd
      clear hop hpa hnil
      go_wp2
      have T5 := (hT.out.set0 k).set1 ⟨#[]⟩
      refine bodyPost_ret (v := .tuple #[tyV k [], .int .i64 (-1)]) (by simp [results, Tryd.results66, go_sem, tyV, bs_nil, T5.c0, T5.c1]) rfl ⟨k, [], _, rfl, ?_, ?_, hrm.out⟩
      · repeat' (first | exact hB.out | apply Below.setCell | apply Below.alloc | apply Below.drew)
        all_goals (first | omega | (simp; done) | (simp; omega))
      · rw [ReadAs, hrd.out]
theorem rread_any (L : List UInt8) (n : Nat) (hn : n ≤ L.length) (hL : L.length < 4294967281) (w : World) (hm : ML w) : Calls Tryd.prog 66 #[.string (bs L), .int .i64 n] w fun e w' =>
    ∃ d nm pos, e = .returned (.tuple #[tyV d nm, .int .i64 pos]) ∧ Below w.heap.size w w' ∧ ReadAs L (L.drop n) d nm pos := by
  refine (rread_ex L n hn hL w hm).mono ?_
  rintro e w' ⟨d, nm, pos, he, hb, hr, _⟩
  exact ⟨d, nm, pos, he, hb, hr⟩
def readF (L : List UInt8) (n : Nat) : Int × List UInt8 × Int :=
  ((opens (L.drop n) : Int), rdNm (L.drop n), match (rd (L.drop n)).rest with | none => -1 | some r => place L r)
theorem rread_fun (L : List UInt8) (n : Nat) (hn : n ≤ L.length) (hL : L.length < 4294967281) (w : World) : Calls Tryd.prog 66 #[.string (bs L), .int .i64 n] w fun e w' =>
    e = .returned (.tuple #[tyV (readF L n).1 (readF L n).2.1, .int .i64 (readF L n).2.2]) ∧ Below w.heap.size w w' := by
  refine (rread_ex L n hn hL w trivial).mono ?_
  rintro e w' ⟨d, nm, pos, rfl, hb, hr, rfl, rfl⟩
  refine ⟨?_, hb⟩
  have hp : pos = (readF L n).2.2 := by
    unfold readF
    unfold ReadAs at hr
    cases h : (rd (L.drop n)).rest with
    | none => rw [h] at hr; simpa using hr
    | some r => rw [h] at hr; exact hr.2.2
  rw [hp]
  rfl
end Go.Proofs.YtpcdfjifhoofjaaDoor.Ty

/- The walks of arbiterref02.Parse, ParseRef, Same and of types.ParseRef. -/
namespace Go.Proofs.YtpcdfjifhoofjaaDoor.Ty
open Go Go.RowKit Go.Proofs.YtpcdfjifhoofjaaDoor.Nm
set_option linter.unusedVariables false
set_option linter.unusedSimpArgs false
set_option maxHeartbeats 1000000
set_option maxRecDepth 10000

theorem rparse_any (l : List UInt8) (w : World) (hm : ML w) : Calls Tryd.prog 27 #[.string (bs l)] w fun e w' =>
    e = .returned (.tuple #[tyV (parseT l).1 (parseT l).2.1, .int .i64 (parseT l).2.2]) ∧ Below w.heap.size w w' := by
  have hz := mk_size l
  have hzl : ((bs l).size : Int) = l.length := by rw [hz]
  clear hz
  have T0 := Two.new w 0 ⟨#[]⟩ 37
  by_cases hbig : 2000 < l.length
  · have hp : parseT l = (0, [], 5) := by simp [parseT, hbig]
    replace hp := Lib.hid hp
    replace T0 := Lib.hid T0
    go_enter Tryd.func27, Tryd.ntmps27
    go_wp2
    refine bodyPost_ret (v := .tuple #[tyV 0 [], .int .i64 5]) (by simp [results, Tryd.results27, go_sem, tyV, bs_nil]) rfl ⟨by rw [hp.out], ?_⟩
    have B0 := Below.refl w.heap.size w
    repeat' (first | assumption | apply Below.setCell | apply Below.alloc | apply Below.drew)
    all_goals (first | omega | (simp; done) | (simp; omega))
  · have hp : parseT l = match (rd l).rest with
      | none => (0, [], 4)
      | some r => if r ≠ [] then (0, [], 4) else if 255 < (rd l).dims then (0, [], 5) else ((rd l).dims, (rd l).name, 0) := by rw [parseT, if_neg hbig] <;> rfl
    replace hp := Lib.hid hp
    have hsm : (l.length : Int) ≤ 2000 := by omega
    have M0 := ml_alloc hm (.cells #[.int .i64 0, .string ⟨#[]⟩] 37)
    have O := Lib.hid (rread_any l 0 (by omega) (by omega) _ M0)
    have B0 : Below w.heap.size w (w.alloc (.cells #[.int .i64 0, .string ⟨#[]⟩] 37)) := (Below.refl _ _).alloc (Nat.le_refl _) _
    replace T0 := Lib.hid T0
    replace B0 := Lib.hid B0
    clear M0 hm
    go_enter Tryd.func27, Tryd.ntmps27
    go_wp2_with fail
    refine O.out.mono ?_
    rintro e w3 ⟨d, nm, pos, rfl, hg, hsome⟩
    have T3 := T0.out.kept (gb_below hg) (by simp)
    have B3 := B0.out.trans (hg.mono (by simp))
    have hsz := B3.size
    have hlt := T3.lt
    clear T0 B0 O hg
    have f0 := T3.f0
    have h1 := T3.c0
    have h2 := T3.c1
    have f1 := T3.f1
    replace T3 := Lib.hid T3
    rw [List.drop_zero] at hsome
    cases hr : (rd l).rest with
    | none =>
      rw [hr] at hp
      rw [ReadAs, hr] at hsome
      simp only at hsome
      subst hsome
      have hp2 : parseT l = (0, [], 4) := hp.out
      replace hp2 := Lib.hid hp2
      clear hp
      rw [tyV]
      go_wp2
      have T5 := ((T3.out.set0 0).set1 ⟨#[]⟩).kept (World.grownBy_alloc _ (.cells #[.int .i64 d, .string (bs nm)] 37) none) (by simp)
      refine bodyPost_ret (v := .tuple #[tyV 0 [], .int .i64 4]) (by simp [results, Tryd.results27, go_sem, tyV, bs_nil, T5.c0, T5.c1]) rfl ⟨by rw [hp2.out], ?_⟩
      repeat' (first | assumption | apply Below.setCell | apply Below.alloc | apply Below.drew)
      all_goals (first | omega | (simp; done) | (simp; omega))
    | some r =>
      rw [ReadAs, hr] at hsome
      obtain ⟨rfl, rfl, rfl⟩ := hsome
      rw [hr] at hp
      have hrl := rd_len l r hr
      have hdr : ((rd l).dims : Int) ≤ 4294967281 := by omega
      generalize (rd l).dims = k at *
      generalize (rd l).name = nm at *
      rw [tyV]
      cases r with
      | nil =>
        have hpl : place l [] = l.length := by simp [place]
        rw [hpl]
        by_cases hk : 255 < k
        · have hp2 : parseT l = (0, [], 5) := by rw [hp.out]; simp [hk]
          replace hp2 := Lib.hid hp2
          clear hp hpl
          go_wp2
          have T5 := ((T3.out.set0 0).set1 ⟨#[]⟩).kept (World.grownBy_alloc _ (.cells #[.int .i64 k, .string (bs nm)] 37) none) (by simp)
          refine bodyPost_ret (v := .tuple #[tyV 0 [], .int .i64 5]) (by simp [results, Tryd.results27, go_sem, tyV, bs_nil, T5.c0, T5.c1]) rfl ⟨by rw [hp2.out], ?_⟩
          repeat' (first | assumption | apply Below.setCell | apply Below.alloc | apply Below.drew)
          all_goals (first | omega | (simp; done) | (simp; omega))
        · have hp2 : parseT l = ((k : Int), nm, 0) := by rw [hp.out]; simp [hk]
          replace hp2 := Lib.hid hp2
          clear hp hpl
          go_wp2
          have T5 := ((T3.out.set0 k).set1 (bs nm)).kept (World.grownBy_alloc _ (.cells #[.int .i64 k, .string (bs nm)] 37) none) (by simp)
          refine bodyPost_ret (v := .tuple #[tyV k nm, .int .i64 0]) (by simp [results, Tryd.results27, go_sem, tyV, bs_nil, T5.c0, T5.c1]) rfl ⟨by rw [hp2.out], ?_⟩
          repeat' (first | assumption | apply Below.setCell | apply Below.alloc | apply Below.drew)
          all_goals (first | omega | (simp; done) | (simp; omega))
      | cons x r =>
        have hp2 : parseT l = (0, [], 4) := by rw [hp.out]; simp
        replace hp2 := Lib.hid hp2
        have hpl : place l (x :: r) ≠ l.length := by simp [place]; omega
        have hpl2 : (place l (x :: r) != (l.length : Int)) = true := by simp [hpl]
        generalize place l (x :: r) = ps at *
        clear hp
        go_wp2
        have T5 := ((T3.out.set0 0).set1 ⟨#[]⟩).kept (World.grownBy_alloc _ (.cells #[.int .i64 k, .string (bs nm)] 37) none) (by simp)
        refine bodyPost_ret (v := .tuple #[tyV 0 [], .int .i64 4]) (by simp [results, Tryd.results27, go_sem, tyV, bs_nil, T5.c0, T5.c1]) rfl ⟨by rw [hp2.out], ?_⟩
        repeat' (first | assumption | apply Below.setCell | apply Below.alloc | apply Below.drew)
        all_goals (first | omega | (simp; done) | (simp; omega))

end Go.Proofs.YtpcdfjifhoofjaaDoor.Ty

/- The walk of arbiterref02.Check. -/
namespace Go.Proofs.YtpcdfjifhoofjaaDoor.Ty
open Go Go.RowKit Go.Proofs.YtpcdfjifhoofjaaDoor.Nm
set_option linter.unusedVariables false
set_option linter.unusedSimpArgs false
set_option maxHeartbeats 1000000
set_option maxRecDepth 10000

theorem rcheck_any (d : Int) (nm : List UInt8) (w : World) : Calls Tryd.prog 44 #[tyV d nm] w fun e w' => e = .returned (.int .i64 (chk d nm)) ∧ Below w.heap.size w w' := by
  have B0 := Lib.hid ((Below.refl w.heap.size w).alloc (Nat.le_refl _) (.cells #[.int .i64 d, .string (bs nm)] 37))
  have V := Lib.hid (rvalid_any (bs nm) (w.alloc (.cells #[.int .i64 d, .string (bs nm)] 37)))
  have hne : nm ≠ [] → ¬ (bs nm).toList = [] ∧ (bs nm).toList.isEmpty = false := by
    intro h
    rw [ByteArray.toList_eq, mk_toList]
    exact ⟨h, by cases nm with | nil => exact absurd rfl h | cons => rfl⟩
  have hc : chk d nm = if d < 0 ∨ 255 < d then 1 else if nm ≠ [] ∧ validB (bs nm) = false then 1 else 0 := rfl
  replace hc := Lib.hid hc
  by_cases hd : d < 0 ∨ 255 < d
  · have h1 : chk d nm = 1 := by rw [hc.out, if_pos hd]
    rw [h1]
    clear hne V
    go_enter Tryd.func44, Tryd.ntmps44
    rw [tyV]
    rcases hd with hd | hd
    all_goals
      go_wp2
      go_ret
      exact ⟨rfl, B0.out⟩
  · have hd1 : 0 ≤ d := by omega
    have hd2 : d ≤ 255 := by omega
    clear hd
    cases nm with
    | nil =>
      have h1 : chk d [] = 0 := by rw [hc.out, if_neg (by omega), if_neg (by simp)]
      rw [h1]
      clear hne V hc
      rw [tyV, bs_nil]
      rw [bs_nil] at B0
      go_enter Tryd.func44, Tryd.ntmps44
      go_wp2
      go_ret
      exact ⟨rfl, B0.out⟩
    | cons x r =>
      obtain ⟨n1, n2⟩ := hne (by simp)
      cases hv : validB (bs (x :: r))
      · have h1 : chk d (x :: r) = 1 := by rw [hc.out, if_neg (by omega), if_pos ⟨by simp, hv⟩]
        rw [h1, tyV]
        rw [hv] at V
        clear hc hv hne
        generalize bs (x :: r) = s at *
        go_enter Tryd.func44, Tryd.ntmps44
        go_wp2_with (go_at_call 36; refine V.out.mono ?_; rintro e w3 ⟨rfl, hb⟩; replace hb := Lib.hid hb)
        go_ret
        exact ⟨rfl, B0.out.trans (hb.out.mono (by simp))⟩
      · have h1 : chk d (x :: r) = 0 := by rw [hc.out, if_neg (by omega), if_neg (by simp [hv])]
        rw [h1, tyV]
        rw [hv] at V
        clear hc hv hne
        generalize bs (x :: r) = s at *
        go_enter Tryd.func44, Tryd.ntmps44
        go_wp2_with (go_at_call 36; refine V.out.mono ?_; rintro e w3 ⟨rfl, hb⟩; replace hb := Lib.hid hb)
        go_ret
        exact ⟨rfl, B0.out.trans (hb.out.mono (by simp))⟩
end Go.Proofs.YtpcdfjifhoofjaaDoor.Ty

/- The walks of ArrayOf, Component, Element. -/
namespace Go.Proofs.YtpcdfjifhoofjaaDoor.Ty
open Go Go.RowKit Go.Proofs.YtpcdfjifhoofjaaDoor.Nm
set_option linter.unusedVariables false
set_option linter.unusedSimpArgs false
set_option maxHeartbeats 1000000
set_option maxRecDepth 10000

def arrT (d : Int) (nm : List UInt8) : Int × List UInt8 × Int :=
  if chk d nm ≠ 0 then (0, [], 1) else if d = 255 then (0, [], 5) else (d + 1, nm, 0)
theorem chk_cases (d : Int) (nm : List UInt8) : (chk d nm = 1) ∨ (chk d nm = 0 ∧ 0 ≤ d ∧ d ≤ 255) := by
  rw [chk]
  split
  · exact .inl rfl
  · split
    · exact .inl rfl
    · right; exact ⟨rfl, by omega, by omega⟩
theorem rarrayof_any (d : Int) (nm : List UInt8) (w : World) : Calls Tryd.prog 48 #[tyV d nm] w fun e w' =>
    e = .returned (.tuple #[tyV (arrT d nm).1 (arrT d nm).2.1, .int .i64 (arrT d nm).2.2]) ∧ Below w.heap.size w w' := by
  have A0 := Two.new w d (bs nm) 37
  have T0 := Two.new (w.alloc (.cells #[.int .i64 d, .string (bs nm)] 37)) 0 ⟨#[]⟩ 37
  have hz : (w.alloc (.cells #[.int .i64 d, .string (bs nm)] 37)).heap.size = w.heap.size + 1 := by simp
  rw [hz] at T0
  have A1 := A0.kept (World.grownBy_alloc _ (.cells #[.int .i64 0, .string ⟨#[]⟩] 37) none) (by simp)
  have C := Lib.hid (rcheck_any d nm ((w.alloc (.cells #[.int .i64 d, .string (bs nm)] 37)).alloc (.cells #[.int .i64 0, .string ⟨#[]⟩] 37)))
  have B0 := ((Below.refl w.heap.size w).alloc (Nat.le_refl _) (.cells #[.int .i64 d, .string (bs nm)] 37)).alloc (by simp) (.cells #[.int .i64 0, .string ⟨#[]⟩] 37)
  have K := chk_cases d nm
  have ha : arrT d nm = if chk d nm ≠ 0 then (0, [], 1) else if d = 255 then (0, [], 5) else (d + 1, nm, 0) := rfl
  replace ha := Lib.hid ha
  replace A1 := Lib.hid A1
  replace T0 := Lib.hid T0
  replace B0 := Lib.hid B0
  clear A0 hz
  rw [tyV]
  go_enter Tryd.func48, Tryd.ntmps48
  go_wp2_with fail
  refine C.out.mono ?_
  rintro e w3 ⟨rfl, hb⟩
  have A3 := A1.out.kept (gb_below hb) (by simp)
  have T3 := T0.out.kept (gb_below hb) (by simp)
  have B3 := B0.out.trans (hb.mono (by simp; omega))
  clear A1 T0 B0 hb C
  have a0 := A3.c0
  have a1 := A3.c1
  have h0 := T3.c0
  have h1 := T3.c1
  have f0 := T3.f0
  have f1 := T3.f1
  replace T3 := Lib.hid T3
  replace A3 := Lib.hid A3
  replace B3 := Lib.hid B3
  rcases K with hk | ⟨hk, hd0, hd1⟩
  · have hp := ha.out
    rw [hk, if_pos (by decide)] at hp
    replace hp := Lib.hid hp
    rw [hk]
    clear ha hk
    go_wp2
    have T5 := (T3.out.set0 0).set1 ⟨#[]⟩
    refine bodyPost_ret (v := .tuple #[tyV 0 [], .int .i64 1]) (by simp [results, Tryd.results48, go_sem, tyV, bs_nil, T5.c0, T5.c1]) rfl ⟨by rw [hp.out], ?_⟩
    have B4 := B3.out
    repeat' (first | assumption | apply Below.setCell | apply Below.alloc | apply Below.drew)
    all_goals (first | omega | (simp; done) | (simp; omega))
  · have hp := ha.out
    rw [hk, if_neg (by decide)] at hp
    rw [hk]
    clear ha hk
    by_cases h255 : d = 255
    · subst h255
      rw [if_pos rfl] at hp
      replace hp := Lib.hid hp
      go_wp2
      have T5 := (T3.out.set0 (0)).set1 (⟨#[]⟩)
      refine bodyPost_ret (v := .tuple #[tyV (0) [], .int .i64 5]) (by simp [results, Tryd.results48, go_sem, tyV, bs_nil, T5.c0, T5.c1]) rfl ⟨by rw [hp.out], ?_⟩
      have B4 := B3.out
      repeat' (first | assumption | apply Below.setCell | apply Below.alloc | apply Below.drew)
      all_goals (first | omega | (simp; done) | (simp; omega))
    · rw [if_neg h255] at hp
      replace hp := Lib.hid hp
      go_wp2
      have T5 := (T3.out.set0 (d + 1)).set1 (bs nm)
      refine bodyPost_ret (v := .tuple #[tyV (d + 1) nm, .int .i64 0]) (by simp [results, Tryd.results48, go_sem, tyV, bs_nil, T5.c0, T5.c1]) rfl ⟨by rw [hp.out], ?_⟩
      have B4 := B3.out
      repeat' (first | assumption | apply Below.setCell | apply Below.alloc | apply Below.drew)
      all_goals (first | omega | (simp; done) | (simp; omega))
end Go.Proofs.YtpcdfjifhoofjaaDoor.Ty

/- The walk of types.turned. -/
namespace Go.Proofs.YtpcdfjifhoofjaaDoor.Ty
open Go Go.RowKit Go.Proofs.YtpcdfjifhoofjaaDoor.Nm
set_option linter.unusedVariables false
set_option linter.unusedSimpArgs false
set_option maxHeartbeats 1000000
set_option maxRecDepth 10000

theorem turned_any (d k : Int) (nm : List UInt8) (w : World) : Calls Tryd.prog 72 #[tyV d nm, .int .i64 k] w fun e w' =>
    e = .returned (.tuple #[tyV k nm, .int .i64 0]) ∧ Below w.heap.size w w' := by
  have B0 := Lib.hid (Below.refl w.heap.size w)
  rw [tyV]
  go_enter Tryd.func72, Tryd.ntmps72
  go_wp2
  refine bodyPost_ret (v := .tuple #[tyV k nm, .int .i64 0]) (by simp [results, Tryd.results72, go_sem, tyV]) rfl ⟨rfl, ?_⟩
  have B4 := B0.out
  repeat' (first | assumption | apply Below.setCell | apply Below.alloc | apply Below.drew)
  all_goals (first | omega | (simp; done) | (simp; omega))
theorem arrayof_any (d : Int) (nm : List UInt8) (w : World) (hm : ML w) : Calls Tryd.prog 47 #[tyV d nm] w fun e w' =>
    e = .returned (.tuple #[tyV (arrT d nm).1 (arrT d nm).2.1, .int .i64 (arrT d nm).2.2]) ∧ Below w.heap.size w w' := by
  have A0 := Two.new w d (bs nm) 37
  have T0 := Two.new (w.alloc (.cells #[.int .i64 d, .string (bs nm)] 37)) 0 ⟨#[]⟩ 37
  have hz : (w.alloc (.cells #[.int .i64 d, .string (bs nm)] 37)).heap.size = w.heap.size + 1 := by simp
  rw [hz] at T0
  have A1 := A0.kept (World.grownBy_alloc _ (.cells #[.int .i64 0, .string ⟨#[]⟩] 37) none) (by simp)
  have C := Lib.hid (check_any d nm ((w.alloc (.cells #[.int .i64 d, .string (bs nm)] 37)).alloc (.cells #[.int .i64 0, .string ⟨#[]⟩] 37)) (ml_alloc (ml_alloc hm _) _))
  have B0 := ((Below.refl w.heap.size w).alloc (Nat.le_refl _) (.cells #[.int .i64 d, .string (bs nm)] 37)).alloc (by simp) (.cells #[.int .i64 0, .string ⟨#[]⟩] 37)
  have K := chk_cases d nm
  have ha : arrT d nm = if chk d nm ≠ 0 then (0, [], 1) else if d = 255 then (0, [], 5) else (d + 1, nm, 0) := rfl
  replace ha := Lib.hid ha
  replace A1 := Lib.hid A1
  replace T0 := Lib.hid T0
  replace B0 := Lib.hid B0
  clear A0 hz
  rw [tyV]
  go_enter Tryd.func47, Tryd.ntmps47
  go_wp2_with fail
  refine C.out.mono ?_
  rintro e w3 ⟨rfl, hb⟩
  have A3 := A1.out.kept (gb_below hb) (by simp)
  have T3 := T0.out.kept (gb_below hb) (by simp)
  have B3 := B0.out.trans (hb.mono (by simp; omega))
  clear A1 T0 B0 hb C
  have a0 := A3.c0
  have a1 := A3.c1
  have h0 := T3.c0
  have h1 := T3.c1
  have f0 := T3.f0
  have f1 := T3.f1
  replace T3 := Lib.hid T3
  replace A3 := Lib.hid A3
  replace B3 := Lib.hid B3
  rcases K with hk | ⟨hk, hd0, hd1⟩
  · have hp := ha.out
    rw [hk, if_pos (by decide)] at hp
    replace hp := Lib.hid hp
    rw [hk]
    clear ha hk
    go_wp2
    have T5 := (T3.out.set0 0).set1 ⟨#[]⟩
    refine bodyPost_ret (v := .tuple #[tyV 0 [], .int .i64 1]) (by simp [results, Tryd.results47, go_sem, tyV, bs_nil, T5.c0, T5.c1]) rfl ⟨by rw [hp.out], ?_⟩
    have B4 := B3.out
    repeat' (first | assumption | apply Below.setCell | apply Below.alloc | apply Below.drew)
    all_goals (first | omega | (simp; done) | (simp; omega))
  · have hp := ha.out
    rw [hk, if_neg (by decide)] at hp
    rw [hk]
    clear ha hk
    by_cases h255 : d = 255
    · subst h255
      rw [if_pos rfl] at hp
      replace hp := Lib.hid hp
      go_wp2
      have T5 := (T3.out.set0 (0)).set1 (⟨#[]⟩)
      refine bodyPost_ret (v := .tuple #[tyV (0) [], .int .i64 5]) (by simp [results, Tryd.results47, go_sem, tyV, bs_nil, T5.c0, T5.c1]) rfl ⟨by rw [hp.out], ?_⟩
      have B4 := B3.out
      repeat' (first | assumption | apply Below.setCell | apply Below.alloc | apply Below.drew)
      all_goals (first | omega | (simp; done) | (simp; omega))
    · rw [if_neg h255] at hp
      replace hp := Lib.hid hp
      go_wp2_with fail
      refine (turned_any _ _ _ _).mono ?_
      rintro e w5 ⟨rfl, hb5⟩
      have T6 := T3.out.kept (gb_below hb5) (by simp)
      have B6 := B3.out.trans (hb5.mono B3.out.size)
      clear T3 A3 a0 a1 h0 h1 f0 f1 B3
      have h0 := T6.c0
      have h1 := T6.c1
      have f0 := T6.f0
      have f1 := T6.f1
      replace T6 := Lib.hid T6
      replace B6 := Lib.hid B6
      rw [tyV]
      go_wp2
      have T5 := (T6.out.set0 (d + 1)).set1 (bs nm)
      refine bodyPost_ret (v := .tuple #[tyV (d + 1) nm, .int .i64 0]) (by simp [results, Tryd.results47, go_sem, tyV, bs_nil, T5.c0, T5.c1]) rfl ⟨by rw [hp.out], ?_⟩
      have B4 := B6.out
      repeat' (first | assumption | apply Below.setCell | apply Below.alloc | apply Below.drew)
      all_goals (first | omega | (simp; done) | (simp; omega))
end Go.Proofs.YtpcdfjifhoofjaaDoor.Ty

/- The walks of Component. -/
namespace Go.Proofs.YtpcdfjifhoofjaaDoor.Ty
open Go Go.RowKit Go.Proofs.YtpcdfjifhoofjaaDoor.Nm
set_option linter.unusedVariables false
set_option linter.unusedSimpArgs false
set_option maxHeartbeats 1000000
set_option maxRecDepth 10000

def cmpT (d : Int) (nm : List UInt8) : Int × List UInt8 × Int :=
  if chk d nm ≠ 0 then (0, [], 1) else if d = 0 then (0, [], 6) else (d - 1, nm, 0)
theorem rcomponent_any (d : Int) (nm : List UInt8) (w : World) : Calls Tryd.prog 50 #[tyV d nm] w fun e w' =>
    e = .returned (.tuple #[tyV (cmpT d nm).1 (cmpT d nm).2.1, .int .i64 (cmpT d nm).2.2]) ∧ Below w.heap.size w w' := by
  have A0 := Two.new w d (bs nm) 37
  have T0 := Two.new (w.alloc (.cells #[.int .i64 d, .string (bs nm)] 37)) 0 ⟨#[]⟩ 37
  have hz : (w.alloc (.cells #[.int .i64 d, .string (bs nm)] 37)).heap.size = w.heap.size + 1 := by simp
  rw [hz] at T0
  have A1 := A0.kept (World.grownBy_alloc _ (.cells #[.int .i64 0, .string ⟨#[]⟩] 37) none) (by simp)
  have C := Lib.hid (rcheck_any d nm ((w.alloc (.cells #[.int .i64 d, .string (bs nm)] 37)).alloc (.cells #[.int .i64 0, .string ⟨#[]⟩] 37)))
  have B0 := ((Below.refl w.heap.size w).alloc (Nat.le_refl _) (.cells #[.int .i64 d, .string (bs nm)] 37)).alloc (by simp) (.cells #[.int .i64 0, .string ⟨#[]⟩] 37)
  have K := chk_cases d nm
  have ha : cmpT d nm = if chk d nm ≠ 0 then (0, [], 1) else if d = 0 then (0, [], 6) else (d - 1, nm, 0) := rfl
  replace ha := Lib.hid ha
  replace A1 := Lib.hid A1
  replace T0 := Lib.hid T0
  replace B0 := Lib.hid B0
  clear A0 hz
  rw [tyV]
  go_enter Tryd.func50, Tryd.ntmps50
  go_wp2_with fail
  refine C.out.mono ?_
  rintro e w3 ⟨rfl, hb⟩
  have A3 := A1.out.kept (gb_below hb) (by simp)
  have T3 := T0.out.kept (gb_below hb) (by simp)
  have B3 := B0.out.trans (hb.mono (by simp; omega))
  clear A1 T0 B0 hb C
  have a0 := A3.c0
  have a1 := A3.c1
  have h0 := T3.c0
  have h1 := T3.c1
  have f0 := T3.f0
  have f1 := T3.f1
  replace T3 := Lib.hid T3
  replace A3 := Lib.hid A3
  replace B3 := Lib.hid B3
  rcases K with hk | ⟨hk, hd0, hd1⟩
  · have hp := ha.out
    rw [hk, if_pos (by decide)] at hp
    replace hp := Lib.hid hp
    rw [hk]
    clear ha hk
    go_wp2
    have T5 := (T3.out.set0 0).set1 ⟨#[]⟩
    refine bodyPost_ret (v := .tuple #[tyV 0 [], .int .i64 1]) (by simp [results, Tryd.results50, go_sem, tyV, bs_nil, T5.c0, T5.c1]) rfl ⟨by rw [hp.out], ?_⟩
    have B4 := B3.out
    repeat' (first | assumption | apply Below.setCell | apply Below.alloc | apply Below.drew)
    all_goals (first | omega | (simp; done) | (simp; omega))
  · have hp := ha.out
    rw [hk, if_neg (by decide)] at hp
    rw [hk]
    clear ha hk
    by_cases h255 : d = 0
    · subst h255
      rw [if_pos rfl] at hp
      replace hp := Lib.hid hp
      go_wp2
      have T5 := (T3.out.set0 (0)).set1 (⟨#[]⟩)
      refine bodyPost_ret (v := .tuple #[tyV (0) [], .int .i64 6]) (by simp [results, Tryd.results50, go_sem, tyV, bs_nil, T5.c0, T5.c1]) rfl ⟨by rw [hp.out], ?_⟩
      have B4 := B3.out
      repeat' (first | assumption | apply Below.setCell | apply Below.alloc | apply Below.drew)
      all_goals (first | omega | (simp; done) | (simp; omega))
    · rw [if_neg h255] at hp
      replace hp := Lib.hid hp
      go_wp2
      have T5 := (T3.out.set0 (d - 1)).set1 (bs nm)
      refine bodyPost_ret (v := .tuple #[tyV (d - 1) nm, .int .i64 0]) (by simp [results, Tryd.results50, go_sem, tyV, bs_nil, T5.c0, T5.c1]) rfl ⟨by rw [hp.out], ?_⟩
      have B4 := B3.out
      repeat' (first | assumption | apply Below.setCell | apply Below.alloc | apply Below.drew)
      all_goals (first | omega | (simp; done) | (simp; omega))
theorem component_any (d : Int) (nm : List UInt8) (w : World) (hm : ML w) : Calls Tryd.prog 49 #[tyV d nm] w fun e w' =>
    e = .returned (.tuple #[tyV (cmpT d nm).1 (cmpT d nm).2.1, .int .i64 (cmpT d nm).2.2]) ∧ Below w.heap.size w w' := by
  have A0 := Two.new w d (bs nm) 37
  have T0 := Two.new (w.alloc (.cells #[.int .i64 d, .string (bs nm)] 37)) 0 ⟨#[]⟩ 37
  have hz : (w.alloc (.cells #[.int .i64 d, .string (bs nm)] 37)).heap.size = w.heap.size + 1 := by simp
  rw [hz] at T0
  have A1 := A0.kept (World.grownBy_alloc _ (.cells #[.int .i64 0, .string ⟨#[]⟩] 37) none) (by simp)
  have C := Lib.hid (check_any d nm ((w.alloc (.cells #[.int .i64 d, .string (bs nm)] 37)).alloc (.cells #[.int .i64 0, .string ⟨#[]⟩] 37)) (ml_alloc (ml_alloc hm _) _))
  have B0 := ((Below.refl w.heap.size w).alloc (Nat.le_refl _) (.cells #[.int .i64 d, .string (bs nm)] 37)).alloc (by simp) (.cells #[.int .i64 0, .string ⟨#[]⟩] 37)
  have K := chk_cases d nm
  have ha : cmpT d nm = if chk d nm ≠ 0 then (0, [], 1) else if d = 0 then (0, [], 6) else (d - 1, nm, 0) := rfl
  replace ha := Lib.hid ha
  replace A1 := Lib.hid A1
  replace T0 := Lib.hid T0
  replace B0 := Lib.hid B0
  clear A0 hz
  rw [tyV]
  go_enter Tryd.func49, Tryd.ntmps49
  go_wp2_with fail
  refine C.out.mono ?_
  rintro e w3 ⟨rfl, hb⟩
  have A3 := A1.out.kept (gb_below hb) (by simp)
  have T3 := T0.out.kept (gb_below hb) (by simp)
  have B3 := B0.out.trans (hb.mono (by simp; omega))
  clear A1 T0 B0 hb C
  have a0 := A3.c0
  have a1 := A3.c1
  have h0 := T3.c0
  have h1 := T3.c1
  have f0 := T3.f0
  have f1 := T3.f1
  replace T3 := Lib.hid T3
  replace A3 := Lib.hid A3
  replace B3 := Lib.hid B3
  rcases K with hk | ⟨hk, hd0, hd1⟩
  · have hp := ha.out
    rw [hk, if_pos (by decide)] at hp
    replace hp := Lib.hid hp
    rw [hk]
    clear ha hk
    go_wp2
    have T5 := (T3.out.set0 0).set1 ⟨#[]⟩
    refine bodyPost_ret (v := .tuple #[tyV 0 [], .int .i64 1]) (by simp [results, Tryd.results49, go_sem, tyV, bs_nil, T5.c0, T5.c1]) rfl ⟨by rw [hp.out], ?_⟩
    have B4 := B3.out
    repeat' (first | assumption | apply Below.setCell | apply Below.alloc | apply Below.drew)
    all_goals (first | omega | (simp; done) | (simp; omega))
  · have hp := ha.out
    rw [hk, if_neg (by decide)] at hp
    rw [hk]
    clear ha hk
    by_cases h255 : d = 0
    · subst h255
      rw [if_pos rfl] at hp
      replace hp := Lib.hid hp
      go_wp2
      have T5 := (T3.out.set0 (0)).set1 (⟨#[]⟩)
      refine bodyPost_ret (v := .tuple #[tyV (0) [], .int .i64 6]) (by simp [results, Tryd.results49, go_sem, tyV, bs_nil, T5.c0, T5.c1]) rfl ⟨by rw [hp.out], ?_⟩
      have B4 := B3.out
      repeat' (first | assumption | apply Below.setCell | apply Below.alloc | apply Below.drew)
      all_goals (first | omega | (simp; done) | (simp; omega))
    · rw [if_neg h255] at hp
      replace hp := Lib.hid hp
      go_wp2_with fail
      refine (turned_any _ _ _ _).mono ?_
      rintro e w5 ⟨rfl, hb5⟩
      have T6 := T3.out.kept (gb_below hb5) (by simp)
      have B6 := B3.out.trans (hb5.mono B3.out.size)
      clear T3 A3 a0 a1 h0 h1 f0 f1 B3
      have h0 := T6.c0
      have h1 := T6.c1
      have f0 := T6.f0
      have f1 := T6.f1
      replace T6 := Lib.hid T6
      replace B6 := Lib.hid B6
      rw [tyV]
      go_wp2
      have T5 := (T6.out.set0 (d - 1)).set1 (bs nm)
      refine bodyPost_ret (v := .tuple #[tyV (d - 1) nm, .int .i64 0]) (by simp [results, Tryd.results49, go_sem, tyV, bs_nil, T5.c0, T5.c1]) rfl ⟨by rw [hp.out], ?_⟩
      have B4 := B6.out
      repeat' (first | assumption | apply Below.setCell | apply Below.alloc | apply Below.drew)
      all_goals (first | omega | (simp; done) | (simp; omega))
end Go.Proofs.YtpcdfjifhoofjaaDoor.Ty

/- The walks of Element. -/
namespace Go.Proofs.YtpcdfjifhoofjaaDoor.Ty
open Go Go.RowKit Go.Proofs.YtpcdfjifhoofjaaDoor.Nm
set_option linter.unusedVariables false
set_option linter.unusedSimpArgs false
set_option maxHeartbeats 1000000
set_option maxRecDepth 10000

def eltT (d : Int) (nm : List UInt8) : Int × List UInt8 × Int :=
  if chk d nm ≠ 0 then (0, [], 1) else (0, nm, 0)
theorem relement_any (d : Int) (nm : List UInt8) (w : World) : Calls Tryd.prog 52 #[tyV d nm] w fun e w' =>
    e = .returned (.tuple #[tyV (eltT d nm).1 (eltT d nm).2.1, .int .i64 (eltT d nm).2.2]) ∧ Below w.heap.size w w' := by
  have A0 := Two.new w d (bs nm) 37
  have T0 := Two.new (w.alloc (.cells #[.int .i64 d, .string (bs nm)] 37)) 0 ⟨#[]⟩ 37
  have hz : (w.alloc (.cells #[.int .i64 d, .string (bs nm)] 37)).heap.size = w.heap.size + 1 := by simp
  rw [hz] at T0
  have A1 := A0.kept (World.grownBy_alloc _ (.cells #[.int .i64 0, .string ⟨#[]⟩] 37) none) (by simp)
  have C := Lib.hid (rcheck_any d nm ((w.alloc (.cells #[.int .i64 d, .string (bs nm)] 37)).alloc (.cells #[.int .i64 0, .string ⟨#[]⟩] 37)))
  have B0 := ((Below.refl w.heap.size w).alloc (Nat.le_refl _) (.cells #[.int .i64 d, .string (bs nm)] 37)).alloc (by simp) (.cells #[.int .i64 0, .string ⟨#[]⟩] 37)
  have K := chk_cases d nm
  have ha : eltT d nm = if chk d nm ≠ 0 then (0, [], 1) else (0, nm, 0) := rfl
  replace ha := Lib.hid ha
  replace A1 := Lib.hid A1
  replace T0 := Lib.hid T0
  replace B0 := Lib.hid B0
  clear A0 hz
  rw [tyV]
  go_enter Tryd.func52, Tryd.ntmps52
  go_wp2_with fail
  refine C.out.mono ?_
  rintro e w3 ⟨rfl, hb⟩
  have A3 := A1.out.kept (gb_below hb) (by simp)
  have T3 := T0.out.kept (gb_below hb) (by simp)
  have B3 := B0.out.trans (hb.mono (by simp; omega))
  clear A1 T0 B0 hb C
  have a0 := A3.c0
  have a1 := A3.c1
  have h0 := T3.c0
  have h1 := T3.c1
  have f0 := T3.f0
  have f1 := T3.f1
  replace T3 := Lib.hid T3
  replace A3 := Lib.hid A3
  replace B3 := Lib.hid B3
  rcases K with hk | ⟨hk, hd0, hd1⟩
  · have hp := ha.out
    rw [hk, if_pos (by decide)] at hp
    replace hp := Lib.hid hp
    rw [hk]
    clear ha hk
    go_wp2
    have T5 := (T3.out.set0 0).set1 ⟨#[]⟩
    refine bodyPost_ret (v := .tuple #[tyV 0 [], .int .i64 1]) (by simp [results, Tryd.results52, go_sem, tyV, bs_nil, T5.c0, T5.c1]) rfl ⟨by rw [hp.out], ?_⟩
    have B4 := B3.out
    repeat' (first | assumption | apply Below.setCell | apply Below.alloc | apply Below.drew)
    all_goals (first | omega | (simp; done) | (simp; omega))
  · have hp := ha.out
    rw [hk, if_neg (by decide)] at hp
    rw [hk]
    clear ha hk
    replace hp := Lib.hid hp
    go_wp2
    have T5 := (T3.out.set0 0).set1 (bs nm)
    refine bodyPost_ret (v := .tuple #[tyV 0 nm, .int .i64 0]) (by simp [results, Tryd.results52, go_sem, tyV, bs_nil, T5.c0, T5.c1]) rfl ⟨by rw [hp.out], ?_⟩
    have B4 := B3.out
    repeat' (first | assumption | apply Below.setCell | apply Below.alloc | apply Below.drew)
    all_goals (first | omega | (simp; done) | (simp; omega))
theorem element_any (d : Int) (nm : List UInt8) (w : World) (hm : ML w) : Calls Tryd.prog 51 #[tyV d nm] w fun e w' =>
    e = .returned (.tuple #[tyV (eltT d nm).1 (eltT d nm).2.1, .int .i64 (eltT d nm).2.2]) ∧ Below w.heap.size w w' := by
  have A0 := Two.new w d (bs nm) 37
  have T0 := Two.new (w.alloc (.cells #[.int .i64 d, .string (bs nm)] 37)) 0 ⟨#[]⟩ 37
  have hz : (w.alloc (.cells #[.int .i64 d, .string (bs nm)] 37)).heap.size = w.heap.size + 1 := by simp
  rw [hz] at T0
  have A1 := A0.kept (World.grownBy_alloc _ (.cells #[.int .i64 0, .string ⟨#[]⟩] 37) none) (by simp)
  have C := Lib.hid (check_any d nm ((w.alloc (.cells #[.int .i64 d, .string (bs nm)] 37)).alloc (.cells #[.int .i64 0, .string ⟨#[]⟩] 37)) (ml_alloc (ml_alloc hm _) _))
  have B0 := ((Below.refl w.heap.size w).alloc (Nat.le_refl _) (.cells #[.int .i64 d, .string (bs nm)] 37)).alloc (by simp) (.cells #[.int .i64 0, .string ⟨#[]⟩] 37)
  have K := chk_cases d nm
  have ha : eltT d nm = if chk d nm ≠ 0 then (0, [], 1) else (0, nm, 0) := rfl
  replace ha := Lib.hid ha
  replace A1 := Lib.hid A1
  replace T0 := Lib.hid T0
  replace B0 := Lib.hid B0
  clear A0 hz
  rw [tyV]
  go_enter Tryd.func51, Tryd.ntmps51
  go_wp2_with fail
  refine C.out.mono ?_
  rintro e w3 ⟨rfl, hb⟩
  have A3 := A1.out.kept (gb_below hb) (by simp)
  have T3 := T0.out.kept (gb_below hb) (by simp)
  have B3 := B0.out.trans (hb.mono (by simp; omega))
  clear A1 T0 B0 hb C
  have a0 := A3.c0
  have a1 := A3.c1
  have h0 := T3.c0
  have h1 := T3.c1
  have f0 := T3.f0
  have f1 := T3.f1
  replace T3 := Lib.hid T3
  replace A3 := Lib.hid A3
  replace B3 := Lib.hid B3
  rcases K with hk | ⟨hk, hd0, hd1⟩
  · have hp := ha.out
    rw [hk, if_pos (by decide)] at hp
    replace hp := Lib.hid hp
    rw [hk]
    clear ha hk
    go_wp2
    have T5 := (T3.out.set0 0).set1 ⟨#[]⟩
    refine bodyPost_ret (v := .tuple #[tyV 0 [], .int .i64 1]) (by simp [results, Tryd.results51, go_sem, tyV, bs_nil, T5.c0, T5.c1]) rfl ⟨by rw [hp.out], ?_⟩
    have B4 := B3.out
    repeat' (first | assumption | apply Below.setCell | apply Below.alloc | apply Below.drew)
    all_goals (first | omega | (simp; done) | (simp; omega))
  · have hp := ha.out
    rw [hk, if_neg (by decide)] at hp
    rw [hk]
    clear ha hk
    replace hp := Lib.hid hp
    go_wp2_with fail
    refine (turned_any _ _ _ _).mono ?_
    rintro e w5 ⟨rfl, hb5⟩
    have T6 := T3.out.kept (gb_below hb5) (by simp)
    have B6 := B3.out.trans (hb5.mono B3.out.size)
    clear T3 A3 a0 a1 h0 h1 f0 f1 B3
    have h0 := T6.c0
    have h1 := T6.c1
    have f0 := T6.f0
    have f1 := T6.f1
    replace T6 := Lib.hid T6
    replace B6 := Lib.hid B6
    rw [tyV]
    go_wp2
    have T5 := (T6.out.set0 0).set1 (bs nm)
    refine bodyPost_ret (v := .tuple #[tyV 0 nm, .int .i64 0]) (by simp [results, Tryd.results51, go_sem, tyV, bs_nil, T5.c0, T5.c1]) rfl ⟨by rw [hp.out], ?_⟩
    have B4 := B6.out
    repeat' (first | assumption | apply Below.setCell | apply Below.alloc | apply Below.drew)
    all_goals (first | omega | (simp; done) | (simp; omega))
end Go.Proofs.YtpcdfjifhoofjaaDoor.Ty

/- The walk of types.written. -/
namespace Go.Proofs.YtpcdfjifhoofjaaDoor.Ty
open Go Go.RowKit Go.Proofs.YtpcdfjifhoofjaaDoor.Nm
set_option linter.unusedVariables false
set_option linter.unusedSimpArgs false
set_option maxHeartbeats 1000000
set_option maxRecDepth 10000

def base (nm : List UInt8) : List UInt8 := if nm = [] then [73] else 76 :: (nm ++ [59])
def wr (d : Nat) (nm : List UInt8) : List UInt8 := List.replicate d 91 ++ base nm
theorem repeat91 (c : Nat) : Lib.repeatL [91] c = List.replicate c 91 := by
  induction c with
  | zero => rfl
  | succ c ih => rw [Lib.repeatL, ih, List.replicate_succ]; rfl
theorem repeat_any (c : Nat) (hc : c ≤ 255) (w : World) : Calls Tryd.prog 86 #[.string ⟨#[91]⟩, .int .i64 c] w fun e w' => e = .returned (.string (bs (List.replicate c 91))) ∧ Below w.heap.size w w' := by
  refine (Tryd.strings_Repeat ⟨#[91]⟩ c w (by omega) (by show 1 * c ≤ _; omega)).mono ?_
  rintro e w1 ⟨rfl, hb⟩
  refine ⟨?_, hb⟩
  have h : Lib.repeatL (⟨#[91]⟩ : ByteArray).data.toList c = List.replicate c 91 := by
    exact repeat91 c
  rw [h]; rfl
theorem written_any (d : Nat) (hd : d ≤ 255) (nm : List UInt8) (hnm : nm.length < 4294967281) (w : World) : Calls Tryd.prog 70 #[tyV d nm] w fun e w' => e = .returned (.string (bs (wr d nm))) ∧ Below w.heap.size w w' := by
  have R := Lib.hid (repeat_any d hd (w.alloc (.cells #[.int .i64 d, .string (bs nm)] 37)))
  have B0 := Lib.hid ((Below.refl w.heap.size w).alloc (Nat.le_refl _) (.cells #[.int .i64 d, .string (bs nm)] 37))
  rw [tyV]
  have z1 : (bs (List.replicate d 91)).size = d := by rw [mk_size, List.length_replicate]
  have z2 := mk_size nm
  cases nm with
  | nil =>
    rw [bs_nil] at R B0 ⊢
    go_enter Tryd.func70, Tryd.ntmps70
    go_wp2_with (go_at_call 86; refine R.out.mono ?_; rintro e w3 ⟨rfl, hb⟩; replace hb := Lib.hid hb)
    go_ret
    refine ⟨?_, B0.out.trans (hb.out.mono (by simp))⟩
    apply congrArg Ending.returned
    apply congrArg Value.string
    apply bytes_inj
    simp [wr, base, mk_toList]
  | cons x r =>
    simp only [List.length_cons] at z2 hnm
    have n1 : ¬ (bs (x :: r)).toList = [] := by rw [ByteArray.toList_eq, mk_toList]; simp
    have n2 : (bs (x :: r)).toList.isEmpty = false := by rw [ByteArray.toList_eq, mk_toList]; rfl
    go_enter Tryd.func70, Tryd.ntmps70
    go_wp2_with (go_at_call 86; refine R.out.mono ?_; rintro e w3 ⟨rfl, hb⟩; replace hb := Lib.hid hb)
    go_ret
    refine ⟨?_, B0.out.trans (hb.out.mono (by simp))⟩
    apply congrArg Ending.returned
    apply congrArg Value.string
    apply bytes_inj
    simp [wr, base, mk_toList]
end Go.Proofs.YtpcdfjifhoofjaaDoor.Ty

/- The walks of Text, RefText. -/
namespace Go.Proofs.YtpcdfjifhoofjaaDoor.Ty
open Go Go.RowKit Go.Proofs.YtpcdfjifhoofjaaDoor.Nm
set_option linter.unusedVariables false
set_option linter.unusedSimpArgs false
set_option maxHeartbeats 1000000
set_option maxRecDepth 10000

def textT (d : Int) (nm : List UInt8) : List UInt8 × Int := if chk d nm ≠ 0 then ([], 1) else (wr d.toNat nm, 0)
theorem chk_small (d : Int) (nm : List UInt8) (h : chk d nm = 0) : nm.length ≤ 60 := by
  unfold chk at h
  split at h
  · cases h
  · split at h
    · cases h
    · rename_i h1 h2
      by_cases hn : nm = []
      · rw [hn]; simp
      · cases hv : validB (bs nm) with
        | false => exact absurd ⟨hn, hv⟩ h2
        | true =>
          have := hv
          rw [validB, Bool.and_eq_true] at this
          have := of_decide_eq_true this.1
          rw [mk_size] at this
          exact this
theorem text_any (d : Int) (nm : List UInt8) (w : World) (hm : ML w) : Calls Tryd.prog 41 #[tyV d nm] w fun e w' =>
    e = .returned (.tuple #[.string (bs (textT d nm).1), .int .i64 (textT d nm).2]) ∧ Below w.heap.size w w' := by
  have A0 := Two.new w d (bs nm) 37
  have C := Lib.hid (check_any d nm (w.alloc (.cells #[.int .i64 d, .string (bs nm)] 37)) (ml_alloc hm _))
  have B0 := (Below.refl w.heap.size w).alloc (Nat.le_refl _) (.cells #[.int .i64 d, .string (bs nm)] 37)
  have K := chk_cases d nm
  have hc : textT d nm = if chk d nm ≠ 0 then ([], 1) else (wr d.toNat nm, 0) := rfl
  replace hc := Lib.hid hc
  replace A0 := Lib.hid A0
  replace B0 := Lib.hid B0
  clear hm
  rw [tyV]
  go_enter Tryd.func41, Tryd.ntmps41
  go_wp2_with fail
  refine C.out.mono ?_
  rintro e w3 ⟨rfl, hb⟩
  have A3 := A0.out.kept (gb_below hb) (by simp)
  have B3 := Lib.hid (B0.out.trans (hb.mono (by simp)))
  clear A0 B0 hb C
  have a0 := A3.c0
  have a1 := A3.c1
  replace A3 := Lib.hid A3
  rcases K with hk | ⟨hk, hd0, hd1⟩
  · have hp := hc.out
    rw [hk, if_pos (by decide)] at hp
    replace hp := Lib.hid hp
    rw [hk]
    clear hc hk
    go_wp2
    go_ret2
    exact ⟨by rw [hp.out]; rfl, B3.out⟩
  · have hp := hc.out
    rw [hk, if_neg (by decide)] at hp
    replace hp := Lib.hid hp
    have hsm := chk_small d nm hk
    rw [hk]
    clear hc hk
    obtain ⟨k, rfl⟩ : ∃ k : Nat, d = k := ⟨d.toNat, by omega⟩
    have W := Lib.hid (written_any k (by omega) nm (by omega))
    clear hsm
    go_wp2_with fail
    refine (W.out _).mono ?_
    rintro e w5 ⟨rfl, hb5⟩
    have B5 := Lib.hid (B3.out.trans (hb5.mono B3.out.size))
    clear B3 hb5 W A3 a0 a1
    go_wp2
    go_ret2
    exact ⟨by rw [hp.out]; rfl, B5.out⟩
def refT (d : Int) (nm : List UInt8) : List UInt8 × Int :=
  if chk d nm ≠ 0 then ([], 1) else if d = 0 then (if nm = [] then ([], 2) else (nm, 0)) else (wr d.toNat nm, 0)
theorem reftext_any (d : Int) (nm : List UInt8) (w : World) (hm : ML w) : Calls Tryd.prog 45 #[tyV d nm] w fun e w' =>
    e = .returned (.tuple #[.string (bs (refT d nm).1), .int .i64 (refT d nm).2]) ∧ Below w.heap.size w w' := by
  have A0 := Two.new w d (bs nm) 37
  have C := Lib.hid (check_any d nm (w.alloc (.cells #[.int .i64 d, .string (bs nm)] 37)) (ml_alloc hm _))
  have B0 := (Below.refl w.heap.size w).alloc (Nat.le_refl _) (.cells #[.int .i64 d, .string (bs nm)] 37)
  have K := chk_cases d nm
  have hc : refT d nm = if chk d nm ≠ 0 then ([], 1) else if d = 0 then (if nm = [] then ([], 2) else (nm, 0)) else (wr d.toNat nm, 0) := rfl
  replace hc := Lib.hid hc
  replace A0 := Lib.hid A0
  replace B0 := Lib.hid B0
  clear hm
  rw [tyV]
  go_enter Tryd.func45, Tryd.ntmps45
  go_wp2_with fail
  refine C.out.mono ?_
  rintro e w3 ⟨rfl, hb⟩
  have A3 := A0.out.kept (gb_below hb) (by simp)
  have B3 := Lib.hid (B0.out.trans (hb.mono (by simp)))
  clear A0 B0 hb C
  have a0 := A3.c0
  have a1 := A3.c1
  replace A3 := Lib.hid A3
  rcases K with hk | ⟨hk, hd0, hd1⟩
  · have hp := hc.out
    rw [hk, if_pos (by decide)] at hp
    replace hp := Lib.hid hp
    rw [hk]
    clear hc hk
    go_wp2
    go_ret2
    exact ⟨by rw [hp.out]; rfl, B3.out⟩
  · have hp := hc.out
    rw [hk, if_neg (by decide)] at hp
    have hsm := chk_small d nm hk
    rw [hk]
    clear hc hk
    obtain ⟨k, rfl⟩ : ∃ k : Nat, d = k := ⟨d.toNat, by omega⟩
    have W := Lib.hid (written_any k (by omega) nm (by omega))
    clear hsm
    by_cases h0 : k = 0
    · subst h0
      rw [if_pos (show ((0 : Nat) : Int) = 0 from rfl)] at hp
      cases nm with
      | nil =>
        rw [if_pos rfl] at hp
        replace hp := Lib.hid hp
        rw [bs_nil] at a1
        go_wp2
        go_ret2
        exact ⟨by rw [hp.out]; rfl, B3.out⟩
      | cons x r =>
        rw [if_neg (by simp)] at hp
        replace hp := Lib.hid hp
        have n1 : ¬ (bs (x :: r)).toList = [] := by rw [ByteArray.toList_eq, mk_toList]; simp
        have n2 : (bs (x :: r)).toList.isEmpty = false := by rw [ByteArray.toList_eq, mk_toList]; rfl
        clear W
        go_wp2
        go_ret2
        exact ⟨by rw [hp.out]; rfl, B3.out⟩
    · rw [if_neg (by omega)] at hp
      replace hp := Lib.hid hp
      have hk0 : ((k : Int) == 0) = false := beq_eq_false_iff_ne.2 (by omega)
      go_wp2_with fail
      refine (W.out _).mono ?_
      rintro e w5 ⟨rfl, hb5⟩
      have B5 := Lib.hid (B3.out.trans (hb5.mono B3.out.size))
      clear B3 hb5 W A3 a0 a1
      go_wp2
      go_ret2
      exact ⟨by rw [hp.out]; rfl, B5.out⟩
end Go.Proofs.YtpcdfjifhoofjaaDoor.Ty

/- The walk of arbiterref02.ParseRef. -/
namespace Go.Proofs.YtpcdfjifhoofjaaDoor.Ty
open Go Go.RowKit Go.Proofs.YtpcdfjifhoofjaaDoor.Nm
set_option linter.unusedVariables false
set_option linter.unusedSimpArgs false
set_option maxHeartbeats 1000000
set_option maxRecDepth 10000

theorem rparseref_any (l : List UInt8) (w : World) (hm : ML w) : Calls Tryd.prog 30 #[.string (bs l)] w fun e w' =>
    e = .returned (.tuple #[tyV (parseR l).1 (parseR l).2.1, .int .i64 (parseR l).2.2]) ∧ Below w.heap.size w w' := by
  have hz := mk_size l
  have hzl : ((bs l).size : Int) = l.length := by rw [hz]
  clear hz
  have T0 := Two.new w 0 ⟨#[]⟩ 37
  have M0 := ml_alloc hm (.cells #[.int .i64 0, .string ⟨#[]⟩] 37)
  have B0 : Below w.heap.size w (w.alloc (.cells #[.int .i64 0, .string ⟨#[]⟩] 37)) := (Below.refl _ _).alloc (Nat.le_refl _) _
  have P := Lib.hid (rparse_any l _ M0)
  have V := Lib.hid (rvalid_any (bs l) (w.alloc (.cells #[.int .i64 0, .string ⟨#[]⟩] 37)))
  replace T0 := Lib.hid T0
  replace B0 := Lib.hid B0
  clear M0 hm
  by_cases hbig : 2000 < l.length
  · have hp : parseR l = (0, [], 5) := by simp [parseR, hbig]
    replace hp := Lib.hid hp
    clear P V
    go_enter Tryd.func30, Tryd.ntmps30
    go_wp2
    refine bodyPost_ret (v := .tuple #[tyV 0 [], .int .i64 5]) (by simp [results, Tryd.results30, go_sem, tyV, bs_nil]) rfl ⟨by rw [hp.out], ?_⟩
    have B1 := B0.out
    repeat' (first | assumption | apply Below.setCell | apply Below.alloc | apply Below.drew)
    all_goals (first | omega | (simp; done) | (simp; omega))
  · have hsm : (l.length : Int) ≤ 2000 := by omega
    have step : ∀ (d : Int) (nm : List UInt8) (er : Int), True := fun _ _ _ => trivial
    clear step
    have F := first_byte l
    cases hb : brk l
    · cases hv : validB (bs l)
      · have hp : parseR l = (0, [], 4) := by simp [parseR, hbig, hb, hv]
        replace hp := Lib.hid hp
        rw [hv] at V
        rw [hb] at F
        clear P
        go_enter Tryd.func30, Tryd.ntmps30
        rcases F with ⟨hl0, hb0⟩ | ⟨hpos, x, hx, hb0⟩
        all_goals
          go_wp2_with fail
          refine V.out.mono ?_
          rintro e w3 ⟨rfl, hg⟩
          have T3 := T0.out.kept (gb_below hg) (by simp)
          have B3 := B0.out.trans (hg.mono (by simp))
          clear T0 B0 V hg
          have hsz := B3.size
          have f0 := T3.f0
          have h1 := T3.c0
          have h2 := T3.c1
          have f1 := T3.f1
          replace T3 := Lib.hid T3
          go_wp2
          have T5 := (T3.out.set0 0).set1 ⟨#[]⟩
          refine bodyPost_ret (v := .tuple #[tyV 0 [], .int .i64 4]) (by simp [results, Tryd.results30, go_sem, tyV, bs_nil, T5.c0, T5.c1]) rfl ⟨by rw [hp.out], ?_⟩
          repeat' (first | assumption | apply Below.setCell | apply Below.alloc | apply Below.drew)
          all_goals (first | omega | (simp; done) | (simp; omega))
      · have hp : parseR l = (0, l, 0) := by simp [parseR, hbig, hb, hv]
        replace hp := Lib.hid hp
        rw [hv] at V
        rw [hb] at F
        clear P
        go_enter Tryd.func30, Tryd.ntmps30
        rcases F with ⟨hl0, hb0⟩ | ⟨hpos, x, hx, hb0⟩
        all_goals
          go_wp2_with fail
          refine V.out.mono ?_
          rintro e w3 ⟨rfl, hg⟩
          have T3 := T0.out.kept (gb_below hg) (by simp)
          have B3 := B0.out.trans (hg.mono (by simp))
          clear T0 B0 V hg
          have hsz := B3.size
          have f0 := T3.f0
          have h1 := T3.c0
          have h2 := T3.c1
          have f1 := T3.f1
          replace T3 := Lib.hid T3
          go_wp2
          have T5 := (T3.out.set0 0).set1 (bs l)
          refine bodyPost_ret (v := .tuple #[tyV 0 l, .int .i64 0]) (by simp [results, Tryd.results30, go_sem, tyV, bs_nil, T5.c0, T5.c1]) rfl ⟨by rw [hp.out], ?_⟩
          repeat' (first | assumption | apply Below.setCell | apply Below.alloc | apply Below.drew)
          all_goals (first | omega | (simp; done) | (simp; omega))
    · have hp : parseR l = parseT l := by rw [parseR, if_neg hbig, if_pos hb]
      replace hp := Lib.hid hp
      clear V
      obtain ⟨d, nm, er, hpt⟩ : ∃ d nm er, parseT l = (d, nm, er) := ⟨_, _, _, rfl⟩
      rw [hpt] at P
      simp only [tyV] at P
      replace hpt := Lib.hid hpt
      rw [hb] at F
      rcases F with ⟨hl0, hb0⟩ | ⟨hpos, x, hx, hb0⟩
      · cases hb0
      go_enter Tryd.func30, Tryd.ntmps30
      go_wp2_with fail
      refine P.out.mono ?_
      rintro e w3 ⟨rfl, hg⟩
      have T3 := T0.out.kept (gb_below hg) (by simp)
      have B3 := B0.out.trans (hg.mono (by simp))
      clear T0 B0 P hg
      have hsz := B3.size
      have f0 := T3.f0
      have h1 := T3.c0
      have h2 := T3.c1
      have f1 := T3.f1
      replace T3 := Lib.hid T3
      go_wp2
      have T5 := (T3.out.set0 d).set1 (bs nm)
      refine bodyPost_ret (v := .tuple #[tyV d nm, .int .i64 er]) (by simp [results, Tryd.results30, go_sem, tyV, bs_nil, T5.c0, T5.c1]) rfl ⟨by rw [hp.out, hpt.out], ?_⟩
      repeat' (first | assumption | apply Below.setCell | apply Below.alloc | apply Below.drew)
      all_goals (first | omega | (simp; done) | (simp; omega))
end Go.Proofs.YtpcdfjifhoofjaaDoor.Ty

/- What the walks by hand say of types, the reference's among them, in the form that the printed texts ask for. -/
namespace Go.Proofs.YtpcdfjifhoofjaaDoor.Pt
open Go Go.RowKit Go.Proofs.YtpcdfjifhoofjaaDoor.Nm Go.Proofs.YtpcdfjifhoofjaaDoor.Ty Go.Proofs.YtpcdfjifhoofjaaDoorW.PrintWords Go.Proofs.YtpcdfjifhoofjaaDoorW.PrintLast Go.Proofs.YtpcdfjifhoofjaaDoorW.PrintMore
set_option linter.unusedVariables false
set_option linter.unusedSimpArgs false

def arbiterref02_Parse.f (a0 : ByteArray) : Option (Int × ByteArray × Int) := some (tup3 (parseT a0.data.toList))
theorem arbiterref02_Parse.calls (a0 : ByteArray) (r1 : Int) (r2 : ByteArray) (r3 : Int) (w : World) (h : arbiterref02_Parse.f a0 = some (r1, r2, r3)) :
    Calls Tryd.prog 27 #[.string a0] w fun e w' => e = .returned (.tuple #[.agg #[.int .i64 r1, .string r2], .int .i64 r3]) ∧ Below w.heap.size w w' := by
  unfold arbiterref02_Parse.f at h
  obtain ⟨rfl, rfl, rfl⟩ := some_inj3 h
  have C := rparse_any a0.data.toList w trivial
  rw [mk_data] at C
  exact C
def arbiterref02_ParseRef.f (a0 : ByteArray) : Option (Int × ByteArray × Int) := some (tup3 (parseR a0.data.toList))
theorem arbiterref02_ParseRef.calls (a0 : ByteArray) (r1 : Int) (r2 : ByteArray) (r3 : Int) (w : World) (h : arbiterref02_ParseRef.f a0 = some (r1, r2, r3)) :
    Calls Tryd.prog 30 #[.string a0] w fun e w' => e = .returned (.tuple #[.agg #[.int .i64 r1, .string r2], .int .i64 r3]) ∧ Below w.heap.size w w' := by
  unfold arbiterref02_ParseRef.f at h
  obtain ⟨rfl, rfl, rfl⟩ := some_inj3 h
  have C := rparseref_any a0.data.toList w trivial
  rw [mk_data] at C
  exact C
def types_ArrayOf.f (a0_0 : Int) (a0_1 : ByteArray) : Option (Int × ByteArray × Int) := some (tup3 (arrT a0_0 a0_1.data.toList))
theorem types_ArrayOf.calls (a0_0 : Int) (a0_1 : ByteArray) (r1 : Int) (r2 : ByteArray) (r3 : Int) (w : World) (h : types_ArrayOf.f a0_0 a0_1 = some (r1, r2, r3)) :
    Calls Tryd.prog 47 #[.agg #[.int .i64 a0_0, .string a0_1]] w fun e w' => e = .returned (.tuple #[.agg #[.int .i64 r1, .string r2], .int .i64 r3]) ∧ Below w.heap.size w w' := by
  unfold types_ArrayOf.f at h
  obtain ⟨rfl, rfl, rfl⟩ := some_inj3 h
  have C := arrayof_any a0_0 a0_1.data.toList w trivial
  rw [tyV, mk_data] at C
  exact C
def types_Component.f (a0_0 : Int) (a0_1 : ByteArray) : Option (Int × ByteArray × Int) := some (tup3 (cmpT a0_0 a0_1.data.toList))
theorem types_Component.calls (a0_0 : Int) (a0_1 : ByteArray) (r1 : Int) (r2 : ByteArray) (r3 : Int) (w : World) (h : types_Component.f a0_0 a0_1 = some (r1, r2, r3)) :
    Calls Tryd.prog 49 #[.agg #[.int .i64 a0_0, .string a0_1]] w fun e w' => e = .returned (.tuple #[.agg #[.int .i64 r1, .string r2], .int .i64 r3]) ∧ Below w.heap.size w w' := by
  unfold types_Component.f at h
  obtain ⟨rfl, rfl, rfl⟩ := some_inj3 h
  have C := component_any a0_0 a0_1.data.toList w trivial
  rw [tyV, mk_data] at C
  exact C
def types_Element.f (a0_0 : Int) (a0_1 : ByteArray) : Option (Int × ByteArray × Int) := some (tup3 (eltT a0_0 a0_1.data.toList))
theorem types_Element.calls (a0_0 : Int) (a0_1 : ByteArray) (r1 : Int) (r2 : ByteArray) (r3 : Int) (w : World) (h : types_Element.f a0_0 a0_1 = some (r1, r2, r3)) :
    Calls Tryd.prog 51 #[.agg #[.int .i64 a0_0, .string a0_1]] w fun e w' => e = .returned (.tuple #[.agg #[.int .i64 r1, .string r2], .int .i64 r3]) ∧ Below w.heap.size w w' := by
  unfold types_Element.f at h
  obtain ⟨rfl, rfl, rfl⟩ := some_inj3 h
  have C := element_any a0_0 a0_1.data.toList w trivial
  rw [tyV, mk_data] at C
  exact C
def arbiterref02_ArrayOf.f (a0_0 : Int) (a0_1 : ByteArray) : Option (Int × ByteArray × Int) := some (tup3 (arrT a0_0 a0_1.data.toList))
theorem arbiterref02_ArrayOf.calls (a0_0 : Int) (a0_1 : ByteArray) (r1 : Int) (r2 : ByteArray) (r3 : Int) (w : World) (h : arbiterref02_ArrayOf.f a0_0 a0_1 = some (r1, r2, r3)) :
    Calls Tryd.prog 48 #[.agg #[.int .i64 a0_0, .string a0_1]] w fun e w' => e = .returned (.tuple #[.agg #[.int .i64 r1, .string r2], .int .i64 r3]) ∧ Below w.heap.size w w' := by
  unfold arbiterref02_ArrayOf.f at h
  obtain ⟨rfl, rfl, rfl⟩ := some_inj3 h
  have C := rarrayof_any a0_0 a0_1.data.toList w
  rw [tyV, mk_data] at C
  exact C
def arbiterref02_Component.f (a0_0 : Int) (a0_1 : ByteArray) : Option (Int × ByteArray × Int) := some (tup3 (cmpT a0_0 a0_1.data.toList))
theorem arbiterref02_Component.calls (a0_0 : Int) (a0_1 : ByteArray) (r1 : Int) (r2 : ByteArray) (r3 : Int) (w : World) (h : arbiterref02_Component.f a0_0 a0_1 = some (r1, r2, r3)) :
    Calls Tryd.prog 50 #[.agg #[.int .i64 a0_0, .string a0_1]] w fun e w' => e = .returned (.tuple #[.agg #[.int .i64 r1, .string r2], .int .i64 r3]) ∧ Below w.heap.size w w' := by
  unfold arbiterref02_Component.f at h
  obtain ⟨rfl, rfl, rfl⟩ := some_inj3 h
  have C := rcomponent_any a0_0 a0_1.data.toList w
  rw [tyV, mk_data] at C
  exact C
def arbiterref02_Element.f (a0_0 : Int) (a0_1 : ByteArray) : Option (Int × ByteArray × Int) := some (tup3 (eltT a0_0 a0_1.data.toList))
theorem arbiterref02_Element.calls (a0_0 : Int) (a0_1 : ByteArray) (r1 : Int) (r2 : ByteArray) (r3 : Int) (w : World) (h : arbiterref02_Element.f a0_0 a0_1 = some (r1, r2, r3)) :
    Calls Tryd.prog 52 #[.agg #[.int .i64 a0_0, .string a0_1]] w fun e w' => e = .returned (.tuple #[.agg #[.int .i64 r1, .string r2], .int .i64 r3]) ∧ Below w.heap.size w w' := by
  unfold arbiterref02_Element.f at h
  obtain ⟨rfl, rfl, rfl⟩ := some_inj3 h
  have C := relement_any a0_0 a0_1.data.toList w
  rw [tyV, mk_data] at C
  exact C
def types_Text.f (a0_0 : Int) (a0_1 : ByteArray) : Option (ByteArray × Int) := some (tup2 (textT a0_0 a0_1.data.toList))
theorem types_Text.calls (a0_0 : Int) (a0_1 : ByteArray) (r1 : ByteArray) (r2 : Int) (w : World) (h : types_Text.f a0_0 a0_1 = some (r1, r2)) :
    Calls Tryd.prog 41 #[.agg #[.int .i64 a0_0, .string a0_1]] w fun e w' => e = .returned (.tuple #[.string r1, .int .i64 r2]) ∧ Below w.heap.size w w' := by
  unfold types_Text.f at h
  obtain ⟨rfl, rfl⟩ := some_inj2 h
  have C := text_any a0_0 a0_1.data.toList w trivial
  rw [tyV, mk_data] at C
  exact C
def types_RefText.f (a0_0 : Int) (a0_1 : ByteArray) : Option (ByteArray × Int) := some (tup2 (refT a0_0 a0_1.data.toList))
theorem types_RefText.calls (a0_0 : Int) (a0_1 : ByteArray) (r1 : ByteArray) (r2 : Int) (w : World) (h : types_RefText.f a0_0 a0_1 = some (r1, r2)) :
    Calls Tryd.prog 45 #[.agg #[.int .i64 a0_0, .string a0_1]] w fun e w' => e = .returned (.tuple #[.string r1, .int .i64 r2]) ∧ Below w.heap.size w w' := by
  unfold types_RefText.f at h
  obtain ⟨rfl, rfl⟩ := some_inj2 h
  have C := reftext_any a0_0 a0_1.data.toList w trivial
  rw [tyV, mk_data] at C
  exact C
def arbiterref02_Check.f (a0_0 : Int) (a0_1 : ByteArray) : Option Int := some (chk a0_0 a0_1.data.toList)
theorem arbiterref02_Check.calls (a0_0 : Int) (a0_1 : ByteArray) (r : Int) (w : World) (h : arbiterref02_Check.f a0_0 a0_1 = some r) :
    Calls Tryd.prog 44 #[.agg #[.int .i64 a0_0, .string a0_1]] w fun e w' => e = .returned (.int .i64 r) ∧ Below w.heap.size w w' := by
  unfold arbiterref02_Check.f at h
  obtain rfl := Option.some.inj h
  have C := rcheck_any a0_0 a0_1.data.toList w
  rw [tyV, mk_data] at C
  exact C
def arbiterref02_read.f (a0 : ByteArray) (a1 : Int) : Option (Int × ByteArray × Int) := if 0 ≤ a1 ∧ a1.toNat ≤ a0.size ∧ a0.size < 4294967281 then some (tup3 (readF a0.data.toList a1.toNat)) else none
theorem arbiterref02_read.calls (a0 : ByteArray) (a1 : Int) (r1 : Int) (r2 : ByteArray) (r3 : Int) (w : World) (h : arbiterref02_read.f a0 a1 = some (r1, r2, r3)) :
    Calls Tryd.prog 66 #[.string a0, .int .i64 a1] w fun e w' => e = .returned (.tuple #[.agg #[.int .i64 r1, .string r2], .int .i64 r3]) ∧ Below w.heap.size w w' := by
  unfold arbiterref02_read.f at h
  obtain ⟨⟨h0, h1, h2⟩, h⟩ := if_some h
  obtain ⟨rfl, rfl, rfl⟩ := some_inj3 h
  obtain ⟨n, rfl⟩ : ∃ n : Nat, a1 = n := ⟨a1.toNat, by omega⟩
  rw [Int.toNat_natCast] at h1 ⊢
  have e := len_data a0
  have C := rread_fun a0.data.toList n (by omega) (by omega) w
  rw [mk_data] at C
  exact C

end Go.Proofs.YtpcdfjifhoofjaaDoor.Pt

-- laid by a program of this session's own (a variant of the kit's print)
namespace Go.Proofs.YtpcdfjifhoofjaaDoor.Pt
open Go.RowKit Go.Proofs.YtpcdfjifhoofjaaDoorW.PrintWords Go.Proofs.YtpcdfjifhoofjaaDoorW.PrintLast Go.Proofs.YtpcdfjifhoofjaaDoorW.PrintMore
attribute [local go_sem] max2_int min2_int max_two min_two max_three min_three max_four min_four   -- for this text's walks alone
set_option linter.unusedVariables false
set_option linter.unusedSimpArgs false

/-! ### arbiterlaw02_awake: function 25 -/
def arbiterlaw02_awake.f  : Option (Bool) := (types_Parse.f (⟨#[91, 76, 112, 47, 65, 59]⟩ : ByteArray)).bind fun bt101 => (if bt101.2.2 = 0 then (if bt101.1 = 1 then (some (bt101.2.1.toList == ([112, 47, 65] : List UInt8))) else (some false)) else (some false))
set_option maxHeartbeats 8000000 in
set_option maxRecDepth 100000 in
theorem arbiterlaw02_awake.calls  (r : Bool) (w : World) (h : arbiterlaw02_awake.f  = some r) :
  Calls Tryd.prog 25 #[] w fun e w' => e = .returned (.bool r) ∧ Below w.heap.size w w' := by
 have hu37 := Tryd.underlying37
 have HB := Aside0.mk (Below.refl w.heap.size w)
 have H : ((types_Parse.f (⟨#[91, 76, 112, 47, 65, 59]⟩ : ByteArray)).bind fun bt101 => (if bt101.2.2 = 0 then (if bt101.1 = 1 then (some (bt101.2.1.toList == ([112, 47, 65] : List UInt8))) else (some false)) else (some false))) = some r := h
 clear h
 replace H := Option.bind_eq_some_iff.mp H
 obtain ⟨⟨t101, t102, t103⟩, A10, H⟩ := H
 replace H : (if t103 = 0 then (if t101 = 1 then (some (t102.toList == ([112, 47, 65] : List UInt8))) else (some false)) else (some false)) = some r := H
 have A1 := Aside0.mk A10
 clear A10
 by_cases c2 : t103 = 0
 ·
  rw [if_pos c2] at H
  have c2b0 : (t103 == 0) = true := beq_iff_eq.mpr c2
  have c2b1 : (t103 != 0) = false := bne_eq_false_iff_eq.mpr c2
  clear c2
  by_cases c3 : t101 = 1
  ·
   rw [if_pos c3] at H
   have c3b0 : (t101 == 1) = true := beq_iff_eq.mpr c3
   have c3b1 : (t101 != 1) = false := bne_eq_false_iff_eq.mpr c3
   clear c3
   obtain rfl := Option.some.inj H
   go_enter Tryd.func25, Tryd.ntmps25
   go_wp2_with (first | ((with_reducible refine gate_callee (f := 26) rfl ?_); refine goesL_ (some 4) rfl rfl Tryd.func26 (by kernel_rfl) rfl #[.string (⟨#[91, 76, 112, 47, 65, 59]⟩ : ByteArray)] rfl (by (try simp only [List.map_toArray, List.map_cons, List.map_nil]); first | done | rfl | (simp only [List.length_drop, List.length_take]; rfl)) ?_; (with_reducible refine (types_Parse.calls (⟨#[91, 76, 112, 47, 65, 59]⟩ : ByteArray) t101 t102 t103 _ A1.out).mono ?_); rintro e w4 ⟨rfl, hb⟩; refine ⟨_, rfl, ?_⟩; have n0_ := Aside0.mk (below_step (by repeat (first | (with_reducible first | exact HB.out | apply below_alloc | apply pw_below_drewN | apply below_drew1) | exact HB.out)) hb); clear HB; have HB := n0_; clear n0_; (try clear hb); (try clear hb2); (try clear hk); (try clear hi)) | ((with_reducible refine gate_dst (N := 1) rfl ?_); refine box_event ?hg (N := 1) ?hd (cs := #[.int .i64 0, .string (⟨#[]⟩ : ByteArray)]) (t := 37) ?hr ?_; (case hd => rfl); (case hg => rfl); (case hr => first | (go_simp; done) | (go_simp; rfl)); intro gb104 hg w5 hbox hb; have n0_ := Aside0.mk (below_step (by repeat (first | (with_reducible first | exact HB.out | apply below_alloc | apply pw_below_drewN | apply below_drew1) | exact HB.out)) hb); have n1_ := Aside0.mk (hbox); have n2_ := Aside0.mk ((by rw [hg]; exact (below_size (by repeat (first | (with_reducible first | exact HB.out | apply below_alloc | apply pw_below_drewN | apply below_drew1) | exact HB.out))) : w.heap.size ≤ gb104)); have n3_ := Aside0.mk ((by rw [hg]; exact (below_size (by repeat (first | (with_reducible first | exact HB.out | apply below_alloc | apply pw_below_drewN | apply below_drew1) | exact HB.out))) : w.heap.size ≤ gb104)); clear HB; have HB := n0_; have BK104 := n1_; have GW104 := n2_; have GE104 := n3_; clear n0_ n1_ n2_ n3_; clear hb hbox hg; have hcz6_0 : w5.cell? ⟨gb104, 0, none⟩ = some (.int .i64 0) := (blk_cell BK104.out 0).trans rfl; have hcz6_1 : w5.cell? ⟨gb104, 1, none⟩ = some (.string (⟨#[]⟩ : ByteArray)) := (blk_cell BK104.out 1).trans rfl; have hfz6_0 := blk_frozen BK104.out 0; have hfz6_1 := blk_frozen BK104.out 1))
   go_ret
   exact ⟨by first | rfl | (simp [errW_none, errW_some] <;> rfl) | (simp [*, errW_none, errW_some] <;> rfl), by repeat (first | (with_reducible first | exact HB.out | apply below_alloc | apply pw_below_drewN | apply below_drew1 | refine below_set ?_ GE104.out) | exact HB.out)⟩
  ·
   rw [if_neg c3] at H
   have c3b0 : (t101 == 1) = false := beq_eq_false_iff_ne.mpr c3
   have c3b1 : (t101 != 1) = true := bne_iff_ne.mpr c3
   obtain rfl := Option.some.inj H
   go_enter Tryd.func25, Tryd.ntmps25
   go_wp2_with (first | ((with_reducible refine gate_callee (f := 26) rfl ?_); refine goesL_ (some 4) rfl rfl Tryd.func26 (by kernel_rfl) rfl #[.string (⟨#[91, 76, 112, 47, 65, 59]⟩ : ByteArray)] rfl (by (try simp only [List.map_toArray, List.map_cons, List.map_nil]); first | done | rfl | (simp only [List.length_drop, List.length_take]; rfl)) ?_; (with_reducible refine (types_Parse.calls (⟨#[91, 76, 112, 47, 65, 59]⟩ : ByteArray) t101 t102 t103 _ A1.out).mono ?_); rintro e w7 ⟨rfl, hb⟩; refine ⟨_, rfl, ?_⟩; have n0_ := Aside0.mk (below_step (by repeat (first | (with_reducible first | exact HB.out | apply below_alloc | apply pw_below_drewN | apply below_drew1) | exact HB.out)) hb); clear HB; have HB := n0_; clear n0_; (try clear hb); (try clear hb2); (try clear hk); (try clear hi)) | ((with_reducible refine gate_dst (N := 1) rfl ?_); refine box_event ?hg (N := 1) ?hd (cs := #[.int .i64 0, .string (⟨#[]⟩ : ByteArray)]) (t := 37) ?hr ?_; (case hd => rfl); (case hg => rfl); (case hr => first | (go_simp; done) | (go_simp; rfl)); intro gb104 hg w8 hbox hb; have n0_ := Aside0.mk (below_step (by repeat (first | (with_reducible first | exact HB.out | apply below_alloc | apply pw_below_drewN | apply below_drew1) | exact HB.out)) hb); have n1_ := Aside0.mk (hbox); have n2_ := Aside0.mk ((by rw [hg]; exact (below_size (by repeat (first | (with_reducible first | exact HB.out | apply below_alloc | apply pw_below_drewN | apply below_drew1) | exact HB.out))) : w.heap.size ≤ gb104)); have n3_ := Aside0.mk ((by rw [hg]; exact (below_size (by repeat (first | (with_reducible first | exact HB.out | apply below_alloc | apply pw_below_drewN | apply below_drew1) | exact HB.out))) : w.heap.size ≤ gb104)); clear HB; have HB := n0_; have BK104 := n1_; have GW104 := n2_; have GE104 := n3_; clear n0_ n1_ n2_ n3_; clear hb hbox hg; have hcz9_0 : w8.cell? ⟨gb104, 0, none⟩ = some (.int .i64 0) := (blk_cell BK104.out 0).trans rfl; have hcz9_1 : w8.cell? ⟨gb104, 1, none⟩ = some (.string (⟨#[]⟩ : ByteArray)) := (blk_cell BK104.out 1).trans rfl; have hfz9_0 := blk_frozen BK104.out 0; have hfz9_1 := blk_frozen BK104.out 1))
   go_ret
   exact ⟨by first | rfl | (simp [errW_none, errW_some] <;> rfl) | (simp [*, errW_none, errW_some] <;> rfl), by repeat (first | (with_reducible first | exact HB.out | apply below_alloc | apply pw_below_drewN | apply below_drew1 | refine below_set ?_ GE104.out) | exact HB.out)⟩
 ·
  rw [if_neg c2] at H
  have c2b0 : (t103 == 0) = false := beq_eq_false_iff_ne.mpr c2
  have c2b1 : (t103 != 0) = true := bne_iff_ne.mpr c2
  obtain rfl := Option.some.inj H
  go_enter Tryd.func25, Tryd.ntmps25
  go_wp2_with (first | ((with_reducible refine gate_callee (f := 26) rfl ?_); refine goesL_ (some 4) rfl rfl Tryd.func26 (by kernel_rfl) rfl #[.string (⟨#[91, 76, 112, 47, 65, 59]⟩ : ByteArray)] rfl (by (try simp only [List.map_toArray, List.map_cons, List.map_nil]); first | done | rfl | (simp only [List.length_drop, List.length_take]; rfl)) ?_; (with_reducible refine (types_Parse.calls (⟨#[91, 76, 112, 47, 65, 59]⟩ : ByteArray) t101 t102 t103 _ A1.out).mono ?_); rintro e w10 ⟨rfl, hb⟩; refine ⟨_, rfl, ?_⟩; have n0_ := Aside0.mk (below_step (by repeat (first | (with_reducible first | exact HB.out | apply below_alloc | apply pw_below_drewN | apply below_drew1) | exact HB.out)) hb); clear HB; have HB := n0_; clear n0_; (try clear hb); (try clear hb2); (try clear hk); (try clear hi)) | ((with_reducible refine gate_dst (N := 1) rfl ?_); refine box_event ?hg (N := 1) ?hd (cs := #[.int .i64 0, .string (⟨#[]⟩ : ByteArray)]) (t := 37) ?hr ?_; (case hd => rfl); (case hg => rfl); (case hr => first | (go_simp; done) | (go_simp; rfl)); intro gb104 hg w11 hbox hb; have n0_ := Aside0.mk (below_step (by repeat (first | (with_reducible first | exact HB.out | apply below_alloc | apply pw_below_drewN | apply below_drew1) | exact HB.out)) hb); have n1_ := Aside0.mk (hbox); have n2_ := Aside0.mk ((by rw [hg]; exact (below_size (by repeat (first | (with_reducible first | exact HB.out | apply below_alloc | apply pw_below_drewN | apply below_drew1) | exact HB.out))) : w.heap.size ≤ gb104)); have n3_ := Aside0.mk ((by rw [hg]; exact (below_size (by repeat (first | (with_reducible first | exact HB.out | apply below_alloc | apply pw_below_drewN | apply below_drew1) | exact HB.out))) : w.heap.size ≤ gb104)); clear HB; have HB := n0_; have BK104 := n1_; have GW104 := n2_; have GE104 := n3_; clear n0_ n1_ n2_ n3_; clear hb hbox hg; have hcz12_0 : w11.cell? ⟨gb104, 0, none⟩ = some (.int .i64 0) := (blk_cell BK104.out 0).trans rfl; have hcz12_1 : w11.cell? ⟨gb104, 1, none⟩ = some (.string (⟨#[]⟩ : ByteArray)) := (blk_cell BK104.out 1).trans rfl; have hfz12_0 := blk_frozen BK104.out 0; have hfz12_1 := blk_frozen BK104.out 1))
  go_ret
  exact ⟨by first | rfl | (simp [errW_none, errW_some] <;> rfl) | (simp [*, errW_none, errW_some] <;> rfl), by repeat (first | (with_reducible first | exact HB.out | apply below_alloc | apply pw_below_drewN | apply below_drew1 | refine below_set ?_ GE104.out) | exact HB.out)⟩

end Go.Proofs.YtpcdfjifhoofjaaDoor.Pt

-- laid by a program of this session's own (a variant of the kit's print)
namespace Go.Proofs.YtpcdfjifhoofjaaDoor.Pt
open Go.RowKit Go.Proofs.YtpcdfjifhoofjaaDoorW.PrintWords Go.Proofs.YtpcdfjifhoofjaaDoorW.PrintLast Go.Proofs.YtpcdfjifhoofjaaDoorW.PrintMore
attribute [local go_sem] max2_int min2_int max_two min_two max_three min_three max_four min_four   -- for this text's walks alone
set_option linter.unusedVariables false
set_option linter.unusedSimpArgs false

/-! ### arbiterref02_ParseDesc: function 32 -/
mutual
def arbiterref02_ParseDesc.j0 : Nat → ByteArray → Bool → Bool → Bool → Int → ByteArray → Option ((List (S37)) × Bool × Int × ByteArray × Int)
 | 0, _, _, _, _, _, _ => none
 | k + 1, x0, x5, x23, x107001, x107002, x107003 => if x23 = true then (some (([] : List (S37)), x107001, x107002, x107003, 4)) else (arbiterref02_ParseDesc.l0 k x0 x5 1 ([] : List (S37)) x107001 x107002 x107003)
def arbiterref02_ParseDesc.l0 : Nat → ByteArray → Bool → Int → List (S37) → Bool → Int → ByteArray → Option ((List (S37)) × Bool × Int × ByteArray × Int)
 | 0, _, _, _, _, _, _, _ => none
 | k + 1, x0, x5, x6, x107000, x107001, x107002, x107003 => if x6 < (x0.size : Int) then (if 0 ≤ x6 then (arbiterref02_ParseDesc.j2 k x0 x5 x6 ((bt x0 x6) != 41) x107000 x107001 x107002 x107003) else (none)) else (arbiterref02_ParseDesc.j2 k x0 x5 x6 false x107000 x107001 x107002 x107003)
def arbiterref02_ParseDesc.j2 : Nat → ByteArray → Bool → Int → Bool → List (S37) → Bool → Int → ByteArray → Option ((List (S37)) × Bool × Int × ByteArray × Int)
 | 0, _, _, _, _, _, _, _, _ => none
 | k + 1, x0, x5, x6, x34, x107000, x107001, x107002, x107003 => if x34 = true then ((arbiterref02_read.f x0 x6).bind fun bt107 => (if bt107.2.2 < 0 then (some (([] : List (S37)), false, 0, (⟨#[]⟩ : ByteArray), 4)) else (if x5 = true then (if x107000.length < 5864062014805 then (arbiterref02_ParseDesc.l0 k x0 true bt107.2.2 (x107000 ++ [(⟨bt107.1, bt107.2.1⟩ : S37)]) x107001 x107002 x107003) else (none)) else (if x107000.length < 5864062014805 then (arbiterref02_ParseDesc.l0 k x0 (decide (bt107.1 > 255)) bt107.2.2 (x107000 ++ [(⟨bt107.1, bt107.2.1⟩ : S37)]) x107001 x107002 x107003) else (none))))) else (if x6 ≥ (x0.size : Int) then (some (([] : List (S37)), false, 0, (⟨#[]⟩ : ByteArray), 4)) else (if (wrap64 (x6 + 1)) < (x0.size : Int) then (if 0 ≤ (wrap64 (x6 + 1)) then (arbiterref02_ParseDesc.j3 k x0 x5 (wrap64 (x6 + 1)) ((bt x0 (wrap64 (x6 + 1))) == 86) x107000 x107001 x107002 x107003) else (none)) else (arbiterref02_ParseDesc.j3 k x0 x5 (wrap64 (x6 + 1)) false x107000 x107001 x107002 x107003)))
def arbiterref02_ParseDesc.j3 : Nat → ByteArray → Bool → Int → Bool → List (S37) → Bool → Int → ByteArray → Option ((List (S37)) × Bool × Int × ByteArray × Int)
 | 0, _, _, _, _, _, _, _, _ => none
 | k + 1, x0, x5, x6, x73, x107000, x107001, x107002, x107003 => if x73 = true then (arbiterref02_ParseDesc.j4 k x0 x5 (wrap64 (x6 + 1)) x107000 true x107002 x107003) else ((arbiterref02_read.f x0 x6).bind fun bt117 => (if x5 = true then (arbiterref02_ParseDesc.j4 k x0 true bt117.2.2 x107000 x107001 bt117.1 bt117.2.1) else (arbiterref02_ParseDesc.j4 k x0 (decide (bt117.1 > 255)) bt117.2.2 x107000 x107001 bt117.1 bt117.2.1)))
def arbiterref02_ParseDesc.j4 : Nat → ByteArray → Bool → Int → List (S37) → Bool → Int → ByteArray → Option ((List (S37)) × Bool × Int × ByteArray × Int)
 | 0, _, _, _, _, _, _, _ => none
 | k + 1, x0, x5, x6, x107000, x107001, x107002, x107003 => if x6 = (x0.size : Int) then (if x5 = true then (some (([] : List (S37)), false, 0, (⟨#[]⟩ : ByteArray), 5)) else (if (x107000.length : Int) > 20 then (some (([] : List (S37)), false, 0, (⟨#[]⟩ : ByteArray), 5)) else (some (x107000, x107001, x107002, x107003, 0)))) else (some (([] : List (S37)), false, 0, (⟨#[]⟩ : ByteArray), 4))
end
def arbiterref02_ParseDesc.f (k : Nat) (a0 : ByteArray) : Option ((List (S37)) × Bool × Int × ByteArray × Int) := if (a0.size : Int) > 2000 then (some (([] : List (S37)), false, 0, (⟨#[]⟩ : ByteArray), 5)) else (if (a0.size : Int) = 0 then (arbiterref02_ParseDesc.j0 k a0 false true false 0 (⟨#[]⟩ : ByteArray)) else (if 0 < (a0.size : Int) then (arbiterref02_ParseDesc.j0 k a0 false ((bt a0 0) != 40) false 0 (⟨#[]⟩ : ByteArray)) else (none)))
theorem arbiterref02_ParseDesc.mono_l : ∀ k, (∀ y0 y1 y2 y3 y4 y5, LeO (arbiterref02_ParseDesc.j0 k y0 y1 y2 y3 y4 y5) (arbiterref02_ParseDesc.j0 (k + 1) y0 y1 y2 y3 y4 y5)) ∧ (∀ y0 y1 y2 y3 y4 y5 y6, LeO (arbiterref02_ParseDesc.l0 k y0 y1 y2 y3 y4 y5 y6) (arbiterref02_ParseDesc.l0 (k + 1) y0 y1 y2 y3 y4 y5 y6)) ∧ (∀ y0 y1 y2 y3 y4 y5 y6 y7, LeO (arbiterref02_ParseDesc.j2 k y0 y1 y2 y3 y4 y5 y6 y7) (arbiterref02_ParseDesc.j2 (k + 1) y0 y1 y2 y3 y4 y5 y6 y7)) ∧ (∀ y0 y1 y2 y3 y4 y5 y6 y7, LeO (arbiterref02_ParseDesc.j3 k y0 y1 y2 y3 y4 y5 y6 y7) (arbiterref02_ParseDesc.j3 (k + 1) y0 y1 y2 y3 y4 y5 y6 y7)) ∧ (∀ y0 y1 y2 y3 y4 y5 y6, LeO (arbiterref02_ParseDesc.j4 k y0 y1 y2 y3 y4 y5 y6) (arbiterref02_ParseDesc.j4 (k + 1) y0 y1 y2 y3 y4 y5 y6))
 | 0 => ⟨fun _ _ _ _ _ _ r h => by simp [arbiterref02_ParseDesc.j0] at h, fun _ _ _ _ _ _ _ r h => by simp [arbiterref02_ParseDesc.l0] at h, fun _ _ _ _ _ _ _ _ r h => by simp [arbiterref02_ParseDesc.j2] at h, fun _ _ _ _ _ _ _ _ r h => by simp [arbiterref02_ParseDesc.j3] at h, fun _ _ _ _ _ _ _ r h => by simp [arbiterref02_ParseDesc.j4] at h⟩
 | k + 1 => by
  obtain ⟨ih0, ih1, ih2, ih3, ih4⟩ := arbiterref02_ParseDesc.mono_l k
  refine ⟨?_, ?_, ?_, ?_, ?_⟩
  ·
   intro y0 y1 y2 y3 y4 y5
   unfold arbiterref02_ParseDesc.j0
   repeat' first
   | (with_reducible exact ih0 _ _ _ _ _ _)
   | (with_reducible exact ih1 _ _ _ _ _ _ _)
   | (with_reducible exact ih2 _ _ _ _ _ _ _ _)
   | (with_reducible exact ih3 _ _ _ _ _ _ _ _)
   | (with_reducible exact ih4 _ _ _ _ _ _ _)
   | (with_reducible exact LeO.refl _)
   | (with_reducible exact LeO.none _)
   | (with_reducible refine LeO.ite ?_ ?_)
   | (with_reducible refine LeO.bind ?_ (fun _ => ?_))
   | exact ih0 _ _ _ _ _ _
   | exact ih1 _ _ _ _ _ _ _
   | exact ih2 _ _ _ _ _ _ _ _
   | exact ih3 _ _ _ _ _ _ _ _
   | exact ih4 _ _ _ _ _ _ _
   | exact LeO.none _
   | refine LeO.ite ?_ ?_
   | refine LeO.bind ?_ (fun _ => ?_)
  ·
   intro y0 y1 y2 y3 y4 y5 y6
   unfold arbiterref02_ParseDesc.l0
   repeat' first
   | (with_reducible exact ih0 _ _ _ _ _ _)
   | (with_reducible exact ih1 _ _ _ _ _ _ _)
   | (with_reducible exact ih2 _ _ _ _ _ _ _ _)
   | (with_reducible exact ih3 _ _ _ _ _ _ _ _)
   | (with_reducible exact ih4 _ _ _ _ _ _ _)
   | (with_reducible exact LeO.refl _)
   | (with_reducible exact LeO.none _)
   | (with_reducible refine LeO.ite ?_ ?_)
   | (with_reducible refine LeO.bind ?_ (fun _ => ?_))
   | exact ih0 _ _ _ _ _ _
   | exact ih1 _ _ _ _ _ _ _
   | exact ih2 _ _ _ _ _ _ _ _
   | exact ih3 _ _ _ _ _ _ _ _
   | exact ih4 _ _ _ _ _ _ _
   | exact LeO.none _
   | refine LeO.ite ?_ ?_
   | refine LeO.bind ?_ (fun _ => ?_)
  ·
   intro y0 y1 y2 y3 y4 y5 y6 y7
   unfold arbiterref02_ParseDesc.j2
   repeat' first
   | (with_reducible exact ih0 _ _ _ _ _ _)
   | (with_reducible exact ih1 _ _ _ _ _ _ _)
   | (with_reducible exact ih2 _ _ _ _ _ _ _ _)
   | (with_reducible exact ih3 _ _ _ _ _ _ _ _)
   | (with_reducible exact ih4 _ _ _ _ _ _ _)
   | (with_reducible exact LeO.refl _)
   | (with_reducible exact LeO.none _)
   | (with_reducible refine LeO.ite ?_ ?_)
   | (with_reducible refine LeO.bind ?_ (fun _ => ?_))
   | exact ih0 _ _ _ _ _ _
   | exact ih1 _ _ _ _ _ _ _
   | exact ih2 _ _ _ _ _ _ _ _
   | exact ih3 _ _ _ _ _ _ _ _
   | exact ih4 _ _ _ _ _ _ _
   | exact LeO.none _
   | refine LeO.ite ?_ ?_
   | refine LeO.bind ?_ (fun _ => ?_)
  ·
   intro y0 y1 y2 y3 y4 y5 y6 y7
   unfold arbiterref02_ParseDesc.j3
   repeat' first
   | (with_reducible exact ih0 _ _ _ _ _ _)
   | (with_reducible exact ih1 _ _ _ _ _ _ _)
   | (with_reducible exact ih2 _ _ _ _ _ _ _ _)
   | (with_reducible exact ih3 _ _ _ _ _ _ _ _)
   | (with_reducible exact ih4 _ _ _ _ _ _ _)
   | (with_reducible exact LeO.refl _)
   | (with_reducible exact LeO.none _)
   | (with_reducible refine LeO.ite ?_ ?_)
   | (with_reducible refine LeO.bind ?_ (fun _ => ?_))
   | exact ih0 _ _ _ _ _ _
   | exact ih1 _ _ _ _ _ _ _
   | exact ih2 _ _ _ _ _ _ _ _
   | exact ih3 _ _ _ _ _ _ _ _
   | exact ih4 _ _ _ _ _ _ _
   | exact LeO.none _
   | refine LeO.ite ?_ ?_
   | refine LeO.bind ?_ (fun _ => ?_)
  ·
   intro y0 y1 y2 y3 y4 y5 y6
   unfold arbiterref02_ParseDesc.j4
   repeat' first
   | (with_reducible exact ih0 _ _ _ _ _ _)
   | (with_reducible exact ih1 _ _ _ _ _ _ _)
   | (with_reducible exact ih2 _ _ _ _ _ _ _ _)
   | (with_reducible exact ih3 _ _ _ _ _ _ _ _)
   | (with_reducible exact ih4 _ _ _ _ _ _ _)
   | (with_reducible exact LeO.refl _)
   | (with_reducible exact LeO.none _)
   | (with_reducible refine LeO.ite ?_ ?_)
   | (with_reducible refine LeO.bind ?_ (fun _ => ?_))
   | exact ih0 _ _ _ _ _ _
   | exact ih1 _ _ _ _ _ _ _
   | exact ih2 _ _ _ _ _ _ _ _
   | exact ih3 _ _ _ _ _ _ _ _
   | exact ih4 _ _ _ _ _ _ _
   | exact LeO.none _
   | refine LeO.ite ?_ ?_
   | refine LeO.bind ?_ (fun _ => ?_)
theorem arbiterref02_ParseDesc.mono : ∀ a0 k, LeO (arbiterref02_ParseDesc.f k a0) (arbiterref02_ParseDesc.f (k + 1) a0) := by
 intro a0 k
 obtain ⟨ih0, ih1, ih2, ih3, ih4⟩ := arbiterref02_ParseDesc.mono_l k
 unfold arbiterref02_ParseDesc.f
 repeat' first
   | (with_reducible exact ih0 _ _ _ _ _ _)
   | (with_reducible exact ih1 _ _ _ _ _ _ _)
   | (with_reducible exact ih2 _ _ _ _ _ _ _ _)
   | (with_reducible exact ih3 _ _ _ _ _ _ _ _)
   | (with_reducible exact ih4 _ _ _ _ _ _ _)
   | (with_reducible exact LeO.refl _)
   | (with_reducible exact LeO.none _)
   | (with_reducible refine LeO.ite ?_ ?_)
   | (with_reducible refine LeO.bind ?_ (fun _ => ?_))
   | exact ih0 _ _ _ _ _ _
   | exact ih1 _ _ _ _ _ _ _
   | exact ih2 _ _ _ _ _ _ _ _
   | exact ih3 _ _ _ _ _ _ _ _
   | exact ih4 _ _ _ _ _ _ _
   | exact LeO.none _
   | refine LeO.ite ?_ ?_
   | refine LeO.bind ?_ (fun _ => ?_)
set_option maxHeartbeats 8000000 in
set_option maxRecDepth 100000 in
theorem arbiterref02_ParseDesc.calls (k : Nat) (a0 : ByteArray) (r1 : List (S37)) (r2 : Bool) (r3 : Int) (r4 : ByteArray) (r5 : Int) (w : World) (h : arbiterref02_ParseDesc.f k a0 = some (r1, r2, r3, r4, r5)) :
  Calls Tryd.prog 32 #[.string a0] w fun e w' => ∃ v0_ : Value, e = .returned (.tuple #[.agg #[v0_, .bool r2, .int .i64 r3, .string r4], .int .i64 r5]) ∧ Kd.R k37 37 w' w.heap.size (fun _ => True) v0_ r1 ∧ Below w.heap.size w w' := by
 have hu43 := Tryd.underlying43
 have hu37 := Tryd.underlying37
 have HB := Aside0.mk (Below.refl w.heap.size w)
 have H : (if (a0.size : Int) > 2000 then (some (([] : List (S37)), false, 0, (⟨#[]⟩ : ByteArray), 5)) else (if (a0.size : Int) = 0 then (arbiterref02_ParseDesc.j0 k a0 false true false 0 (⟨#[]⟩ : ByteArray)) else (if 0 < (a0.size : Int) then (arbiterref02_ParseDesc.j0 k a0 false ((bt a0 0) != 40) false 0 (⟨#[]⟩ : ByteArray)) else (none)))) = some (r1, r2, r3, r4, r5) := h
 clear h
 by_cases c2 : (a0.size : Int) > 2000
 ·
  rw [if_pos c2] at H
  have c2b0 : decide (2000 < (a0.size : Int)) = true := decide_eq_true c2
  have c2b1 : decide (2000 < a0.size) = true := decide_eq_true (by omega)
  clear c2
  simp only [Option.some.injEq, Prod.mk.injEq] at H
  obtain ⟨rfl, rfl, rfl, rfl, rfl⟩ := H
  go_enter Tryd.func32, Tryd.ntmps32
  go_wp2_with (first | ((with_reducible refine gate_dst (N := 2) rfl ?_); (try (refine gate_guard (by rfl) ?_; dsimp only)); refine box_event ?hg (N := 2) ?hd (cs := #[.slice none 0 0, .bool false, .int .i64 0, .string (⟨#[]⟩ : ByteArray)]) (t := 43) ?hr ?_; (case hd => rfl); (case hg => rfl); (case hr => first | (go_simp; done) | (go_simp; rfl)); intro gb105 hg w3 hbox hb; have n0_ := Aside0.mk (below_step (by repeat (first | (with_reducible first | exact HB.out | apply below_alloc | apply pw_below_drewN | apply below_drew1) | exact HB.out)) hb); have n1_ := Aside0.mk (hbox); have n2_ := Aside0.mk ((by rw [hg]; exact (below_size (by repeat (first | (with_reducible first | exact HB.out | apply below_alloc | apply pw_below_drewN | apply below_drew1) | exact HB.out))) : w.heap.size ≤ gb105)); have n3_ := Aside0.mk ((by rw [hg]; exact (below_size (by repeat (first | (with_reducible first | exact HB.out | apply below_alloc | apply pw_below_drewN | apply below_drew1) | exact HB.out))) : w.heap.size ≤ gb105)); clear HB; have HB := n0_; have BK105 := n1_; have GW105 := n2_; have GE105 := n3_; clear n0_ n1_ n2_ n3_; clear hb hbox hg; have hcz4_0 : w3.cell? ⟨gb105, 0, none⟩ = some (.slice none 0 0) := (blk_cell BK105.out 0).trans rfl; have hcz4_1 : w3.cell? ⟨gb105, 1, none⟩ = some (.bool false) := (blk_cell BK105.out 1).trans rfl; have hcz4_2 : w3.cell? ⟨gb105, 2, none⟩ = some (.int .i64 0) := (blk_cell BK105.out 2).trans rfl; have hcz4_3 : w3.cell? ⟨gb105, 3, none⟩ = some (.string (⟨#[]⟩ : ByteArray)) := (blk_cell BK105.out 3).trans rfl; have hfz4_0 := blk_frozen BK105.out 0; have hfz4_1 := blk_frozen BK105.out 1; have hfz4_2 := blk_frozen BK105.out 2; have hfz4_3 := blk_frozen BK105.out 3))
  refine bodyPost_ret (results_ct rfl _ _ gb105 43 #[.slice none 0 0, .bool false, .int .i64 0, .string (⟨#[]⟩ : ByteArray)] (0, 0) _ rfl (by (with_reducible repeat (first | refine blk_drewN ?_ _ | refine blk_drew ?_ | refine blk_alloc ?_ _)); refine blk_put (cs := #[.slice none 0 0, .bool false, .int .i64 0, .string (⟨#[]⟩ : ByteArray)]) ?_ 3 _ rfl; (with_reducible repeat (first | refine blk_drewN ?_ _ | refine blk_drew ?_ | refine blk_alloc ?_ _)); refine blk_put (cs := #[.slice none 0 0, .bool false, .int .i64 0, .string (⟨#[]⟩ : ByteArray)]) ?_ 2 _ rfl; (with_reducible repeat (first | refine blk_drewN ?_ _ | refine blk_drew ?_ | refine blk_alloc ?_ _)); refine blk_put (cs := #[.slice none 0 0, .bool false, .int .i64 0, .string (⟨#[]⟩ : ByteArray)]) ?_ 1 _ rfl; (with_reducible repeat (first | refine blk_drewN ?_ _ | refine blk_drew ?_ | refine blk_alloc ?_ _)); refine blk_put (cs := #[.slice none 0 0, .bool false, .int .i64 0, .string (⟨#[]⟩ : ByteArray)]) ?_ 0 _ rfl; (with_reducible repeat (first | refine blk_drewN ?_ _ | refine blk_drew ?_ | refine blk_alloc ?_ _)); exact BK105.out) Tryd.underlying43 rfl (by kernel_rfl)) rfl ?_
  exact ⟨_, by first | rfl | (simp [errW_none, errW_some] <;> rfl) | (simp [*, errW_none, errW_some] <;> rfl), by first | exact Kd.R_nil _ _ _ _ _ | exact Kd.N_nil _ _ _ _ _ | exact Kd.V_nil _ _ _ _ _ | exact Kd.Q_nil _ _ _ _ _ | exact Kd.S_nil _ _ _ _ _, by repeat (first | (with_reducible first | exact HB.out | apply below_alloc | apply pw_below_drewN | apply below_drew1 | refine below_set ?_ GE105.out) | exact HB.out)⟩
 ·
  rw [if_neg c2] at H
  have c2b0 : decide (2000 < (a0.size : Int)) = false := decide_eq_false c2
  have c2b1 : decide (2000 < a0.size) = false := decide_eq_false (by omega)
  clear c2
  have HC5 := Aside0.mk H
  clear H
  go_enter Tryd.func32, Tryd.ntmps32
  go_upto_region 5 with (first | ((with_reducible refine gate_dst (N := 2) rfl ?_); (try (refine gate_guard (by rfl) ?_; dsimp only)); refine box_event ?hg (N := 2) ?hd (cs := #[.slice none 0 0, .bool false, .int .i64 0, .string (⟨#[]⟩ : ByteArray)]) (t := 43) ?hr ?_; (case hd => rfl); (case hg => rfl); (case hr => first | (go_simp; done) | (go_simp; rfl)); intro gb105 hg w6 hbox hb; have n0_ := Aside0.mk (below_step (by repeat (first | (with_reducible first | exact HB.out | apply below_alloc | apply pw_below_drewN | apply below_drew1) | exact HB.out)) hb); have n1_ := Aside0.mk (hbox); have n2_ := Aside0.mk ((by rw [hg]; exact (below_size (by repeat (first | (with_reducible first | exact HB.out | apply below_alloc | apply pw_below_drewN | apply below_drew1) | exact HB.out))) : w.heap.size ≤ gb105)); have n3_ := Aside0.mk ((by rw [hg]; exact (below_size (by repeat (first | (with_reducible first | exact HB.out | apply below_alloc | apply pw_below_drewN | apply below_drew1) | exact HB.out))) : w.heap.size ≤ gb105)); clear HB; have HB := n0_; have BK105 := n1_; have GW105 := n2_; have GE105 := n3_; clear n0_ n1_ n2_ n3_; clear hb hbox hg) | ((with_reducible refine gate_dst (N := 4) rfl ?_); (try (refine gate_guard (by rfl) ?_; dsimp only)); refine box_event ?hg (N := 4) ?hd (cs := #[.slice none 0 0, .bool false, .int .i64 0, .string (⟨#[]⟩ : ByteArray)]) (t := 43) ?hr ?_; (case hd => rfl); (case hg => rfl); (case hr => first | (go_simp; done) | (go_simp; rfl)); intro gb106 hg w7 hbox hb; have n0_ := Aside0.mk (blk_below (g := gb105) (o := .cells #[.slice none 0 0, .bool false, .int .i64 0, .string (⟨#[]⟩ : ByteArray)] 43 (0, 0)) (by (with_reducible repeat (first | refine blk_drewN ?_ _ | refine blk_drew ?_ | refine blk_alloc ?_ _)); exact BK105.out) hb); have n1_ := Aside0.mk (below_step (by repeat (first | (with_reducible first | exact HB.out | apply below_alloc | apply pw_below_drewN | apply below_drew1 | refine below_set ?_ GE105.out) | exact HB.out)) hb); have n2_ := Aside0.mk (hbox); have n3_ := Aside0.mk ((by rw [hg]; exact (below_size (by repeat (first | (with_reducible first | exact HB.out | apply below_alloc | apply pw_below_drewN | apply below_drew1 | refine below_set ?_ GE105.out) | exact HB.out))) : w.heap.size ≤ gb106)); have n4_ := Aside0.mk ((by rw [hg]; exact (below_size (by repeat (first | (with_reducible first | exact HB.out | apply below_alloc | apply pw_below_drewN | apply below_drew1 | refine below_set ?_ GE105.out) | exact HB.out))) : w.heap.size ≤ gb106)); have n5_ := Aside0.mk ((by rw [hg]; exact Nat.ne_of_lt (blk_lt (g := gb105) (o := .cells #[.slice none 0 0, .bool false, .int .i64 0, .string (⟨#[]⟩ : ByteArray)] 43 (0, 0)) (by (with_reducible repeat (first | refine blk_drewN ?_ _ | refine blk_drew ?_ | refine blk_alloc ?_ _)); exact BK105.out)) : gb105 ≠ gb106)); have n6_ := Aside0.mk ((by rw [hg]; exact Nat.ne_of_gt (blk_lt (g := gb105) (o := .cells #[.slice none 0 0, .bool false, .int .i64 0, .string (⟨#[]⟩ : ByteArray)] 43 (0, 0)) (by (with_reducible repeat (first | refine blk_drewN ?_ _ | refine blk_drew ?_ | refine blk_alloc ?_ _)); exact BK105.out)) : gb106 ≠ gb105)); clear BK105; clear HB; have BK105 := n0_; have HB := n1_; have BK106 := n2_; have GW106 := n3_; have GE106 := n4_; have NB105_106 := n5_; have NB106_105 := n6_; clear n0_ n1_ n2_ n3_ n4_ n5_ n6_; clear hb hbox hg; have hnb8 := NB106_105.out; have hnc8 := NB105_106.out; have hcz9_0 : w7.cell? ⟨gb106, 0, none⟩ = some (.slice none 0 0) := (blk_cell BK106.out 0).trans rfl; have hcz9_1 : w7.cell? ⟨gb106, 1, none⟩ = some (.bool false) := (blk_cell BK106.out 1).trans rfl; have hcz9_2 : w7.cell? ⟨gb106, 2, none⟩ = some (.int .i64 0) := (blk_cell BK106.out 2).trans rfl; have hcz9_3 : w7.cell? ⟨gb106, 3, none⟩ = some (.string (⟨#[]⟩ : ByteArray)) := (blk_cell BK106.out 3).trans rfl; have hfz9_0 := blk_frozen BK106.out 0; have hfz9_1 := blk_frozen BK106.out 1; have hfz9_2 := blk_frozen BK106.out 2; have hfz9_3 := blk_frozen BK106.out 3))
  (try simp only [Act.put, List.setIfInBounds_toArray, List.set_cons_zero, List.set_cons_succ])
  go_cut [23] (fun v23 wc => ∃ (kq : Nat) (x23_4 : Bool), v23 = .bool x23_4 ∧ Aside0 (arbiterref02_ParseDesc.j0 kq a0 false x23_4 false 0 (⟨#[]⟩ : ByteArray) = some (r1, r2, r3, r4, r5)) ∧ Aside0 (kq ≤ k) ∧ Aside0 (wc.heap[gb105]? = some (.cells #[(.slice none 0 0), .bool false, .int .i64 0, .string (⟨#[]⟩ : ByteArray)] 43 (0, 0))) ∧ Aside0 (wc.heap[gb106]? = some (.cells #[(.slice none 0 0), .bool false, .int .i64 0, .string (⟨#[]⟩ : ByteArray)] 43 (0, 0))) ∧ Aside0 (Below w.heap.size w wc))
  case first =>
   have H := HC5.out
   clear HC5
   by_cases c10 : (a0.size : Int) = 0
   ·
    rw [if_pos c10] at H
    have c10b0 : ((a0.size : Int) == 0) = true := beq_iff_eq.mpr c10
    have c10b1 : ((a0.size : Int) != 0) = false := bne_eq_false_iff_eq.mpr c10
    clear c10
    (first | rw [c10b0] | (simp only [i64_w, i32_w]; rw [c10b0]) | skip)
    have H' := Aside0.mk H
    clear H
    go_wp2
    go_meet
    case rel => exact ⟨_, (true), (by first | rfl | (simp; done) | (simp [*]; done)), H', ⟨by first | omega | exact Nat.le_refl _⟩, ⟨by (with_reducible repeat (first | refine blk_drewN ?_ _ | refine blk_drew ?_ | refine blk_alloc ?_ _)); refine blk_far ?_ NB105_106.out _; (with_reducible repeat (first | refine blk_drewN ?_ _ | refine blk_drew ?_ | refine blk_alloc ?_ _)); refine blk_far ?_ NB105_106.out _; (with_reducible repeat (first | refine blk_drewN ?_ _ | refine blk_drew ?_ | refine blk_alloc ?_ _)); refine blk_far ?_ NB105_106.out _; (with_reducible repeat (first | refine blk_drewN ?_ _ | refine blk_drew ?_ | refine blk_alloc ?_ _)); refine blk_far ?_ NB105_106.out _; (with_reducible repeat (first | refine blk_drewN ?_ _ | refine blk_drew ?_ | refine blk_alloc ?_ _)); exact BK105.out⟩, ⟨by (with_reducible repeat (first | refine blk_drewN ?_ _ | refine blk_drew ?_ | refine blk_alloc ?_ _)); refine blk_put (cs := #[.slice none 0 0, .bool false, .int .i64 0, .string (⟨#[]⟩ : ByteArray)]) ?_ 3 _ rfl; (with_reducible repeat (first | refine blk_drewN ?_ _ | refine blk_drew ?_ | refine blk_alloc ?_ _)); refine blk_put (cs := #[.slice none 0 0, .bool false, .int .i64 0, .string (⟨#[]⟩ : ByteArray)]) ?_ 2 _ rfl; (with_reducible repeat (first | refine blk_drewN ?_ _ | refine blk_drew ?_ | refine blk_alloc ?_ _)); refine blk_put (cs := #[.slice none 0 0, .bool false, .int .i64 0, .string (⟨#[]⟩ : ByteArray)]) ?_ 1 _ rfl; (with_reducible repeat (first | refine blk_drewN ?_ _ | refine blk_drew ?_ | refine blk_alloc ?_ _)); refine blk_put (cs := #[.slice none 0 0, .bool false, .int .i64 0, .string (⟨#[]⟩ : ByteArray)]) ?_ 0 _ rfl; (with_reducible repeat (first | refine blk_drewN ?_ _ | refine blk_drew ?_ | refine blk_alloc ?_ _)); exact BK106.out⟩, ⟨by repeat (first | (with_reducible first | exact HB.out | apply below_alloc | apply pw_below_drewN | apply below_drew1 | refine below_set ?_ GE105.out | refine below_set ?_ GE106.out) | exact HB.out)⟩⟩
   ·
    rw [if_neg c10] at H
    have c10b0 : ((a0.size : Int) == 0) = false := beq_eq_false_iff_ne.mpr c10
    have c10b1 : ((a0.size : Int) != 0) = true := bne_iff_ne.mpr c10
    (first | rw [c10b0] | (simp only [i64_w, i32_w]; rw [c10b0]) | skip)
    by_cases c11 : 0 < (a0.size : Int)
    ·
     rw [if_pos c11] at H
     have c11b0 : decide (0 < (a0.size : Int)) = true := decide_eq_true c11
     have c11b1 : decide (0 < a0.size) = true := decide_eq_true (by omega)
     clear c11
     have H' := Aside0.mk H
     clear H
     have p12 : 0 ≤ (0 : Int) := (by omega)
     have q12 : 0 < a0.size := (by have : (0 : Int) < (a0.size : Int) := of_decide_eq_true (by first | (with_reducible assumption) | assumption); omega)
     have hx12 : ∀ h : 0 < a0.size, ((a0[0]'h).toNat : Int) = bt a0 0 := bt_at a0 0
     clear p12
     have qi12 : (0 < (a0.size : Int)) = True := eq_true (of_decide_eq_true (by first | (with_reducible assumption) | assumption))
     replace q12 := eq_true q12
     go_wp2
     go_meet
     case rel => exact ⟨_, (((bt a0 0) != 40)), (by first | rfl | (simp; done) | (simp [*]; done)), H', ⟨by first | omega | exact Nat.le_refl _⟩, ⟨by (with_reducible repeat (first | refine blk_drewN ?_ _ | refine blk_drew ?_ | refine blk_alloc ?_ _)); refine blk_far ?_ NB105_106.out _; (with_reducible repeat (first | refine blk_drewN ?_ _ | refine blk_drew ?_ | refine blk_alloc ?_ _)); refine blk_far ?_ NB105_106.out _; (with_reducible repeat (first | refine blk_drewN ?_ _ | refine blk_drew ?_ | refine blk_alloc ?_ _)); refine blk_far ?_ NB105_106.out _; (with_reducible repeat (first | refine blk_drewN ?_ _ | refine blk_drew ?_ | refine blk_alloc ?_ _)); refine blk_far ?_ NB105_106.out _; (with_reducible repeat (first | refine blk_drewN ?_ _ | refine blk_drew ?_ | refine blk_alloc ?_ _)); exact BK105.out⟩, ⟨by (with_reducible repeat (first | refine blk_drewN ?_ _ | refine blk_drew ?_ | refine blk_alloc ?_ _)); refine blk_put (cs := #[.slice none 0 0, .bool false, .int .i64 0, .string (⟨#[]⟩ : ByteArray)]) ?_ 3 _ rfl; (with_reducible repeat (first | refine blk_drewN ?_ _ | refine blk_drew ?_ | refine blk_alloc ?_ _)); refine blk_put (cs := #[.slice none 0 0, .bool false, .int .i64 0, .string (⟨#[]⟩ : ByteArray)]) ?_ 2 _ rfl; (with_reducible repeat (first | refine blk_drewN ?_ _ | refine blk_drew ?_ | refine blk_alloc ?_ _)); refine blk_put (cs := #[.slice none 0 0, .bool false, .int .i64 0, .string (⟨#[]⟩ : ByteArray)]) ?_ 1 _ rfl; (with_reducible repeat (first | refine blk_drewN ?_ _ | refine blk_drew ?_ | refine blk_alloc ?_ _)); refine blk_put (cs := #[.slice none 0 0, .bool false, .int .i64 0, .string (⟨#[]⟩ : ByteArray)]) ?_ 0 _ rfl; (with_reducible repeat (first | refine blk_drewN ?_ _ | refine blk_drew ?_ | refine blk_alloc ?_ _)); exact BK106.out⟩, ⟨by repeat (first | (with_reducible first | exact HB.out | apply below_alloc | apply pw_below_drewN | apply below_drew1 | refine below_set ?_ GE105.out | refine below_set ?_ GE106.out) | exact HB.out)⟩⟩
    ·
     rw [if_neg c11] at H
     exact absurd H (by simp)
  case rest =>
   clear HC5
   try clear c1
   try clear p1
   try clear q1
   try clear hx1
   try clear qi1
   try clear c2
   try clear c2b0
   try clear c2b1
   try clear p2
   try clear c3
   try clear c8
   try clear c10
   try clear c10b0
   try clear c10b1
   try clear c11
   try clear c11b0
   try clear c11b1
   try clear p12
   try clear q12
   try clear hx12
   try clear qi12
   try clear hcz4_0
   try clear hcz4_1
   try clear hcz4_2
   try clear hcz4_3
   try clear hcz9_0
   try clear hcz9_1
   try clear hcz9_2
   try clear hcz9_3
   try clear hfz4_0
   try clear hfz4_1
   try clear hfz4_2
   try clear hfz4_3
   try clear hfz9_0
   try clear hfz9_1
   try clear hfz9_2
   try clear hfz9_3
   try clear p12
   try clear q12
   obtain ⟨kq, x23_4, rfl, HA, HJ4, BK105, BK106, HB⟩ := hcut
   cases kq with
   | zero => exact absurd HA.out (by simp [arbiterref02_ParseDesc.j0])
   | succ kj4 =>
    have H := HA.out
    clear HA
    simp only [arbiterref02_ParseDesc.j0] at H
    by_cases c13 : x23_4 = true
    ·
     subst c13
     have H1 : (some (([] : List (S37)), false, 0, (⟨#[]⟩ : ByteArray), 4)) = some (r1, r2, r3, r4, r5) := by rw [if_pos rfl] at H; exact H
     clear H
     have H := H1
     clear H1
     simp only [Option.some.injEq, Prod.mk.injEq] at H
     obtain ⟨rfl, rfl, rfl, rfl, rfl⟩ := H
     have hnb14 := NB106_105.out
     have hnc14 := NB105_106.out
     have hcz15_0 : wc.cell? ⟨gb106, 0, none⟩ = some (.slice none 0 0) := (blk_cell BK106.out 0).trans rfl
     have hcz15_1 : wc.cell? ⟨gb106, 1, none⟩ = some (.bool false) := (blk_cell BK106.out 1).trans rfl
     have hcz15_2 : wc.cell? ⟨gb106, 2, none⟩ = some (.int .i64 0) := (blk_cell BK106.out 2).trans rfl
     have hcz15_3 : wc.cell? ⟨gb106, 3, none⟩ = some (.string (⟨#[]⟩ : ByteArray)) := (blk_cell BK106.out 3).trans rfl
     have hfz15_0 := blk_frozen BK106.out 0
     have hfz15_1 := blk_frozen BK106.out 1
     have hfz15_2 := blk_frozen BK106.out 2
     have hfz15_3 := blk_frozen BK106.out 3
     have hcz16_0 : wc.cell? ⟨gb105, 0, none⟩ = some (.slice none 0 0) := (blk_cell BK105.out 0).trans rfl
     have hcz16_1 : wc.cell? ⟨gb105, 1, none⟩ = some (.bool false) := (blk_cell BK105.out 1).trans rfl
     have hcz16_2 : wc.cell? ⟨gb105, 2, none⟩ = some (.int .i64 0) := (blk_cell BK105.out 2).trans rfl
     have hcz16_3 : wc.cell? ⟨gb105, 3, none⟩ = some (.string (⟨#[]⟩ : ByteArray)) := (blk_cell BK105.out 3).trans rfl
     have hfz16_0 := blk_frozen BK105.out 0
     have hfz16_1 := blk_frozen BK105.out 1
     have hfz16_2 := blk_frozen BK105.out 2
     have hfz16_3 := blk_frozen BK105.out 3
     go_wp2
     refine bodyPost_ret (results_ct rfl _ _ gb105 43 #[.slice none 0 0, .bool false, .int .i64 0, .string (⟨#[]⟩ : ByteArray)] (0, 0) _ rfl (by (with_reducible repeat (first | refine blk_drewN ?_ _ | refine blk_drew ?_ | refine blk_alloc ?_ _)); refine blk_put (cs := #[.slice none 0 0, .bool false, .int .i64 0, .string (⟨#[]⟩ : ByteArray)]) ?_ 3 _ rfl; (with_reducible repeat (first | refine blk_drewN ?_ _ | refine blk_drew ?_ | refine blk_alloc ?_ _)); refine blk_put (cs := #[.slice none 0 0, .bool false, .int .i64 0, .string (⟨#[]⟩ : ByteArray)]) ?_ 2 _ rfl; (with_reducible repeat (first | refine blk_drewN ?_ _ | refine blk_drew ?_ | refine blk_alloc ?_ _)); refine blk_put (cs := #[.slice none 0 0, .bool false, .int .i64 0, .string (⟨#[]⟩ : ByteArray)]) ?_ 1 _ rfl; (with_reducible repeat (first | refine blk_drewN ?_ _ | refine blk_drew ?_ | refine blk_alloc ?_ _)); refine blk_put (cs := #[.slice none 0 0, .bool false, .int .i64 0, .string (⟨#[]⟩ : ByteArray)]) ?_ 0 _ rfl; (with_reducible repeat (first | refine blk_drewN ?_ _ | refine blk_drew ?_ | refine blk_alloc ?_ _)); exact BK105.out) Tryd.underlying43 rfl (by kernel_rfl)) rfl ?_
     exact ⟨_, by first | rfl | (simp [errW_none, errW_some] <;> rfl) | (simp [*, errW_none, errW_some] <;> rfl), by first | exact Kd.R_nil _ _ _ _ _ | exact Kd.N_nil _ _ _ _ _ | exact Kd.V_nil _ _ _ _ _ | exact Kd.Q_nil _ _ _ _ _ | exact Kd.S_nil _ _ _ _ _, by repeat (first | (with_reducible first | exact HB.out | apply below_alloc | apply pw_below_drewN | apply below_drew1 | refine below_set ?_ GE105.out | refine below_set ?_ GE106.out) | exact HB.out)⟩
    ·
     replace c13 := Bool.eq_false_iff.mpr c13
     subst c13
     have H1 : (arbiterref02_ParseDesc.l0 kj4 a0 false 1 ([] : List (S37)) false 0 (⟨#[]⟩ : ByteArray)) = some (r1, r2, r3, r4, r5) := by rw [if_neg (show ¬ (false = true) by decide)] at H; exact H
     clear H
     have H := H1
     clear H1
     have H' := Aside0.mk H
     clear H
     go_wp2
     go_loopg [5, 6] kj4 (fun kq v5 v6 w' => ∃ (x5_2 : Bool) (x6_2 : Int) (x106001_2 : Bool) (x106002_2 : Int) (x106003_2 : ByteArray) (x107000_2 : List (S37)) (u107000 : Value), v5 = .bool x5_2 ∧ v6 = .int .i64 x6_2 ∧ Aside0 (arbiterref02_ParseDesc.l0 kq a0 x5_2 x6_2 x107000_2 false 0 (⟨#[]⟩ : ByteArray) = some (r1, r2, r3, r4, r5)) ∧ Aside0 (kq ≤ kj4) ∧ Aside0 (Kd.R k37 37 w' w.heap.size (fun _ => True) u107000 x107000_2) ∧ Aside0 (w'.heap[gb105]? = some (.cells #[(.slice none 0 0), .bool x106001_2, .int .i64 x106002_2, .string x106003_2] 43 (0, 0))) ∧ Aside0 (w'.heap[gb106]? = some (.cells #[u107000, .bool false, .int .i64 0, .string (⟨#[]⟩ : ByteArray)] 43 (0, 0))) ∧ Aside0 (Below w.heap.size w w'))
     case atStart => exact ⟨(false), (1), (false), (0), ((⟨#[]⟩ : ByteArray)), (([] : List (S37))), (.slice none 0 0), (by first | rfl | (simp; done) | (simp [*]; done)), (by first | rfl | (simp; done) | (simp [*]; done)), H', ⟨Nat.le_refl _⟩, ⟨by first | exact Kd.R_nil _ _ _ _ _ | exact Kd.N_nil _ _ _ _ _ | exact Kd.V_nil _ _ _ _ _ | exact Kd.Q_nil _ _ _ _ _ | exact Kd.S_nil _ _ _ _ _⟩, ⟨by (with_reducible repeat (first | refine blk_drewN ?_ _ | refine blk_drew ?_ | refine blk_alloc ?_ _)); exact BK105.out⟩, ⟨by (with_reducible repeat (first | refine blk_drewN ?_ _ | refine blk_drew ?_ | refine blk_alloc ?_ _)); exact BK106.out⟩, ⟨by repeat (first | (with_reducible first | exact HB.out | apply below_alloc | apply pw_below_drewN | apply below_drew1 | refine below_set ?_ GE105.out | refine below_set ?_ GE106.out) | exact HB.out)⟩⟩
     case round =>
      clear H'
      try clear c1
      try clear p1
      try clear q1
      try clear hx1
      try clear qi1
      try clear c2
      try clear c2b0
      try clear c2b1
      try clear p2
      try clear c3
      try clear c8
      try clear c10
      try clear c10b0
      try clear c10b1
      try clear c11
      try clear c11b0
      try clear c11b1
      try clear p12
      try clear q12
      try clear hx12
      try clear qi12
      try clear c13
      try clear c14
      try clear hcz15_0
      try clear hcz15_1
      try clear hcz15_2
      try clear hcz15_3
      try clear hcz16_0
      try clear hcz16_1
      try clear hcz16_2
      try clear hcz16_3
      try clear hcz4_0
      try clear hcz4_1
      try clear hcz4_2
      try clear hcz4_3
      try clear hcz9_0
      try clear hcz9_1
      try clear hcz9_2
      try clear hcz9_3
      try clear hfz15_0
      try clear hfz15_1
      try clear hfz15_2
      try clear hfz15_3
      try clear hfz16_0
      try clear hfz16_1
      try clear hfz16_2
      try clear hfz16_3
      try clear hfz4_0
      try clear hfz4_1
      try clear hfz4_2
      try clear hfz4_3
      try clear hfz9_0
      try clear hfz9_1
      try clear hfz9_2
      try clear hfz9_3
      try clear p1
      try clear p12
      try clear p2
      try clear q1
      try clear q12
      obtain ⟨x5_2, x6_2, x106001_2, x106002_2, x106003_2, x107000_2, u107000, rfl, rfl, HA, HK2, HO_107000, BK105, BK106, HB⟩ := hrel
      cases gk with
      | zero => exact absurd HA.out (by simp [arbiterref02_ParseDesc.l0])
      | succ k2 =>
       have H := HA.out
       clear HA
       simp only [arbiterref02_ParseDesc.l0] at H
       have HC17 := Aside0.mk H
       clear H
       go_upto_region 8 with (fail)
       go_cut [34] (fun v34 wc => ∃ (kq : Nat) (x34_16 : Bool), v34 = .bool x34_16 ∧ Aside0 (arbiterref02_ParseDesc.j2 kq a0 x5_2 x6_2 x34_16 x107000_2 false 0 (⟨#[]⟩ : ByteArray) = some (r1, r2, r3, r4, r5)) ∧ Aside0 (kq ≤ k2) ∧ Aside0 (Kd.R k37 37 wc w.heap.size (fun _ => True) u107000 x107000_2) ∧ Aside0 (wc.heap[gb105]? = some (.cells #[(.slice none 0 0), .bool x106001_2, .int .i64 x106002_2, .string x106003_2] 43 (0, 0))) ∧ Aside0 (wc.heap[gb106]? = some (.cells #[u107000, .bool false, .int .i64 0, .string (⟨#[]⟩ : ByteArray)] 43 (0, 0))) ∧ Aside0 (Below w.heap.size w wc))
       case first =>
        have H := HC17.out
        clear HC17
        by_cases c18 : x6_2 < (a0.size : Int)
        ·
         rw [if_pos c18] at H
         have c18b0 : decide (x6_2 < (a0.size : Int)) = true := decide_eq_true c18
         clear c18
         (first | rw [c18b0] | (simp only [i64_w, i32_w]; rw [c18b0]) | skip)
         by_cases c19 : 0 ≤ x6_2
         ·
          rw [if_pos c19] at H
          have c19b0 : decide (0 ≤ x6_2) = true := decide_eq_true c19
          clear c19
          have H' := Aside0.mk H
          clear H
          have p20 : 0 ≤ (x6_2 : Int) := of_decide_eq_true (by first | (with_reducible assumption) | assumption)
          have q20 : x6_2 < (a0.size : Int) := of_decide_eq_true (by first | (with_reducible assumption) | assumption)
          have hx20 := bt_at a0 x6_2
          replace p20 := eq_true p20
          replace q20 := eq_true q20
          go_wp2
          go_meet
          case rel => exact ⟨_, (((bt a0 x6_2) != 41)), (by first | rfl | (simp; done) | (simp [*]; done)), H', ⟨by have := HJ4.out; have := HK2.out; first | omega | exact Nat.le_refl _⟩, ⟨by (with_reducible repeat (first | apply Kd.R_alloc | apply Kd.R_drewN | apply Kd.R_drew)); exact HO_107000.out⟩, ⟨by (with_reducible repeat (first | refine blk_drewN ?_ _ | refine blk_drew ?_ | refine blk_alloc ?_ _)); exact BK105.out⟩, ⟨by (with_reducible repeat (first | refine blk_drewN ?_ _ | refine blk_drew ?_ | refine blk_alloc ?_ _)); exact BK106.out⟩, ⟨by repeat (first | (with_reducible first | exact HB.out | apply below_alloc | apply pw_below_drewN | apply below_drew1 | refine below_set ?_ GE105.out | refine below_set ?_ GE106.out) | exact HB.out)⟩⟩
         ·
          rw [if_neg c19] at H
          exact absurd H (by simp)
        ·
         rw [if_neg c18] at H
         have c18b0 : decide (x6_2 < (a0.size : Int)) = false := decide_eq_false c18
         clear c18
         (first | rw [c18b0] | (simp only [i64_w, i32_w]; rw [c18b0]) | skip)
         have H' := Aside0.mk H
         clear H
         go_wp2
         go_meet
         case rel => exact ⟨_, (false), (by first | rfl | (simp; done) | (simp [*]; done)), H', ⟨by have := HJ4.out; have := HK2.out; first | omega | exact Nat.le_refl _⟩, ⟨by (with_reducible repeat (first | apply Kd.R_alloc | apply Kd.R_drewN | apply Kd.R_drew)); exact HO_107000.out⟩, ⟨by (with_reducible repeat (first | refine blk_drewN ?_ _ | refine blk_drew ?_ | refine blk_alloc ?_ _)); exact BK105.out⟩, ⟨by (with_reducible repeat (first | refine blk_drewN ?_ _ | refine blk_drew ?_ | refine blk_alloc ?_ _)); exact BK106.out⟩, ⟨by repeat (first | (with_reducible first | exact HB.out | apply below_alloc | apply pw_below_drewN | apply below_drew1 | refine below_set ?_ GE105.out | refine below_set ?_ GE106.out) | exact HB.out)⟩⟩
       case rest =>
        clear HC17
        try clear c1
        try clear p1
        try clear q1
        try clear hx1
        try clear qi1
        try clear c2
        try clear c2b0
        try clear c2b1
        try clear p2
        try clear q2
        try clear hx2
        try clear c3
        try clear c8
        try clear c10
        try clear c10b0
        try clear c10b1
        try clear c11
        try clear c11b0
        try clear c11b1
        try clear p12
        try clear q12
        try clear hx12
        try clear qi12
        try clear c13
        try clear c14
        try clear c18
        try clear c18b0
        try clear c19
        try clear c19b0
        try clear p20
        try clear q20
        try clear hx20
        try clear hcz15_0
        try clear hcz15_1
        try clear hcz15_2
        try clear hcz15_3
        try clear hcz16_0
        try clear hcz16_1
        try clear hcz16_2
        try clear hcz16_3
        try clear hcz4_0
        try clear hcz4_1
        try clear hcz4_2
        try clear hcz4_3
        try clear hcz9_0
        try clear hcz9_1
        try clear hcz9_2
        try clear hcz9_3
        try clear hfz15_0
        try clear hfz15_1
        try clear hfz15_2
        try clear hfz15_3
        try clear hfz16_0
        try clear hfz16_1
        try clear hfz16_2
        try clear hfz16_3
        try clear hfz4_0
        try clear hfz4_1
        try clear hfz4_2
        try clear hfz4_3
        try clear hfz9_0
        try clear hfz9_1
        try clear hfz9_2
        try clear hfz9_3
        try clear p1
        try clear p12
        try clear p2
        try clear p20
        try clear q1
        try clear q12
        try clear q20
        obtain ⟨kq, x34_16, rfl, HA, HJ16, HO_107000, BK105, BK106, HB⟩ := hcut
        cases kq with
        | zero => exact absurd HA.out (by simp [arbiterref02_ParseDesc.j2])
        | succ kj16 =>
         have H := HA.out
         clear HA
         simp only [arbiterref02_ParseDesc.j2] at H
         by_cases c21 : x34_16 = true
         ·
          subst c21
          have H1 : ((arbiterref02_read.f a0 x6_2).bind fun bt107 => (if bt107.2.2 < 0 then (some (([] : List (S37)), false, 0, (⟨#[]⟩ : ByteArray), 4)) else (if x5_2 = true then (if x107000_2.length < 5864062014805 then (arbiterref02_ParseDesc.l0 kj16 a0 true bt107.2.2 (x107000_2 ++ [(⟨bt107.1, bt107.2.1⟩ : S37)]) false 0 (⟨#[]⟩ : ByteArray)) else (none)) else (if x107000_2.length < 5864062014805 then (arbiterref02_ParseDesc.l0 kj16 a0 (decide (bt107.1 > 255)) bt107.2.2 (x107000_2 ++ [(⟨bt107.1, bt107.2.1⟩ : S37)]) false 0 (⟨#[]⟩ : ByteArray)) else (none))))) = some (r1, r2, r3, r4, r5) := by rw [if_pos rfl] at H; exact H
          clear H
          have H := H1
          clear H1
          replace H := Option.bind_eq_some_iff.mp H
          obtain ⟨⟨t107, t108, t109⟩, A220, H⟩ := H
          replace H : (if t109 < 0 then (some (([] : List (S37)), false, 0, (⟨#[]⟩ : ByteArray), 4)) else (if x5_2 = true then (if x107000_2.length < 5864062014805 then (arbiterref02_ParseDesc.l0 kj16 a0 true t109 (x107000_2 ++ [(⟨t107, t108⟩ : S37)]) false 0 (⟨#[]⟩ : ByteArray)) else (none)) else (if x107000_2.length < 5864062014805 then (arbiterref02_ParseDesc.l0 kj16 a0 (decide (t107 > 255)) t109 (x107000_2 ++ [(⟨t107, t108⟩ : S37)]) false 0 (⟨#[]⟩ : ByteArray)) else (none)))) = some (r1, r2, r3, r4, r5) := H
          have A22 := Aside0.mk A220
          clear A220
          by_cases c23 : t109 < 0
          ·
           rw [if_pos c23] at H
           have c23b0 : decide (t109 < 0) = true := decide_eq_true c23
           clear c23
           simp only [Option.some.injEq, Prod.mk.injEq] at H
           obtain ⟨rfl, rfl, rfl, rfl, rfl⟩ := H
           go_wp2_with (first | ((with_reducible refine gate_callee (f := 66) rfl ?_); refine goesL_ (some 38) rfl rfl Tryd.func66 (by kernel_rfl) rfl #[.string a0, .int .i64 x6_2] rfl (by (try simp only [List.map_toArray, List.map_cons, List.map_nil]); first | done | rfl | (simp only [List.length_drop, List.length_take]; rfl)) ?_; (with_reducible refine (arbiterref02_read.calls a0 x6_2 t107 t108 t109 _ A22.out).mono ?_); rintro e w24 ⟨rfl, hb⟩; refine ⟨_, rfl, ?_⟩; have n0_ := Aside0.mk (Kd.R_below (by (with_reducible repeat (first | apply Kd.R_alloc | apply Kd.R_drewN | apply Kd.R_drew)); exact HO_107000.out) hb); have n1_ := Aside0.mk (blk_below (g := gb105) (o := .cells #[.slice none 0 0, .bool x106001_2, .int .i64 x106002_2, .string x106003_2] 43 (0, 0)) (by (with_reducible repeat (first | refine blk_drewN ?_ _ | refine blk_drew ?_ | refine blk_alloc ?_ _)); exact BK105.out) hb); have n2_ := Aside0.mk (blk_below (g := gb106) (o := .cells #[u107000, .bool false, .int .i64 0, .string (⟨#[]⟩ : ByteArray)] 43 (0, 0)) (by (with_reducible repeat (first | refine blk_drewN ?_ _ | refine blk_drew ?_ | refine blk_alloc ?_ _)); exact BK106.out) hb); have n3_ := Aside0.mk (below_step (by repeat (first | (with_reducible first | exact HB.out | apply below_alloc | apply pw_below_drewN | apply below_drew1 | refine below_set ?_ GE105.out | refine below_set ?_ GE106.out) | exact HB.out)) hb); clear HO_107000; clear BK105; clear BK106; clear HB; have HO_107000 := n0_; have BK105 := n1_; have BK106 := n2_; have HB := n3_; clear n0_ n1_ n2_ n3_; (try clear hb); (try clear hb2); (try clear hk); (try clear hi)) | ((with_reducible refine gate_dst (N := 7) rfl ?_); (try (refine gate_guard (by rfl) ?_; dsimp only)); refine box_event ?hg (N := 7) ?hd (cs := #[.int .i64 0, .string (⟨#[]⟩ : ByteArray)]) (t := 37) ?hr ?_; (case hd => rfl); (case hg => rfl); (case hr => first | (go_simp; done) | (go_simp; rfl)); intro gb110 hg w25 hbox hb; have n0_ := Aside0.mk (Kd.R_below (Kd.R_elderB (by (with_reducible repeat (first | apply Kd.R_alloc | apply Kd.R_drewN | apply Kd.R_drew)); exact HO_107000.out) gb110 (Nat.le_of_eq hg.symm)) hb); have n1_ := Aside0.mk (blk_below (g := gb105) (o := .cells #[.slice none 0 0, .bool x106001_2, .int .i64 x106002_2, .string x106003_2] 43 (0, 0)) (by (with_reducible repeat (first | refine blk_drewN ?_ _ | refine blk_drew ?_ | refine blk_alloc ?_ _)); exact BK105.out) hb); have n2_ := Aside0.mk (blk_below (g := gb106) (o := .cells #[u107000, .bool false, .int .i64 0, .string (⟨#[]⟩ : ByteArray)] 43 (0, 0)) (by (with_reducible repeat (first | refine blk_drewN ?_ _ | refine blk_drew ?_ | refine blk_alloc ?_ _)); exact BK106.out) hb); have n3_ := Aside0.mk (below_step (by repeat (first | (with_reducible first | exact HB.out | apply below_alloc | apply pw_below_drewN | apply below_drew1 | refine below_set ?_ GE105.out | refine below_set ?_ GE106.out) | exact HB.out)) hb); have n4_ := Aside0.mk (hbox); have n5_ := Aside0.mk ((by rw [hg]; exact (below_size (by repeat (first | (with_reducible first | exact HB.out | apply below_alloc | apply pw_below_drewN | apply below_drew1 | refine below_set ?_ GE105.out | refine below_set ?_ GE106.out) | exact HB.out))) : w.heap.size ≤ gb110)); have n6_ := Aside0.mk ((by rw [hg]; exact (below_size (by repeat (first | (with_reducible first | exact HB.out | apply below_alloc | apply pw_below_drewN | apply below_drew1 | refine below_set ?_ GE105.out | refine below_set ?_ GE106.out) | exact HB.out))) : w.heap.size ≤ gb110)); have n7_ := Aside0.mk ((by rw [hg]; exact Nat.ne_of_lt (blk_lt (g := gb105) (o := .cells #[.slice none 0 0, .bool x106001_2, .int .i64 x106002_2, .string x106003_2] 43 (0, 0)) (by (with_reducible repeat (first | refine blk_drewN ?_ _ | refine blk_drew ?_ | refine blk_alloc ?_ _)); exact BK105.out)) : gb105 ≠ gb110)); have n8_ := Aside0.mk ((by rw [hg]; exact Nat.ne_of_gt (blk_lt (g := gb105) (o := .cells #[.slice none 0 0, .bool x106001_2, .int .i64 x106002_2, .string x106003_2] 43 (0, 0)) (by (with_reducible repeat (first | refine blk_drewN ?_ _ | refine blk_drew ?_ | refine blk_alloc ?_ _)); exact BK105.out)) : gb110 ≠ gb105)); have n9_ := Aside0.mk ((by rw [hg]; exact Nat.ne_of_lt (blk_lt (g := gb106) (o := .cells #[u107000, .bool false, .int .i64 0, .string (⟨#[]⟩ : ByteArray)] 43 (0, 0)) (by (with_reducible repeat (first | refine blk_drewN ?_ _ | refine blk_drew ?_ | refine blk_alloc ?_ _)); exact BK106.out)) : gb106 ≠ gb110)); have n10_ := Aside0.mk ((by rw [hg]; exact Nat.ne_of_gt (blk_lt (g := gb106) (o := .cells #[u107000, .bool false, .int .i64 0, .string (⟨#[]⟩ : ByteArray)] 43 (0, 0)) (by (with_reducible repeat (first | refine blk_drewN ?_ _ | refine blk_drew ?_ | refine blk_alloc ?_ _)); exact BK106.out)) : gb110 ≠ gb106)); clear HO_107000; clear BK105; clear BK106; clear HB; have HO_107000 := n0_; have BK105 := n1_; have BK106 := n2_; have HB := n3_; have BK110 := n4_; have GW110 := n5_; have GE110 := n6_; have NB105_110 := n7_; have NB110_105 := n8_; have NB106_110 := n9_; have NB110_106 := n10_; clear n0_ n1_ n2_ n3_ n4_ n5_ n6_ n7_ n8_ n9_ n10_; clear hb hbox hg; have hnb26 := NB110_105.out; have hnc26 := NB105_110.out; have hnb27 := NB110_106.out; have hnc27 := NB106_110.out; have hcz28_0 : w25.cell? ⟨gb110, 0, none⟩ = some (.int .i64 0) := (blk_cell BK110.out 0).trans rfl; have hcz28_1 : w25.cell? ⟨gb110, 1, none⟩ = some (.string (⟨#[]⟩ : ByteArray)) := (blk_cell BK110.out 1).trans rfl; have hfz28_0 := blk_frozen BK110.out 0; have hfz28_1 := blk_frozen BK110.out 1; have hnb29 := NB105_106.out; have hnc29 := NB106_105.out; have hcz30_0 : w25.cell? ⟨gb105, 0, none⟩ = some (.slice none 0 0) := (blk_cell BK105.out 0).trans rfl; have hcz30_1 : w25.cell? ⟨gb105, 1, none⟩ = some (.bool x106001_2) := (blk_cell BK105.out 1).trans rfl; have hcz30_2 : w25.cell? ⟨gb105, 2, none⟩ = some (.int .i64 x106002_2) := (blk_cell BK105.out 2).trans rfl; have hcz30_3 : w25.cell? ⟨gb105, 3, none⟩ = some (.string x106003_2) := (blk_cell BK105.out 3).trans rfl; have hfz30_0 := blk_frozen BK105.out 0; have hfz30_1 := blk_frozen BK105.out 1; have hfz30_2 := blk_frozen BK105.out 2; have hfz30_3 := blk_frozen BK105.out 3))
           refine bodyPost_ret (results_ct rfl _ _ gb105 43 #[.slice none 0 0, .bool false, .int .i64 0, .string (⟨#[]⟩ : ByteArray)] (0, 0) _ rfl (by (with_reducible repeat (first | refine blk_drewN ?_ _ | refine blk_drew ?_ | refine blk_alloc ?_ _)); refine blk_put (cs := #[.slice none 0 0, .bool false, .int .i64 0, .string x106003_2]) ?_ 3 _ rfl; (with_reducible repeat (first | refine blk_drewN ?_ _ | refine blk_drew ?_ | refine blk_alloc ?_ _)); refine blk_put (cs := #[.slice none 0 0, .bool false, .int .i64 x106002_2, .string x106003_2]) ?_ 2 _ rfl; (with_reducible repeat (first | refine blk_drewN ?_ _ | refine blk_drew ?_ | refine blk_alloc ?_ _)); refine blk_put (cs := #[.slice none 0 0, .bool x106001_2, .int .i64 x106002_2, .string x106003_2]) ?_ 1 _ rfl; (with_reducible repeat (first | refine blk_drewN ?_ _ | refine blk_drew ?_ | refine blk_alloc ?_ _)); refine blk_put (cs := #[.slice none 0 0, .bool x106001_2, .int .i64 x106002_2, .string x106003_2]) ?_ 0 _ rfl; (with_reducible repeat (first | refine blk_drewN ?_ _ | refine blk_drew ?_ | refine blk_alloc ?_ _)); refine blk_far ?_ NB105_110.out _; (with_reducible repeat (first | refine blk_drewN ?_ _ | refine blk_drew ?_ | refine blk_alloc ?_ _)); refine blk_far ?_ NB105_110.out _; (with_reducible repeat (first | refine blk_drewN ?_ _ | refine blk_drew ?_ | refine blk_alloc ?_ _)); exact BK105.out) Tryd.underlying43 rfl (by kernel_rfl)) rfl ?_
           exact ⟨_, by first | rfl | (simp [errW_none, errW_some] <;> rfl) | (simp [*, errW_none, errW_some] <;> rfl), by first | exact Kd.R_nil _ _ _ _ _ | exact Kd.N_nil _ _ _ _ _ | exact Kd.V_nil _ _ _ _ _ | exact Kd.Q_nil _ _ _ _ _ | exact Kd.S_nil _ _ _ _ _, by repeat (first | (with_reducible first | exact HB.out | apply below_alloc | apply pw_below_drewN | apply below_drew1 | refine below_set ?_ GE105.out | refine below_set ?_ GE106.out | refine below_set ?_ GE110.out) | exact HB.out)⟩
          ·
           rw [if_neg c23] at H
           have c23b0 : decide (t109 < 0) = false := decide_eq_false c23
           clear c23
           by_cases c31 : x5_2 = true
           ·
            subst c31
            have H1 : (if x107000_2.length < 5864062014805 then (arbiterref02_ParseDesc.l0 kj16 a0 true t109 (x107000_2 ++ [(⟨t107, t108⟩ : S37)]) false 0 (⟨#[]⟩ : ByteArray)) else (none)) = some (r1, r2, r3, r4, r5) := by rw [if_pos rfl] at H; exact H
            clear H
            have H := H1
            clear H1
            by_cases c32 : x107000_2.length < 5864062014805
            ·
             rw [if_pos c32] at H
             have LMc32 := Aside0.mk c32
             clear c32
             obtain ⟨y111, hy111⟩ : ∃ y_ : List (S37), y_ = (x107000_2 ++ [(⟨t107, t108⟩ : S37)]) := ⟨_, rfl⟩
             replace H : (arbiterref02_ParseDesc.l0 kj16 a0 true t109 y111 false 0 (⟨#[]⟩ : ByteArray)) = some (r1, r2, r3, r4, r5) := by first | (rw [hy111]; with_reducible exact H) | (have H2_ := (Option.bind_some _ _).symm.trans H; rw [hy111]; with_reducible exact H2_) | (have H2_ := (Option.bind_some _ _).symm.trans H; with_reducible exact H2_) | with_reducible exact H | (rw [hy111]; exact H) | exact H
             have Ny111 := Aside0.mk hy111
             clear hy111
             have H' := Aside0.mk H
             clear H
             go_wp2_with (first | ((with_reducible refine gate_callee (f := 66) rfl ?_); refine goesL_ (some 38) rfl rfl Tryd.func66 (by kernel_rfl) rfl #[.string a0, .int .i64 x6_2] rfl (by (try simp only [List.map_toArray, List.map_cons, List.map_nil]); first | done | rfl | (simp only [List.length_drop, List.length_take]; rfl)) ?_; (with_reducible refine (arbiterref02_read.calls a0 x6_2 t107 t108 t109 _ A22.out).mono ?_); rintro e w33 ⟨rfl, hb⟩; refine ⟨_, rfl, ?_⟩; have n0_ := Aside0.mk (Kd.R_below (by (with_reducible repeat (first | apply Kd.R_alloc | apply Kd.R_drewN | apply Kd.R_drew)); exact HO_107000.out) hb); have n1_ := Aside0.mk (blk_below (g := gb105) (o := .cells #[.slice none 0 0, .bool x106001_2, .int .i64 x106002_2, .string x106003_2] 43 (0, 0)) (by (with_reducible repeat (first | refine blk_drewN ?_ _ | refine blk_drew ?_ | refine blk_alloc ?_ _)); exact BK105.out) hb); have n2_ := Aside0.mk (blk_below (g := gb106) (o := .cells #[u107000, .bool false, .int .i64 0, .string (⟨#[]⟩ : ByteArray)] 43 (0, 0)) (by (with_reducible repeat (first | refine blk_drewN ?_ _ | refine blk_drew ?_ | refine blk_alloc ?_ _)); exact BK106.out) hb); have n3_ := Aside0.mk (below_step (by repeat (first | (with_reducible first | exact HB.out | apply below_alloc | apply pw_below_drewN | apply below_drew1 | refine below_set ?_ GE105.out | refine below_set ?_ GE106.out) | exact HB.out)) hb); clear HO_107000; clear BK105; clear BK106; clear HB; have HO_107000 := n0_; have BK105 := n1_; have BK106 := n2_; have HB := n3_; clear n0_ n1_ n2_ n3_; (try clear hb); (try clear hb2); (try clear hk); (try clear hi)) | ((with_reducible refine gate_dst (N := 7) rfl ?_); (try (refine gate_guard (by rfl) ?_; dsimp only)); refine box_event ?hg (N := 7) ?hd (cs := #[.int .i64 0, .string (⟨#[]⟩ : ByteArray)]) (t := 37) ?hr ?_; (case hd => rfl); (case hg => rfl); (case hr => first | (go_simp; done) | (go_simp; rfl)); intro gb110 hg w34 hbox hb; have n0_ := Aside0.mk (Kd.R_below (Kd.R_elderB (by (with_reducible repeat (first | apply Kd.R_alloc | apply Kd.R_drewN | apply Kd.R_drew)); exact HO_107000.out) gb110 (Nat.le_of_eq hg.symm)) hb); have n1_ := Aside0.mk (blk_below (g := gb105) (o := .cells #[.slice none 0 0, .bool x106001_2, .int .i64 x106002_2, .string x106003_2] 43 (0, 0)) (by (with_reducible repeat (first | refine blk_drewN ?_ _ | refine blk_drew ?_ | refine blk_alloc ?_ _)); exact BK105.out) hb); have n2_ := Aside0.mk (blk_below (g := gb106) (o := .cells #[u107000, .bool false, .int .i64 0, .string (⟨#[]⟩ : ByteArray)] 43 (0, 0)) (by (with_reducible repeat (first | refine blk_drewN ?_ _ | refine blk_drew ?_ | refine blk_alloc ?_ _)); exact BK106.out) hb); have n3_ := Aside0.mk (below_step (by repeat (first | (with_reducible first | exact HB.out | apply below_alloc | apply pw_below_drewN | apply below_drew1 | refine below_set ?_ GE105.out | refine below_set ?_ GE106.out) | exact HB.out)) hb); have n4_ := Aside0.mk (hbox); have n5_ := Aside0.mk ((by rw [hg]; exact (below_size (by repeat (first | (with_reducible first | exact HB.out | apply below_alloc | apply pw_below_drewN | apply below_drew1 | refine below_set ?_ GE105.out | refine below_set ?_ GE106.out) | exact HB.out))) : w.heap.size ≤ gb110)); have n6_ := Aside0.mk ((by rw [hg]; exact (below_size (by repeat (first | (with_reducible first | exact HB.out | apply below_alloc | apply pw_below_drewN | apply below_drew1 | refine below_set ?_ GE105.out | refine below_set ?_ GE106.out) | exact HB.out))) : w.heap.size ≤ gb110)); have n7_ := Aside0.mk ((by rw [hg]; exact Nat.ne_of_lt (blk_lt (g := gb105) (o := .cells #[.slice none 0 0, .bool x106001_2, .int .i64 x106002_2, .string x106003_2] 43 (0, 0)) (by (with_reducible repeat (first | refine blk_drewN ?_ _ | refine blk_drew ?_ | refine blk_alloc ?_ _)); exact BK105.out)) : gb105 ≠ gb110)); have n8_ := Aside0.mk ((by rw [hg]; exact Nat.ne_of_gt (blk_lt (g := gb105) (o := .cells #[.slice none 0 0, .bool x106001_2, .int .i64 x106002_2, .string x106003_2] 43 (0, 0)) (by (with_reducible repeat (first | refine blk_drewN ?_ _ | refine blk_drew ?_ | refine blk_alloc ?_ _)); exact BK105.out)) : gb110 ≠ gb105)); have n9_ := Aside0.mk ((by rw [hg]; exact Nat.ne_of_lt (blk_lt (g := gb106) (o := .cells #[u107000, .bool false, .int .i64 0, .string (⟨#[]⟩ : ByteArray)] 43 (0, 0)) (by (with_reducible repeat (first | refine blk_drewN ?_ _ | refine blk_drew ?_ | refine blk_alloc ?_ _)); exact BK106.out)) : gb106 ≠ gb110)); have n10_ := Aside0.mk ((by rw [hg]; exact Nat.ne_of_gt (blk_lt (g := gb106) (o := .cells #[u107000, .bool false, .int .i64 0, .string (⟨#[]⟩ : ByteArray)] 43 (0, 0)) (by (with_reducible repeat (first | refine blk_drewN ?_ _ | refine blk_drew ?_ | refine blk_alloc ?_ _)); exact BK106.out)) : gb110 ≠ gb106)); clear HO_107000; clear BK105; clear BK106; clear HB; have HO_107000 := n0_; have BK105 := n1_; have BK106 := n2_; have HB := n3_; have BK110 := n4_; have GW110 := n5_; have GE110 := n6_; have NB105_110 := n7_; have NB110_105 := n8_; have NB106_110 := n9_; have NB110_106 := n10_; clear n0_ n1_ n2_ n3_ n4_ n5_ n6_ n7_ n8_ n9_ n10_; clear hb hbox hg; have hnb35 := NB110_105.out; have hnc35 := NB105_110.out; have hnb36 := NB110_106.out; have hnc36 := NB106_110.out; have hcz37_0 : w34.cell? ⟨gb110, 0, none⟩ = some (.int .i64 0) := (blk_cell BK110.out 0).trans rfl; have hcz37_1 : w34.cell? ⟨gb110, 1, none⟩ = some (.string (⟨#[]⟩ : ByteArray)) := (blk_cell BK110.out 1).trans rfl; have hfz37_0 := blk_frozen BK110.out 0; have hfz37_1 := blk_frozen BK110.out 1; have hnb38 := NB106_105.out; have hnc38 := NB105_106.out; have hcz39_0 : w34.cell? ⟨gb106, 0, none⟩ = some (u107000) := (blk_cell BK106.out 0).trans rfl; have hcz39_1 : w34.cell? ⟨gb106, 1, none⟩ = some (.bool false) := (blk_cell BK106.out 1).trans rfl; have hcz39_2 : w34.cell? ⟨gb106, 2, none⟩ = some (.int .i64 0) := (blk_cell BK106.out 2).trans rfl; have hcz39_3 : w34.cell? ⟨gb106, 3, none⟩ = some (.string (⟨#[]⟩ : ByteArray)) := (blk_cell BK106.out 3).trans rfl; have hfz39_0 := blk_frozen BK106.out 0; have hfz39_1 := blk_frozen BK106.out 1; have hfz39_2 := blk_frozen BK106.out 2; have hfz39_3 := blk_frozen BK106.out 3) | ((with_reducible refine gate_builtin (b := .append) (xs := #[.tmp 51, .tmp 53]) rfl ?_); (try (refine gate_guard (by rfl) ?_; dsimp only)); at_builtin; refine Kd.R_append k37 (w0 := w) w.heap.size rfl (.tmp 51) (.tmp 53) 41 37 (.agg #[(.int .i64 0), (.string ⟨#[]⟩)]) 24 rfl Tryd.underlying41 info37 rfl (by decide) (by omega) u107000 x107000_2 (⟨t107, t108⟩ : S37) [.int .i64 t107, .string t108] (fun k_ => k_ ≠ gb110) (fun _ => False) rfl (by first | (go_simp; done) | (go_simp; rfl)) ?aP (fun _ hk => hk.elim) ?aF ?aO ?aB ?aS ?aL ?_; (case aP => exact k37_mkM _ _ _ (⟨t107, t108⟩ : S37)); (case aB => exact (by repeat (first | (with_reducible first | exact HB.out | apply below_alloc | apply pw_below_drewN | apply below_drew1 | refine below_set ?_ GE105.out | refine below_set ?_ GE106.out | refine below_set ?_ GE110.out) | exact HB.out))); (case aF => exact (fun k_ hk => Kd.freshB (g := gb110) (o := .cells #[.int .i64 t107, .string t108] 37 (0, 0)) (by (with_reducible repeat (first | refine blk_drewN ?_ _ | refine blk_drew ?_ | refine blk_alloc ?_ _)); refine blk_put (cs := #[.int .i64 t107, .string (⟨#[]⟩ : ByteArray)]) ?_ 1 _ rfl; (with_reducible repeat (first | refine blk_drewN ?_ _ | refine blk_drew ?_ | refine blk_alloc ?_ _)); refine blk_put (cs := #[.int .i64 0, .string (⟨#[]⟩ : ByteArray)]) ?_ 0 _ rfl; (with_reducible repeat (first | refine blk_drewN ?_ _ | refine blk_drew ?_ | refine blk_alloc ?_ _)); exact BK110.out) k_ hk)); (case aO => exact (by (with_reducible repeat (first | apply Kd.R_alloc | apply Kd.R_drewN | apply Kd.R_drew)); exact Kd.R_mono (Kd.R_far (p := ⟨gb110, 1, none⟩) (Kd.R_far (p := ⟨gb110, 0, none⟩) (Kd.R_mono HO_107000.out (fun k_ hk => (⟨hk, hk.2⟩ : _ ∧ k_ ≠ gb110))) (fun _ hk => hk.2) (.int .i64 t107)) (fun _ hk => hk.2) (.string t108)) (fun _ hk => hk.1.2))); (case aS => exact (below_size (by repeat (first | (with_reducible first | exact HB.out | apply below_alloc | apply pw_below_drewN | apply below_drew1 | refine below_set ?_ GE105.out | refine below_set ?_ GE106.out | refine below_set ?_ GE110.out) | exact HB.out)))); (case aL => have := LMc32.out; omega); intro v112 w40 ho hb hg hat; rw [← Ny111.out] at ho; have n0_ := Aside0.mk (blk_grown (g := gb105) (o := .cells #[.slice none 0 0, .bool x106001_2, .int .i64 x106002_2, .string x106003_2] 43 (0, 0)) (by (with_reducible repeat (first | refine blk_drewN ?_ _ | refine blk_drew ?_ | refine blk_alloc ?_ _)); refine blk_far ?_ NB105_110.out _; (with_reducible repeat (first | refine blk_drewN ?_ _ | refine blk_drew ?_ | refine blk_alloc ?_ _)); refine blk_far ?_ NB105_110.out _; (with_reducible repeat (first | refine blk_drewN ?_ _ | refine blk_drew ?_ | refine blk_alloc ?_ _)); exact BK105.out) hg (Kd.R_ne HO_107000.out BK105.out (by decide))); have n1_ := Aside0.mk (blk_grown (g := gb106) (o := .cells #[u107000, .bool false, .int .i64 0, .string (⟨#[]⟩ : ByteArray)] 43 (0, 0)) (by (with_reducible repeat (first | refine blk_drewN ?_ _ | refine blk_drew ?_ | refine blk_alloc ?_ _)); refine blk_far ?_ NB106_110.out _; (with_reducible repeat (first | refine blk_drewN ?_ _ | refine blk_drew ?_ | refine blk_alloc ?_ _)); refine blk_far ?_ NB106_110.out _; (with_reducible repeat (first | refine blk_drewN ?_ _ | refine blk_drew ?_ | refine blk_alloc ?_ _)); exact BK106.out) hg (Kd.R_ne HO_107000.out BK106.out (by decide))); have n2_ := Aside0.mk (blk_grown (g := gb110) (o := .cells #[.int .i64 t107, .string t108] 37 (0, 0)) (by (with_reducible repeat (first | refine blk_drewN ?_ _ | refine blk_drew ?_ | refine blk_alloc ?_ _)); refine blk_put (cs := #[.int .i64 t107, .string (⟨#[]⟩ : ByteArray)]) ?_ 1 _ rfl; (with_reducible repeat (first | refine blk_drewN ?_ _ | refine blk_drew ?_ | refine blk_alloc ?_ _)); refine blk_put (cs := #[.int .i64 0, .string (⟨#[]⟩ : ByteArray)]) ?_ 0 _ rfl; (with_reducible repeat (first | refine blk_drewN ?_ _ | refine blk_drew ?_ | refine blk_alloc ?_ _)); exact BK110.out) hg (Kd.R_away HO_107000.out (fun _ hk => hk.2))); have n3_ := Aside0.mk (hb); have n4_ := Aside0.mk (ho); clear BK105; clear BK106; clear BK110; clear HB; clear HO_107000; have BK105 := n0_; have BK106 := n1_; have BK110 := n2_; have HB := n3_; have HO113 := n4_; clear n0_ n1_ n2_ n3_ n4_; clear ho hb hg hat; obtain ⟨Ao41, co41, eo41⟩ := Kd.R_slice HO113.out; subst eo41; have hcz42_0 : w40.cell? ⟨gb106, 0, none⟩ = some (u107000) := (blk_cell BK106.out 0).trans rfl; have hcz42_1 : w40.cell? ⟨gb106, 1, none⟩ = some (.bool false) := (blk_cell BK106.out 1).trans rfl; have hcz42_2 : w40.cell? ⟨gb106, 2, none⟩ = some (.int .i64 0) := (blk_cell BK106.out 2).trans rfl; have hcz42_3 : w40.cell? ⟨gb106, 3, none⟩ = some (.string (⟨#[]⟩ : ByteArray)) := (blk_cell BK106.out 3).trans rfl; have hfz42_0 := blk_frozen BK106.out 0; have hfz42_1 := blk_frozen BK106.out 1; have hfz42_2 := blk_frozen BK106.out 2; have hfz42_3 := blk_frozen BK106.out 3))
             go_roundg kj16
             case measure => have := HJ4.out; have := HK2.out; have := HJ16.out; omega
             case rel => exact ⟨(true), (t109), (x106001_2), (x106002_2), (x106003_2), (y111), (.slice Ao41 y111.length co41), (by first | rfl | (simp; done) | (simp [*]; done)), (by first | rfl | (simp; done) | (simp [*]; done)), H', ⟨by have := HJ4.out; have := HK2.out; have := HJ16.out; omega⟩, ⟨by (with_reducible repeat (first | apply Kd.R_alloc | apply Kd.R_drewN | apply Kd.R_drew)); exact Kd.R_mono (Kd.R_far (p := ⟨gb106, 0, none⟩) (Kd.R_types HO113.out BK106.out (by decide)) (fun _ hk => hk.2) (.slice Ao41 y111.length co41)) (fun _ hk => trivial)⟩, ⟨by (with_reducible repeat (first | refine blk_drewN ?_ _ | refine blk_drew ?_ | refine blk_alloc ?_ _)); refine blk_far ?_ NB105_106.out _; (with_reducible repeat (first | refine blk_drewN ?_ _ | refine blk_drew ?_ | refine blk_alloc ?_ _)); exact BK105.out⟩, ⟨by (with_reducible repeat (first | refine blk_drewN ?_ _ | refine blk_drew ?_ | refine blk_alloc ?_ _)); refine blk_put (cs := #[u107000, .bool false, .int .i64 0, .string (⟨#[]⟩ : ByteArray)]) ?_ 0 _ rfl; (with_reducible repeat (first | refine blk_drewN ?_ _ | refine blk_drew ?_ | refine blk_alloc ?_ _)); exact BK106.out⟩, ⟨by repeat (first | (with_reducible first | exact HB.out | apply below_alloc | apply pw_below_drewN | apply below_drew1 | refine below_set ?_ GE105.out | refine below_set ?_ GE106.out | refine below_set ?_ GE110.out) | exact HB.out)⟩⟩
            ·
             rw [if_neg c32] at H
             exact absurd H (by simp)
           ·
            replace c31 := Bool.eq_false_iff.mpr c31
            subst c31
            have H1 : (if x107000_2.length < 5864062014805 then (arbiterref02_ParseDesc.l0 kj16 a0 (decide (t107 > 255)) t109 (x107000_2 ++ [(⟨t107, t108⟩ : S37)]) false 0 (⟨#[]⟩ : ByteArray)) else (none)) = some (r1, r2, r3, r4, r5) := by rw [if_neg (show ¬ (false = true) by decide)] at H; exact H
            clear H
            have H := H1
            clear H1
            by_cases c43 : x107000_2.length < 5864062014805
            ·
             rw [if_pos c43] at H
             have LMc43 := Aside0.mk c43
             clear c43
             obtain ⟨y114, hy114⟩ : ∃ y_ : List (S37), y_ = (x107000_2 ++ [(⟨t107, t108⟩ : S37)]) := ⟨_, rfl⟩
             replace H : (arbiterref02_ParseDesc.l0 kj16 a0 (decide (t107 > 255)) t109 y114 false 0 (⟨#[]⟩ : ByteArray)) = some (r1, r2, r3, r4, r5) := by first | (rw [hy114]; with_reducible exact H) | (have H2_ := (Option.bind_some _ _).symm.trans H; rw [hy114]; with_reducible exact H2_) | (have H2_ := (Option.bind_some _ _).symm.trans H; with_reducible exact H2_) | with_reducible exact H | (rw [hy114]; exact H) | exact H
             have Ny114 := Aside0.mk hy114
             clear hy114
             have H' := Aside0.mk H
             clear H
             go_wp2_with (first | ((with_reducible refine gate_callee (f := 66) rfl ?_); refine goesL_ (some 38) rfl rfl Tryd.func66 (by kernel_rfl) rfl #[.string a0, .int .i64 x6_2] rfl (by (try simp only [List.map_toArray, List.map_cons, List.map_nil]); first | done | rfl | (simp only [List.length_drop, List.length_take]; rfl)) ?_; (with_reducible refine (arbiterref02_read.calls a0 x6_2 t107 t108 t109 _ A22.out).mono ?_); rintro e w44 ⟨rfl, hb⟩; refine ⟨_, rfl, ?_⟩; have n0_ := Aside0.mk (Kd.R_below (by (with_reducible repeat (first | apply Kd.R_alloc | apply Kd.R_drewN | apply Kd.R_drew)); exact HO_107000.out) hb); have n1_ := Aside0.mk (blk_below (g := gb105) (o := .cells #[.slice none 0 0, .bool x106001_2, .int .i64 x106002_2, .string x106003_2] 43 (0, 0)) (by (with_reducible repeat (first | refine blk_drewN ?_ _ | refine blk_drew ?_ | refine blk_alloc ?_ _)); exact BK105.out) hb); have n2_ := Aside0.mk (blk_below (g := gb106) (o := .cells #[u107000, .bool false, .int .i64 0, .string (⟨#[]⟩ : ByteArray)] 43 (0, 0)) (by (with_reducible repeat (first | refine blk_drewN ?_ _ | refine blk_drew ?_ | refine blk_alloc ?_ _)); exact BK106.out) hb); have n3_ := Aside0.mk (below_step (by repeat (first | (with_reducible first | exact HB.out | apply below_alloc | apply pw_below_drewN | apply below_drew1 | refine below_set ?_ GE105.out | refine below_set ?_ GE106.out) | exact HB.out)) hb); clear HO_107000; clear BK105; clear BK106; clear HB; have HO_107000 := n0_; have BK105 := n1_; have BK106 := n2_; have HB := n3_; clear n0_ n1_ n2_ n3_; (try clear hb); (try clear hb2); (try clear hk); (try clear hi)) | ((with_reducible refine gate_dst (N := 7) rfl ?_); (try (refine gate_guard (by rfl) ?_; dsimp only)); refine box_event ?hg (N := 7) ?hd (cs := #[.int .i64 0, .string (⟨#[]⟩ : ByteArray)]) (t := 37) ?hr ?_; (case hd => rfl); (case hg => rfl); (case hr => first | (go_simp; done) | (go_simp; rfl)); intro gb110 hg w45 hbox hb; have n0_ := Aside0.mk (Kd.R_below (Kd.R_elderB (by (with_reducible repeat (first | apply Kd.R_alloc | apply Kd.R_drewN | apply Kd.R_drew)); exact HO_107000.out) gb110 (Nat.le_of_eq hg.symm)) hb); have n1_ := Aside0.mk (blk_below (g := gb105) (o := .cells #[.slice none 0 0, .bool x106001_2, .int .i64 x106002_2, .string x106003_2] 43 (0, 0)) (by (with_reducible repeat (first | refine blk_drewN ?_ _ | refine blk_drew ?_ | refine blk_alloc ?_ _)); exact BK105.out) hb); have n2_ := Aside0.mk (blk_below (g := gb106) (o := .cells #[u107000, .bool false, .int .i64 0, .string (⟨#[]⟩ : ByteArray)] 43 (0, 0)) (by (with_reducible repeat (first | refine blk_drewN ?_ _ | refine blk_drew ?_ | refine blk_alloc ?_ _)); exact BK106.out) hb); have n3_ := Aside0.mk (below_step (by repeat (first | (with_reducible first | exact HB.out | apply below_alloc | apply pw_below_drewN | apply below_drew1 | refine below_set ?_ GE105.out | refine below_set ?_ GE106.out) | exact HB.out)) hb); have n4_ := Aside0.mk (hbox); have n5_ := Aside0.mk ((by rw [hg]; exact (below_size (by repeat (first | (with_reducible first | exact HB.out | apply below_alloc | apply pw_below_drewN | apply below_drew1 | refine below_set ?_ GE105.out | refine below_set ?_ GE106.out) | exact HB.out))) : w.heap.size ≤ gb110)); have n6_ := Aside0.mk ((by rw [hg]; exact (below_size (by repeat (first | (with_reducible first | exact HB.out | apply below_alloc | apply pw_below_drewN | apply below_drew1 | refine below_set ?_ GE105.out | refine below_set ?_ GE106.out) | exact HB.out))) : w.heap.size ≤ gb110)); have n7_ := Aside0.mk ((by rw [hg]; exact Nat.ne_of_lt (blk_lt (g := gb105) (o := .cells #[.slice none 0 0, .bool x106001_2, .int .i64 x106002_2, .string x106003_2] 43 (0, 0)) (by (with_reducible repeat (first | refine blk_drewN ?_ _ | refine blk_drew ?_ | refine blk_alloc ?_ _)); exact BK105.out)) : gb105 ≠ gb110)); have n8_ := Aside0.mk ((by rw [hg]; exact Nat.ne_of_gt (blk_lt (g := gb105) (o := .cells #[.slice none 0 0, .bool x106001_2, .int .i64 x106002_2, .string x106003_2] 43 (0, 0)) (by (with_reducible repeat (first | refine blk_drewN ?_ _ | refine blk_drew ?_ | refine blk_alloc ?_ _)); exact BK105.out)) : gb110 ≠ gb105)); have n9_ := Aside0.mk ((by rw [hg]; exact Nat.ne_of_lt (blk_lt (g := gb106) (o := .cells #[u107000, .bool false, .int .i64 0, .string (⟨#[]⟩ : ByteArray)] 43 (0, 0)) (by (with_reducible repeat (first | refine blk_drewN ?_ _ | refine blk_drew ?_ | refine blk_alloc ?_ _)); exact BK106.out)) : gb106 ≠ gb110)); have n10_ := Aside0.mk ((by rw [hg]; exact Nat.ne_of_gt (blk_lt (g := gb106) (o := .cells #[u107000, .bool false, .int .i64 0, .string (⟨#[]⟩ : ByteArray)] 43 (0, 0)) (by (with_reducible repeat (first | refine blk_drewN ?_ _ | refine blk_drew ?_ | refine blk_alloc ?_ _)); exact BK106.out)) : gb110 ≠ gb106)); clear HO_107000; clear BK105; clear BK106; clear HB; have HO_107000 := n0_; have BK105 := n1_; have BK106 := n2_; have HB := n3_; have BK110 := n4_; have GW110 := n5_; have GE110 := n6_; have NB105_110 := n7_; have NB110_105 := n8_; have NB106_110 := n9_; have NB110_106 := n10_; clear n0_ n1_ n2_ n3_ n4_ n5_ n6_ n7_ n8_ n9_ n10_; clear hb hbox hg; have hnb46 := NB110_105.out; have hnc46 := NB105_110.out; have hnb47 := NB110_106.out; have hnc47 := NB106_110.out; have hcz48_0 : w45.cell? ⟨gb110, 0, none⟩ = some (.int .i64 0) := (blk_cell BK110.out 0).trans rfl; have hcz48_1 : w45.cell? ⟨gb110, 1, none⟩ = some (.string (⟨#[]⟩ : ByteArray)) := (blk_cell BK110.out 1).trans rfl; have hfz48_0 := blk_frozen BK110.out 0; have hfz48_1 := blk_frozen BK110.out 1; have hnb49 := NB106_105.out; have hnc49 := NB105_106.out; have hcz50_0 : w45.cell? ⟨gb106, 0, none⟩ = some (u107000) := (blk_cell BK106.out 0).trans rfl; have hcz50_1 : w45.cell? ⟨gb106, 1, none⟩ = some (.bool false) := (blk_cell BK106.out 1).trans rfl; have hcz50_2 : w45.cell? ⟨gb106, 2, none⟩ = some (.int .i64 0) := (blk_cell BK106.out 2).trans rfl; have hcz50_3 : w45.cell? ⟨gb106, 3, none⟩ = some (.string (⟨#[]⟩ : ByteArray)) := (blk_cell BK106.out 3).trans rfl; have hfz50_0 := blk_frozen BK106.out 0; have hfz50_1 := blk_frozen BK106.out 1; have hfz50_2 := blk_frozen BK106.out 2; have hfz50_3 := blk_frozen BK106.out 3) | ((with_reducible refine gate_builtin (b := .append) (xs := #[.tmp 51, .tmp 53]) rfl ?_); (try (refine gate_guard (by rfl) ?_; dsimp only)); at_builtin; refine Kd.R_append k37 (w0 := w) w.heap.size rfl (.tmp 51) (.tmp 53) 41 37 (.agg #[(.int .i64 0), (.string ⟨#[]⟩)]) 24 rfl Tryd.underlying41 info37 rfl (by decide) (by omega) u107000 x107000_2 (⟨t107, t108⟩ : S37) [.int .i64 t107, .string t108] (fun k_ => k_ ≠ gb110) (fun _ => False) rfl (by first | (go_simp; done) | (go_simp; rfl)) ?aP (fun _ hk => hk.elim) ?aF ?aO ?aB ?aS ?aL ?_; (case aP => exact k37_mkM _ _ _ (⟨t107, t108⟩ : S37)); (case aB => exact (by repeat (first | (with_reducible first | exact HB.out | apply below_alloc | apply pw_below_drewN | apply below_drew1 | refine below_set ?_ GE105.out | refine below_set ?_ GE106.out | refine below_set ?_ GE110.out) | exact HB.out))); (case aF => exact (fun k_ hk => Kd.freshB (g := gb110) (o := .cells #[.int .i64 t107, .string t108] 37 (0, 0)) (by (with_reducible repeat (first | refine blk_drewN ?_ _ | refine blk_drew ?_ | refine blk_alloc ?_ _)); refine blk_put (cs := #[.int .i64 t107, .string (⟨#[]⟩ : ByteArray)]) ?_ 1 _ rfl; (with_reducible repeat (first | refine blk_drewN ?_ _ | refine blk_drew ?_ | refine blk_alloc ?_ _)); refine blk_put (cs := #[.int .i64 0, .string (⟨#[]⟩ : ByteArray)]) ?_ 0 _ rfl; (with_reducible repeat (first | refine blk_drewN ?_ _ | refine blk_drew ?_ | refine blk_alloc ?_ _)); exact BK110.out) k_ hk)); (case aO => exact (by (with_reducible repeat (first | apply Kd.R_alloc | apply Kd.R_drewN | apply Kd.R_drew)); exact Kd.R_mono (Kd.R_far (p := ⟨gb110, 1, none⟩) (Kd.R_far (p := ⟨gb110, 0, none⟩) (Kd.R_mono HO_107000.out (fun k_ hk => (⟨hk, hk.2⟩ : _ ∧ k_ ≠ gb110))) (fun _ hk => hk.2) (.int .i64 t107)) (fun _ hk => hk.2) (.string t108)) (fun _ hk => hk.1.2))); (case aS => exact (below_size (by repeat (first | (with_reducible first | exact HB.out | apply below_alloc | apply pw_below_drewN | apply below_drew1 | refine below_set ?_ GE105.out | refine below_set ?_ GE106.out | refine below_set ?_ GE110.out) | exact HB.out)))); (case aL => have := LMc43.out; omega); intro v115 w51 ho hb hg hat; rw [← Ny114.out] at ho; have n0_ := Aside0.mk (blk_grown (g := gb105) (o := .cells #[.slice none 0 0, .bool x106001_2, .int .i64 x106002_2, .string x106003_2] 43 (0, 0)) (by (with_reducible repeat (first | refine blk_drewN ?_ _ | refine blk_drew ?_ | refine blk_alloc ?_ _)); refine blk_far ?_ NB105_110.out _; (with_reducible repeat (first | refine blk_drewN ?_ _ | refine blk_drew ?_ | refine blk_alloc ?_ _)); refine blk_far ?_ NB105_110.out _; (with_reducible repeat (first | refine blk_drewN ?_ _ | refine blk_drew ?_ | refine blk_alloc ?_ _)); exact BK105.out) hg (Kd.R_ne HO_107000.out BK105.out (by decide))); have n1_ := Aside0.mk (blk_grown (g := gb106) (o := .cells #[u107000, .bool false, .int .i64 0, .string (⟨#[]⟩ : ByteArray)] 43 (0, 0)) (by (with_reducible repeat (first | refine blk_drewN ?_ _ | refine blk_drew ?_ | refine blk_alloc ?_ _)); refine blk_far ?_ NB106_110.out _; (with_reducible repeat (first | refine blk_drewN ?_ _ | refine blk_drew ?_ | refine blk_alloc ?_ _)); refine blk_far ?_ NB106_110.out _; (with_reducible repeat (first | refine blk_drewN ?_ _ | refine blk_drew ?_ | refine blk_alloc ?_ _)); exact BK106.out) hg (Kd.R_ne HO_107000.out BK106.out (by decide))); have n2_ := Aside0.mk (blk_grown (g := gb110) (o := .cells #[.int .i64 t107, .string t108] 37 (0, 0)) (by (with_reducible repeat (first | refine blk_drewN ?_ _ | refine blk_drew ?_ | refine blk_alloc ?_ _)); refine blk_put (cs := #[.int .i64 t107, .string (⟨#[]⟩ : ByteArray)]) ?_ 1 _ rfl; (with_reducible repeat (first | refine blk_drewN ?_ _ | refine blk_drew ?_ | refine blk_alloc ?_ _)); refine blk_put (cs := #[.int .i64 0, .string (⟨#[]⟩ : ByteArray)]) ?_ 0 _ rfl; (with_reducible repeat (first | refine blk_drewN ?_ _ | refine blk_drew ?_ | refine blk_alloc ?_ _)); exact BK110.out) hg (Kd.R_away HO_107000.out (fun _ hk => hk.2))); have n3_ := Aside0.mk (hb); have n4_ := Aside0.mk (ho); clear BK105; clear BK106; clear BK110; clear HB; clear HO_107000; have BK105 := n0_; have BK106 := n1_; have BK110 := n2_; have HB := n3_; have HO116 := n4_; clear n0_ n1_ n2_ n3_ n4_; clear ho hb hg hat; obtain ⟨Ao52, co52, eo52⟩ := Kd.R_slice HO116.out; subst eo52; have hcz53_0 : w51.cell? ⟨gb106, 0, none⟩ = some (u107000) := (blk_cell BK106.out 0).trans rfl; have hcz53_1 : w51.cell? ⟨gb106, 1, none⟩ = some (.bool false) := (blk_cell BK106.out 1).trans rfl; have hcz53_2 : w51.cell? ⟨gb106, 2, none⟩ = some (.int .i64 0) := (blk_cell BK106.out 2).trans rfl; have hcz53_3 : w51.cell? ⟨gb106, 3, none⟩ = some (.string (⟨#[]⟩ : ByteArray)) := (blk_cell BK106.out 3).trans rfl; have hfz53_0 := blk_frozen BK106.out 0; have hfz53_1 := blk_frozen BK106.out 1; have hfz53_2 := blk_frozen BK106.out 2; have hfz53_3 := blk_frozen BK106.out 3))
             go_roundg kj16
             case measure => have := HJ4.out; have := HK2.out; have := HJ16.out; omega
             case rel => exact ⟨(decide (t107 > 255)), (t109), (x106001_2), (x106002_2), (x106003_2), (y114), (.slice Ao52 y114.length co52), (by first | rfl | (simp; done) | (simp [*]; done)), (by first | rfl | (simp; done) | (simp [*]; done)), H', ⟨by have := HJ4.out; have := HK2.out; have := HJ16.out; omega⟩, ⟨by (with_reducible repeat (first | apply Kd.R_alloc | apply Kd.R_drewN | apply Kd.R_drew)); exact Kd.R_mono (Kd.R_far (p := ⟨gb106, 0, none⟩) (Kd.R_types HO116.out BK106.out (by decide)) (fun _ hk => hk.2) (.slice Ao52 y114.length co52)) (fun _ hk => trivial)⟩, ⟨by (with_reducible repeat (first | refine blk_drewN ?_ _ | refine blk_drew ?_ | refine blk_alloc ?_ _)); refine blk_far ?_ NB105_106.out _; (with_reducible repeat (first | refine blk_drewN ?_ _ | refine blk_drew ?_ | refine blk_alloc ?_ _)); exact BK105.out⟩, ⟨by (with_reducible repeat (first | refine blk_drewN ?_ _ | refine blk_drew ?_ | refine blk_alloc ?_ _)); refine blk_put (cs := #[u107000, .bool false, .int .i64 0, .string (⟨#[]⟩ : ByteArray)]) ?_ 0 _ rfl; (with_reducible repeat (first | refine blk_drewN ?_ _ | refine blk_drew ?_ | refine blk_alloc ?_ _)); exact BK106.out⟩, ⟨by repeat (first | (with_reducible first | exact HB.out | apply below_alloc | apply pw_below_drewN | apply below_drew1 | refine below_set ?_ GE105.out | refine below_set ?_ GE106.out | refine below_set ?_ GE110.out) | exact HB.out)⟩⟩
            ·
             rw [if_neg c43] at H
             exact absurd H (by simp)
         ·
          replace c21 := Bool.eq_false_iff.mpr c21
          subst c21
          have H1 : (if x6_2 ≥ (a0.size : Int) then (some (([] : List (S37)), false, 0, (⟨#[]⟩ : ByteArray), 4)) else (if (wrap64 (x6_2 + 1)) < (a0.size : Int) then (if 0 ≤ (wrap64 (x6_2 + 1)) then (arbiterref02_ParseDesc.j3 kj16 a0 x5_2 (wrap64 (x6_2 + 1)) ((bt a0 (wrap64 (x6_2 + 1))) == 86) x107000_2 false 0 (⟨#[]⟩ : ByteArray)) else (none)) else (arbiterref02_ParseDesc.j3 kj16 a0 x5_2 (wrap64 (x6_2 + 1)) false x107000_2 false 0 (⟨#[]⟩ : ByteArray)))) = some (r1, r2, r3, r4, r5) := by rw [if_neg (show ¬ (false = true) by decide)] at H; exact H
          clear H
          have H := H1
          clear H1
          by_cases c54 : x6_2 ≥ (a0.size : Int)
          ·
           rw [if_pos c54] at H
           have c54b0 : decide ((a0.size : Int) ≤ x6_2) = true := decide_eq_true c54
           clear c54
           simp only [Option.some.injEq, Prod.mk.injEq] at H
           obtain ⟨rfl, rfl, rfl, rfl, rfl⟩ := H
           have hnb55 := NB105_106.out
           have hnc55 := NB106_105.out
           have hcz56_0 : wc.cell? ⟨gb105, 0, none⟩ = some (.slice none 0 0) := (blk_cell BK105.out 0).trans rfl
           have hcz56_1 : wc.cell? ⟨gb105, 1, none⟩ = some (.bool x106001_2) := (blk_cell BK105.out 1).trans rfl
           have hcz56_2 : wc.cell? ⟨gb105, 2, none⟩ = some (.int .i64 x106002_2) := (blk_cell BK105.out 2).trans rfl
           have hcz56_3 : wc.cell? ⟨gb105, 3, none⟩ = some (.string x106003_2) := (blk_cell BK105.out 3).trans rfl
           have hfz56_0 := blk_frozen BK105.out 0
           have hfz56_1 := blk_frozen BK105.out 1
           have hfz56_2 := blk_frozen BK105.out 2
           have hfz56_3 := blk_frozen BK105.out 3
           go_wp2
           refine bodyPost_ret (results_ct rfl _ _ gb105 43 #[.slice none 0 0, .bool false, .int .i64 0, .string (⟨#[]⟩ : ByteArray)] (0, 0) _ rfl (by (with_reducible repeat (first | refine blk_drewN ?_ _ | refine blk_drew ?_ | refine blk_alloc ?_ _)); refine blk_put (cs := #[.slice none 0 0, .bool false, .int .i64 0, .string x106003_2]) ?_ 3 _ rfl; (with_reducible repeat (first | refine blk_drewN ?_ _ | refine blk_drew ?_ | refine blk_alloc ?_ _)); refine blk_put (cs := #[.slice none 0 0, .bool false, .int .i64 x106002_2, .string x106003_2]) ?_ 2 _ rfl; (with_reducible repeat (first | refine blk_drewN ?_ _ | refine blk_drew ?_ | refine blk_alloc ?_ _)); refine blk_put (cs := #[.slice none 0 0, .bool x106001_2, .int .i64 x106002_2, .string x106003_2]) ?_ 1 _ rfl; (with_reducible repeat (first | refine blk_drewN ?_ _ | refine blk_drew ?_ | refine blk_alloc ?_ _)); refine blk_put (cs := #[.slice none 0 0, .bool x106001_2, .int .i64 x106002_2, .string x106003_2]) ?_ 0 _ rfl; (with_reducible repeat (first | refine blk_drewN ?_ _ | refine blk_drew ?_ | refine blk_alloc ?_ _)); exact BK105.out) Tryd.underlying43 rfl (by kernel_rfl)) rfl ?_
           exact ⟨_, by first | rfl | (simp [errW_none, errW_some] <;> rfl) | (simp [*, errW_none, errW_some] <;> rfl), by first | exact Kd.R_nil _ _ _ _ _ | exact Kd.N_nil _ _ _ _ _ | exact Kd.V_nil _ _ _ _ _ | exact Kd.Q_nil _ _ _ _ _ | exact Kd.S_nil _ _ _ _ _, by repeat (first | (with_reducible first | exact HB.out | apply below_alloc | apply pw_below_drewN | apply below_drew1 | refine below_set ?_ GE105.out | refine below_set ?_ GE106.out) | exact HB.out)⟩
          ·
           rw [if_neg c54] at H
           have c54b0 : decide ((a0.size : Int) ≤ x6_2) = false := decide_eq_false c54
           clear c54
           have HC57 := Aside0.mk H
           clear H
           go_upto_region 18 with (fail)
           go_cut [73] (fun v73 wc => ∃ (kq : Nat) (x73_56 : Bool), v73 = .bool x73_56 ∧ Aside0 (arbiterref02_ParseDesc.j3 kq a0 x5_2 (wrap64 (x6_2 + 1)) x73_56 x107000_2 false 0 (⟨#[]⟩ : ByteArray) = some (r1, r2, r3, r4, r5)) ∧ Aside0 (kq ≤ kj16) ∧ Aside0 (Kd.R k37 37 wc w.heap.size (fun _ => True) u107000 x107000_2) ∧ Aside0 (wc.heap[gb105]? = some (.cells #[(.slice none 0 0), .bool x106001_2, .int .i64 x106002_2, .string x106003_2] 43 (0, 0))) ∧ Aside0 (wc.heap[gb106]? = some (.cells #[u107000, .bool false, .int .i64 0, .string (⟨#[]⟩ : ByteArray)] 43 (0, 0))) ∧ Aside0 (Below w.heap.size w wc))
           case first =>
            have H := HC57.out
            clear HC57
            by_cases c58 : (wrap64 (x6_2 + 1)) < (a0.size : Int)
            ·
             rw [if_pos c58] at H
             have c58b0 : decide ((wrap64 (x6_2 + 1)) < (a0.size : Int)) = true := decide_eq_true c58
             clear c58
             (first | rw [c58b0] | (simp only [i64_w, i32_w]; rw [c58b0]) | skip)
             obtain ⟨ji59, hji59⟩ : ∃ j_ : Int, (wrap64 (x6_2 + 1)) = j_ := ⟨_, rfl⟩
             replace H : (if 0 ≤ (ji59) then (arbiterref02_ParseDesc.j3 kj16 a0 x5_2 ji59 ((bt a0 (ji59)) == 86) x107000_2 false 0 (⟨#[]⟩ : ByteArray)) else (none)) = some (r1, r2, r3, r4, r5) := by first | (rw [hji59] at H; exact H) | (simp only [hji59] at H ⊢; exact H)
             (try rw [hji59] at c58b0)
             have hji59w : (IntKind.i64.wrap (x6_2 + 1)) = ji59 := (i64_w _).trans hji59
             by_cases c60 : 0 ≤ (ji59)
             ·
              rw [if_pos c60] at H
              have c60b0 : decide (0 ≤ (ji59)) = true := decide_eq_true c60
              clear c60
              have H' := Aside0.mk H
              clear H
              have p61 : 0 ≤ ((ji59) : Int) := of_decide_eq_true (by first | (with_reducible assumption) | assumption)
              have q61 : (ji59) < (a0.size : Int) := of_decide_eq_true (by first | (with_reducible assumption) | assumption)
              have hx61 := bt_at a0 (ji59)
              replace p61 := eq_true p61
              replace q61 := eq_true q61
              go_wp2
              go_meet
              case rel => exact ⟨_, (((bt a0 (ji59)) == 86)), (by first | rfl | (simp; done) | (simp only [← hji59] <;> (first | rfl | simp)) | (simp [*]; done)), (by first | (with_reducible exact H') | exact H' | (rw [hji59]; exact H') | (rw [← hji59]; exact H')), ⟨by have := HJ4.out; have := HK2.out; have := HJ16.out; first | omega | exact Nat.le_refl _⟩, ⟨by (with_reducible repeat (first | apply Kd.R_alloc | apply Kd.R_drewN | apply Kd.R_drew)); exact HO_107000.out⟩, ⟨by (with_reducible repeat (first | refine blk_drewN ?_ _ | refine blk_drew ?_ | refine blk_alloc ?_ _)); exact BK105.out⟩, ⟨by (with_reducible repeat (first | refine blk_drewN ?_ _ | refine blk_drew ?_ | refine blk_alloc ?_ _)); exact BK106.out⟩, ⟨by repeat (first | (with_reducible first | exact HB.out | apply below_alloc | apply pw_below_drewN | apply below_drew1 | refine below_set ?_ GE105.out | refine below_set ?_ GE106.out) | exact HB.out)⟩⟩
             ·
              rw [if_neg c60] at H
              exact absurd H (by simp)
            ·
             rw [if_neg c58] at H
             have c58b0 : decide ((wrap64 (x6_2 + 1)) < (a0.size : Int)) = false := decide_eq_false c58
             clear c58
             (first | rw [c58b0] | (simp only [i64_w, i32_w]; rw [c58b0]) | skip)
             have H' := Aside0.mk H
             clear H
             go_wp2
             go_meet
             case rel => exact ⟨_, (false), (by first | rfl | (simp; done) | (simp [*]; done)), (by first | (with_reducible exact H') | exact H' | (rw [hji59]; exact H') | (rw [← hji59]; exact H')), ⟨by have := HJ4.out; have := HK2.out; have := HJ16.out; first | omega | exact Nat.le_refl _⟩, ⟨by (with_reducible repeat (first | apply Kd.R_alloc | apply Kd.R_drewN | apply Kd.R_drew)); exact HO_107000.out⟩, ⟨by (with_reducible repeat (first | refine blk_drewN ?_ _ | refine blk_drew ?_ | refine blk_alloc ?_ _)); exact BK105.out⟩, ⟨by (with_reducible repeat (first | refine blk_drewN ?_ _ | refine blk_drew ?_ | refine blk_alloc ?_ _)); exact BK106.out⟩, ⟨by repeat (first | (with_reducible first | exact HB.out | apply below_alloc | apply pw_below_drewN | apply below_drew1 | refine below_set ?_ GE105.out | refine below_set ?_ GE106.out) | exact HB.out)⟩⟩
           case rest =>
            clear HC57
            try clear c1
            try clear p1
            try clear q1
            try clear hx1
            try clear qi1
            try clear c2
            try clear c2b0
            try clear c2b1
            try clear p2
            try clear q2
            try clear hx2
            try clear c3
            try clear c4
            try clear c5
            try clear c6
            try clear p6
            try clear q6
            try clear hx6
            try clear c8
            try clear c10
            try clear c10b0
            try clear c10b1
            try clear c11
            try clear c11b0
            try clear c11b1
            try clear p12
            try clear q12
            try clear hx12
            try clear qi12
            try clear c13
            try clear c14
            try clear c18
            try clear c18b0
            try clear c19
            try clear c19b0
            try clear p20
            try clear q20
            try clear hx20
            try clear c21
            try clear c23
            try clear c23b0
            try clear c26
            try clear c27
            try clear c29
            try clear c31
            try clear c32
            try clear c35
            try clear c36
            try clear c38
            try clear c43
            try clear c46
            try clear c47
            try clear c49
            try clear c54
            try clear c54b0
            try clear c55
            try clear c58
            try clear c58b0
            try clear c60
            try clear c60b0
            try clear p61
            try clear q61
            try clear hx61
            try clear hcz15_0
            try clear hcz15_1
            try clear hcz15_2
            try clear hcz15_3
            try clear hcz16_0
            try clear hcz16_1
            try clear hcz16_2
            try clear hcz16_3
            try clear hcz28_0
            try clear hcz28_1
            try clear hcz30_0
            try clear hcz30_1
            try clear hcz30_2
            try clear hcz30_3
            try clear hcz37_0
            try clear hcz37_1
            try clear hcz39_0
            try clear hcz39_1
            try clear hcz39_2
            try clear hcz39_3
            try clear hcz42_0
            try clear hcz42_1
            try clear hcz42_2
            try clear hcz42_3
            try clear hcz48_0
            try clear hcz48_1
            try clear hcz4_0
            try clear hcz4_1
            try clear hcz4_2
            try clear hcz4_3
            try clear hcz50_0
            try clear hcz50_1
            try clear hcz50_2
            try clear hcz50_3
            try clear hcz53_0
            try clear hcz53_1
            try clear hcz53_2
            try clear hcz53_3
            try clear hcz56_0
            try clear hcz56_1
            try clear hcz56_2
            try clear hcz56_3
            try clear hcz9_0
            try clear hcz9_1
            try clear hcz9_2
            try clear hcz9_3
            try clear hfz15_0
            try clear hfz15_1
            try clear hfz15_2
            try clear hfz15_3
            try clear hfz16_0
            try clear hfz16_1
            try clear hfz16_2
            try clear hfz16_3
            try clear hfz28_0
            try clear hfz28_1
            try clear hfz30_0
            try clear hfz30_1
            try clear hfz30_2
            try clear hfz30_3
            try clear hfz37_0
            try clear hfz37_1
            try clear hfz39_0
            try clear hfz39_1
            try clear hfz39_2
            try clear hfz39_3
            try clear hfz42_0
            try clear hfz42_1
            try clear hfz42_2
            try clear hfz42_3
            try clear hfz48_0
            try clear hfz48_1
            try clear hfz4_0
            try clear hfz4_1
            try clear hfz4_2
            try clear hfz4_3
            try clear hfz50_0
            try clear hfz50_1
            try clear hfz50_2
            try clear hfz50_3
            try clear hfz53_0
            try clear hfz53_1
            try clear hfz53_2
            try clear hfz53_3
            try clear hfz56_0
            try clear hfz56_1
            try clear hfz56_2
            try clear hfz56_3
            try clear hfz9_0
            try clear hfz9_1
            try clear hfz9_2
            try clear hfz9_3
            try clear p1
            try clear p12
            try clear p2
            try clear p20
            try clear p61
            try clear q1
            try clear q12
            try clear q2
            try clear q20
            try clear q61
            obtain ⟨kq, x73_56, rfl, HA, HJ56, HO_107000, BK105, BK106, HB⟩ := hcut
            cases kq with
            | zero => exact absurd HA.out (by simp [arbiterref02_ParseDesc.j3])
            | succ kj56 =>
             have H := HA.out
             clear HA
             simp only [arbiterref02_ParseDesc.j3] at H
             have HC62 := Aside0.mk H
             clear H
             go_upto_if 73 with (fail)
             go_cut [5, 6] (fun v5 v6 wc => ∃ (kq : Nat) (x5_61 : Bool) (x6_61 : Int) (x107001_61 : Bool) (x107002_61 : Int) (x107003_61 : ByteArray), v5 = .bool x5_61 ∧ v6 = .int .i64 x6_61 ∧ Aside0 (arbiterref02_ParseDesc.j4 kq a0 x5_61 x6_61 x107000_2 x107001_61 x107002_61 x107003_61 = some (r1, r2, r3, r4, r5)) ∧ Aside0 (kq ≤ kj56) ∧ Aside0 (Kd.R k37 37 wc w.heap.size (fun _ => True) u107000 x107000_2) ∧ Aside0 (wc.heap[gb105]? = some (.cells #[(.slice none 0 0), .bool x106001_2, .int .i64 x106002_2, .string x106003_2] 43 (0, 0))) ∧ Aside0 (wc.heap[gb106]? = some (.cells #[u107000, .bool x107001_61, .int .i64 x107002_61, .string x107003_61] 43 (0, 0))) ∧ Aside0 (Below w.heap.size w wc))
             case first =>
              have H := HC62.out
              clear HC62
              by_cases c63 : x73_56 = true
              ·
               subst c63
               have H1 : (arbiterref02_ParseDesc.j4 kj56 a0 x5_2 (wrap64 ((wrap64 (x6_2 + 1)) + 1)) x107000_2 true 0 (⟨#[]⟩ : ByteArray)) = some (r1, r2, r3, r4, r5) := by rw [if_pos rfl] at H; exact H
               clear H
               have H := H1
               clear H1
               have H' := Aside0.mk H
               clear H
               have hnb64 := NB106_105.out
               have hnc64 := NB105_106.out
               have hcz65_0 : wc.cell? ⟨gb106, 0, none⟩ = some (u107000) := (blk_cell BK106.out 0).trans rfl
               have hcz65_1 : wc.cell? ⟨gb106, 1, none⟩ = some (.bool false) := (blk_cell BK106.out 1).trans rfl
               have hcz65_2 : wc.cell? ⟨gb106, 2, none⟩ = some (.int .i64 0) := (blk_cell BK106.out 2).trans rfl
               have hcz65_3 : wc.cell? ⟨gb106, 3, none⟩ = some (.string (⟨#[]⟩ : ByteArray)) := (blk_cell BK106.out 3).trans rfl
               have hfz65_0 := blk_frozen BK106.out 0
               have hfz65_1 := blk_frozen BK106.out 1
               have hfz65_2 := blk_frozen BK106.out 2
               have hfz65_3 := blk_frozen BK106.out 3
               go_wp2
               go_meet
               case rel => exact ⟨_, (x5_2), (wrap64 ((wrap64 (x6_2 + 1)) + 1)), (true), (0), ((⟨#[]⟩ : ByteArray)), (by first | rfl | (simp; done) | (simp [*]; done)), (by first | rfl | (simp; done) | (simp [*]; done)), H', ⟨by have := HJ4.out; have := HK2.out; have := HJ16.out; have := HJ56.out; first | omega | exact Nat.le_refl _⟩, ⟨by (with_reducible repeat (first | apply Kd.R_alloc | apply Kd.R_drewN | apply Kd.R_drew)); exact Kd.R_mono (Kd.R_far (p := ⟨gb106, 1, none⟩) (Kd.R_types HO_107000.out BK106.out (by decide)) (fun _ hk => hk.2) (.bool true)) (fun _ hk => trivial)⟩, ⟨by (with_reducible repeat (first | refine blk_drewN ?_ _ | refine blk_drew ?_ | refine blk_alloc ?_ _)); refine blk_far ?_ NB105_106.out _; (with_reducible repeat (first | refine blk_drewN ?_ _ | refine blk_drew ?_ | refine blk_alloc ?_ _)); exact BK105.out⟩, ⟨by (with_reducible repeat (first | refine blk_drewN ?_ _ | refine blk_drew ?_ | refine blk_alloc ?_ _)); refine blk_put (cs := #[u107000, .bool false, .int .i64 0, .string (⟨#[]⟩ : ByteArray)]) ?_ 1 _ rfl; (with_reducible repeat (first | refine blk_drewN ?_ _ | refine blk_drew ?_ | refine blk_alloc ?_ _)); exact BK106.out⟩, ⟨by repeat (first | (with_reducible first | exact HB.out | apply below_alloc | apply pw_below_drewN | apply below_drew1 | refine below_set ?_ GE105.out | refine below_set ?_ GE106.out) | exact HB.out)⟩⟩
              ·
               replace c63 := Bool.eq_false_iff.mpr c63
               subst c63
               have H1 : ((arbiterref02_read.f a0 (wrap64 (x6_2 + 1))).bind fun bt117 => (if x5_2 = true then (arbiterref02_ParseDesc.j4 kj56 a0 true bt117.2.2 x107000_2 false bt117.1 bt117.2.1) else (arbiterref02_ParseDesc.j4 kj56 a0 (decide (bt117.1 > 255)) bt117.2.2 x107000_2 false bt117.1 bt117.2.1))) = some (r1, r2, r3, r4, r5) := by rw [if_neg (show ¬ (false = true) by decide)] at H; exact H
               clear H
               have H := H1
               clear H1
               replace H := Option.bind_eq_some_iff.mp H
               obtain ⟨⟨t117, t118, t119⟩, A660, H⟩ := H
               replace H : (if x5_2 = true then (arbiterref02_ParseDesc.j4 kj56 a0 true t119 x107000_2 false t117 t118) else (arbiterref02_ParseDesc.j4 kj56 a0 (decide (t117 > 255)) t119 x107000_2 false t117 t118)) = some (r1, r2, r3, r4, r5) := H
               have A66 := Aside0.mk A660
               clear A660
               by_cases c67 : x5_2 = true
               ·
                subst c67
                have H1 : (arbiterref02_ParseDesc.j4 kj56 a0 true t119 x107000_2 false t117 t118) = some (r1, r2, r3, r4, r5) := by rw [if_pos rfl] at H; exact H
                clear H
                have H := H1
                clear H1
                have H' := Aside0.mk H
                clear H
                go_wp2_with (first | ((with_reducible refine gate_callee (f := 66) rfl ?_); refine goesL_ (some 80) rfl rfl Tryd.func66 (by kernel_rfl) rfl #[.string a0, .int .i64 (wrap64 (x6_2 + 1))] rfl (by (try simp only [List.map_toArray, List.map_cons, List.map_nil]); first | done | rfl | (simp only [List.length_drop, List.length_take]; rfl)) ?_; (with_reducible refine (arbiterref02_read.calls a0 (wrap64 (x6_2 + 1)) t117 t118 t119 _ A66.out).mono ?_); rintro e w68 ⟨rfl, hb⟩; refine ⟨_, rfl, ?_⟩; have n0_ := Aside0.mk (Kd.R_below (by (with_reducible repeat (first | apply Kd.R_alloc | apply Kd.R_drewN | apply Kd.R_drew)); exact HO_107000.out) hb); have n1_ := Aside0.mk (blk_below (g := gb105) (o := .cells #[.slice none 0 0, .bool x106001_2, .int .i64 x106002_2, .string x106003_2] 43 (0, 0)) (by (with_reducible repeat (first | refine blk_drewN ?_ _ | refine blk_drew ?_ | refine blk_alloc ?_ _)); exact BK105.out) hb); have n2_ := Aside0.mk (blk_below (g := gb106) (o := .cells #[u107000, .bool false, .int .i64 0, .string (⟨#[]⟩ : ByteArray)] 43 (0, 0)) (by (with_reducible repeat (first | refine blk_drewN ?_ _ | refine blk_drew ?_ | refine blk_alloc ?_ _)); exact BK106.out) hb); have n3_ := Aside0.mk (below_step (by repeat (first | (with_reducible first | exact HB.out | apply below_alloc | apply pw_below_drewN | apply below_drew1 | refine below_set ?_ GE105.out | refine below_set ?_ GE106.out) | exact HB.out)) hb); clear HO_107000; clear BK105; clear BK106; clear HB; have HO_107000 := n0_; have BK105 := n1_; have BK106 := n2_; have HB := n3_; clear n0_ n1_ n2_ n3_; (try clear hb); (try clear hb2); (try clear hk); (try clear hi)) | ((with_reducible refine gate_dst (N := 9) rfl ?_); (try (refine gate_guard (by rfl) ?_; dsimp only)); refine box_event ?hg (N := 9) ?hd (cs := #[.int .i64 0, .string (⟨#[]⟩ : ByteArray)]) (t := 37) ?hr ?_; (case hd => rfl); (case hg => rfl); (case hr => first | (go_simp; done) | (go_simp; rfl)); intro gb120 hg w69 hbox hb; have n0_ := Aside0.mk (Kd.R_below (Kd.R_elderB (by (with_reducible repeat (first | apply Kd.R_alloc | apply Kd.R_drewN | apply Kd.R_drew)); exact HO_107000.out) gb120 (Nat.le_of_eq hg.symm)) hb); have n1_ := Aside0.mk (blk_below (g := gb105) (o := .cells #[.slice none 0 0, .bool x106001_2, .int .i64 x106002_2, .string x106003_2] 43 (0, 0)) (by (with_reducible repeat (first | refine blk_drewN ?_ _ | refine blk_drew ?_ | refine blk_alloc ?_ _)); exact BK105.out) hb); have n2_ := Aside0.mk (blk_below (g := gb106) (o := .cells #[u107000, .bool false, .int .i64 0, .string (⟨#[]⟩ : ByteArray)] 43 (0, 0)) (by (with_reducible repeat (first | refine blk_drewN ?_ _ | refine blk_drew ?_ | refine blk_alloc ?_ _)); exact BK106.out) hb); have n3_ := Aside0.mk (below_step (by repeat (first | (with_reducible first | exact HB.out | apply below_alloc | apply pw_below_drewN | apply below_drew1 | refine below_set ?_ GE105.out | refine below_set ?_ GE106.out) | exact HB.out)) hb); have n4_ := Aside0.mk (hbox); have n5_ := Aside0.mk ((by rw [hg]; exact (below_size (by repeat (first | (with_reducible first | exact HB.out | apply below_alloc | apply pw_below_drewN | apply below_drew1 | refine below_set ?_ GE105.out | refine below_set ?_ GE106.out) | exact HB.out))) : w.heap.size ≤ gb120)); have n6_ := Aside0.mk ((by rw [hg]; exact (below_size (by repeat (first | (with_reducible first | exact HB.out | apply below_alloc | apply pw_below_drewN | apply below_drew1 | refine below_set ?_ GE105.out | refine below_set ?_ GE106.out) | exact HB.out))) : w.heap.size ≤ gb120)); have n7_ := Aside0.mk ((by rw [hg]; exact Nat.ne_of_lt (blk_lt (g := gb105) (o := .cells #[.slice none 0 0, .bool x106001_2, .int .i64 x106002_2, .string x106003_2] 43 (0, 0)) (by (with_reducible repeat (first | refine blk_drewN ?_ _ | refine blk_drew ?_ | refine blk_alloc ?_ _)); exact BK105.out)) : gb105 ≠ gb120)); have n8_ := Aside0.mk ((by rw [hg]; exact Nat.ne_of_gt (blk_lt (g := gb105) (o := .cells #[.slice none 0 0, .bool x106001_2, .int .i64 x106002_2, .string x106003_2] 43 (0, 0)) (by (with_reducible repeat (first | refine blk_drewN ?_ _ | refine blk_drew ?_ | refine blk_alloc ?_ _)); exact BK105.out)) : gb120 ≠ gb105)); have n9_ := Aside0.mk ((by rw [hg]; exact Nat.ne_of_lt (blk_lt (g := gb106) (o := .cells #[u107000, .bool false, .int .i64 0, .string (⟨#[]⟩ : ByteArray)] 43 (0, 0)) (by (with_reducible repeat (first | refine blk_drewN ?_ _ | refine blk_drew ?_ | refine blk_alloc ?_ _)); exact BK106.out)) : gb106 ≠ gb120)); have n10_ := Aside0.mk ((by rw [hg]; exact Nat.ne_of_gt (blk_lt (g := gb106) (o := .cells #[u107000, .bool false, .int .i64 0, .string (⟨#[]⟩ : ByteArray)] 43 (0, 0)) (by (with_reducible repeat (first | refine blk_drewN ?_ _ | refine blk_drew ?_ | refine blk_alloc ?_ _)); exact BK106.out)) : gb120 ≠ gb106)); clear HO_107000; clear BK105; clear BK106; clear HB; have HO_107000 := n0_; have BK105 := n1_; have BK106 := n2_; have HB := n3_; have BK120 := n4_; have GW120 := n5_; have GE120 := n6_; have NB105_120 := n7_; have NB120_105 := n8_; have NB106_120 := n9_; have NB120_106 := n10_; clear n0_ n1_ n2_ n3_ n4_ n5_ n6_ n7_ n8_ n9_ n10_; clear hb hbox hg; have hnb70 := NB120_105.out; have hnc70 := NB105_120.out; have hnb71 := NB120_106.out; have hnc71 := NB106_120.out; have hcz72_0 : w69.cell? ⟨gb120, 0, none⟩ = some (.int .i64 0) := (blk_cell BK120.out 0).trans rfl; have hcz72_1 : w69.cell? ⟨gb120, 1, none⟩ = some (.string (⟨#[]⟩ : ByteArray)) := (blk_cell BK120.out 1).trans rfl; have hfz72_0 := blk_frozen BK120.out 0; have hfz72_1 := blk_frozen BK120.out 1; have hnb73 := NB106_105.out; have hnc73 := NB105_106.out; have hcz74_0 : w69.cell? ⟨gb106, 0, none⟩ = some (u107000) := (blk_cell BK106.out 0).trans rfl; have hcz74_1 : w69.cell? ⟨gb106, 1, none⟩ = some (.bool false) := (blk_cell BK106.out 1).trans rfl; have hcz74_2 : w69.cell? ⟨gb106, 2, none⟩ = some (.int .i64 0) := (blk_cell BK106.out 2).trans rfl; have hcz74_3 : w69.cell? ⟨gb106, 3, none⟩ = some (.string (⟨#[]⟩ : ByteArray)) := (blk_cell BK106.out 3).trans rfl; have hfz74_0 := blk_frozen BK106.out 0; have hfz74_1 := blk_frozen BK106.out 1; have hfz74_2 := blk_frozen BK106.out 2; have hfz74_3 := blk_frozen BK106.out 3))
                go_meet
                case rel => exact ⟨_, (true), (t119), (false), (t117), (t118), (by first | rfl | (simp; done) | (simp [*]; done)), (by first | rfl | (simp; done) | (simp [*]; done)), H', ⟨by have := HJ4.out; have := HK2.out; have := HJ16.out; have := HJ56.out; first | omega | exact Nat.le_refl _⟩, ⟨by (with_reducible repeat (first | apply Kd.R_alloc | apply Kd.R_drewN | apply Kd.R_drew)); exact Kd.R_mono (Kd.R_far (p := ⟨gb106, 3, none⟩) (Kd.R_far (p := ⟨gb106, 2, none⟩) (Kd.R_far (p := ⟨gb120, 1, none⟩) (Kd.R_far (p := ⟨gb120, 0, none⟩) (Kd.R_types (Kd.R_mono HO_107000.out (fun k_ hk => (⟨hk, hk.2⟩ : _ ∧ k_ ≠ gb120))) BK106.out (by decide)) (fun _ hk => hk.1.2) (.int .i64 t117)) (fun _ hk => hk.1.2) (.string t118)) (fun _ hk => hk.2) (.int .i64 t117)) (fun _ hk => hk.2) (.string t118)) (fun _ hk => trivial)⟩, ⟨by (with_reducible repeat (first | refine blk_drewN ?_ _ | refine blk_drew ?_ | refine blk_alloc ?_ _)); refine blk_far ?_ NB105_106.out _; (with_reducible repeat (first | refine blk_drewN ?_ _ | refine blk_drew ?_ | refine blk_alloc ?_ _)); refine blk_far ?_ NB105_106.out _; (with_reducible repeat (first | refine blk_drewN ?_ _ | refine blk_drew ?_ | refine blk_alloc ?_ _)); refine blk_far ?_ NB105_120.out _; (with_reducible repeat (first | refine blk_drewN ?_ _ | refine blk_drew ?_ | refine blk_alloc ?_ _)); refine blk_far ?_ NB105_120.out _; (with_reducible repeat (first | refine blk_drewN ?_ _ | refine blk_drew ?_ | refine blk_alloc ?_ _)); exact BK105.out⟩, ⟨by (with_reducible repeat (first | refine blk_drewN ?_ _ | refine blk_drew ?_ | refine blk_alloc ?_ _)); refine blk_put (cs := #[u107000, .bool false, .int .i64 t117, .string (⟨#[]⟩ : ByteArray)]) ?_ 3 _ rfl; (with_reducible repeat (first | refine blk_drewN ?_ _ | refine blk_drew ?_ | refine blk_alloc ?_ _)); refine blk_put (cs := #[u107000, .bool false, .int .i64 0, .string (⟨#[]⟩ : ByteArray)]) ?_ 2 _ rfl; (with_reducible repeat (first | refine blk_drewN ?_ _ | refine blk_drew ?_ | refine blk_alloc ?_ _)); refine blk_far ?_ NB106_120.out _; (with_reducible repeat (first | refine blk_drewN ?_ _ | refine blk_drew ?_ | refine blk_alloc ?_ _)); refine blk_far ?_ NB106_120.out _; (with_reducible repeat (first | refine blk_drewN ?_ _ | refine blk_drew ?_ | refine blk_alloc ?_ _)); exact BK106.out⟩, ⟨by repeat (first | (with_reducible first | exact HB.out | apply below_alloc | apply pw_below_drewN | apply below_drew1 | refine below_set ?_ GE105.out | refine below_set ?_ GE106.out | refine below_set ?_ GE120.out) | exact HB.out)⟩⟩
               ·
                replace c67 := Bool.eq_false_iff.mpr c67
                subst c67
                have H1 : (arbiterref02_ParseDesc.j4 kj56 a0 (decide (t117 > 255)) t119 x107000_2 false t117 t118) = some (r1, r2, r3, r4, r5) := by rw [if_neg (show ¬ (false = true) by decide)] at H; exact H
                clear H
                have H := H1
                clear H1
                have H' := Aside0.mk H
                clear H
                go_wp2_with (first | ((with_reducible refine gate_callee (f := 66) rfl ?_); refine goesL_ (some 80) rfl rfl Tryd.func66 (by kernel_rfl) rfl #[.string a0, .int .i64 (wrap64 (x6_2 + 1))] rfl (by (try simp only [List.map_toArray, List.map_cons, List.map_nil]); first | done | rfl | (simp only [List.length_drop, List.length_take]; rfl)) ?_; (with_reducible refine (arbiterref02_read.calls a0 (wrap64 (x6_2 + 1)) t117 t118 t119 _ A66.out).mono ?_); rintro e w75 ⟨rfl, hb⟩; refine ⟨_, rfl, ?_⟩; have n0_ := Aside0.mk (Kd.R_below (by (with_reducible repeat (first | apply Kd.R_alloc | apply Kd.R_drewN | apply Kd.R_drew)); exact HO_107000.out) hb); have n1_ := Aside0.mk (blk_below (g := gb105) (o := .cells #[.slice none 0 0, .bool x106001_2, .int .i64 x106002_2, .string x106003_2] 43 (0, 0)) (by (with_reducible repeat (first | refine blk_drewN ?_ _ | refine blk_drew ?_ | refine blk_alloc ?_ _)); exact BK105.out) hb); have n2_ := Aside0.mk (blk_below (g := gb106) (o := .cells #[u107000, .bool false, .int .i64 0, .string (⟨#[]⟩ : ByteArray)] 43 (0, 0)) (by (with_reducible repeat (first | refine blk_drewN ?_ _ | refine blk_drew ?_ | refine blk_alloc ?_ _)); exact BK106.out) hb); have n3_ := Aside0.mk (below_step (by repeat (first | (with_reducible first | exact HB.out | apply below_alloc | apply pw_below_drewN | apply below_drew1 | refine below_set ?_ GE105.out | refine below_set ?_ GE106.out) | exact HB.out)) hb); clear HO_107000; clear BK105; clear BK106; clear HB; have HO_107000 := n0_; have BK105 := n1_; have BK106 := n2_; have HB := n3_; clear n0_ n1_ n2_ n3_; (try clear hb); (try clear hb2); (try clear hk); (try clear hi)) | ((with_reducible refine gate_dst (N := 9) rfl ?_); (try (refine gate_guard (by rfl) ?_; dsimp only)); refine box_event ?hg (N := 9) ?hd (cs := #[.int .i64 0, .string (⟨#[]⟩ : ByteArray)]) (t := 37) ?hr ?_; (case hd => rfl); (case hg => rfl); (case hr => first | (go_simp; done) | (go_simp; rfl)); intro gb120 hg w76 hbox hb; have n0_ := Aside0.mk (Kd.R_below (Kd.R_elderB (by (with_reducible repeat (first | apply Kd.R_alloc | apply Kd.R_drewN | apply Kd.R_drew)); exact HO_107000.out) gb120 (Nat.le_of_eq hg.symm)) hb); have n1_ := Aside0.mk (blk_below (g := gb105) (o := .cells #[.slice none 0 0, .bool x106001_2, .int .i64 x106002_2, .string x106003_2] 43 (0, 0)) (by (with_reducible repeat (first | refine blk_drewN ?_ _ | refine blk_drew ?_ | refine blk_alloc ?_ _)); exact BK105.out) hb); have n2_ := Aside0.mk (blk_below (g := gb106) (o := .cells #[u107000, .bool false, .int .i64 0, .string (⟨#[]⟩ : ByteArray)] 43 (0, 0)) (by (with_reducible repeat (first | refine blk_drewN ?_ _ | refine blk_drew ?_ | refine blk_alloc ?_ _)); exact BK106.out) hb); have n3_ := Aside0.mk (below_step (by repeat (first | (with_reducible first | exact HB.out | apply below_alloc | apply pw_below_drewN | apply below_drew1 | refine below_set ?_ GE105.out | refine below_set ?_ GE106.out) | exact HB.out)) hb); have n4_ := Aside0.mk (hbox); have n5_ := Aside0.mk ((by rw [hg]; exact (below_size (by repeat (first | (with_reducible first | exact HB.out | apply below_alloc | apply pw_below_drewN | apply below_drew1 | refine below_set ?_ GE105.out | refine below_set ?_ GE106.out) | exact HB.out))) : w.heap.size ≤ gb120)); have n6_ := Aside0.mk ((by rw [hg]; exact (below_size (by repeat (first | (with_reducible first | exact HB.out | apply below_alloc | apply pw_below_drewN | apply below_drew1 | refine below_set ?_ GE105.out | refine below_set ?_ GE106.out) | exact HB.out))) : w.heap.size ≤ gb120)); have n7_ := Aside0.mk ((by rw [hg]; exact Nat.ne_of_lt (blk_lt (g := gb105) (o := .cells #[.slice none 0 0, .bool x106001_2, .int .i64 x106002_2, .string x106003_2] 43 (0, 0)) (by (with_reducible repeat (first | refine blk_drewN ?_ _ | refine blk_drew ?_ | refine blk_alloc ?_ _)); exact BK105.out)) : gb105 ≠ gb120)); have n8_ := Aside0.mk ((by rw [hg]; exact Nat.ne_of_gt (blk_lt (g := gb105) (o := .cells #[.slice none 0 0, .bool x106001_2, .int .i64 x106002_2, .string x106003_2] 43 (0, 0)) (by (with_reducible repeat (first | refine blk_drewN ?_ _ | refine blk_drew ?_ | refine blk_alloc ?_ _)); exact BK105.out)) : gb120 ≠ gb105)); have n9_ := Aside0.mk ((by rw [hg]; exact Nat.ne_of_lt (blk_lt (g := gb106) (o := .cells #[u107000, .bool false, .int .i64 0, .string (⟨#[]⟩ : ByteArray)] 43 (0, 0)) (by (with_reducible repeat (first | refine blk_drewN ?_ _ | refine blk_drew ?_ | refine blk_alloc ?_ _)); exact BK106.out)) : gb106 ≠ gb120)); have n10_ := Aside0.mk ((by rw [hg]; exact Nat.ne_of_gt (blk_lt (g := gb106) (o := .cells #[u107000, .bool false, .int .i64 0, .string (⟨#[]⟩ : ByteArray)] 43 (0, 0)) (by (with_reducible repeat (first | refine blk_drewN ?_ _ | refine blk_drew ?_ | refine blk_alloc ?_ _)); exact BK106.out)) : gb120 ≠ gb106)); clear HO_107000; clear BK105; clear BK106; clear HB; have HO_107000 := n0_; have BK105 := n1_; have BK106 := n2_; have HB := n3_; have BK120 := n4_; have GW120 := n5_; have GE120 := n6_; have NB105_120 := n7_; have NB120_105 := n8_; have NB106_120 := n9_; have NB120_106 := n10_; clear n0_ n1_ n2_ n3_ n4_ n5_ n6_ n7_ n8_ n9_ n10_; clear hb hbox hg; have hnb77 := NB120_105.out; have hnc77 := NB105_120.out; have hnb78 := NB120_106.out; have hnc78 := NB106_120.out; have hcz79_0 : w76.cell? ⟨gb120, 0, none⟩ = some (.int .i64 0) := (blk_cell BK120.out 0).trans rfl; have hcz79_1 : w76.cell? ⟨gb120, 1, none⟩ = some (.string (⟨#[]⟩ : ByteArray)) := (blk_cell BK120.out 1).trans rfl; have hfz79_0 := blk_frozen BK120.out 0; have hfz79_1 := blk_frozen BK120.out 1; have hnb80 := NB106_105.out; have hnc80 := NB105_106.out; have hcz81_0 : w76.cell? ⟨gb106, 0, none⟩ = some (u107000) := (blk_cell BK106.out 0).trans rfl; have hcz81_1 : w76.cell? ⟨gb106, 1, none⟩ = some (.bool false) := (blk_cell BK106.out 1).trans rfl; have hcz81_2 : w76.cell? ⟨gb106, 2, none⟩ = some (.int .i64 0) := (blk_cell BK106.out 2).trans rfl; have hcz81_3 : w76.cell? ⟨gb106, 3, none⟩ = some (.string (⟨#[]⟩ : ByteArray)) := (blk_cell BK106.out 3).trans rfl; have hfz81_0 := blk_frozen BK106.out 0; have hfz81_1 := blk_frozen BK106.out 1; have hfz81_2 := blk_frozen BK106.out 2; have hfz81_3 := blk_frozen BK106.out 3))
                go_meet
                case rel => exact ⟨_, (decide (t117 > 255)), (t119), (false), (t117), (t118), (by first | rfl | (simp; done) | (simp [*]; done)), (by first | rfl | (simp; done) | (simp [*]; done)), H', ⟨by have := HJ4.out; have := HK2.out; have := HJ16.out; have := HJ56.out; first | omega | exact Nat.le_refl _⟩, ⟨by (with_reducible repeat (first | apply Kd.R_alloc | apply Kd.R_drewN | apply Kd.R_drew)); exact Kd.R_mono (Kd.R_far (p := ⟨gb106, 3, none⟩) (Kd.R_far (p := ⟨gb106, 2, none⟩) (Kd.R_far (p := ⟨gb120, 1, none⟩) (Kd.R_far (p := ⟨gb120, 0, none⟩) (Kd.R_types (Kd.R_mono HO_107000.out (fun k_ hk => (⟨hk, hk.2⟩ : _ ∧ k_ ≠ gb120))) BK106.out (by decide)) (fun _ hk => hk.1.2) (.int .i64 t117)) (fun _ hk => hk.1.2) (.string t118)) (fun _ hk => hk.2) (.int .i64 t117)) (fun _ hk => hk.2) (.string t118)) (fun _ hk => trivial)⟩, ⟨by (with_reducible repeat (first | refine blk_drewN ?_ _ | refine blk_drew ?_ | refine blk_alloc ?_ _)); refine blk_far ?_ NB105_106.out _; (with_reducible repeat (first | refine blk_drewN ?_ _ | refine blk_drew ?_ | refine blk_alloc ?_ _)); refine blk_far ?_ NB105_106.out _; (with_reducible repeat (first | refine blk_drewN ?_ _ | refine blk_drew ?_ | refine blk_alloc ?_ _)); refine blk_far ?_ NB105_120.out _; (with_reducible repeat (first | refine blk_drewN ?_ _ | refine blk_drew ?_ | refine blk_alloc ?_ _)); refine blk_far ?_ NB105_120.out _; (with_reducible repeat (first | refine blk_drewN ?_ _ | refine blk_drew ?_ | refine blk_alloc ?_ _)); exact BK105.out⟩, ⟨by (with_reducible repeat (first | refine blk_drewN ?_ _ | refine blk_drew ?_ | refine blk_alloc ?_ _)); refine blk_put (cs := #[u107000, .bool false, .int .i64 t117, .string (⟨#[]⟩ : ByteArray)]) ?_ 3 _ rfl; (with_reducible repeat (first | refine blk_drewN ?_ _ | refine blk_drew ?_ | refine blk_alloc ?_ _)); refine blk_put (cs := #[u107000, .bool false, .int .i64 0, .string (⟨#[]⟩ : ByteArray)]) ?_ 2 _ rfl; (with_reducible repeat (first | refine blk_drewN ?_ _ | refine blk_drew ?_ | refine blk_alloc ?_ _)); refine blk_far ?_ NB106_120.out _; (with_reducible repeat (first | refine blk_drewN ?_ _ | refine blk_drew ?_ | refine blk_alloc ?_ _)); refine blk_far ?_ NB106_120.out _; (with_reducible repeat (first | refine blk_drewN ?_ _ | refine blk_drew ?_ | refine blk_alloc ?_ _)); exact BK106.out⟩, ⟨by repeat (first | (with_reducible first | exact HB.out | apply below_alloc | apply pw_below_drewN | apply below_drew1 | refine below_set ?_ GE105.out | refine below_set ?_ GE106.out | refine below_set ?_ GE120.out) | exact HB.out)⟩⟩
             case rest =>
              clear HC62
              try clear c1
              try clear p1
              try clear q1
              try clear hx1
              try clear qi1
              try clear c2
              try clear c2b0
              try clear c2b1
              try clear p2
              try clear q2
              try clear hx2
              try clear c3
              try clear c4
              try clear c5
              try clear c6
              try clear p6
              try clear q6
              try clear hx6
              try clear c7
              try clear c8
              try clear c10
              try clear c10b0
              try clear c10b1
              try clear c11
              try clear c11b0
              try clear c11b1
              try clear p12
              try clear q12
              try clear hx12
              try clear qi12
              try clear c13
              try clear c14
              try clear c18
              try clear c18b0
              try clear c19
              try clear c19b0
              try clear p20
              try clear q20
              try clear hx20
              try clear c21
              try clear c23
              try clear c23b0
              try clear c26
              try clear c27
              try clear c29
              try clear c31
              try clear c32
              try clear c35
              try clear c36
              try clear c38
              try clear c43
              try clear c46
              try clear c47
              try clear c49
              try clear c54
              try clear c54b0
              try clear c55
              try clear c58
              try clear c58b0
              try clear c60
              try clear c60b0
              try clear p61
              try clear q61
              try clear hx61
              try clear c63
              try clear c64
              try clear p64
              try clear c66
              try clear c67
              try clear c70
              try clear c71
              try clear c73
              try clear c77
              try clear c78
              try clear c80
              try clear hcz15_0
              try clear hcz15_1
              try clear hcz15_2
              try clear hcz15_3
              try clear hcz16_0
              try clear hcz16_1
              try clear hcz16_2
              try clear hcz16_3
              try clear hcz28_0
              try clear hcz28_1
              try clear hcz30_0
              try clear hcz30_1
              try clear hcz30_2
              try clear hcz30_3
              try clear hcz37_0
              try clear hcz37_1
              try clear hcz39_0
              try clear hcz39_1
              try clear hcz39_2
              try clear hcz39_3
              try clear hcz42_0
              try clear hcz42_1
              try clear hcz42_2
              try clear hcz42_3
              try clear hcz48_0
              try clear hcz48_1
              try clear hcz4_0
              try clear hcz4_1
              try clear hcz4_2
              try clear hcz4_3
              try clear hcz50_0
              try clear hcz50_1
              try clear hcz50_2
              try clear hcz50_3
              try clear hcz53_0
              try clear hcz53_1
              try clear hcz53_2
              try clear hcz53_3
              try clear hcz56_0
              try clear hcz56_1
              try clear hcz56_2
              try clear hcz56_3
              try clear hcz65_0
              try clear hcz65_1
              try clear hcz65_2
              try clear hcz65_3
              try clear hcz72_0
              try clear hcz72_1
              try clear hcz74_0
              try clear hcz74_1
              try clear hcz74_2
              try clear hcz74_3
              try clear hcz79_0
              try clear hcz79_1
              try clear hcz81_0
              try clear hcz81_1
              try clear hcz81_2
              try clear hcz81_3
              try clear hcz9_0
              try clear hcz9_1
              try clear hcz9_2
              try clear hcz9_3
              try clear hfz15_0
              try clear hfz15_1
              try clear hfz15_2
              try clear hfz15_3
              try clear hfz16_0
              try clear hfz16_1
              try clear hfz16_2
              try clear hfz16_3
              try clear hfz28_0
              try clear hfz28_1
              try clear hfz30_0
              try clear hfz30_1
              try clear hfz30_2
              try clear hfz30_3
              try clear hfz37_0
              try clear hfz37_1
              try clear hfz39_0
              try clear hfz39_1
              try clear hfz39_2
              try clear hfz39_3
              try clear hfz42_0
              try clear hfz42_1
              try clear hfz42_2
              try clear hfz42_3
              try clear hfz48_0
              try clear hfz48_1
              try clear hfz4_0
              try clear hfz4_1
              try clear hfz4_2
              try clear hfz4_3
              try clear hfz50_0
              try clear hfz50_1
              try clear hfz50_2
              try clear hfz50_3
              try clear hfz53_0
              try clear hfz53_1
              try clear hfz53_2
              try clear hfz53_3
              try clear hfz56_0
              try clear hfz56_1
              try clear hfz56_2
              try clear hfz56_3
              try clear hfz65_0
              try clear hfz65_1
              try clear hfz65_2
              try clear hfz65_3
              try clear hfz72_0
              try clear hfz72_1
              try clear hfz74_0
              try clear hfz74_1
              try clear hfz74_2
              try clear hfz74_3
              try clear hfz79_0
              try clear hfz79_1
              try clear hfz81_0
              try clear hfz81_1
              try clear hfz81_2
              try clear hfz81_3
              try clear hfz9_0
              try clear hfz9_1
              try clear hfz9_2
              try clear hfz9_3
              try clear p1
              try clear p12
              try clear p2
              try clear p20
              try clear p6
              try clear p61
              try clear q1
              try clear q12
              try clear q2
              try clear q20
              try clear q6
              try clear q61
              obtain ⟨kq, x5_61, x6_61, x107001_61, x107002_61, x107003_61, rfl, rfl, HA, HJ61, HO_107000, BK105, BK106, HB⟩ := hcut
              cases kq with
              | zero => exact absurd HA.out (by simp [arbiterref02_ParseDesc.j4])
              | succ kj61 =>
               have H := HA.out
               clear HA
               simp only [arbiterref02_ParseDesc.j4] at H
               by_cases c82 : x6_61 = (a0.size : Int)
               ·
                rw [if_pos c82] at H
                have c82b0 : (x6_61 == (a0.size : Int)) = true := beq_iff_eq.mpr c82
                have c82b1 : (x6_61 != (a0.size : Int)) = false := bne_eq_false_iff_eq.mpr c82
                clear c82
                by_cases c83 : x5_61 = true
                ·
                 subst c83
                 have H1 : (some (([] : List (S37)), false, 0, (⟨#[]⟩ : ByteArray), 5)) = some (r1, r2, r3, r4, r5) := by rw [if_pos rfl] at H; exact H
                 clear H
                 have H := H1
                 clear H1
                 simp only [Option.some.injEq, Prod.mk.injEq] at H
                 obtain ⟨rfl, rfl, rfl, rfl, rfl⟩ := H
                 have hnb84 := NB105_106.out
                 have hnc84 := NB106_105.out
                 have hcz85_0 : wc.cell? ⟨gb105, 0, none⟩ = some (.slice none 0 0) := (blk_cell BK105.out 0).trans rfl
                 have hcz85_1 : wc.cell? ⟨gb105, 1, none⟩ = some (.bool x106001_2) := (blk_cell BK105.out 1).trans rfl
                 have hcz85_2 : wc.cell? ⟨gb105, 2, none⟩ = some (.int .i64 x106002_2) := (blk_cell BK105.out 2).trans rfl
                 have hcz85_3 : wc.cell? ⟨gb105, 3, none⟩ = some (.string x106003_2) := (blk_cell BK105.out 3).trans rfl
                 have hfz85_0 := blk_frozen BK105.out 0
                 have hfz85_1 := blk_frozen BK105.out 1
                 have hfz85_2 := blk_frozen BK105.out 2
                 have hfz85_3 := blk_frozen BK105.out 3
                 go_wp2
                 refine bodyPost_ret (results_ct rfl _ _ gb105 43 #[.slice none 0 0, .bool false, .int .i64 0, .string (⟨#[]⟩ : ByteArray)] (0, 0) _ rfl (by (with_reducible repeat (first | refine blk_drewN ?_ _ | refine blk_drew ?_ | refine blk_alloc ?_ _)); refine blk_put (cs := #[.slice none 0 0, .bool false, .int .i64 0, .string x106003_2]) ?_ 3 _ rfl; (with_reducible repeat (first | refine blk_drewN ?_ _ | refine blk_drew ?_ | refine blk_alloc ?_ _)); refine blk_put (cs := #[.slice none 0 0, .bool false, .int .i64 x106002_2, .string x106003_2]) ?_ 2 _ rfl; (with_reducible repeat (first | refine blk_drewN ?_ _ | refine blk_drew ?_ | refine blk_alloc ?_ _)); refine blk_put (cs := #[.slice none 0 0, .bool x106001_2, .int .i64 x106002_2, .string x106003_2]) ?_ 1 _ rfl; (with_reducible repeat (first | refine blk_drewN ?_ _ | refine blk_drew ?_ | refine blk_alloc ?_ _)); refine blk_put (cs := #[.slice none 0 0, .bool x106001_2, .int .i64 x106002_2, .string x106003_2]) ?_ 0 _ rfl; (with_reducible repeat (first | refine blk_drewN ?_ _ | refine blk_drew ?_ | refine blk_alloc ?_ _)); exact BK105.out) Tryd.underlying43 rfl (by kernel_rfl)) rfl ?_
                 exact ⟨_, by first | rfl | (simp [errW_none, errW_some] <;> rfl) | (simp [*, errW_none, errW_some] <;> rfl), by first | exact Kd.R_nil _ _ _ _ _ | exact Kd.N_nil _ _ _ _ _ | exact Kd.V_nil _ _ _ _ _ | exact Kd.Q_nil _ _ _ _ _ | exact Kd.S_nil _ _ _ _ _, by repeat (first | (with_reducible first | exact HB.out | apply below_alloc | apply pw_below_drewN | apply below_drew1 | refine below_set ?_ GE105.out | refine below_set ?_ GE106.out) | exact HB.out)⟩
                ·
                 replace c83 := Bool.eq_false_iff.mpr c83
                 subst c83
                 have H1 : (if (x107000_2.length : Int) > 20 then (some (([] : List (S37)), false, 0, (⟨#[]⟩ : ByteArray), 5)) else (some (x107000_2, x107001_61, x107002_61, x107003_61, 0))) = some (r1, r2, r3, r4, r5) := by rw [if_neg (show ¬ (false = true) by decide)] at H; exact H
                 clear H
                 have H := H1
                 clear H1
                 by_cases c86 : (x107000_2.length : Int) > 20
                 ·
                  rw [if_pos c86] at H
                  have c86b0 : decide (20 < (x107000_2.length : Int)) = true := decide_eq_true c86
                  have c86b1 : decide (20 < x107000_2.length) = true := decide_eq_true (by omega)
                  clear c86
                  simp only [Option.some.injEq, Prod.mk.injEq] at H
                  obtain ⟨rfl, rfl, rfl, rfl, rfl⟩ := H
                  have hnb87 := NB106_105.out
                  have hnc87 := NB105_106.out
                  have hcz88_0 : wc.cell? ⟨gb106, 0, none⟩ = some (u107000) := (blk_cell BK106.out 0).trans rfl
                  have hcz88_1 : wc.cell? ⟨gb106, 1, none⟩ = some (.bool x107001_61) := (blk_cell BK106.out 1).trans rfl
                  have hcz88_2 : wc.cell? ⟨gb106, 2, none⟩ = some (.int .i64 x107002_61) := (blk_cell BK106.out 2).trans rfl
                  have hcz88_3 : wc.cell? ⟨gb106, 3, none⟩ = some (.string x107003_61) := (blk_cell BK106.out 3).trans rfl
                  have hfz88_0 := blk_frozen BK106.out 0
                  have hfz88_1 := blk_frozen BK106.out 1
                  have hfz88_2 := blk_frozen BK106.out 2
                  have hfz88_3 := blk_frozen BK106.out 3
                  obtain ⟨Ao89, co89, eo89⟩ := Kd.R_slice HO_107000.out
                  subst eo89
                  have hcz90_0 : wc.cell? ⟨gb105, 0, none⟩ = some (.slice none 0 0) := (blk_cell BK105.out 0).trans rfl
                  have hcz90_1 : wc.cell? ⟨gb105, 1, none⟩ = some (.bool x106001_2) := (blk_cell BK105.out 1).trans rfl
                  have hcz90_2 : wc.cell? ⟨gb105, 2, none⟩ = some (.int .i64 x106002_2) := (blk_cell BK105.out 2).trans rfl
                  have hcz90_3 : wc.cell? ⟨gb105, 3, none⟩ = some (.string x106003_2) := (blk_cell BK105.out 3).trans rfl
                  have hfz90_0 := blk_frozen BK105.out 0
                  have hfz90_1 := blk_frozen BK105.out 1
                  have hfz90_2 := blk_frozen BK105.out 2
                  have hfz90_3 := blk_frozen BK105.out 3
                  go_wp2
                  refine bodyPost_ret (results_ct rfl _ _ gb105 43 #[.slice none 0 0, .bool false, .int .i64 0, .string (⟨#[]⟩ : ByteArray)] (0, 0) _ rfl (by (with_reducible repeat (first | refine blk_drewN ?_ _ | refine blk_drew ?_ | refine blk_alloc ?_ _)); refine blk_put (cs := #[.slice none 0 0, .bool false, .int .i64 0, .string x106003_2]) ?_ 3 _ rfl; (with_reducible repeat (first | refine blk_drewN ?_ _ | refine blk_drew ?_ | refine blk_alloc ?_ _)); refine blk_put (cs := #[.slice none 0 0, .bool false, .int .i64 x106002_2, .string x106003_2]) ?_ 2 _ rfl; (with_reducible repeat (first | refine blk_drewN ?_ _ | refine blk_drew ?_ | refine blk_alloc ?_ _)); refine blk_put (cs := #[.slice none 0 0, .bool x106001_2, .int .i64 x106002_2, .string x106003_2]) ?_ 1 _ rfl; (with_reducible repeat (first | refine blk_drewN ?_ _ | refine blk_drew ?_ | refine blk_alloc ?_ _)); refine blk_put (cs := #[.slice none 0 0, .bool x106001_2, .int .i64 x106002_2, .string x106003_2]) ?_ 0 _ rfl; (with_reducible repeat (first | refine blk_drewN ?_ _ | refine blk_drew ?_ | refine blk_alloc ?_ _)); exact BK105.out) Tryd.underlying43 rfl (by kernel_rfl)) rfl ?_
                  exact ⟨_, by first | rfl | (simp [errW_none, errW_some] <;> rfl) | (simp [*, errW_none, errW_some] <;> rfl), by first | exact Kd.R_nil _ _ _ _ _ | exact Kd.N_nil _ _ _ _ _ | exact Kd.V_nil _ _ _ _ _ | exact Kd.Q_nil _ _ _ _ _ | exact Kd.S_nil _ _ _ _ _, by repeat (first | (with_reducible first | exact HB.out | apply below_alloc | apply pw_below_drewN | apply below_drew1 | refine below_set ?_ GE105.out | refine below_set ?_ GE106.out) | exact HB.out)⟩
                 ·
                  rw [if_neg c86] at H
                  have c86b0 : decide (20 < (x107000_2.length : Int)) = false := decide_eq_false c86
                  have c86b1 : decide (20 < x107000_2.length) = false := decide_eq_false (by omega)
                  clear c86
                  simp only [Option.some.injEq, Prod.mk.injEq] at H
                  obtain ⟨rfl, rfl, rfl, rfl, rfl⟩ := H
                  have hnb91 := NB106_105.out
                  have hnc91 := NB105_106.out
                  have hcz92_0 : wc.cell? ⟨gb106, 0, none⟩ = some (u107000) := (blk_cell BK106.out 0).trans rfl
                  have hcz92_1 : wc.cell? ⟨gb106, 1, none⟩ = some (.bool x107001_61) := (blk_cell BK106.out 1).trans rfl
                  have hcz92_2 : wc.cell? ⟨gb106, 2, none⟩ = some (.int .i64 x107002_61) := (blk_cell BK106.out 2).trans rfl
                  have hcz92_3 : wc.cell? ⟨gb106, 3, none⟩ = some (.string x107003_61) := (blk_cell BK106.out 3).trans rfl
                  have hfz92_0 := blk_frozen BK106.out 0
                  have hfz92_1 := blk_frozen BK106.out 1
                  have hfz92_2 := blk_frozen BK106.out 2
                  have hfz92_3 := blk_frozen BK106.out 3
                  obtain ⟨Ao93, co93, eo93⟩ := Kd.R_slice HO_107000.out
                  subst eo93
                  have hcz94_0 : wc.cell? ⟨gb105, 0, none⟩ = some (.slice none 0 0) := (blk_cell BK105.out 0).trans rfl
                  have hcz94_1 : wc.cell? ⟨gb105, 1, none⟩ = some (.bool x106001_2) := (blk_cell BK105.out 1).trans rfl
                  have hcz94_2 : wc.cell? ⟨gb105, 2, none⟩ = some (.int .i64 x106002_2) := (blk_cell BK105.out 2).trans rfl
                  have hcz94_3 : wc.cell? ⟨gb105, 3, none⟩ = some (.string x106003_2) := (blk_cell BK105.out 3).trans rfl
                  have hfz94_0 := blk_frozen BK105.out 0
                  have hfz94_1 := blk_frozen BK105.out 1
                  have hfz94_2 := blk_frozen BK105.out 2
                  have hfz94_3 := blk_frozen BK105.out 3
                  go_wp2
                  refine bodyPost_ret (results_ct rfl _ _ gb105 43 #[.slice Ao93 x107000_2.length co93, .bool x107001_61, .int .i64 x107002_61, .string x107003_61] (0, 0) _ rfl (by (with_reducible repeat (first | refine blk_drewN ?_ _ | refine blk_drew ?_ | refine blk_alloc ?_ _)); refine blk_put (cs := #[.slice Ao93 x107000_2.length co93, .bool x107001_61, .int .i64 x107002_61, .string x106003_2]) ?_ 3 _ rfl; (with_reducible repeat (first | refine blk_drewN ?_ _ | refine blk_drew ?_ | refine blk_alloc ?_ _)); refine blk_put (cs := #[.slice Ao93 x107000_2.length co93, .bool x107001_61, .int .i64 x106002_2, .string x106003_2]) ?_ 2 _ rfl; (with_reducible repeat (first | refine blk_drewN ?_ _ | refine blk_drew ?_ | refine blk_alloc ?_ _)); refine blk_put (cs := #[.slice Ao93 x107000_2.length co93, .bool x106001_2, .int .i64 x106002_2, .string x106003_2]) ?_ 1 _ rfl; (with_reducible repeat (first | refine blk_drewN ?_ _ | refine blk_drew ?_ | refine blk_alloc ?_ _)); refine blk_put (cs := #[.slice none 0 0, .bool x106001_2, .int .i64 x106002_2, .string x106003_2]) ?_ 0 _ rfl; (with_reducible repeat (first | refine blk_drewN ?_ _ | refine blk_drew ?_ | refine blk_alloc ?_ _)); exact BK105.out) Tryd.underlying43 rfl (by kernel_rfl)) rfl ?_
                  exact ⟨_, by first | rfl | (simp [errW_none, errW_some] <;> rfl) | (simp [*, errW_none, errW_some] <;> rfl), by (with_reducible repeat (first | apply Kd.R_alloc | apply Kd.R_drewN | apply Kd.R_drew)); exact Kd.R_mono (Kd.R_far (p := ⟨gb105, 3, none⟩) (Kd.R_far (p := ⟨gb105, 2, none⟩) (Kd.R_far (p := ⟨gb105, 1, none⟩) (Kd.R_far (p := ⟨gb105, 0, none⟩) (Kd.R_types HO_107000.out BK105.out (by decide)) (fun _ hk => hk.2) (.slice Ao93 x107000_2.length co93)) (fun _ hk => hk.2) (.bool x107001_61)) (fun _ hk => hk.2) (.int .i64 x107002_61)) (fun _ hk => hk.2) (.string x107003_61)) (fun _ hk => trivial), by repeat (first | (with_reducible first | exact HB.out | apply below_alloc | apply pw_below_drewN | apply below_drew1 | refine below_set ?_ GE105.out | refine below_set ?_ GE106.out) | exact HB.out)⟩
               ·
                rw [if_neg c82] at H
                have c82b0 : (x6_61 == (a0.size : Int)) = false := beq_eq_false_iff_ne.mpr c82
                have c82b1 : (x6_61 != (a0.size : Int)) = true := bne_iff_ne.mpr c82
                simp only [Option.some.injEq, Prod.mk.injEq] at H
                obtain ⟨rfl, rfl, rfl, rfl, rfl⟩ := H
                have hnb95 := NB105_106.out
                have hnc95 := NB106_105.out
                have hcz96_0 : wc.cell? ⟨gb105, 0, none⟩ = some (.slice none 0 0) := (blk_cell BK105.out 0).trans rfl
                have hcz96_1 : wc.cell? ⟨gb105, 1, none⟩ = some (.bool x106001_2) := (blk_cell BK105.out 1).trans rfl
                have hcz96_2 : wc.cell? ⟨gb105, 2, none⟩ = some (.int .i64 x106002_2) := (blk_cell BK105.out 2).trans rfl
                have hcz96_3 : wc.cell? ⟨gb105, 3, none⟩ = some (.string x106003_2) := (blk_cell BK105.out 3).trans rfl
                have hfz96_0 := blk_frozen BK105.out 0
                have hfz96_1 := blk_frozen BK105.out 1
                have hfz96_2 := blk_frozen BK105.out 2
                have hfz96_3 := blk_frozen BK105.out 3
                go_wp2
                refine bodyPost_ret (results_ct rfl _ _ gb105 43 #[.slice none 0 0, .bool false, .int .i64 0, .string (⟨#[]⟩ : ByteArray)] (0, 0) _ rfl (by (with_reducible repeat (first | refine blk_drewN ?_ _ | refine blk_drew ?_ | refine blk_alloc ?_ _)); refine blk_put (cs := #[.slice none 0 0, .bool false, .int .i64 0, .string x106003_2]) ?_ 3 _ rfl; (with_reducible repeat (first | refine blk_drewN ?_ _ | refine blk_drew ?_ | refine blk_alloc ?_ _)); refine blk_put (cs := #[.slice none 0 0, .bool false, .int .i64 x106002_2, .string x106003_2]) ?_ 2 _ rfl; (with_reducible repeat (first | refine blk_drewN ?_ _ | refine blk_drew ?_ | refine blk_alloc ?_ _)); refine blk_put (cs := #[.slice none 0 0, .bool x106001_2, .int .i64 x106002_2, .string x106003_2]) ?_ 1 _ rfl; (with_reducible repeat (first | refine blk_drewN ?_ _ | refine blk_drew ?_ | refine blk_alloc ?_ _)); refine blk_put (cs := #[.slice none 0 0, .bool x106001_2, .int .i64 x106002_2, .string x106003_2]) ?_ 0 _ rfl; (with_reducible repeat (first | refine blk_drewN ?_ _ | refine blk_drew ?_ | refine blk_alloc ?_ _)); exact BK105.out) Tryd.underlying43 rfl (by kernel_rfl)) rfl ?_
                exact ⟨_, by first | rfl | (simp [errW_none, errW_some] <;> rfl) | (simp [*, errW_none, errW_some] <;> rfl), by first | exact Kd.R_nil _ _ _ _ _ | exact Kd.N_nil _ _ _ _ _ | exact Kd.V_nil _ _ _ _ _ | exact Kd.Q_nil _ _ _ _ _ | exact Kd.S_nil _ _ _ _ _, by repeat (first | (with_reducible first | exact HB.out | apply below_alloc | apply pw_below_drewN | apply below_drew1 | refine below_set ?_ GE105.out | refine below_set ?_ GE106.out) | exact HB.out)⟩

end Go.Proofs.YtpcdfjifhoofjaaDoor.Pt

-- laid by a program of this session's own (a variant of the kit's print)
namespace Go.Proofs.YtpcdfjifhoofjaaDoor.Pt
open Go.RowKit Go.Proofs.YtpcdfjifhoofjaaDoorW.PrintWords Go.Proofs.YtpcdfjifhoofjaaDoorW.PrintLast Go.Proofs.YtpcdfjifhoofjaaDoorW.PrintMore
attribute [local go_sem] max2_int min2_int max_two min_two max_three min_three max_four min_four   -- for this text's walks alone
set_option linter.unusedVariables false
set_option linter.unusedSimpArgs false

/-! ### arbiterref02_SameTypes: function 55 -/
def arbiterref02_SameTypes.l0 : Nat → List (S37) → List (S37) → Int → Option (Bool)
 | 0, _, _, _ => none
 | k + 1, x0, x1, x5 => if x5 < (x0.length : Int) then (if 0 ≤ x5 then (if x5 < (x1.length : Int) then ((arbiterref02_Same.f ((rd_T37 x0 x5).f0) ((rd_T37 x0 x5).f1) ((rd_T37 x1 x5).f0) ((rd_T37 x1 x5).f1)).bind fun t123 => (if t123 = true then (arbiterref02_SameTypes.l0 k x0 x1 (wrap64 (x5 + 1))) else (some false))) else (none)) else (none)) else (some true)
def arbiterref02_SameTypes.f (k : Nat) (l0 : List (S37)) (l1 : List (S37)) : Option (Bool) := if (l0.length : Int) = (l1.length : Int) then (arbiterref02_SameTypes.l0 k l0 l1 0) else (some false)
theorem arbiterref02_SameTypes.mono_l : ∀ k, (∀ y0 y1 y2, LeO (arbiterref02_SameTypes.l0 k y0 y1 y2) (arbiterref02_SameTypes.l0 (k + 1) y0 y1 y2))
 | 0 => fun _ _ _ r h => by simp [arbiterref02_SameTypes.l0] at h
 | k + 1 => by
  have ih0 := arbiterref02_SameTypes.mono_l k
  ·
   intro y0 y1 y2
   unfold arbiterref02_SameTypes.l0
   repeat' first
   | (with_reducible exact ih0 _ _ _)
   | (with_reducible exact LeO.refl _)
   | (with_reducible exact LeO.none _)
   | (with_reducible refine LeO.ite ?_ ?_)
   | (with_reducible refine LeO.bind ?_ (fun _ => ?_))
   | exact ih0 _ _ _
   | exact LeO.none _
   | refine LeO.ite ?_ ?_
   | refine LeO.bind ?_ (fun _ => ?_)
theorem arbiterref02_SameTypes.mono : ∀ a0 a1 k, LeO (arbiterref02_SameTypes.f k a0 a1) (arbiterref02_SameTypes.f (k + 1) a0 a1) := by
 intro a0 a1 k
 have ih0 := arbiterref02_SameTypes.mono_l k
 unfold arbiterref02_SameTypes.f
 repeat' first
   | (with_reducible exact ih0 _ _ _)
   | (with_reducible exact LeO.refl _)
   | (with_reducible exact LeO.none _)
   | (with_reducible refine LeO.ite ?_ ?_)
   | (with_reducible refine LeO.bind ?_ (fun _ => ?_))
   | exact ih0 _ _ _
   | exact LeO.none _
   | refine LeO.ite ?_ ?_
   | refine LeO.bind ?_ (fun _ => ?_)
def arbiterref02_SameTypes.T6 : Bool × List (List Nat × List Nat) := (true, [([], []), ([], []), ([0, 1], [0, 1]), ([2], [2]), ([], []), ([], []), ([4, 5], [4, 5]), ([6], [6]), ([3, 7], [3, 7]), ([8], [8])])
def arbiterref02_SameTypes.B6 : List Nat := [0, 0, 3, 7, 0, 0, 48, 112, 255, 511]
theorem arbiterref02_SameTypes.tab6 : rtab .any (opsOf Tryd.f55 6) = arbiterref02_SameTypes.T6 := by kernel_rfl
theorem arbiterref02_SameTypes.bits6 : waitsOk arbiterref02_SameTypes.T6.2 arbiterref02_SameTypes.B6 = true := by kernel_rfl
set_option maxHeartbeats 8000000 in
set_option maxRecDepth 100000 in
theorem arbiterref02_SameTypes.calls (k : Nat) (A0 : Option Addr) (c0 : Nat) (l0 : List (S37)) (A1 : Option Addr) (c1 : Nat) (l1 : List (S37)) (r : Bool) (w : World) (hr0 : Kd.C k37 w A0 l0.length l0) (hc0 : l0.length ≤ c0) (hr1 : Kd.C k37 w A1 l1.length l1) (hc1 : l1.length ≤ c1) (h : arbiterref02_SameTypes.f k l0 l1 = some r) :
  Calls Tryd.prog 55 #[.slice A0 l0.length c0, .slice A1 l1.length c1] w fun e w' => e = .returned (.bool r) ∧ Below w.heap.size w w' := by
 have hu37 := Tryd.underlying37
 have HR0 := Aside0.mk hr0
 have HC0 := Aside0.mk hc0
 clear hr0 hc0
 have HR1 := Aside0.mk hr1
 have HC1 := Aside0.mk hc1
 clear hr1 hc1
 have HB := Aside0.mk (Below.refl w.heap.size w)
 have H : (if (l0.length : Int) = (l1.length : Int) then (arbiterref02_SameTypes.l0 k l0 l1 0) else (some false)) = some r := h
 clear h
 by_cases c3 : (l0.length : Int) = (l1.length : Int)
 ·
  rw [if_pos c3] at H
  have c3b0 : ((l0.length : Int) == (l1.length : Int)) = true := beq_iff_eq.mpr c3
  have c3b1 : ((l0.length : Int) != (l1.length : Int)) = false := bne_eq_false_iff_eq.mpr c3
  have c3b2 : (l0.length == l1.length) = true := by first | simpa using c3 | (simp at c3 ⊢; omega)
  clear c3
  have H' := Aside0.mk H
  clear H
  go_enter Tryd.func55, Tryd.ntmps55
  go_wp2
  go_loopg [5] k (fun kq v5 w' => ∃ (x5_1 : Int), v5 = .int .i64 x5_1 ∧ Aside0 (arbiterref02_SameTypes.l0 kq l0 l1 x5_1 = some r) ∧ Aside0 (kq ≤ k) ∧ Aside0 (Below w.heap.size w w'))
  case atStart => exact ⟨(0), (by first | rfl | (simp; done) | (simp [*]; done)), H', ⟨Nat.le_refl _⟩, ⟨by repeat (first | (with_reducible first | exact HB.out | apply below_alloc | apply pw_below_drewN | apply below_drew1) | exact HB.out)⟩⟩
  case round =>
   clear H'
   try clear c1
   try clear p2
   try clear c3
   try clear c3b0
   try clear c3b1
   try clear c3b2
   obtain ⟨x5_1, rfl, HA, HK1, HB⟩ := hrel
   cases gk with
   | zero => exact absurd HA.out (by simp [arbiterref02_SameTypes.l0])
   | succ k1 =>
    have H := HA.out
    clear HA
    simp only [arbiterref02_SameTypes.l0] at H
    by_cases c4 : x5_1 < (l0.length : Int)
    ·
     rw [if_pos c4] at H
     have c4b0 : decide (x5_1 < (l0.length : Int)) = true := decide_eq_true c4
     clear c4
     by_cases c5 : 0 ≤ x5_1
     ·
      rw [if_pos c5] at H
      have c5b0 : decide (0 ≤ x5_1) = true := decide_eq_true c5
      clear c5
      by_cases c6 : x5_1 < (l1.length : Int)
      ·
       rw [if_pos c6] at H
       have c6b0 : decide (x5_1 < (l1.length : Int)) = true := decide_eq_true c6
       clear c6
       replace H := Option.bind_eq_some_iff.mp H
       obtain ⟨t123, A70, H⟩ := H
       replace H : (if t123 = true then (arbiterref02_SameTypes.l0 k1 l0 l1 (wrap64 (x5_1 + 1))) else (some false)) = some r := H
       have A7 := Aside0.mk A70
       clear A70
       by_cases c8 : t123 = true
       ·
        subst c8
        have H1 : (arbiterref02_SameTypes.l0 k1 l0 l1 (wrap64 (x5_1 + 1))) = some r := by rw [if_pos rfl] at H; exact H
        clear H
        have H := H1
        clear H1
        have H' := Aside0.mk H
        clear H
        try go_wp2
        have n0_ := Aside0.mk (below_drew1 HB.out)
        clear HB
        have HB := n0_
        clear n0_
        have p121 : 0 ≤ (x5_1 : Int) := of_decide_eq_true (by first | (with_reducible assumption) | assumption)
        have q121 : x5_1 < (l0.length : Int) := of_decide_eq_true (by first | (with_reducible assumption) | assumption)
        obtain ⟨ad121, e121, hx121_0, hx121_1⟩ := at_T37 HR0.out x5_1 p121 q121
        have hw121_1 := hx121_1
        have hw121_0 := hx121_0
        cases e121
        replace hx121_0 := (HB.out.cell (World.block_lt_of_cell? w _ hx121_0)).trans hx121_0
        replace hx121_1 := (HB.out.cell (World.block_lt_of_cell? w _ hx121_1)).trans hx121_1
        replace p121 := eq_true p121
        replace q121 := eq_true q121
        have p122 : 0 ≤ (x5_1 : Int) := of_decide_eq_true (by first | (with_reducible assumption) | assumption)
        have q122 : x5_1 < (l1.length : Int) := of_decide_eq_true (by first | (with_reducible assumption) | assumption)
        obtain ⟨ad122, e122, hx122_0, hx122_1⟩ := at_T37 HR1.out x5_1 p122 q122
        have hw122_1 := hx122_1
        have hw122_0 := hx122_0
        cases e122
        replace hx122_0 := (HB.out.cell (World.block_lt_of_cell? w _ hx122_0)).trans hx122_0
        replace hx122_1 := (HB.out.cell (World.block_lt_of_cell? w _ hx122_1)).trans hx122_1
        replace p122 := eq_true p122
        replace q122 := eq_true q122
        refine start_ (n := 10) (S := fun w' => w'.cell? (ad121.add ((x5_1).toNat * 2)) = some (.int .i64 ((rd_T37 l0 x5_1).f0)) ∧ w'.cell? ⟨(ad121.add ((x5_1).toNat * 2)).block, (ad121.add ((x5_1).toNat * 2)).off + 1, none⟩ = some (.string ((rd_T37 l0 x5_1).f1)) ∧ w'.cell? (ad122.add ((x5_1).toNat * 2)) = some (.int .i64 ((rd_T37 l1 x5_1).f0)) ∧ w'.cell? ⟨(ad122.add ((x5_1).toNat * 2)).block, (ad122.add ((x5_1).toNat * 2)).off + 1, none⟩ = some (.string ((rd_T37 l1 x5_1).f1))) (ds := []) #[false, false, false, false, false, false, false, false, false, false] (by kernel_rfl) rfl rfl ⟨((HB.out.cell (World.block_lt_of_cell? w _ hw121_0)).trans hw121_0), ((HB.out.cell (World.block_lt_of_cell? w _ hw121_1)).trans hw121_1), ((HB.out.cell (World.block_lt_of_cell? w _ hw122_0)).trans hw122_0), ((HB.out.cell (World.block_lt_of_cell? w _ hw122_1)).trans hw122_1)⟩ (fun hHeld => ?_); refine with_tabW arbiterref02_SameTypes.tab6 arbiterref02_SameTypes.bits6 (fun HT_ HW_ => ?_)
        generalize wr.drew = w9 at HB hx121_0 hx121_1 hx122_0 hx122_1 hHeld ⊢
        refine pure_ (i := 0) (N := some 17) (v := ?_) (a' := ?_) #[true, false, false, false, false, false, false, false, false, false] rfl rfl (any_of HT_.out (by kernel_rfl)) (fun _ _ _ h => h) (Or.inl ⟨by rfl, ?_⟩) ?_ ?_
        rotate_left
        ·
         intro w'
         go_simp
         with_reducible rfl
        rotate_left
        ·
         simp only [Act.put, List.setIfInBounds_toArray, List.set_cons_zero, List.set_cons_succ, i64_w, i32_w]
         rfl
        refine pure_ (i := 1) (N := some 18) (v := ?_) (a' := ?_) #[true, true, false, false, false, false, false, false, false, false] rfl rfl (any_of HT_.out (by kernel_rfl)) (fun _ _ _ h => h) (Or.inl ⟨by rfl, ?_⟩) ?_ ?_
        rotate_left
        ·
         intro w'
         go_simp
         with_reducible rfl
        rotate_left
        ·
         simp only [Act.put, List.setIfInBounds_toArray, List.set_cons_zero, List.set_cons_succ, i64_w, i32_w]
         rfl
        refine pure_ (i := 2) (N := some 19) (v := ?_) (a' := ?_) #[true, true, true, false, false, false, false, false, false, false] rfl rfl (any_of HT_.out (by kernel_rfl)) (fun _ _ _ h => h) (Or.inl ⟨by rfl, ?_⟩) ?_ ?_
        rotate_left
        ·
         intro w'
         go_simp
         with_reducible rfl
        rotate_left
        ·
         simp only [Act.put, List.setIfInBounds_toArray, List.set_cons_zero, List.set_cons_succ, i64_w, i32_w]
         rfl
        refine pure_ (i := 4) (N := some 21) (v := ?_) (a' := ?_) #[true, true, true, false, true, false, false, false, false, false] rfl rfl (any_of HT_.out (by kernel_rfl)) (fun _ _ _ h => h) (Or.inl ⟨by rfl, ?_⟩) ?_ ?_
        rotate_left
        ·
         intro w'
         go_simp
         with_reducible rfl
        rotate_left
        ·
         simp only [Act.put, List.setIfInBounds_toArray, List.set_cons_zero, List.set_cons_succ, i64_w, i32_w]
         rfl
        refine pure_ (i := 5) (N := some 22) (v := ?_) (a' := ?_) #[true, true, true, false, true, true, false, false, false, false] rfl rfl (any_of HT_.out (by kernel_rfl)) (fun _ _ _ h => h) (Or.inl ⟨by rfl, ?_⟩) ?_ ?_
        rotate_left
        ·
         intro w'
         go_simp
         with_reducible rfl
        rotate_left
        ·
         simp only [Act.put, List.setIfInBounds_toArray, List.set_cons_zero, List.set_cons_succ, i64_w, i32_w]
         rfl
        refine pure_ (i := 6) (N := some 23) (v := ?_) (a' := ?_) #[true, true, true, false, true, true, true, false, false, false] rfl rfl (any_of HT_.out (by kernel_rfl)) (fun _ _ _ h => h) (Or.inl ⟨by rfl, ?_⟩) ?_ ?_
        rotate_left
        ·
         intro w'
         go_simp
         with_reducible rfl
        rotate_left
        ·
         simp only [Act.put, List.setIfInBounds_toArray, List.set_cons_zero, List.set_cons_succ, i64_w, i32_w]
         rfl
        refine take_ (i := 3) (N := some 20) (v := ?_) (a' := ?_) #[true, true, true, true, true, true, true, false, false, false] rfl rfl (take_ofW HT_.out HW_.out (by kernel_rfl)) (fun _ _ _ h => h) (Or.inl ⟨by rfl, ?_⟩) hHeld ?_ ?_
        rotate_left
        ·
         rintro w' ⟨s0, s1, s2, s3⟩
         go_simp
         with_reducible rfl
        rotate_left
        ·
         simp only [Act.put, List.setIfInBounds_toArray, List.set_cons_zero, List.set_cons_succ, i64_w, i32_w]
         rfl
        refine take_ (i := 7) (N := some 24) (v := ?_) (a' := ?_) #[true, true, true, true, true, true, true, true, false, false] rfl rfl (take_ofW HT_.out HW_.out (by kernel_rfl)) (fun _ _ _ h => h) (Or.inl ⟨by rfl, ?_⟩) hHeld ?_ ?_
        rotate_left
        ·
         rintro w' ⟨s0, s1, s2, s3⟩
         go_simp
         with_reducible rfl
        rotate_left
        ·
         simp only [Act.put, List.setIfInBounds_toArray, List.set_cons_zero, List.set_cons_succ, i64_w, i32_w]
         rfl
        refine one_ (i := 8) (N := some 25) #[true, true, true, true, true, true, true, true, true, false] rfl rfl (one_of HT_.out (by kernel_rfl)) (by decide) (fun K hK => ?_)
        refine goes_ Tryd.func28 (by kernel_rfl) rfl #[.agg #[.int .i64 ((rd_T37 l0 x5_1).f0), .string ((rd_T37 l0 x5_1).f1)], .agg #[.int .i64 ((rd_T37 l1 x5_1).f0), .string ((rd_T37 l1 x5_1).f1)]] (by rfl) rfl rfl (by (try simp only [List.map_toArray, List.map_cons, List.map_nil]); first | done | rfl | (simp only [List.length_drop, List.length_take]; rfl)) ?_
        with_reducible refine (arbiterref02_Same.calls ((rd_T37 l0 x5_1).f0) ((rd_T37 l0 x5_1).f1) ((rd_T37 l1 x5_1).f0) ((rd_T37 l1 x5_1).f1) true _ A7.out).mono ?_
        rintro e w10 ⟨rfl, hb⟩
        refine ⟨_, rfl, ?_⟩
        have n0_ := Aside0.mk (below_step (by repeat (first | (with_reducible first | exact HB.out | apply below_alloc | apply pw_below_drewN | apply below_drew1) | exact HB.out)) hb)
        clear HB
        have HB := n0_
        clear n0_
        (try clear hb)
        (try clear hb2)
        (try clear hk)
        (try clear hi)
        refine hK.out _ _ ⟨((HB.out.cell (World.block_lt_of_cell? w _ hw121_0)).trans hw121_0), ((HB.out.cell (World.block_lt_of_cell? w _ hw121_1)).trans hw121_1), ((HB.out.cell (World.block_lt_of_cell? w _ hw122_0)).trans hw122_0), ((HB.out.cell (World.block_lt_of_cell? w _ hw122_1)).trans hw122_1)⟩ (fun hHeld => ?_)
        clear hK K
        refine norm_ (a' := ?_) ?_ ?_
        rotate_left
        ·
         show Act.put _ (some 25) _ = _
         simp only [Act.put, List.setIfInBounds_toArray, List.set_cons_zero, List.set_cons_succ, i64_w, i32_w]
         rfl
        refine pure_ (i := 9) (N := some 26) (v := ?_) (a' := ?_) #[true, true, true, true, true, true, true, true, true, true] rfl rfl (any_of HT_.out (by kernel_rfl)) (fun _ _ _ h => h) (Or.inl ⟨by rfl, ?_⟩) ?_ ?_
        rotate_left
        ·
         intro w'
         go_simp
         with_reducible rfl
        rotate_left
        ·
         simp only [Act.put, List.setIfInBounds_toArray, List.set_cons_zero, List.set_cons_succ, i64_w, i32_w]
         rfl
        refine done_ (done_of HT_.out (by kernel_rfl)) ?_
        try go_wp2
        go_roundg k1
        case measure => have := HK1.out; omega
        case rel => exact ⟨(wrap64 (x5_1 + 1)), (by first | rfl | (simp; done) | (simp [*]; done)), H', ⟨by have := HK1.out; omega⟩, ⟨by repeat (first | (with_reducible first | exact HB.out | apply below_alloc | apply pw_below_drewN | apply below_drew1) | exact HB.out)⟩⟩
       ·
        replace c8 := Bool.eq_false_iff.mpr c8
        subst c8
        have H1 : (some false) = some r := by rw [if_neg (show ¬ (false = true) by decide)] at H; exact H
        clear H
        have H := H1
        clear H1
        obtain rfl := Option.some.inj H
        try go_wp2
        have n0_ := Aside0.mk (below_drew1 HB.out)
        clear HB
        have HB := n0_
        clear n0_
        have p121 : 0 ≤ (x5_1 : Int) := of_decide_eq_true (by first | (with_reducible assumption) | assumption)
        have q121 : x5_1 < (l0.length : Int) := of_decide_eq_true (by first | (with_reducible assumption) | assumption)
        obtain ⟨ad121, e121, hx121_0, hx121_1⟩ := at_T37 HR0.out x5_1 p121 q121
        have hw121_1 := hx121_1
        have hw121_0 := hx121_0
        cases e121
        replace hx121_0 := (HB.out.cell (World.block_lt_of_cell? w _ hx121_0)).trans hx121_0
        replace hx121_1 := (HB.out.cell (World.block_lt_of_cell? w _ hx121_1)).trans hx121_1
        replace p121 := eq_true p121
        replace q121 := eq_true q121
        have p122 : 0 ≤ (x5_1 : Int) := of_decide_eq_true (by first | (with_reducible assumption) | assumption)
        have q122 : x5_1 < (l1.length : Int) := of_decide_eq_true (by first | (with_reducible assumption) | assumption)
        obtain ⟨ad122, e122, hx122_0, hx122_1⟩ := at_T37 HR1.out x5_1 p122 q122
        have hw122_1 := hx122_1
        have hw122_0 := hx122_0
        cases e122
        replace hx122_0 := (HB.out.cell (World.block_lt_of_cell? w _ hx122_0)).trans hx122_0
        replace hx122_1 := (HB.out.cell (World.block_lt_of_cell? w _ hx122_1)).trans hx122_1
        replace p122 := eq_true p122
        replace q122 := eq_true q122
        refine start_ (n := 10) (S := fun w' => w'.cell? (ad121.add ((x5_1).toNat * 2)) = some (.int .i64 ((rd_T37 l0 x5_1).f0)) ∧ w'.cell? ⟨(ad121.add ((x5_1).toNat * 2)).block, (ad121.add ((x5_1).toNat * 2)).off + 1, none⟩ = some (.string ((rd_T37 l0 x5_1).f1)) ∧ w'.cell? (ad122.add ((x5_1).toNat * 2)) = some (.int .i64 ((rd_T37 l1 x5_1).f0)) ∧ w'.cell? ⟨(ad122.add ((x5_1).toNat * 2)).block, (ad122.add ((x5_1).toNat * 2)).off + 1, none⟩ = some (.string ((rd_T37 l1 x5_1).f1))) (ds := []) #[false, false, false, false, false, false, false, false, false, false] (by kernel_rfl) rfl rfl ⟨((HB.out.cell (World.block_lt_of_cell? w _ hw121_0)).trans hw121_0), ((HB.out.cell (World.block_lt_of_cell? w _ hw121_1)).trans hw121_1), ((HB.out.cell (World.block_lt_of_cell? w _ hw122_0)).trans hw122_0), ((HB.out.cell (World.block_lt_of_cell? w _ hw122_1)).trans hw122_1)⟩ (fun hHeld => ?_); refine with_tabW arbiterref02_SameTypes.tab6 arbiterref02_SameTypes.bits6 (fun HT_ HW_ => ?_)
        generalize wr.drew = w11 at HB hx121_0 hx121_1 hx122_0 hx122_1 hHeld ⊢
        refine pure_ (i := 0) (N := some 17) (v := ?_) (a' := ?_) #[true, false, false, false, false, false, false, false, false, false] rfl rfl (any_of HT_.out (by kernel_rfl)) (fun _ _ _ h => h) (Or.inl ⟨by rfl, ?_⟩) ?_ ?_
        rotate_left
        ·
         intro w'
         go_simp
         with_reducible rfl
        rotate_left
        ·
         simp only [Act.put, List.setIfInBounds_toArray, List.set_cons_zero, List.set_cons_succ, i64_w, i32_w]
         rfl
        refine pure_ (i := 1) (N := some 18) (v := ?_) (a' := ?_) #[true, true, false, false, false, false, false, false, false, false] rfl rfl (any_of HT_.out (by kernel_rfl)) (fun _ _ _ h => h) (Or.inl ⟨by rfl, ?_⟩) ?_ ?_
        rotate_left
        ·
         intro w'
         go_simp
         with_reducible rfl
        rotate_left
        ·
         simp only [Act.put, List.setIfInBounds_toArray, List.set_cons_zero, List.set_cons_succ, i64_w, i32_w]
         rfl
        refine pure_ (i := 2) (N := some 19) (v := ?_) (a' := ?_) #[true, true, true, false, false, false, false, false, false, false] rfl rfl (any_of HT_.out (by kernel_rfl)) (fun _ _ _ h => h) (Or.inl ⟨by rfl, ?_⟩) ?_ ?_
        rotate_left
        ·
         intro w'
         go_simp
         with_reducible rfl
        rotate_left
        ·
         simp only [Act.put, List.setIfInBounds_toArray, List.set_cons_zero, List.set_cons_succ, i64_w, i32_w]
         rfl
        refine pure_ (i := 4) (N := some 21) (v := ?_) (a' := ?_) #[true, true, true, false, true, false, false, false, false, false] rfl rfl (any_of HT_.out (by kernel_rfl)) (fun _ _ _ h => h) (Or.inl ⟨by rfl, ?_⟩) ?_ ?_
        rotate_left
        ·
         intro w'
         go_simp
         with_reducible rfl
        rotate_left
        ·
         simp only [Act.put, List.setIfInBounds_toArray, List.set_cons_zero, List.set_cons_succ, i64_w, i32_w]
         rfl
        refine pure_ (i := 5) (N := some 22) (v := ?_) (a' := ?_) #[true, true, true, false, true, true, false, false, false, false] rfl rfl (any_of HT_.out (by kernel_rfl)) (fun _ _ _ h => h) (Or.inl ⟨by rfl, ?_⟩) ?_ ?_
        rotate_left
        ·
         intro w'
         go_simp
         with_reducible rfl
        rotate_left
        ·
         simp only [Act.put, List.setIfInBounds_toArray, List.set_cons_zero, List.set_cons_succ, i64_w, i32_w]
         rfl
        refine pure_ (i := 6) (N := some 23) (v := ?_) (a' := ?_) #[true, true, true, false, true, true, true, false, false, false] rfl rfl (any_of HT_.out (by kernel_rfl)) (fun _ _ _ h => h) (Or.inl ⟨by rfl, ?_⟩) ?_ ?_
        rotate_left
        ·
         intro w'
         go_simp
         with_reducible rfl
        rotate_left
        ·
         simp only [Act.put, List.setIfInBounds_toArray, List.set_cons_zero, List.set_cons_succ, i64_w, i32_w]
         rfl
        refine take_ (i := 3) (N := some 20) (v := ?_) (a' := ?_) #[true, true, true, true, true, true, true, false, false, false] rfl rfl (take_ofW HT_.out HW_.out (by kernel_rfl)) (fun _ _ _ h => h) (Or.inl ⟨by rfl, ?_⟩) hHeld ?_ ?_
        rotate_left
        ·
         rintro w' ⟨s0, s1, s2, s3⟩
         go_simp
         with_reducible rfl
        rotate_left
        ·
         simp only [Act.put, List.setIfInBounds_toArray, List.set_cons_zero, List.set_cons_succ, i64_w, i32_w]
         rfl
        refine take_ (i := 7) (N := some 24) (v := ?_) (a' := ?_) #[true, true, true, true, true, true, true, true, false, false] rfl rfl (take_ofW HT_.out HW_.out (by kernel_rfl)) (fun _ _ _ h => h) (Or.inl ⟨by rfl, ?_⟩) hHeld ?_ ?_
        rotate_left
        ·
         rintro w' ⟨s0, s1, s2, s3⟩
         go_simp
         with_reducible rfl
        rotate_left
        ·
         simp only [Act.put, List.setIfInBounds_toArray, List.set_cons_zero, List.set_cons_succ, i64_w, i32_w]
         rfl
        refine one_ (i := 8) (N := some 25) #[true, true, true, true, true, true, true, true, true, false] rfl rfl (one_of HT_.out (by kernel_rfl)) (by decide) (fun K hK => ?_)
        refine goes_ Tryd.func28 (by kernel_rfl) rfl #[.agg #[.int .i64 ((rd_T37 l0 x5_1).f0), .string ((rd_T37 l0 x5_1).f1)], .agg #[.int .i64 ((rd_T37 l1 x5_1).f0), .string ((rd_T37 l1 x5_1).f1)]] (by rfl) rfl rfl (by (try simp only [List.map_toArray, List.map_cons, List.map_nil]); first | done | rfl | (simp only [List.length_drop, List.length_take]; rfl)) ?_
        with_reducible refine (arbiterref02_Same.calls ((rd_T37 l0 x5_1).f0) ((rd_T37 l0 x5_1).f1) ((rd_T37 l1 x5_1).f0) ((rd_T37 l1 x5_1).f1) false _ A7.out).mono ?_
        rintro e w12 ⟨rfl, hb⟩
        refine ⟨_, rfl, ?_⟩
        have n0_ := Aside0.mk (below_step (by repeat (first | (with_reducible first | exact HB.out | apply below_alloc | apply pw_below_drewN | apply below_drew1) | exact HB.out)) hb)
        clear HB
        have HB := n0_
        clear n0_
        (try clear hb)
        (try clear hb2)
        (try clear hk)
        (try clear hi)
        refine hK.out _ _ ⟨((HB.out.cell (World.block_lt_of_cell? w _ hw121_0)).trans hw121_0), ((HB.out.cell (World.block_lt_of_cell? w _ hw121_1)).trans hw121_1), ((HB.out.cell (World.block_lt_of_cell? w _ hw122_0)).trans hw122_0), ((HB.out.cell (World.block_lt_of_cell? w _ hw122_1)).trans hw122_1)⟩ (fun hHeld => ?_)
        clear hK K
        refine norm_ (a' := ?_) ?_ ?_
        rotate_left
        ·
         show Act.put _ (some 25) _ = _
         simp only [Act.put, List.setIfInBounds_toArray, List.set_cons_zero, List.set_cons_succ, i64_w, i32_w]
         rfl
        refine pure_ (i := 9) (N := some 26) (v := ?_) (a' := ?_) #[true, true, true, true, true, true, true, true, true, true] rfl rfl (any_of HT_.out (by kernel_rfl)) (fun _ _ _ h => h) (Or.inl ⟨by rfl, ?_⟩) ?_ ?_
        rotate_left
        ·
         intro w'
         go_simp
         with_reducible rfl
        rotate_left
        ·
         simp only [Act.put, List.setIfInBounds_toArray, List.set_cons_zero, List.set_cons_succ, i64_w, i32_w]
         rfl
        refine done_ (done_of HT_.out (by kernel_rfl)) ?_
        try go_wp2
        go_ret
        exact ⟨by first | rfl | (simp [errW_none, errW_some] <;> rfl) | (simp [*, errW_none, errW_some] <;> rfl), by repeat (first | (with_reducible first | exact HB.out | apply below_alloc | apply pw_below_drewN | apply below_drew1) | exact HB.out)⟩
      ·
       rw [if_neg c6] at H
       exact absurd H (by simp)
     ·
      rw [if_neg c5] at H
      exact absurd H (by simp)
    ·
     rw [if_neg c4] at H
     have c4b0 : decide (x5_1 < (l0.length : Int)) = false := decide_eq_false c4
     clear c4
     obtain rfl := Option.some.inj H
     go_wp2
     go_ret
     exact ⟨by first | rfl | (simp [errW_none, errW_some] <;> rfl) | (simp [*, errW_none, errW_some] <;> rfl), by repeat (first | (with_reducible first | exact HB.out | apply below_alloc | apply pw_below_drewN | apply below_drew1) | exact HB.out)⟩
 ·
  rw [if_neg c3] at H
  have c3b0 : ((l0.length : Int) == (l1.length : Int)) = false := beq_eq_false_iff_ne.mpr c3
  have c3b1 : ((l0.length : Int) != (l1.length : Int)) = true := bne_iff_ne.mpr c3
  have c3b2 : (l0.length == l1.length) = false := by first | simpa using c3 | (simp at c3 ⊢; omega)
  obtain rfl := Option.some.inj H
  go_enter Tryd.func55, Tryd.ntmps55
  go_wp2
  go_ret
  exact ⟨by first | rfl | (simp [errW_none, errW_some] <;> rfl) | (simp [*, errW_none, errW_some] <;> rfl), by repeat (first | (with_reducible first | exact HB.out | apply below_alloc | apply pw_below_drewN | apply below_drew1) | exact HB.out)⟩

end Go.Proofs.YtpcdfjifhoofjaaDoor.Pt

-- laid by a program of this session's own (a variant of the kit's print)
namespace Go.Proofs.YtpcdfjifhoofjaaDoor.Pt
open Go.RowKit Go.Proofs.YtpcdfjifhoofjaaDoorW.PrintWords Go.Proofs.YtpcdfjifhoofjaaDoorW.PrintLast Go.Proofs.YtpcdfjifhoofjaaDoorW.PrintMore
attribute [local go_sem] max2_int min2_int max_two min_two max_three min_three max_four min_four   -- for this text's walks alone
set_option linter.unusedVariables false
set_option linter.unusedSimpArgs false

/-! ### arbiterref02_SameDesc: function 33 -/
def arbiterref02_SameDesc.f (k : Nat) (l0_0 : List (S37)) (a0_1 : Bool) (a0_2 : Int) (a0_3 : ByteArray) (l1_0 : List (S37)) (a1_1 : Bool) (a1_2 : Int) (a1_3 : ByteArray) : Option (Bool) := if (a0_1 == a1_1) = true then ((arbiterref02_Same.f a0_2 a0_3 a1_2 a1_3).bind fun t126 => (if t126 = true then ((arbiterref02_SameTypes.f k l0_0 l1_0).bind fun t127 => (some t127)) else (some false))) else (some false)
theorem arbiterref02_SameDesc.mono : ∀ a0 a1 a2 a3 a4 a5 a6 a7 k, LeO (arbiterref02_SameDesc.f k a0 a1 a2 a3 a4 a5 a6 a7) (arbiterref02_SameDesc.f (k + 1) a0 a1 a2 a3 a4 a5 a6 a7) := by
 intro a0 a1 a2 a3 a4 a5 a6 a7 k
 unfold arbiterref02_SameDesc.f
 repeat' first
   | (with_reducible exact arbiterref02_SameTypes.mono _ _ _)
   | (with_reducible exact LeO.refl _)
   | (with_reducible exact LeO.none _)
   | (with_reducible refine LeO.ite ?_ ?_)
   | (with_reducible refine LeO.bind ?_ (fun _ => ?_))
   | exact arbiterref02_SameTypes.mono _ _ _
   | exact LeO.none _
   | refine LeO.ite ?_ ?_
   | refine LeO.bind ?_ (fun _ => ?_)
set_option maxHeartbeats 8000000 in
set_option maxRecDepth 100000 in
theorem arbiterref02_SameDesc.calls (k : Nat) (A0_0 : Option Addr) (c0_0 : Nat) (l0_0 : List (S37)) (a0_1 : Bool) (a0_2 : Int) (a0_3 : ByteArray) (A1_0 : Option Addr) (c1_0 : Nat) (l1_0 : List (S37)) (a1_1 : Bool) (a1_2 : Int) (a1_3 : ByteArray) (r : Bool) (w : World) (hr0_0 : Kd.C k37 w A0_0 l0_0.length l0_0) (hc0_0 : l0_0.length ≤ c0_0) (hr1_0 : Kd.C k37 w A1_0 l1_0.length l1_0) (hc1_0 : l1_0.length ≤ c1_0) (h : arbiterref02_SameDesc.f k l0_0 a0_1 a0_2 a0_3 l1_0 a1_1 a1_2 a1_3 = some r) :
  Calls Tryd.prog 33 #[.agg #[.slice A0_0 l0_0.length c0_0, .bool a0_1, .int .i64 a0_2, .string a0_3], .agg #[.slice A1_0 l1_0.length c1_0, .bool a1_1, .int .i64 a1_2, .string a1_3]] w fun e w' => e = .returned (.bool r) ∧ Below w.heap.size w w' := by
 have hu43 := Tryd.underlying43
 have hu37 := Tryd.underlying37
 have HR0_0 := Aside0.mk hr0_0
 have HC0_0 := Aside0.mk hc0_0
 clear hr0_0 hc0_0
 have HR1_0 := Aside0.mk hr1_0
 have HC1_0 := Aside0.mk hc1_0
 clear hr1_0 hc1_0
 have HB := Aside0.mk (Below.refl w.heap.size w)
 have H : (if (a0_1 == a1_1) = true then ((arbiterref02_Same.f a0_2 a0_3 a1_2 a1_3).bind fun t126 => (if t126 = true then ((arbiterref02_SameTypes.f k l0_0 l1_0).bind fun t127 => (some t127)) else (some false))) else (some false)) = some r := h
 clear h
 by_cases c3 : (a0_1 == a1_1) = true
 ·
  rw [if_pos c3] at H
  have c3b0 : (a0_1 == a1_1) = true := c3
  (try (have c3b1 : decide (a0_1 = a1_1) = true := by simpa using c3))
  (try (have c3b2 : (a0_1 == a1_1) = true := by simpa using c3))
  clear c3
  replace H := Option.bind_eq_some_iff.mp H
  obtain ⟨t126, A40, H⟩ := H
  replace H : (if t126 = true then ((arbiterref02_SameTypes.f k l0_0 l1_0).bind fun t127 => (some t127)) else (some false)) = some r := H
  have A4 := Aside0.mk A40
  clear A40
  by_cases c5 : t126 = true
  ·
   subst c5
   have H1 : ((arbiterref02_SameTypes.f k l0_0 l1_0).bind fun t127 => (some t127)) = some r := by rw [if_pos rfl] at H; exact H
   clear H
   have H := H1
   clear H1
   replace H := Option.bind_eq_some_iff.mp H
   obtain ⟨t127, A60, H⟩ := H
   replace H : (some t127) = some r := H
   have A6 := Aside0.mk A60
   clear A60
   obtain rfl := Option.some.inj H
   go_enter Tryd.func33, Tryd.ntmps33
   go_wp2_with (first | ((with_reducible refine gate_dst (N := 2) rfl ?_); refine box_event ?hg (N := 2) ?hd (cs := #[.slice A0_0 l0_0.length c0_0, .bool a0_1, .int .i64 a0_2, .string a0_3]) (t := 43) ?hr ?_; (case hd => rfl); (case hg => rfl); (case hr => first | (go_simp; done) | (go_simp; rfl)); intro gb124 hg w7 hbox hb; have n0_ := Aside0.mk (below_step (by repeat (first | (with_reducible first | exact HB.out | apply below_alloc | apply pw_below_drewN | apply below_drew1) | exact HB.out)) hb); have n1_ := Aside0.mk (hbox); have n2_ := Aside0.mk ((by rw [hg]; exact (below_size (by repeat (first | (with_reducible first | exact HB.out | apply below_alloc | apply pw_below_drewN | apply below_drew1) | exact HB.out))) : w.heap.size ≤ gb124)); have n3_ := Aside0.mk ((by rw [hg]; exact (below_size (by repeat (first | (with_reducible first | exact HB.out | apply below_alloc | apply pw_below_drewN | apply below_drew1) | exact HB.out))) : w.heap.size ≤ gb124)); clear HB; have HB := n0_; have BK124 := n1_; have GW124 := n2_; have GE124 := n3_; clear n0_ n1_ n2_ n3_; clear hb hbox hg) | ((with_reducible refine gate_dst (N := 3) rfl ?_); refine box_event ?hg (N := 3) ?hd (cs := #[.slice A1_0 l1_0.length c1_0, .bool a1_1, .int .i64 a1_2, .string a1_3]) (t := 43) ?hr ?_; (case hd => rfl); (case hg => rfl); (case hr => first | (go_simp; done) | (go_simp; rfl)); intro gb125 hg w8 hbox hb; have n0_ := Aside0.mk (blk_below (g := gb124) (o := .cells #[.slice A0_0 l0_0.length c0_0, .bool a0_1, .int .i64 a0_2, .string a0_3] 43 (0, 0)) (by (with_reducible repeat (first | refine blk_drewN ?_ _ | refine blk_drew ?_ | refine blk_alloc ?_ _)); exact BK124.out) hb); have n1_ := Aside0.mk (below_step (by repeat (first | (with_reducible first | exact HB.out | apply below_alloc | apply pw_below_drewN | apply below_drew1 | refine below_set ?_ GE124.out) | exact HB.out)) hb); have n2_ := Aside0.mk (hbox); have n3_ := Aside0.mk ((by rw [hg]; exact (below_size (by repeat (first | (with_reducible first | exact HB.out | apply below_alloc | apply pw_below_drewN | apply below_drew1 | refine below_set ?_ GE124.out) | exact HB.out))) : w.heap.size ≤ gb125)); have n4_ := Aside0.mk ((by rw [hg]; exact (below_size (by repeat (first | (with_reducible first | exact HB.out | apply below_alloc | apply pw_below_drewN | apply below_drew1 | refine below_set ?_ GE124.out) | exact HB.out))) : w.heap.size ≤ gb125)); have n5_ := Aside0.mk ((by rw [hg]; exact Nat.ne_of_lt (blk_lt (g := gb124) (o := .cells #[.slice A0_0 l0_0.length c0_0, .bool a0_1, .int .i64 a0_2, .string a0_3] 43 (0, 0)) (by (with_reducible repeat (first | refine blk_drewN ?_ _ | refine blk_drew ?_ | refine blk_alloc ?_ _)); exact BK124.out)) : gb124 ≠ gb125)); have n6_ := Aside0.mk ((by rw [hg]; exact Nat.ne_of_gt (blk_lt (g := gb124) (o := .cells #[.slice A0_0 l0_0.length c0_0, .bool a0_1, .int .i64 a0_2, .string a0_3] 43 (0, 0)) (by (with_reducible repeat (first | refine blk_drewN ?_ _ | refine blk_drew ?_ | refine blk_alloc ?_ _)); exact BK124.out)) : gb125 ≠ gb124)); clear BK124; clear HB; have BK124 := n0_; have HB := n1_; have BK125 := n2_; have GW125 := n3_; have GE125 := n4_; have NB124_125 := n5_; have NB125_124 := n6_; clear n0_ n1_ n2_ n3_ n4_ n5_ n6_; clear hb hbox hg; have hnb9 := NB124_125.out; have hnc9 := NB125_124.out; have hcz10_0 : w8.cell? ⟨gb124, 0, none⟩ = some (.slice A0_0 l0_0.length c0_0) := (blk_cell BK124.out 0).trans rfl; have hcz10_1 : w8.cell? ⟨gb124, 1, none⟩ = some (.bool a0_1) := (blk_cell BK124.out 1).trans rfl; have hcz10_2 : w8.cell? ⟨gb124, 2, none⟩ = some (.int .i64 a0_2) := (blk_cell BK124.out 2).trans rfl; have hcz10_3 : w8.cell? ⟨gb124, 3, none⟩ = some (.string a0_3) := (blk_cell BK124.out 3).trans rfl; have hfz10_0 := blk_frozen BK124.out 0; have hfz10_1 := blk_frozen BK124.out 1; have hfz10_2 := blk_frozen BK124.out 2; have hfz10_3 := blk_frozen BK124.out 3; have hcz11_0 : w8.cell? ⟨gb125, 0, none⟩ = some (.slice A1_0 l1_0.length c1_0) := (blk_cell BK125.out 0).trans rfl; have hcz11_1 : w8.cell? ⟨gb125, 1, none⟩ = some (.bool a1_1) := (blk_cell BK125.out 1).trans rfl; have hcz11_2 : w8.cell? ⟨gb125, 2, none⟩ = some (.int .i64 a1_2) := (blk_cell BK125.out 2).trans rfl; have hcz11_3 : w8.cell? ⟨gb125, 3, none⟩ = some (.string a1_3) := (blk_cell BK125.out 3).trans rfl; have hfz11_0 := blk_frozen BK125.out 0; have hfz11_1 := blk_frozen BK125.out 1; have hfz11_2 := blk_frozen BK125.out 2; have hfz11_3 := blk_frozen BK125.out 3) | (go_at_call 28; (with_reducible refine (arbiterref02_Same.calls a0_2 a0_3 a1_2 a1_3 true _ A4.out).mono ?_); rintro e w12 ⟨rfl, hb⟩; have n0_ := Aside0.mk (blk_below (g := gb124) (o := .cells #[.slice A0_0 l0_0.length c0_0, .bool a0_1, .int .i64 a0_2, .string a0_3] 43 (0, 0)) (by (with_reducible repeat (first | refine blk_drewN ?_ _ | refine blk_drew ?_ | refine blk_alloc ?_ _)); exact BK124.out) hb); have n1_ := Aside0.mk (blk_below (g := gb125) (o := .cells #[.slice A1_0 l1_0.length c1_0, .bool a1_1, .int .i64 a1_2, .string a1_3] 43 (0, 0)) (by (with_reducible repeat (first | refine blk_drewN ?_ _ | refine blk_drew ?_ | refine blk_alloc ?_ _)); exact BK125.out) hb); have n2_ := Aside0.mk (below_step (by repeat (first | (with_reducible first | exact HB.out | apply below_alloc | apply pw_below_drewN | apply below_drew1 | refine below_set ?_ GE124.out | refine below_set ?_ GE125.out) | exact HB.out)) hb); clear BK124; clear BK125; clear HB; have BK124 := n0_; have BK125 := n1_; have HB := n2_; clear n0_ n1_ n2_; (try clear hb); (try clear hb2); (try clear hk); (try clear hi); have hcz13_0 : w12.cell? ⟨gb124, 0, none⟩ = some (.slice A0_0 l0_0.length c0_0) := (blk_cell BK124.out 0).trans rfl; have hcz13_1 : w12.cell? ⟨gb124, 1, none⟩ = some (.bool a0_1) := (blk_cell BK124.out 1).trans rfl; have hcz13_2 : w12.cell? ⟨gb124, 2, none⟩ = some (.int .i64 a0_2) := (blk_cell BK124.out 2).trans rfl; have hcz13_3 : w12.cell? ⟨gb124, 3, none⟩ = some (.string a0_3) := (blk_cell BK124.out 3).trans rfl; have hfz13_0 := blk_frozen BK124.out 0; have hfz13_1 := blk_frozen BK124.out 1; have hfz13_2 := blk_frozen BK124.out 2; have hfz13_3 := blk_frozen BK124.out 3; have hcz14_0 : w12.cell? ⟨gb125, 0, none⟩ = some (.slice A1_0 l1_0.length c1_0) := (blk_cell BK125.out 0).trans rfl; have hcz14_1 : w12.cell? ⟨gb125, 1, none⟩ = some (.bool a1_1) := (blk_cell BK125.out 1).trans rfl; have hcz14_2 : w12.cell? ⟨gb125, 2, none⟩ = some (.int .i64 a1_2) := (blk_cell BK125.out 2).trans rfl; have hcz14_3 : w12.cell? ⟨gb125, 3, none⟩ = some (.string a1_3) := (blk_cell BK125.out 3).trans rfl; have hfz14_0 := blk_frozen BK125.out 0; have hfz14_1 := blk_frozen BK125.out 1; have hfz14_2 := blk_frozen BK125.out 2; have hfz14_3 := blk_frozen BK125.out 3) | (go_at_call 55; (with_reducible refine (arbiterref02_SameTypes.calls k _ _ l0_0 _ _ l1_0 t127 _ ?side1 ?side2 ?side3 ?side4 A6.out).mono ?_); (case side1 => repeat (first | exact (Kd.C_below HR0_0.out HB.out) | (with_reducible refine Kd.C_alloc ?_ _) | (with_reducible refine Kd.C_drewN ?_ _) | (with_reducible refine Kd.C_drew ?_))); (case side2 => exact HC0_0.out); (case side3 => repeat (first | exact (Kd.C_below HR1_0.out HB.out) | (with_reducible refine Kd.C_alloc ?_ _) | (with_reducible refine Kd.C_drewN ?_ _) | (with_reducible refine Kd.C_drew ?_))); (case side4 => exact HC1_0.out); rintro e w15 ⟨rfl, hb⟩; have n0_ := Aside0.mk (blk_below (g := gb124) (o := .cells #[.slice A0_0 l0_0.length c0_0, .bool a0_1, .int .i64 a0_2, .string a0_3] 43 (0, 0)) (by (with_reducible repeat (first | refine blk_drewN ?_ _ | refine blk_drew ?_ | refine blk_alloc ?_ _)); exact BK124.out) hb); have n1_ := Aside0.mk (blk_below (g := gb125) (o := .cells #[.slice A1_0 l1_0.length c1_0, .bool a1_1, .int .i64 a1_2, .string a1_3] 43 (0, 0)) (by (with_reducible repeat (first | refine blk_drewN ?_ _ | refine blk_drew ?_ | refine blk_alloc ?_ _)); exact BK125.out) hb); have n2_ := Aside0.mk (below_step (by repeat (first | (with_reducible first | exact HB.out | apply below_alloc | apply pw_below_drewN | apply below_drew1 | refine below_set ?_ GE124.out | refine below_set ?_ GE125.out) | exact HB.out)) hb); clear BK124; clear BK125; clear HB; have BK124 := n0_; have BK125 := n1_; have HB := n2_; clear n0_ n1_ n2_; (try clear hb); (try clear hb2); (try clear hk); (try clear hi)))
   go_ret
   exact ⟨by first | rfl | (simp [errW_none, errW_some] <;> rfl) | (simp [*, errW_none, errW_some] <;> rfl), by repeat (first | (with_reducible first | exact HB.out | apply below_alloc | apply pw_below_drewN | apply below_drew1 | refine below_set ?_ GE124.out | refine below_set ?_ GE125.out) | exact HB.out)⟩
  ·
   replace c5 := Bool.eq_false_iff.mpr c5
   subst c5
   have H1 : (some false) = some r := by rw [if_neg (show ¬ (false = true) by decide)] at H; exact H
   clear H
   have H := H1
   clear H1
   obtain rfl := Option.some.inj H
   go_enter Tryd.func33, Tryd.ntmps33
   go_wp2_with (first | ((with_reducible refine gate_dst (N := 2) rfl ?_); refine box_event ?hg (N := 2) ?hd (cs := #[.slice A0_0 l0_0.length c0_0, .bool a0_1, .int .i64 a0_2, .string a0_3]) (t := 43) ?hr ?_; (case hd => rfl); (case hg => rfl); (case hr => first | (go_simp; done) | (go_simp; rfl)); intro gb124 hg w16 hbox hb; have n0_ := Aside0.mk (below_step (by repeat (first | (with_reducible first | exact HB.out | apply below_alloc | apply pw_below_drewN | apply below_drew1) | exact HB.out)) hb); have n1_ := Aside0.mk (hbox); have n2_ := Aside0.mk ((by rw [hg]; exact (below_size (by repeat (first | (with_reducible first | exact HB.out | apply below_alloc | apply pw_below_drewN | apply below_drew1) | exact HB.out))) : w.heap.size ≤ gb124)); have n3_ := Aside0.mk ((by rw [hg]; exact (below_size (by repeat (first | (with_reducible first | exact HB.out | apply below_alloc | apply pw_below_drewN | apply below_drew1) | exact HB.out))) : w.heap.size ≤ gb124)); clear HB; have HB := n0_; have BK124 := n1_; have GW124 := n2_; have GE124 := n3_; clear n0_ n1_ n2_ n3_; clear hb hbox hg) | ((with_reducible refine gate_dst (N := 3) rfl ?_); refine box_event ?hg (N := 3) ?hd (cs := #[.slice A1_0 l1_0.length c1_0, .bool a1_1, .int .i64 a1_2, .string a1_3]) (t := 43) ?hr ?_; (case hd => rfl); (case hg => rfl); (case hr => first | (go_simp; done) | (go_simp; rfl)); intro gb125 hg w17 hbox hb; have n0_ := Aside0.mk (blk_below (g := gb124) (o := .cells #[.slice A0_0 l0_0.length c0_0, .bool a0_1, .int .i64 a0_2, .string a0_3] 43 (0, 0)) (by (with_reducible repeat (first | refine blk_drewN ?_ _ | refine blk_drew ?_ | refine blk_alloc ?_ _)); exact BK124.out) hb); have n1_ := Aside0.mk (below_step (by repeat (first | (with_reducible first | exact HB.out | apply below_alloc | apply pw_below_drewN | apply below_drew1 | refine below_set ?_ GE124.out) | exact HB.out)) hb); have n2_ := Aside0.mk (hbox); have n3_ := Aside0.mk ((by rw [hg]; exact (below_size (by repeat (first | (with_reducible first | exact HB.out | apply below_alloc | apply pw_below_drewN | apply below_drew1 | refine below_set ?_ GE124.out) | exact HB.out))) : w.heap.size ≤ gb125)); have n4_ := Aside0.mk ((by rw [hg]; exact (below_size (by repeat (first | (with_reducible first | exact HB.out | apply below_alloc | apply pw_below_drewN | apply below_drew1 | refine below_set ?_ GE124.out) | exact HB.out))) : w.heap.size ≤ gb125)); have n5_ := Aside0.mk ((by rw [hg]; exact Nat.ne_of_lt (blk_lt (g := gb124) (o := .cells #[.slice A0_0 l0_0.length c0_0, .bool a0_1, .int .i64 a0_2, .string a0_3] 43 (0, 0)) (by (with_reducible repeat (first | refine blk_drewN ?_ _ | refine blk_drew ?_ | refine blk_alloc ?_ _)); exact BK124.out)) : gb124 ≠ gb125)); have n6_ := Aside0.mk ((by rw [hg]; exact Nat.ne_of_gt (blk_lt (g := gb124) (o := .cells #[.slice A0_0 l0_0.length c0_0, .bool a0_1, .int .i64 a0_2, .string a0_3] 43 (0, 0)) (by (with_reducible repeat (first | refine blk_drewN ?_ _ | refine blk_drew ?_ | refine blk_alloc ?_ _)); exact BK124.out)) : gb125 ≠ gb124)); clear BK124; clear HB; have BK124 := n0_; have HB := n1_; have BK125 := n2_; have GW125 := n3_; have GE125 := n4_; have NB124_125 := n5_; have NB125_124 := n6_; clear n0_ n1_ n2_ n3_ n4_ n5_ n6_; clear hb hbox hg; have hnb18 := NB124_125.out; have hnc18 := NB125_124.out; have hcz19_0 : w17.cell? ⟨gb124, 0, none⟩ = some (.slice A0_0 l0_0.length c0_0) := (blk_cell BK124.out 0).trans rfl; have hcz19_1 : w17.cell? ⟨gb124, 1, none⟩ = some (.bool a0_1) := (blk_cell BK124.out 1).trans rfl; have hcz19_2 : w17.cell? ⟨gb124, 2, none⟩ = some (.int .i64 a0_2) := (blk_cell BK124.out 2).trans rfl; have hcz19_3 : w17.cell? ⟨gb124, 3, none⟩ = some (.string a0_3) := (blk_cell BK124.out 3).trans rfl; have hfz19_0 := blk_frozen BK124.out 0; have hfz19_1 := blk_frozen BK124.out 1; have hfz19_2 := blk_frozen BK124.out 2; have hfz19_3 := blk_frozen BK124.out 3; have hcz20_0 : w17.cell? ⟨gb125, 0, none⟩ = some (.slice A1_0 l1_0.length c1_0) := (blk_cell BK125.out 0).trans rfl; have hcz20_1 : w17.cell? ⟨gb125, 1, none⟩ = some (.bool a1_1) := (blk_cell BK125.out 1).trans rfl; have hcz20_2 : w17.cell? ⟨gb125, 2, none⟩ = some (.int .i64 a1_2) := (blk_cell BK125.out 2).trans rfl; have hcz20_3 : w17.cell? ⟨gb125, 3, none⟩ = some (.string a1_3) := (blk_cell BK125.out 3).trans rfl; have hfz20_0 := blk_frozen BK125.out 0; have hfz20_1 := blk_frozen BK125.out 1; have hfz20_2 := blk_frozen BK125.out 2; have hfz20_3 := blk_frozen BK125.out 3) | (go_at_call 28; (with_reducible refine (arbiterref02_Same.calls a0_2 a0_3 a1_2 a1_3 false _ A4.out).mono ?_); rintro e w21 ⟨rfl, hb⟩; have n0_ := Aside0.mk (blk_below (g := gb124) (o := .cells #[.slice A0_0 l0_0.length c0_0, .bool a0_1, .int .i64 a0_2, .string a0_3] 43 (0, 0)) (by (with_reducible repeat (first | refine blk_drewN ?_ _ | refine blk_drew ?_ | refine blk_alloc ?_ _)); exact BK124.out) hb); have n1_ := Aside0.mk (blk_below (g := gb125) (o := .cells #[.slice A1_0 l1_0.length c1_0, .bool a1_1, .int .i64 a1_2, .string a1_3] 43 (0, 0)) (by (with_reducible repeat (first | refine blk_drewN ?_ _ | refine blk_drew ?_ | refine blk_alloc ?_ _)); exact BK125.out) hb); have n2_ := Aside0.mk (below_step (by repeat (first | (with_reducible first | exact HB.out | apply below_alloc | apply pw_below_drewN | apply below_drew1 | refine below_set ?_ GE124.out | refine below_set ?_ GE125.out) | exact HB.out)) hb); clear BK124; clear BK125; clear HB; have BK124 := n0_; have BK125 := n1_; have HB := n2_; clear n0_ n1_ n2_; (try clear hb); (try clear hb2); (try clear hk); (try clear hi)))
   go_ret
   exact ⟨by first | rfl | (simp [errW_none, errW_some] <;> rfl) | (simp [*, errW_none, errW_some] <;> rfl), by repeat (first | (with_reducible first | exact HB.out | apply below_alloc | apply pw_below_drewN | apply below_drew1 | refine below_set ?_ GE124.out | refine below_set ?_ GE125.out) | exact HB.out)⟩
 ·
  rw [if_neg c3] at H
  have c3b0 : (a0_1 == a1_1) = false := by simpa using c3
  (try (have c3b1 : decide (a0_1 = a1_1) = false := by simpa using c3))
  (try (have c3b2 : (a0_1 == a1_1) = false := by simpa using c3))
  (try (have c3b3 : ¬ (a0_1 = a1_1) := by simpa using c3))
  clear c3
  obtain rfl := Option.some.inj H
  go_enter Tryd.func33, Tryd.ntmps33
  go_wp2_with (first | ((with_reducible refine gate_dst (N := 2) rfl ?_); refine box_event ?hg (N := 2) ?hd (cs := #[.slice A0_0 l0_0.length c0_0, .bool a0_1, .int .i64 a0_2, .string a0_3]) (t := 43) ?hr ?_; (case hd => rfl); (case hg => rfl); (case hr => first | (go_simp; done) | (go_simp; rfl)); intro gb124 hg w22 hbox hb; have n0_ := Aside0.mk (below_step (by repeat (first | (with_reducible first | exact HB.out | apply below_alloc | apply pw_below_drewN | apply below_drew1) | exact HB.out)) hb); have n1_ := Aside0.mk (hbox); have n2_ := Aside0.mk ((by rw [hg]; exact (below_size (by repeat (first | (with_reducible first | exact HB.out | apply below_alloc | apply pw_below_drewN | apply below_drew1) | exact HB.out))) : w.heap.size ≤ gb124)); have n3_ := Aside0.mk ((by rw [hg]; exact (below_size (by repeat (first | (with_reducible first | exact HB.out | apply below_alloc | apply pw_below_drewN | apply below_drew1) | exact HB.out))) : w.heap.size ≤ gb124)); clear HB; have HB := n0_; have BK124 := n1_; have GW124 := n2_; have GE124 := n3_; clear n0_ n1_ n2_ n3_; clear hb hbox hg) | ((with_reducible refine gate_dst (N := 3) rfl ?_); refine box_event ?hg (N := 3) ?hd (cs := #[.slice A1_0 l1_0.length c1_0, .bool a1_1, .int .i64 a1_2, .string a1_3]) (t := 43) ?hr ?_; (case hd => rfl); (case hg => rfl); (case hr => first | (go_simp; done) | (go_simp; rfl)); intro gb125 hg w23 hbox hb; have n0_ := Aside0.mk (blk_below (g := gb124) (o := .cells #[.slice A0_0 l0_0.length c0_0, .bool a0_1, .int .i64 a0_2, .string a0_3] 43 (0, 0)) (by (with_reducible repeat (first | refine blk_drewN ?_ _ | refine blk_drew ?_ | refine blk_alloc ?_ _)); exact BK124.out) hb); have n1_ := Aside0.mk (below_step (by repeat (first | (with_reducible first | exact HB.out | apply below_alloc | apply pw_below_drewN | apply below_drew1 | refine below_set ?_ GE124.out) | exact HB.out)) hb); have n2_ := Aside0.mk (hbox); have n3_ := Aside0.mk ((by rw [hg]; exact (below_size (by repeat (first | (with_reducible first | exact HB.out | apply below_alloc | apply pw_below_drewN | apply below_drew1 | refine below_set ?_ GE124.out) | exact HB.out))) : w.heap.size ≤ gb125)); have n4_ := Aside0.mk ((by rw [hg]; exact (below_size (by repeat (first | (with_reducible first | exact HB.out | apply below_alloc | apply pw_below_drewN | apply below_drew1 | refine below_set ?_ GE124.out) | exact HB.out))) : w.heap.size ≤ gb125)); have n5_ := Aside0.mk ((by rw [hg]; exact Nat.ne_of_lt (blk_lt (g := gb124) (o := .cells #[.slice A0_0 l0_0.length c0_0, .bool a0_1, .int .i64 a0_2, .string a0_3] 43 (0, 0)) (by (with_reducible repeat (first | refine blk_drewN ?_ _ | refine blk_drew ?_ | refine blk_alloc ?_ _)); exact BK124.out)) : gb124 ≠ gb125)); have n6_ := Aside0.mk ((by rw [hg]; exact Nat.ne_of_gt (blk_lt (g := gb124) (o := .cells #[.slice A0_0 l0_0.length c0_0, .bool a0_1, .int .i64 a0_2, .string a0_3] 43 (0, 0)) (by (with_reducible repeat (first | refine blk_drewN ?_ _ | refine blk_drew ?_ | refine blk_alloc ?_ _)); exact BK124.out)) : gb125 ≠ gb124)); clear BK124; clear HB; have BK124 := n0_; have HB := n1_; have BK125 := n2_; have GW125 := n3_; have GE125 := n4_; have NB124_125 := n5_; have NB125_124 := n6_; clear n0_ n1_ n2_ n3_ n4_ n5_ n6_; clear hb hbox hg; have hnb24 := NB124_125.out; have hnc24 := NB125_124.out; have hcz25_0 : w23.cell? ⟨gb124, 0, none⟩ = some (.slice A0_0 l0_0.length c0_0) := (blk_cell BK124.out 0).trans rfl; have hcz25_1 : w23.cell? ⟨gb124, 1, none⟩ = some (.bool a0_1) := (blk_cell BK124.out 1).trans rfl; have hcz25_2 : w23.cell? ⟨gb124, 2, none⟩ = some (.int .i64 a0_2) := (blk_cell BK124.out 2).trans rfl; have hcz25_3 : w23.cell? ⟨gb124, 3, none⟩ = some (.string a0_3) := (blk_cell BK124.out 3).trans rfl; have hfz25_0 := blk_frozen BK124.out 0; have hfz25_1 := blk_frozen BK124.out 1; have hfz25_2 := blk_frozen BK124.out 2; have hfz25_3 := blk_frozen BK124.out 3; have hcz26_0 : w23.cell? ⟨gb125, 0, none⟩ = some (.slice A1_0 l1_0.length c1_0) := (blk_cell BK125.out 0).trans rfl; have hcz26_1 : w23.cell? ⟨gb125, 1, none⟩ = some (.bool a1_1) := (blk_cell BK125.out 1).trans rfl; have hcz26_2 : w23.cell? ⟨gb125, 2, none⟩ = some (.int .i64 a1_2) := (blk_cell BK125.out 2).trans rfl; have hcz26_3 : w23.cell? ⟨gb125, 3, none⟩ = some (.string a1_3) := (blk_cell BK125.out 3).trans rfl; have hfz26_0 := blk_frozen BK125.out 0; have hfz26_1 := blk_frozen BK125.out 1; have hfz26_2 := blk_frozen BK125.out 2; have hfz26_3 := blk_frozen BK125.out 3))
  go_ret
  exact ⟨by first | rfl | (simp [errW_none, errW_some] <;> rfl) | (simp [*, errW_none, errW_some] <;> rfl), by repeat (first | (with_reducible first | exact HB.out | apply below_alloc | apply pw_below_drewN | apply below_drew1 | refine below_set ?_ GE124.out | refine below_set ?_ GE125.out) | exact HB.out)⟩

/-! ### arbiterref02_Args: function 35 -/
def arbiterref02_Args.f (k : Nat) (a0 : ByteArray) : Option (Int × Int) := (arbiterref02_ParseDesc.f k a0).bind fun bt128 => (some ((bt128.1.length : Int), bt128.2.2.2.2))
theorem arbiterref02_Args.mono : ∀ a0 k, LeO (arbiterref02_Args.f k a0) (arbiterref02_Args.f (k + 1) a0) := by
 intro a0 k
 unfold arbiterref02_Args.f
 repeat' first
   | (with_reducible exact arbiterref02_ParseDesc.mono _ _)
   | (with_reducible exact LeO.refl _)
   | (with_reducible exact LeO.none _)
   | (with_reducible refine LeO.ite ?_ ?_)
   | (with_reducible refine LeO.bind ?_ (fun _ => ?_))
   | exact arbiterref02_ParseDesc.mono _ _
   | exact LeO.none _
   | refine LeO.ite ?_ ?_
   | refine LeO.bind ?_ (fun _ => ?_)
set_option maxHeartbeats 8000000 in
set_option maxRecDepth 100000 in
theorem arbiterref02_Args.calls (k : Nat) (a0 : ByteArray) (r1 : Int) (r2 : Int) (w : World) (h : arbiterref02_Args.f k a0 = some (r1, r2)) :
  Calls Tryd.prog 35 #[.string a0] w fun e w' => e = .returned (.tuple #[.int .i64 r1, .int .i64 r2]) ∧ Below w.heap.size w w' := by
 have hu43 := Tryd.underlying43
 have HB := Aside0.mk (Below.refl w.heap.size w)
 have H : ((arbiterref02_ParseDesc.f k a0).bind fun bt128 => (some ((bt128.1.length : Int), bt128.2.2.2.2))) = some (r1, r2) := h
 clear h
 replace H := Option.bind_eq_some_iff.mp H
 obtain ⟨⟨t128, t131, t132, t133, t134⟩, A20, H⟩ := H
 replace H : (some ((t128.length : Int), t134)) = some (r1, r2) := H
 have A2 := Aside0.mk A20
 clear A20
 simp only [Option.some.injEq, Prod.mk.injEq] at H
 obtain ⟨rfl, rfl⟩ := H
 go_enter Tryd.func35, Tryd.ntmps35
 go_wp2_with (first | ((with_reducible refine gate_callee (f := 32) rfl ?_); refine goesL_ (some 8) rfl rfl Tryd.func32 (by kernel_rfl) rfl #[.string a0] rfl (by (try simp only [List.map_toArray, List.map_cons, List.map_nil]); first | done | rfl | (simp only [List.length_drop, List.length_take]; rfl)) ?_; (with_reducible refine (arbiterref02_ParseDesc.calls k a0 t128 t131 t132 t133 t134 _ A2.out).mono ?_); rintro e w3 ⟨v129, rfl, ho0, hb⟩; refine ⟨_, rfl, ?_⟩; have n0_ := Aside0.mk (Kd.R_lower ho0 (below_size (by repeat (first | (with_reducible first | exact HB.out | apply below_alloc | apply pw_below_drewN | apply below_drew1) | exact HB.out)))); have n1_ := Aside0.mk (below_step (by repeat (first | (with_reducible first | exact HB.out | apply below_alloc | apply pw_below_drewN | apply below_drew1) | exact HB.out)) hb); clear HB; have HO130 := n0_; have HB := n1_; clear n0_ n1_; (try clear hb); (try clear hb2); (try clear hk); (try clear hi); (try clear ho0)) | ((with_reducible refine gate_dst (N := 4) rfl ?_); refine box_event ?hg (N := 4) ?hd (cs := #[.slice none 0 0, .bool false, .int .i64 0, .string (⟨#[]⟩ : ByteArray)]) (t := 43) ?hr ?_; (case hd => rfl); (case hg => rfl); (case hr => first | (go_simp; done) | (go_simp; rfl)); intro gb135 hg w4 hbox hb; have n0_ := Aside0.mk (Kd.R_below (by (with_reducible repeat (first | apply Kd.R_alloc | apply Kd.R_drewN | apply Kd.R_drew)); exact HO130.out) hb); have n1_ := Aside0.mk (below_step (by repeat (first | (with_reducible first | exact HB.out | apply below_alloc | apply pw_below_drewN | apply below_drew1) | exact HB.out)) hb); have n2_ := Aside0.mk (hbox); have n3_ := Aside0.mk ((by rw [hg]; exact (below_size (by repeat (first | (with_reducible first | exact HB.out | apply below_alloc | apply pw_below_drewN | apply below_drew1) | exact HB.out))) : w.heap.size ≤ gb135)); have n4_ := Aside0.mk ((by rw [hg]; exact (below_size (by repeat (first | (with_reducible first | exact HB.out | apply below_alloc | apply pw_below_drewN | apply below_drew1) | exact HB.out))) : w.heap.size ≤ gb135)); clear HO130; clear HB; have HO130 := n0_; have HB := n1_; have BK135 := n2_; have GW135 := n3_; have GE135 := n4_; clear n0_ n1_ n2_ n3_ n4_; clear hb hbox hg; obtain ⟨Ao5, co5, eo5⟩ := Kd.R_slice HO130.out; subst eo5; have hcz6_0 : w4.cell? ⟨gb135, 0, none⟩ = some (.slice none 0 0) := (blk_cell BK135.out 0).trans rfl; have hcz6_1 : w4.cell? ⟨gb135, 1, none⟩ = some (.bool false) := (blk_cell BK135.out 1).trans rfl; have hcz6_2 : w4.cell? ⟨gb135, 2, none⟩ = some (.int .i64 0) := (blk_cell BK135.out 2).trans rfl; have hcz6_3 : w4.cell? ⟨gb135, 3, none⟩ = some (.string (⟨#[]⟩ : ByteArray)) := (blk_cell BK135.out 3).trans rfl; have hfz6_0 := blk_frozen BK135.out 0; have hfz6_1 := blk_frozen BK135.out 1; have hfz6_2 := blk_frozen BK135.out 2; have hfz6_3 := blk_frozen BK135.out 3))
 go_ret2
 exact ⟨by first | rfl | (simp [errW_none, errW_some] <;> rfl) | (simp [*, errW_none, errW_some] <;> rfl), by repeat (first | (with_reducible first | exact HB.out | apply below_alloc | apply pw_below_drewN | apply below_drew1 | refine below_set ?_ GE135.out) | exact HB.out)⟩

end Go.Proofs.YtpcdfjifhoofjaaDoor.Pt
