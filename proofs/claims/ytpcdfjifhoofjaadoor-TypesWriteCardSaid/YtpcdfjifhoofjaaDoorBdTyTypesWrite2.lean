/- Lemmas and contracts for the statement of TyTypesWrite: joined by program out of this session's texts. -/
import Derived.Test.YtpcdfjifhoofjaaDoorBdTyTypesWrite1
/- The walks of ParseRef, the program's and the reference's; awake. -/
namespace Go.Proofs.YtpcdfjifhoofjaaDoor.Ty
open Go Go.RowKit Go.Proofs.YtpcdfjifhoofjaaDoor.Nm
set_option linter.unusedVariables false
set_option linter.unusedSimpArgs false
set_option maxHeartbeats 1000000
set_option maxRecDepth 10000

def brk (l : List UInt8) : Bool := took l 91
def parseR (l : List UInt8) : Int × List UInt8 × Int :=
  if 2000 < l.length then (0, [], 5) else if brk l then parseT l else if validB (bs l) then (0, l, 0) else (0, [], 4)
theorem parseT_big (l : List UInt8) (h : 2000 < l.length) : parseT l = (0, [], 5) := by rw [parseT, if_pos h]

theorem prefix_any (l : List UInt8) (w : World) : Calls Tryd.prog 67 #[.string (bs l), .string ⟨#[91]⟩] w fun e w' => e = .returned (.bool (brk l)) ∧ w' = w := by
  refine (Tryd.strings_HasPrefix (bs l) ⟨#[91]⟩ w).mono ?_
  rintro e w1 ⟨rfl, rfl⟩
  refine ⟨ret_bool ?_, rfl⟩
  rw [mk_toList]
  cases l with
  | nil => rfl
  | cons x l =>
    have h91 : (⟨#[91]⟩ : ByteArray).data.toList = [91] := rfl
    rw [h91]
    rw [Bool.eq_iff_iff]
    simp [Lib.hasPrefix, brk, took, List.isPrefixOf]
    exact eq_comm

theorem parseref_any (l : List UInt8) (w : World) (hm : ML w) : Calls Tryd.prog 29 #[.string (bs l)] w fun e w' =>
    e = .returned (.tuple #[tyV (parseR l).1 (parseR l).2.1, .int .i64 (parseR l).2.2]) ∧ Below w.heap.size w w' := by
  have hz := mk_size l
  have hzl : ((bs l).size : Int) = l.length := by rw [hz]
  clear hz
  have T0 := Two.new w 0 ⟨#[]⟩ 37
  have M0 := ml_alloc hm (.cells #[.int .i64 0, .string ⟨#[]⟩] 37)
  have B0 : Below w.heap.size w (w.alloc (.cells #[.int .i64 0, .string ⟨#[]⟩] 37)) := (Below.refl _ _).alloc (Nat.le_refl _) _
  have PR : Hid (∀ W, _) := Lib.hid (fun W => prefix_any l W)
  have P := Lib.hid (parse_any l _ M0)
  have V := Lib.hid (valid_any (bs l) _ M0)
  replace T0 := Lib.hid T0
  replace B0 := Lib.hid B0
  clear M0 hm
  cases hb : brk l
  · rw [hb] at PR
    by_cases hbig : 2000 < l.length
    · have hp : parseR l = (0, [], 5) := by simp [parseR, hbig]
      replace hp := Lib.hid hp
      clear P V
      go_enter Tryd.func29, Tryd.ntmps29
      go_wp2_with (go_at_call 67; refine (PR.out _).mono ?_; rintro e w1 ⟨rfl, rfl⟩)
      refine bodyPost_ret (v := .tuple #[tyV 0 [], .int .i64 5]) (by simp [results, Tryd.results29, go_sem, tyV, bs_nil]) rfl ⟨by rw [hp.out], ?_⟩
      have B1 := B0.out
      repeat' (first | assumption | apply Below.setCell | apply Below.alloc | apply Below.drew)
      all_goals (first | omega | (simp; done) | (simp; omega))
    · have hsm : (l.length : Int) ≤ 2000 := by omega
      cases hv : validB (bs l)
      · have hp : parseR l = (0, [], 4) := by simp [parseR, hbig, hb, hv]
        replace hp := Lib.hid hp
        rw [hv] at V
        clear P
        go_enter Tryd.func29, Tryd.ntmps29
        go_wp2_with (go_at_call 67; refine (PR.out _).mono ?_; rintro e w1 ⟨rfl, rfl⟩)
        refine V.out.mono ?_
        rintro e w3 ⟨rfl, hg⟩
        have T3 := T0.out.kept (gb_below hg) (by simp)
        have B3 := B0.out.trans (hg.mono (by simp))
        clear T0 B0 V hg
        have hsz := B3.size
        have f0 := T3.f0
        have h1 := T3.c0
        have h2 := T3.c1
        have f1 := T3.f1
        replace T3 := Lib.hid T3
        go_wp2
        have T5 := (T3.out.set0 0).set1 ⟨#[]⟩
        refine bodyPost_ret (v := .tuple #[tyV 0 [], .int .i64 4]) (by simp [results, Tryd.results29, go_sem, tyV, bs_nil, T5.c0, T5.c1]) rfl ⟨by rw [hp.out], ?_⟩
        repeat' (first | assumption | apply Below.setCell | apply Below.alloc | apply Below.drew)
        all_goals (first | omega | (simp; done) | (simp; omega))
      · have hp : parseR l = (0, l, 0) := by simp [parseR, hbig, hb, hv]
        replace hp := Lib.hid hp
        rw [hv] at V
        clear P
        go_enter Tryd.func29, Tryd.ntmps29
        go_wp2_with (go_at_call 67; refine (PR.out _).mono ?_; rintro e w1 ⟨rfl, rfl⟩)
        refine V.out.mono ?_
        rintro e w3 ⟨rfl, hg⟩
        have T3 := T0.out.kept (gb_below hg) (by simp)
        have B3 := B0.out.trans (hg.mono (by simp))
        clear T0 B0 V hg
        have hsz := B3.size
        have f0 := T3.f0
        have h1 := T3.c0
        have h2 := T3.c1
        have f1 := T3.f1
        replace T3 := Lib.hid T3
        go_wp2
        have T5 := (T3.out.set0 0).set1 (bs l)
        refine bodyPost_ret (v := .tuple #[tyV 0 l, .int .i64 0]) (by simp [results, Tryd.results29, go_sem, tyV, bs_nil, T5.c0, T5.c1]) rfl ⟨by rw [hp.out], ?_⟩
        repeat' (first | assumption | apply Below.setCell | apply Below.alloc | apply Below.drew)
        all_goals (first | omega | (simp; done) | (simp; omega))
  · rw [hb] at PR
    have hp : parseR l = parseT l := by
      rw [parseR]
      split
      · exact (parseT_big l (by assumption)).symm
      · first | rfl | rw [if_pos hb]
    replace hp := Lib.hid hp
    clear V
    obtain ⟨d, nm, er, hpt⟩ : ∃ d nm er, parseT l = (d, nm, er) := ⟨_, _, _, rfl⟩
    rw [hpt] at P
    simp only [tyV] at P
    replace hpt := Lib.hid hpt
    go_enter Tryd.func29, Tryd.ntmps29
    go_wp2_with (go_at_call 67; refine (PR.out _).mono ?_; rintro e w1 ⟨rfl, rfl⟩)
    refine P.out.mono ?_
    rintro e w3 ⟨rfl, hg⟩
    have T3 := T0.out.kept (gb_below hg) (by simp)
    have B3 := B0.out.trans (hg.mono (by simp))
    clear T0 B0 P hg
    have hsz := B3.size
    have f0 := T3.f0
    have h1 := T3.c0
    have h2 := T3.c1
    have f1 := T3.f1
    replace T3 := Lib.hid T3
    go_wp2
    have T5 := (T3.out.set0 d).set1 (bs nm)
    refine bodyPost_ret (v := .tuple #[tyV d nm, .int .i64 er]) (by simp [results, Tryd.results29, go_sem, tyV, bs_nil, T5.c0, T5.c1]) rfl ⟨by rw [hp.out, hpt.out], ?_⟩
    repeat' (first | assumption | apply Below.setCell | apply Below.alloc | apply Below.drew)
    all_goals (first | omega | (simp; done) | (simp; omega))
theorem first_byte (l : List UInt8) : (l.length = 0 ∧ brk l = false) ∨ (0 < (l.length : Int) ∧ ∃ x : UInt8, (∀ h : 0 < (bs l).size, (((bs l)[0]'h).toNat : Int) = x.toNat) ∧ ((x.toNat : Int) == 91) = brk l) := by
  cases l with
  | nil => exact .inl ⟨rfl, rfl⟩
  | cons x r =>
    right
    refine ⟨by simp only [List.length_cons]; omega, x, fun h => (bt_at _ 0 h).trans (by simp [bt, bs]), ?_⟩
    rw [Bool.eq_iff_iff]
    simp only [beq_iff_eq, brk, took, List.head?_cons, Option.some_beq_some]
    constructor
    · intro h; exact u8_ne (n := 91) (by omega) h
    · rintro rfl; rfl
theorem rparseref_any (l : List UInt8) (w : World) (hm : ML w) : Calls Tryd.prog 30 #[.string (bs l)] w fun e w' =>
    e = .returned (.tuple #[tyV (parseR l).1 (parseR l).2.1, .int .i64 (parseR l).2.2]) ∧ Below w.heap.size w w' := by
  have hz := mk_size l
  have hzl : ((bs l).size : Int) = l.length := by rw [hz]
  clear hz
  have T0 := Two.new w 0 ⟨#[]⟩ 37
  have M0 := ml_alloc hm (.cells #[.int .i64 0, .string ⟨#[]⟩] 37)
  have B0 : Below w.heap.size w (w.alloc (.cells #[.int .i64 0, .string ⟨#[]⟩] 37)) := (Below.refl _ _).alloc (Nat.le_refl _) _
  have P := Lib.hid (rparse_any l _ M0)
  have V := Lib.hid (rvalid_any (bs l) (w.alloc (.cells #[.int .i64 0, .string ⟨#[]⟩] 37)))
  replace T0 := Lib.hid T0
  replace B0 := Lib.hid B0
  clear M0 hm
  by_cases hbig : 2000 < l.length
  · have hp : parseR l = (0, [], 5) := by simp [parseR, hbig]
    replace hp := Lib.hid hp
    clear P V
    go_enter Tryd.func30, Tryd.ntmps30
    go_wp2
    refine bodyPost_ret (v := .tuple #[tyV 0 [], .int .i64 5]) (by simp [results, Tryd.results30, go_sem, tyV, bs_nil]) rfl ⟨by rw [hp.out], ?_⟩
    have B1 := B0.out
    repeat' (first | assumption | apply Below.setCell | apply Below.alloc | apply Below.drew)
    all_goals (first | omega | (simp; done) | (simp; omega))
  · have hsm : (l.length : Int) ≤ 2000 := by omega
    have step : ∀ (d : Int) (nm : List UInt8) (er : Int), True := fun _ _ _ => trivial
    clear step
    have F := first_byte l
    cases hb : brk l
    · cases hv : validB (bs l)
      · have hp : parseR l = (0, [], 4) := by simp [parseR, hbig, hb, hv]
        replace hp := Lib.hid hp
        rw [hv] at V
        rw [hb] at F
        clear P
        go_enter Tryd.func30, Tryd.ntmps30
        rcases F with ⟨hl0, hb0⟩ | ⟨hpos, x, hx, hb0⟩
        all_goals
          go_wp2_with fail
          refine V.out.mono ?_
          rintro e w3 ⟨rfl, hg⟩
          have T3 := T0.out.kept (gb_below hg) (by simp)
          have B3 := B0.out.trans (hg.mono (by simp))
          clear T0 B0 V hg
          have hsz := B3.size
          have f0 := T3.f0
          have h1 := T3.c0
          have h2 := T3.c1
          have f1 := T3.f1
          replace T3 := Lib.hid T3
          go_wp2
          have T5 := (T3.out.set0 0).set1 ⟨#[]⟩
          refine bodyPost_ret (v := .tuple #[tyV 0 [], .int .i64 4]) (by simp [results, Tryd.results30, go_sem, tyV, bs_nil, T5.c0, T5.c1]) rfl ⟨by rw [hp.out], ?_⟩
          repeat' (first | assumption | apply Below.setCell | apply Below.alloc | apply Below.drew)
          all_goals (first | omega | (simp; done) | (simp; omega))
      · have hp : parseR l = (0, l, 0) := by simp [parseR, hbig, hb, hv]
        replace hp := Lib.hid hp
        rw [hv] at V
        rw [hb] at F
        clear P
        go_enter Tryd.func30, Tryd.ntmps30
        rcases F with ⟨hl0, hb0⟩ | ⟨hpos, x, hx, hb0⟩
        all_goals
          go_wp2_with fail
          refine V.out.mono ?_
          rintro e w3 ⟨rfl, hg⟩
          have T3 := T0.out.kept (gb_below hg) (by simp)
          have B3 := B0.out.trans (hg.mono (by simp))
          clear T0 B0 V hg
          have hsz := B3.size
          have f0 := T3.f0
          have h1 := T3.c0
          have h2 := T3.c1
          have f1 := T3.f1
          replace T3 := Lib.hid T3
          go_wp2
          have T5 := (T3.out.set0 0).set1 (bs l)
          refine bodyPost_ret (v := .tuple #[tyV 0 l, .int .i64 0]) (by simp [results, Tryd.results30, go_sem, tyV, bs_nil, T5.c0, T5.c1]) rfl ⟨by rw [hp.out], ?_⟩
          repeat' (first | assumption | apply Below.setCell | apply Below.alloc | apply Below.drew)
          all_goals (first | omega | (simp; done) | (simp; omega))
    · have hp : parseR l = parseT l := by rw [parseR, if_neg hbig, if_pos hb]
      replace hp := Lib.hid hp
      clear V
      obtain ⟨d, nm, er, hpt⟩ : ∃ d nm er, parseT l = (d, nm, er) := ⟨_, _, _, rfl⟩
      rw [hpt] at P
      simp only [tyV] at P
      replace hpt := Lib.hid hpt
      rw [hb] at F
      rcases F with ⟨hl0, hb0⟩ | ⟨hpos, x, hx, hb0⟩
      · cases hb0
      go_enter Tryd.func30, Tryd.ntmps30
      go_wp2_with fail
      refine P.out.mono ?_
      rintro e w3 ⟨rfl, hg⟩
      have T3 := T0.out.kept (gb_below hg) (by simp)
      have B3 := B0.out.trans (hg.mono (by simp))
      clear T0 B0 P hg
      have hsz := B3.size
      have f0 := T3.f0
      have h1 := T3.c0
      have h2 := T3.c1
      have f1 := T3.f1
      replace T3 := Lib.hid T3
      go_wp2
      have T5 := (T3.out.set0 d).set1 (bs nm)
      refine bodyPost_ret (v := .tuple #[tyV d nm, .int .i64 er]) (by simp [results, Tryd.results30, go_sem, tyV, bs_nil, T5.c0, T5.c1]) rfl ⟨by rw [hp.out, hpt.out], ?_⟩
      repeat' (first | assumption | apply Below.setCell | apply Below.alloc | apply Below.drew)
      all_goals (first | omega | (simp; done) | (simp; omega))
end Go.Proofs.YtpcdfjifhoofjaaDoor.Ty

/- Descriptors ts they are read out of a list of bytes. No program in sight. -/
namespace Go.Proofs.YtpcdfjifhoofjaaDoor.Ty
open Go Go.RowKit Go.Proofs.YtpcdfjifhoofjaaDoor.Nm
set_option linter.unusedVariables false
set_option linter.unusedSimpArgs false

/-- The arguments up to ')', and what is behind it. The number: more than the text is long. -/
def rdArgs : Nat → List UInt8 → Option (List (Nat × List UInt8) × List UInt8)
  | 0, _ => none
  | f + 1, l =>
    if took l 41 then some ([], l.tail) else
      match (rd l).rest with
      | none => none
      | some r => (rdArgs f r).map fun p => (((rd l).dims, (rd l).name) :: p.1, p.2)
def prep (ts : List (Nat × List UInt8)) (o : Option (List (Nat × List UInt8) × List UInt8)) : Option (List (Nat × List UInt8) × List UInt8) := o.map fun p => (ts ++ p.1, p.2)
theorem prep_nil (o : Option (List (Nat × List UInt8) × List UInt8)) : prep [] o = o := by cases o <;> rfl
theorem rdArgs_close (f : Nat) (l : List UInt8) (ts) (h : took l 41 = true) : prep ts (rdArgs (f + 1) l) = some (ts, l.tail) := by
  rw [rdArgs, if_pos h]; simp [prep]
theorem rdArgs_fail (f : Nat) (l : List UInt8) (ts) (h : took l 41 = false) (hr : (rd l).rest = none) : prep ts (rdArgs (f + 1) l) = none := by
  rw [rdArgs, if_neg (by simp [h]), hr]; rfl
theorem rdArgs_step (f : Nat) (l r : List UInt8) (ts) (h : took l 41 = false) (hr : (rd l).rest = some r) : prep ts (rdArgs (f + 1) l) = prep (ts ++ [((rd l).dims, (rd l).name)]) (rdArgs f r) := by
  rw [rdArgs, if_neg (by simp [h]), hr]
  show prep ts ((rdArgs f r).map _) = _
  cases rdArgs f r <;> simp [prep]
def wideL (ts : List (Nat × List UInt8)) : Bool := ts.any fun a => decide (255 < a.1)
theorem wideL_snoc (ts : List (Nat × List UInt8)) (k : Nat) (nm : List UInt8) : wideL (ts ++ [(k, nm)]) = (wideL ts || decide (255 < k)) := by simp [wideL]
/-- The cells of a list of types. -/
def tyCells (ts : List (Nat × List UInt8)) : List Value := ts.flatMap fun a => [.int .i64 a.1, .string (bs a.2)]
theorem tyCells_snoc (ts : List (Nat × List UInt8)) (k : Nat) (nm : List UInt8) : tyCells (ts ++ [(k, nm)]) = tyCells ts ++ [.int .i64 k, .string (bs nm)] := by simp [tyCells]

/-- A descriptor that was read: arguments, void, the result's dimensions and name. -/
structure DescR where
  args : List (Nat × List UInt8)
  void : Bool
  rdims : Int
  rname : List UInt8
def DescR.zero : DescR := ⟨[], false, 0, []⟩
/-- Behind the result of a descriptor: what is left, were the types all small. -/
def descEnd (d : DescR) (wide : Bool) (r : List UInt8) : DescR × Int :=
  if r ≠ [] then (.zero, 4) else if wide || decide (20 < d.args.length) then (.zero, 5) else (d, 0)
def descRet (ts : List (Nat × List UInt8)) (q : List UInt8) : DescR × Int :=
  if took q 86 then descEnd ⟨ts, true, 0, []⟩ (wideL ts) q.tail
  else match (rd q).rest with
    | none => (.zero, 4)
    | some r => descEnd ⟨ts, false, (rd q).dims, (rd q).name⟩ (wideL ts || decide (255 < (rd q).dims)) r
def descOf : Option (List (Nat × List UInt8) × List UInt8) → DescR × Int
  | none => (.zero, 4)
  | some p => descRet p.1 p.2
def parseD (l : List UInt8) : DescR × Int :=
  if 2000 < l.length then (.zero, 5) else if took l 40 then descOf (rdArgs (l.length + 1) l.tail) else (.zero, 4)
theorem parseD_big (l : List UInt8) (h : 2000 < l.length) : parseD l = (.zero, 5) := by rw [parseD, if_pos h]
theorem parseD_not (l : List UInt8) (h : ¬ 2000 < l.length) (ht : took l 40 = false) : parseD l = (.zero, 4) := by rw [parseD, if_neg h, if_neg (by simp [ht])]
theorem parseD_args (l : List UInt8) (h : ¬ 2000 < l.length) (ht : took l 40 = true) : parseD l = descOf (rdArgs (l.length + 1) l.tail) := by rw [parseD, if_neg h, if_pos ht]
end Go.Proofs.YtpcdfjifhoofjaaDoor.Ty

/- The walk of types.ParseDesc. -/
namespace Go.Proofs.YtpcdfjifhoofjaaDoor.Ty
open Go Go.RowKit Go.Proofs.YtpcdfjifhoofjaaDoor.Nm
set_option linter.unusedVariables false
set_option linter.unusedSimpArgs false
set_option maxHeartbeats 1000000
set_option maxRecDepth 10000

/-- A descriptor in block B. -/
structure Four (w : World) (B : Nat) (v : Value) (void : Bool) (k : Int) (nm : ByteArray) : Prop where
  c0 : w.cell? ⟨B, 0, none⟩ = some v
  c1 : w.cell? ⟨B, 1, none⟩ = some (.bool void)
  c2 : w.cell? ⟨B, 2, none⟩ = some (.int .i64 k)
  c3 : w.cell? ⟨B, 3, none⟩ = some (.string nm)
  f0 : w.frozen? ⟨B, 0, none⟩ = false
  f1 : w.frozen? ⟨B, 1, none⟩ = false
  f2 : w.frozen? ⟨B, 2, none⟩ = false
  f3 : w.frozen? ⟨B, 3, none⟩ = false
section
variable {w w' : World} {b : Nat} {v : Value} {vo : Bool} {k : Int} {nm : ByteArray}
theorem Four.lt (h : Four w b v vo k nm) : b < w.heap.size := World.block_lt_of_cell? w _ h.c0
theorem Four.drew (h : Four w b v vo k nm) : Four w.drew b v vo k nm := ⟨h.c0, h.c1, h.c2, h.c3, h.f0, h.f1, h.f2, h.f3⟩
theorem Four.kept (h : Four w b v vo k nm) {row : Option Nat} (hg : w.grownBy w' row) (hne : some b ≠ row) : Four w' b v vo k nm :=
  ⟨(hg.cell_far _ h.lt hne).trans h.c0, (hg.cell_far _ h.lt hne).trans h.c1, (hg.cell_far _ h.lt hne).trans h.c2, (hg.cell_far _ h.lt hne).trans h.c3,
   (hg.frozen_far _ h.lt hne).trans h.f0, (hg.frozen_far _ h.lt hne).trans h.f1, (hg.frozen_far _ h.lt hne).trans h.f2, (hg.frozen_far _ h.lt hne).trans h.f3⟩
theorem Four.set0 (h : Four w b v vo k nm) (q : Value) : Four (w.setCell ⟨b, 0, none⟩ q) b q vo k nm := by
  have := h.c0; have := h.c1; have := h.c2; have := h.c3; have := h.f0; have := h.f1; have := h.f2; have := h.f3
  constructor <;> simp_all [World.cell?_setCell_same, World.cell?_setCell_other, World.frozen?_setCell]
theorem Four.set1 (h : Four w b v vo k nm) (q : Bool) : Four (w.setCell ⟨b, 1, none⟩ (.bool q)) b v q k nm := by
  have := h.c0; have := h.c1; have := h.c2; have := h.c3; have := h.f0; have := h.f1; have := h.f2; have := h.f3
  constructor <;> simp_all [World.cell?_setCell_same, World.cell?_setCell_other, World.frozen?_setCell]
theorem Four.set2 (h : Four w b v vo k nm) (q : Int) : Four (w.setCell ⟨b, 2, none⟩ (.int .i64 q)) b v vo q nm := by
  have := h.c0; have := h.c1; have := h.c2; have := h.c3; have := h.f0; have := h.f1; have := h.f2; have := h.f3
  constructor <;> simp_all [World.cell?_setCell_same, World.cell?_setCell_other, World.frozen?_setCell]
theorem Four.set3 (h : Four w b v vo k nm) (q : ByteArray) : Four (w.setCell ⟨b, 3, none⟩ (.string q)) b v vo k q := by
  have := h.c0; have := h.c1; have := h.c2; have := h.c3; have := h.f0; have := h.f1; have := h.f2; have := h.f3
  constructor <;> simp_all [World.cell?_setCell_same, World.cell?_setCell_other, World.frozen?_setCell]
theorem Four.new (w : World) (v : Value) (vo : Bool) (k : Int) (nm : ByteArray) (t : TypeId) : Four (w.alloc (.cells #[v, .bool vo, .int .i64 k, .string nm] t)) w.heap.size v vo k nm := by
  constructor
  iterate 4 (rw [cell_new]; rfl)
  all_goals (unfold World.frozen?; rw [heap_alloc_new]; rfl)
end
theorem own_mono {w : World} {base base' : Nat} {e : TypeId} {size n : Nat} {v : Value} {xs : List Value} (h : w.ownsRow base e size v n xs) (hb : base' ≤ base) : w.ownsRow base' e size v n xs :=
  ⟨h.1, h.2.imp id fun ⟨g, cap, cur, e, hg, r⟩ => ⟨g, cap, cur, e, Nat.le_trans hb hg, r⟩⟩
def descV (v : Value) (vo : Bool) (k : Int) (nm : ByteArray) : Value := .agg #[v, .bool vo, .int .i64 k, .string nm]
/-- The loop's state while the text is good: f more than what is left is long. -/
structure Good (w wr : World) (o : Option (List (Nat × List UInt8) × List UInt8)) (f : Nat) (q : List UInt8) (ts : List (Nat × List UInt8)) (v : Value) : Prop where
  len : q.length < f
  small : f ≤ 2001
  count : ts.length + f ≤ 2001
  rest : prep ts (rdArgs f q) = o
  cur : Cur wr (w.heap.size + 1) q (wideL ts)
  desc : Four wr (w.heap.size + 1 + 1) v false 0 ⟨#[]⟩
  own : wr.ownsRow (w.heap.size + 3) 37 2 v ts.length (tyCells ts)
theorem infoT : (Tryd.prog.info? 37).map (fun i => (i.zero, i.size, i.bytes)) = some (some (.agg #[.int .i64 0, .string ⟨#[]⟩]), 2, 24) := by kernel_rfl

theorem parsedesc_any (l : List UInt8) (w : World) (hm : ML w) : Calls Tryd.prog 31 #[.string (bs l)] w fun e w' =>
    ∃ v, e = .returned (.tuple #[descV v (parseD l).1.void (parseD l).1.rdims (bs (parseD l).1.rname), .int .i64 (parseD l).2]) ∧ w'.ownsRow w.heap.size 37 2 v (parseD l).1.args.length (tyCells (parseD l).1.args) ∧ Below w.heap.size w w' := by
  have hz := mk_size l
  have hzl : ((bs l).size : Int) = l.length := by rw [hz]
  clear hz
  by_cases hbig : 2000 < l.length
  · have hp : parseD l = (.zero, 5) := parseD_big l hbig
    replace hp := Lib.hid hp
    go_enter Tryd.func31, Tryd.ntmps31
    go_wp2
    go_step3
    go_wp2
    rw [Exit.noGoto_ret]
    refine bodyPost_ret (v := .tuple #[descV (.slice none 0 0) false 0 ⟨#[]⟩, .int .i64 5]) (by simp [results, Tryd.results31, go_sem, descV]) rfl ⟨_, by rw [hp.out]; rfl, by rw [hp.out]; exact World.ownsRow_nil _ _ _ _, ?_⟩
    have B0 := Below.refl w.heap.size w
    repeat' (first | assumption | apply Below.setCell | apply Below.alloc | apply Below.drew)
    all_goals (first | omega | (simp; done) | (simp; omega))
  · have hpn := Lib.hid (parseD_not l hbig)
    have hpa := Lib.hid (parseD_args l hbig)
    have hsm : (l.length : Int) ≤ 2000 := by omega
    go_enter Tryd.func31, Tryd.ntmps31
    go_wp2
    go_step3
    go_wp2_with fail
    have R0 := Four.new w (.slice none 0 0) false 0 ⟨#[]⟩ 43
    have C0 := Cur.new (w.alloc (.cells #[.slice none 0 0, .bool false, .int .i64 0, .string ⟨#[]⟩] 43)) l false 67
    have D0 := Four.new ((w.alloc (.cells #[.slice none 0 0, .bool false, .int .i64 0, .string ⟨#[]⟩] 43)).alloc (.cells #[.string (bs l), .bool false] 67)) (.slice none 0 0) false 0 ⟨#[]⟩ 43
    have hz1 : (w.alloc (.cells #[.slice none 0 0, .bool false, .int .i64 0, .string ⟨#[]⟩] 43)).heap.size = w.heap.size + 1 := by simp
    have hz2 : ((w.alloc (.cells #[.slice none 0 0, .bool false, .int .i64 0, .string ⟨#[]⟩] 43)).alloc (.cells #[.string (bs l), .bool false] 67)).heap.size = w.heap.size + 1 + 1 := by simp
    rw [hz1] at C0
    rw [hz2] at D0
    have R1 := (R0.kept (World.grownBy_alloc _ (.cells #[.string (bs l), .bool false] 67) none) (by simp)).kept (World.grownBy_alloc _ (.cells #[.slice none 0 0, .bool false, .int .i64 0, .string ⟨#[]⟩] 43) none) (by simp)
    have C1 := C0.kept (World.grownBy_alloc _ (.cells #[.slice none 0 0, .bool false, .int .i64 0, .string ⟨#[]⟩] 43) none) (by simp)
    have B1 : Below w.heap.size w (((w.alloc (.cells #[.slice none 0 0, .bool false, .int .i64 0, .string ⟨#[]⟩] 43)).alloc (.cells #[.string (bs l), .bool false] 67)).alloc (.cells #[.slice none 0 0, .bool false, .int .i64 0, .string ⟨#[]⟩] 43)) := (((Below.refl _ _).alloc (Nat.le_refl _) _).alloc (by simp) _).alloc (by simp; omega) _
    refine (take_any (w.heap.size + 1) l (by omega) false 40 _ C1).mono ?_
    rintro e w1 ⟨rfl, hC, hg⟩
    have hR := R1.kept hg (by simp)
    have hD := D0.kept hg (by simp)
    have hsz1 := hD.lt
    have hB := B1.grown hg (by simp; omega) (by simp)
    clear R0 C0 D0 hz1 hz2 R1 C1 B1 hg
    replace hC := Lib.hid hC
    replace hR := Lib.hid hR
    replace hD := Lib.hid hD
    replace hB := Lib.hid hB
    have hM : ML w1 := hm.below hB.out
    replace hM := Lib.hid hM
    obtain ⟨o, ho⟩ : ∃ o, o = if took l 40 then rdArgs (l.length + 1) l.tail else none := ⟨_, rfl⟩
    have hpo : parseD l = descOf o := by
      cases ht : took l 40
      · rw [ho, ht, hpn.out ht]; rfl
      · rw [ho, ht, hpa.out ht]; rfl
    replace hpo := Lib.hid hpo
    have hstart : took l 40 = true → ∃ q ts v, Good w w1 o (l.length + 1) q ts v := by
      intro ht
      refine ⟨l.tail, [], .slice none 0 0, ?_⟩
      have h0 := hC.out
      rw [left, if_pos ht] at h0
      exact ⟨by simp; omega, by omega, by simp; omega, by rw [prep_nil, ho, if_pos ht], h0, hD.out, World.ownsRow_nil _ _ _ _⟩
    have hstart2 : took l 40 = false → o = none := by
      intro ht
      rw [ho, ht]; rfl
    replace hstart := Lib.hid hstart
    replace hstart2 := Lib.hid hstart2
    clear ho hpn hpa hC hD
    generalize took l 40 = ok0 at *
    go_wp2
    go_step3
    go_wp2
    go_loopg [6] (l.length + 1) (fun g v6 wr => ∃ ok : Bool, v6 = .bool ok ∧ Four wr w.heap.size (.slice none 0 0) false 0 ⟨#[]⟩ ∧ ML wr ∧ Below w.heap.size w wr ∧ w.heap.size + 1 + 1 < wr.heap.size ∧ (ok = false → o = none) ∧ (ok = true → ∃ q ts v, Good w wr o g q ts v))
    case atStart => exact ⟨ok0, rfl, hR.out, hM.out, hB.out, hsz1, hstart2.out, hstart.out⟩
    case round =>
      obtain ⟨ok, rfl, hR, hM, hB, hsz, hno, hyes⟩ := hrel
      have hlt := hR.lt
      replace hM := Lib.hid hM
      replace hB := Lib.hid hB
      cases ok
      · have hpo2 : parseD l = (.zero, 4) := by rw [hpo.out, hno rfl]; rfl
        replace hpo2 := Lib.hid hpo2
        clear hno hyes hpo
        have h0 := hR.c0
        have h1 := hR.c1
        have h2 := hR.c2
        have h3 := hR.c3
        have f0 := hR.f0
        have f1 := hR.f1
        have f2 := hR.f2
        have f3 := hR.f3
        replace hR := Lib.hid hR
        go_wp2
        rw [Exit.noGoto_ret]
        have T5 := (((hR.out.set0 (.slice none 0 0)).set1 false).set2 0).set3 ⟨#[]⟩
        refine bodyPost_ret (v := .tuple #[descV (.slice none 0 0) false 0 ⟨#[]⟩, .int .i64 4]) (by simp [results, Tryd.results31, go_sem, descV, T5.c0, T5.c1, T5.c2, T5.c3]) rfl ⟨_, by rw [hpo2.out]; rfl, by rw [hpo2.out]; exact World.ownsRow_nil _ _ _ _, ?_⟩
        have B0 := hB.out
        repeat' (first | assumption | apply Below.setCell | apply Below.alloc | apply Below.drew)
        all_goals (first | omega | (simp; done) | (simp; omega))
      · obtain ⟨q, ts, v, G⟩ := hyes rfl
        clear hno hyes
        have hql := G.len
        have hqs := G.small
        go_wp2_with fail
        refine (take_any (w.heap.size + 1) q (by omega) (wideL ts) 41 _ G.cur).mono ?_
        rintro e w2 ⟨rfl, hC, hg⟩
        have hD := G.desc.kept hg (by simp)
        have hown := G.own.kept hg (by
          by_cases hb : v.ownBlock = none
          · exact .inl hb
          · right
            obtain ⟨kb, hkb⟩ := Option.ne_none_iff_exists'.1 hb
            have := (G.own.lt kb hkb).1
            rw [hkb]
            intro e
            cases e
            omega)
        replace hR := hR.kept hg (by simp)
        have hM2 : ML w2 := ml_kept hM.out G.cur hg
        have hB2 := hB.out.grown hg (by omega) (by simp)
        have hsz2 : w.heap.size + 1 + 1 < w2.heap.size := Nat.lt_of_lt_of_le hsz hg.size
        have hrest := G.rest
        have hcnt := G.count
        clear G hg hM hB hlt hsz
        replace hC := Lib.hid hC
        replace hown := Lib.hid hown
        replace hM2 := Lib.hid hM2
        replace hB2 := Lib.hid hB2
        replace hrest := Lib.hid hrest
        obtain ⟨f, rfl⟩ : ∃ f, gk = f + 1 := ⟨gk - 1, by omega⟩
        have hne : ∀ k, v.ownBlock = some k → w.heap.size + 3 ≤ k ∧ k < w2.heap.size := hown.out.lt
        have hneq : ∀ m, (m < w.heap.size + 3 ∨ w2.heap.size ≤ m) → v.ownBlock = none ∨ v.ownBlock ≠ some m := by
          intro m hm
          right
          intro e
          have := hne m e
          omega
        replace hneq := Lib.hid hneq
        clear hne
        cases t41 : took q 41
        · have hC0 : Cur w2 (w.heap.size + 1) q (wideL ts) := by have := hC.out; rwa [left, t41] at this
          clear hC
          have hTt := Two.new w2 0 ⟨#[]⟩ 37
          have gA := World.grownBy_alloc w2 (.cells #[.int .i64 0, .string ⟨#[]⟩] 37) none
          have hsA : (w2.alloc (.cells #[.int .i64 0, .string ⟨#[]⟩] 37)).heap.size = w2.heap.size + 1 := by simp
          have hC1 := hC0.kept gA (by simp)
          have hM1 := ml_alloc hM2.out (.cells #[.int .i64 0, .string ⟨#[]⟩] 37)
          have hD1 := hD.kept gA (by simp)
          have hR1 := hR.kept gA (by simp)
          have hO1 := hown.out.alloc (.cells #[.int .i64 0, .string ⟨#[]⟩] 37)
          have hB1 := hB2.out.alloc (by omega) (.cells #[.int .i64 0, .string ⟨#[]⟩] 37)
          have O := Lib.hid (one_any (w.heap.size + 1) q (by omega) (wideL ts) _ hC1 hM1)
          replace hsA := Lib.hid hsA
          replace gA := Lib.hid gA
          replace hTt := Lib.hid hTt
          replace hC1 := Lib.hid hC1
          replace hM1 := Lib.hid hM1
          replace hD1 := Lib.hid hD1
          replace hR1 := Lib.hid hR1
          replace hO1 := Lib.hid hO1
          replace hB1 := Lib.hid hB1
          clear hC0 hD hR hown hB2 hM2
          go_wp2_with fail
          refine O.out.mono ?_
          rintro e w3 ⟨d, nm, rfl, hg3, hsome⟩
          have hTn : some w2.heap.size ≠ some (w.heap.size + 1) := by intro e; injection e with e; omega
          have hT3 := hTt.out.kept hg3 hTn
          have hD3 := hD1.out.kept hg3 (by simp)
          have hR3 := hR1.out.kept hg3 (by simp)
          have hO3 := hO1.out.kept hg3 (hneq.out _ (.inl (by omega)))
          have hB3 := hB1.out.grown hg3 (by rw [hsA.out]; omega) (by simp)
          have hM3 := ml_kept hM1.out hC1.out hg3
          have hs3 : w2.heap.size < w3.heap.size := by have := hg3.size; rw [hsA.out] at this; omega
          clear O hTt hD1 hR1 hO1 hB1 hM1 hC1 hg3 gA hsA
          have h1 := hT3.c0
          have h2 := hT3.c1
          have h3 := hT3.f0
          have h4 := hT3.f1
          replace hT3 := Lib.hid hT3
          replace hD3 := Lib.hid hD3
          replace hR3 := Lib.hid hR3
          replace hO3 := Lib.hid hO3
          replace hB3 := Lib.hid hB3
          replace hM3 := Lib.hid hM3
          replace hsome := Lib.hid hsome
          go_upto_region 10 with fail
          have g1 := gb_set w3 w2.heap.size 0 (.int .i64 d)
          have g2 := gb_set (w3.setCell ⟨w2.heap.size, 0, none⟩ (.int .i64 d)) w2.heap.size 1 (.string nm)
          have g12 := g1.trans g2
          have hT4 := (hT3.out.set0 d).set1 nm
          have hx1 : some (w.heap.size + 1 + 1) ≠ some w2.heap.size := by intro e; injection e with e; omega
          have hx2 : some w.heap.size ≠ some w2.heap.size := by intro e; injection e with e; omega
          have hx3 : some (w.heap.size + 1) ≠ some w2.heap.size := by intro e; injection e with e; omega
          have hD4 := hD3.out.kept g12 hx1
          have hR4 := hR3.out.kept g12 hx2
          have hO4 := hO3.out.kept g12 (hneq.out _ (.inr (Nat.le_refl _)))
          have hB4 := hB3.out.grown g12 (by have := hB3.out.size; omega) (by intro k hk; cases hk; omega)
          have hs4 := g12.size
          have hM4 : ML ((w3.setCell ⟨w2.heap.size, 0, none⟩ (.int .i64 d)).setCell ⟨w2.heap.size, 1, none⟩ (.string nm)) := hm.below hB4
          have hC4 : ∀ r, (rd q).rest = some r → Cur ((w3.setCell ⟨w2.heap.size, 0, none⟩ (.int .i64 d)).setCell ⟨w2.heap.size, 1, none⟩ (.string nm)) (w.heap.size + 1) r (wideL ts || decide (255 < (rd q).dims)) := fun r hr => (hsome.out r hr).2.2.kept g12 hx3
          have hdn : ∀ r, (rd q).rest = some r → d = (rd q).dims ∧ nm = bs (rd q).name := fun r hr => ⟨(hsome.out r hr).1, (hsome.out r hr).2.1⟩
          clear g1 g2 g12 h1 h2 h3 h4 hT3 hD3 hR3 hO3 hB3 hM3 hsome hx1 hx2 hx3
          generalize (w3.setCell ⟨w2.heap.size, 0, none⟩ (.int .i64 d)).setCell ⟨w2.heap.size, 1, none⟩ (.string nm) = W4 at *
          have h1 := hT4.c0
          have h2 := hT4.c1
          have k1 := hD4.c0
          have k2 := hD4.f0
          have hs5 : w.heap.size + 3 ≤ W4.heap.size := by omega
          have hv1 : ∀ m, m < w.heap.size + 3 → some m ≠ v.ownBlock := by
            intro m hm
            rcases hneq.out m (.inl hm) with h | h
            · rw [h]; simp
            · exact Ne.symm h
          have hvD := hv1 (w.heap.size + 1 + 1) (by omega)
          have hvR := hv1 w.heap.size (by omega)
          have hvC := hv1 (w.heap.size + 1) (by omega)
          clear hv1
          replace hvD := Lib.hid hvD
          replace hvR := Lib.hid hvR
          replace hvC := Lib.hid hvC
          replace hT4 := Lib.hid hT4
          replace hD4 := Lib.hid hD4
          replace hR4 := Lib.hid hR4
          replace hO4 := Lib.hid hO4
          replace hB4 := Lib.hid hB4
          replace hM4 := Lib.hid hM4
          replace hC4 := Lib.hid hC4
          replace hdn := Lib.hid hdn
          go_wp2_with (at_builtin; go_loud (refine append1 (w.heap.size + 3) rfl _ _ _ 37 (.agg #[.int .i64 0, .string ⟨#[]⟩]) 2 24 rfl Tryd.underlying41 infoT rfl (by decide) _ _ _ [.int .i64 d, .string nm] rfl _ (by simp) rfl rfl (by simp [Value.oneCell']) (by exact hO4.out) (by omega) (by omega) (by omega) ?_); intro v1 w5 hown5 hg5; obtain ⟨A1, cp1, rfl⟩ := own_shape hown5; have hD5 := hD4.out.kept hg5 hvD.out; have k1' := hD5.c0; have k2' := hD5.f0; replace hD5 := Lib.hid hD5; replace hown5 := Lib.hid hown5; replace hg5 := Lib.hid hg5)
          go_roundg f
          case rel =>
            have hR5 := hR4.out.kept hg5.out hvR.out
            have hB5 := hB4.out.grown hg5.out (by omega) (by intro k hk; have := (hO4.out.lt k hk).1; omega)
            have gs := gb_set w5 (w.heap.size + 1 + 1) 0 (.slice A1 (ts.length + 1) cp1)
            refine ⟨_, rfl, hR5.kept gs (by simp; omega), hm.below (hB5.setCell (by simp; omega) _), hB5.setCell (by simp; omega) _, ?_, ?_, ?_⟩
            · have := hg5.out.size; exact Nat.lt_of_lt_of_le (by omega) gs.size
            · intro h
              have hn : (rd q).rest = none := by cases hh : (rd q).rest with | none => rfl | some r => rw [hh] at h; cases h
              rw [← hrest.out, rdArgs_fail f q ts t41 hn]
            · intro h
              obtain ⟨r, hr⟩ : ∃ r, (rd q).rest = some r := Option.isSome_iff_exists.1 h
              have hrl := rd_len q r hr
              have hC5 := (hC4.out r hr).kept hg5.out hvC.out
              refine ⟨r, ts ++ [((rd q).dims, (rd q).name)], .slice A1 (ts.length + 1) cp1, by omega, by omega, by simp; omega, ?_, ?_, hD5.out.set0 _, ?_⟩
              · rw [← hrest.out, rdArgs_step f q r ts t41 hr]
              · rw [wideL_snoc]; exact hC5.kept gs (by simp)
              · have h6 := hown5.out
                rw [(hdn.out r hr).1, (hdn.out r hr).2, ← tyCells_snoc] at h6
                rw [show (ts ++ [((rd q).dims, (rd q).name)]).length = ts.length + 1 by simp]
                exact h6.kept gs (.inr (by intro e; have := (h6.lt _ e).1; omega))
          case measure => omega
        · have ho2 : o = some (ts, q.tail) := by rw [← hrest.out, rdArgs_close f q ts t41]
          have hpo2 : parseD l = descRet ts q.tail := by rw [hpo.out, ho2]; rfl
          have hC0 : Cur w2 (w.heap.size + 1) q.tail (wideL ts) := by have := hC.out; rwa [left, if_pos t41] at this
          have hqt : q.tail.length ≤ q.length := by simp
          generalize q.tail = q2 at *
          replace hpo2 := Lib.hid hpo2
          clear hC ho2 hrest t41 hpo
          go_wp2_with fail
          refine (take_any (w.heap.size + 1) q2 (by omega) (wideL ts) 86 _ hC0).mono ?_
          rintro e w3 ⟨rfl, hC3, hg3⟩
          have hD3 := hD.kept hg3 (by simp)
          have hR3 := hR.kept hg3 (by simp)
          have hO3 := hown.out.kept hg3 (hneq.out _ (.inl (by omega)))
          have hB3 := hB2.out.grown hg3 (by omega) (by simp)
          have hs3 : w2.heap.size ≤ w3.heap.size := hg3.size
          clear hD hR hown hB2 hM2 hC0 hg3
          have k1 := hD3.c1
          have k2 := hD3.f1
          replace hC3 := Lib.hid hC3
          replace hD3 := Lib.hid hD3
          replace hR3 := Lib.hid hR3
          replace hO3 := Lib.hid hO3
          replace hB3 := Lib.hid hB3
          cases t86 : took q2 86
          · have hC4 : Cur w3 (w.heap.size + 1) q2 (wideL ts) := by have := hC3.out; rwa [left, t86] at this
            obtain ⟨A, cp, rfl⟩ := own_shape hO3.out
            have gs := gb_set w3 (w.heap.size + 1 + 1) 1 (.bool false)
            have hD4 := hD3.out.set1 false
            have hR4 := hR3.out.kept gs (by simp; omega)
            have hC4 := hC4.kept gs (by simp)
            have hO4 := hO3.out.kept gs (.inr (by intro e; have := (hO3.out.lt _ e).1; omega))
            have hB4 := hB3.out.setCell (p := ⟨w.heap.size + 1 + 1, 1, none⟩) (by simp; omega) (.bool false)
            have hlt4 := hD4.lt
            go_upto_region 13 with fail
            clear gs hD3 hR3 hC3 hO3 hB3 k1 k2
            generalize w3.setCell ⟨w.heap.size + 1 + 1, 1, none⟩ (.bool false) = W3 at *
            have hM3 : ML W3 := hm.below hB4
            have d1 := hD4.c1
            have O := Lib.hid (one_any (w.heap.size + 1) q2 (by omega) (wideL ts) _ hC4 hM3)
            replace hC4 := Lib.hid hC4
            replace hM3 := Lib.hid hM3
            replace hD4 := Lib.hid hD4
            replace hR4 := Lib.hid hR4
            replace hO4 := Lib.hid hO4
            replace hB4 := Lib.hid hB4
            have hpo3 : parseD l = match (rd q2).rest with
              | none => (DescR.zero, (4 : Int))
              | some r => descEnd ⟨ts, false, (rd q2).dims, (rd q2).name⟩ (wideL ts || decide (255 < (rd q2).dims)) r := by
              rw [hpo2.out, descRet, if_neg (by simp [t86])] <;> rfl
            replace hpo3 := Lib.hid hpo3
            clear hpo2
            go_wp2_with fail
            refine O.out.mono ?_
            rintro e w5 ⟨d, nm, rfl, hg5, hsome⟩
            have hD5 := hD4.out.kept hg5 (by simp)
            have hR5 := hR4.out.kept hg5 (by simp)
            have hO5 := hO4.out.kept hg5 (.inr (by intro e; have := (hO4.out.lt _ e).1; omega))
            have hB5 := hB4.out.grown hg5 (by omega) (by simp)
            have gs := (gb_set w5 (w.heap.size + 1 + 1) 2 (.int .i64 d)).trans (gb_set (w5.setCell ⟨w.heap.size + 1 + 1, 2, none⟩ (.int .i64 d)) (w.heap.size + 1 + 1) 3 (.string nm))
            have k2 := hD5.c2
            have k3 := hD5.c3
            have e2 := hD5.f2
            have e3 := hD5.f3
            have hlt5 := hD5.lt
            have hD6 := (hD5.set2 d).set3 nm
            have hR6 := hR5.kept gs (by simp; omega)
            have hO6 := hO5.kept gs (.inr (by intro e; have := (hO5.lt _ e).1; omega))
            have hB6 := hB5.grown gs (by omega) (by intro k hk; cases hk; omega)
            have hC6 : ∀ r, (rd q2).rest = some r → d = (rd q2).dims ∧ nm = bs (rd q2).name ∧ Cur ((w5.setCell ⟨w.heap.size + 1 + 1, 2, none⟩ (.int .i64 d)).setCell ⟨w.heap.size + 1 + 1, 3, none⟩ (.string nm)) (w.heap.size + 1) r (wideL ts || decide (255 < (rd q2).dims)) := fun r hr => ⟨(hsome r hr).1, (hsome r hr).2.1, (hsome r hr).2.2.kept gs (by simp)⟩
            clear hD5 hR5 hO5 hB5 gs hD4 hR4 hO4 hB4 hC4 hM3 O hg5 hsome d1
            replace hD6 := Lib.hid hD6
            replace hR6 := Lib.hid hR6
            replace hO6 := Lib.hid hO6
            replace hB6 := Lib.hid hB6
            replace hC6 := Lib.hid hC6
            go_upto_region 15 with fail
            clear k2 k3 e2 e3
            generalize (w5.setCell ⟨w.heap.size + 1 + 1, 2, none⟩ (.int .i64 d)).setCell ⟨w.heap.size + 1 + 1, 3, none⟩ (.string nm) = W4 at *
            have hD4 := hD6
            have hR4 := hR6
            have hO4 := hO6
            have hB4 := hB6
            clear hD6 hR6 hO6 hB6
            cases hr : (rd q2).rest with
            | none =>
              have hpo5 : parseD l = (.zero, 4) := by rw [hpo3.out, hr]
              replace hpo5 := Lib.hid hpo5
              clear hC6
              have h0 := hR4.out.c0
              have h1 := hR4.out.c1
              have h2 := hR4.out.c2
              have h3 := hR4.out.c3
              have f0 := hR4.out.f0
              have f1 := hR4.out.f1
              have f2 := hR4.out.f2
              have f3 := hR4.out.f3
              have hs4 := hR4.out.lt
              go_wp2
              rw [Exit.noGoto_ret]
              have T5 := (((hR4.out.set0 (.slice none 0 0)).set1 false).set2 0).set3 ⟨#[]⟩
              refine bodyPost_ret (v := .tuple #[descV (.slice none 0 0) false 0 ⟨#[]⟩, .int .i64 4]) (by simp [results, Tryd.results31, go_sem, descV, T5.c0, T5.c1, T5.c2, T5.c3]) rfl ⟨_, by rw [hpo5.out]; rfl, by rw [hpo5.out]; exact World.ownsRow_nil _ _ _ _, ?_⟩
              have B0 := hB4.out
              repeat' (first | assumption | apply Below.setCell | apply Below.alloc | apply Below.drew)
              all_goals (first | omega | (simp; done) | (simp; omega))
            | some r =>
              obtain ⟨rfl, rfl, hC4⟩ := hC6.out r hr
              replace hC4 := Lib.hid hC4
              have hpo4 : parseD l = descEnd ⟨ts, false, (rd q2).dims, (rd q2).name⟩ (wideL ts || decide (255 < (rd q2).dims)) r := by rw [hpo3.out, hr]
              replace hpo4 := Lib.hid hpo4
              clear hC6 hpo3 hr
              generalize (wideL ts || decide (255 < (rd q2).dims)) = wd at *
              generalize (rd q2).dims = k at *
              generalize (rd q2).name = nm at *
              have h0 := hR4.out.c0
              have h1 := hR4.out.c1
              have h2 := hR4.out.c2
              have h3 := hR4.out.c3
              have f0 := hR4.out.f0
              have f1 := hR4.out.f1
              have f2 := hR4.out.f2
              have f3 := hR4.out.f3
              have d0 := hD4.out.c0
              have d1 := hD4.out.c1
              have d2 := hD4.out.c2
              have d3 := hD4.out.c3
              have p0 := hC4.out.c0
              have p1 := hC4.out.c1
              have hs4 := hR4.out.lt
              cases r with
              | cons x r =>
                have hpo5 : parseD l = (.zero, 4) := by rw [hpo4.out, descEnd, if_pos (by simp)]
                replace hpo5 := Lib.hid hpo5
                have hne : ¬ (bs (x :: r)).toList = [] := by
                  rw [ByteArray.toList_eq]
                  simp [bs]
                have hie : (bs (x :: r)).toList.isEmpty = false := by
                  rw [ByteArray.toList_eq]
                  simp [bs]
                generalize bs (x :: r) = sr at *
                go_wp2
                rw [Exit.noGoto_ret]
                have T5 := (((hR4.out.set0 (.slice none 0 0)).set1 false).set2 0).set3 ⟨#[]⟩
                refine bodyPost_ret (v := .tuple #[descV (.slice none 0 0) false 0 ⟨#[]⟩, .int .i64 4]) (by simp [results, Tryd.results31, go_sem, descV, T5.c0, T5.c1, T5.c2, T5.c3]) rfl ⟨_, by rw [hpo5.out]; rfl, by rw [hpo5.out]; exact World.ownsRow_nil _ _ _ _, ?_⟩
                have B0 := hB4.out
                repeat' (first | assumption | apply Below.setCell | apply Below.alloc | apply Below.drew)
                all_goals (first | omega | (simp; done) | (simp; omega))
              | nil =>
                rw [bs_nil] at p0
                by_cases hbad : wd = true ∨ 20 < ts.length
                · have hpo5 : parseD l = (.zero, 5) := by rw [hpo4.out, descEnd, if_neg (by simp), if_pos (by simpa using hbad)]
                  replace hpo5 := Lib.hid hpo5
                  rcases hbad with rfl | hbad
                  · skip
                    go_wp2
                    rw [Exit.noGoto_ret]
                    have T5 := (((hR4.out.set0 (.slice none 0 0)).set1 false).set2 0).set3 ⟨#[]⟩
                    refine bodyPost_ret (v := .tuple #[descV (.slice none 0 0) false 0 ⟨#[]⟩, .int .i64 5]) (by simp [results, Tryd.results31, go_sem, descV, T5.c0, T5.c1, T5.c2, T5.c3]) rfl ⟨_, by rw [hpo5.out]; rfl, by rw [hpo5.out]; exact World.ownsRow_nil _ _ _ _, ?_⟩
                    have B0 := hB4.out
                    repeat' (first | assumption | apply Below.setCell | apply Below.alloc | apply Below.drew)
                    all_goals (first | omega | (simp; done) | (simp; omega))
                  · have hbi : (20 : Int) < (ts.length : Int) := by omega
                    cases wd
                    all_goals
                      go_wp2
                      rw [Exit.noGoto_ret]
                      have T5 := (((hR4.out.set0 (.slice none 0 0)).set1 false).set2 0).set3 ⟨#[]⟩
                      refine bodyPost_ret (v := .tuple #[descV (.slice none 0 0) false 0 ⟨#[]⟩, .int .i64 5]) (by simp [results, Tryd.results31, go_sem, descV, T5.c0, T5.c1, T5.c2, T5.c3]) rfl ⟨_, by rw [hpo5.out]; rfl, by rw [hpo5.out]; exact World.ownsRow_nil _ _ _ _, ?_⟩
                      have B0 := hB4.out
                      repeat' (first | assumption | apply Below.setCell | apply Below.alloc | apply Below.drew)
                      all_goals (first | omega | (simp; done) | (simp; omega))
                · have hpo5 : parseD l = (⟨ts, false, (k : Int), nm⟩, 0) := by rw [hpo4.out, descEnd, if_neg (by simp), if_neg (by simpa using hbad)]
                  replace hpo5 := Lib.hid hpo5
                  obtain ⟨hw, hsm⟩ : wd = false ∧ (ts.length : Int) ≤ 20 := by simp at hbad; exact ⟨hbad.1, by omega⟩
                  subst hw
                  go_wp2
                  rw [Exit.noGoto_ret]
                  have T5 := (((hR4.out.set0 (.slice A ts.length cp)).set1 false).set2 (k : Int)).set3 (bs nm)
                  refine bodyPost_ret (v := .tuple #[descV (.slice A ts.length cp) false (k : Int) (bs nm), .int .i64 0]) (by simp [results, Tryd.results31, go_sem, descV, T5.c0, T5.c1, T5.c2, T5.c3]) rfl ⟨_, by rw [hpo5.out] <;> rfl, ?_, ?_⟩
                  · rw [hpo5.out]
                    have hnB : ∀ kk, (Value.slice A ts.length cp).ownBlock = some kk → w.heap.size + 3 ≤ kk := fun kk h => (hO4.out.lt kk h).1
                    have hnn : (Value.slice A ts.length cp).ownBlock = none ∨ (Value.slice A ts.length cp).ownBlock ≠ some w.heap.size := .inr (by intro e; have := hnB _ e; omega)
                    exact own_mono ((((hO4.out.kept (gb_set _ _ _ _) hnn).kept (gb_set _ _ _ _) hnn).kept (gb_set _ _ _ _) hnn).kept (gb_set _ _ _ _) hnn) (by omega)
                  · have B0 := hB4.out
                    repeat' (first | assumption | apply Below.setCell | apply Below.alloc | apply Below.drew)
                    all_goals (first | omega | (simp; done) | (simp; omega))
          · have hC4 : Cur w3 (w.heap.size + 1) q2.tail (wideL ts) := by have := hC3.out; rwa [left, if_pos t86] at this
            have hpo3 : parseD l = descEnd ⟨ts, true, 0, []⟩ (wideL ts) q2.tail := by rw [hpo2.out, descRet, if_pos t86]
            obtain ⟨A, cp, rfl⟩ := own_shape hO3.out
            go_upto_region 13 with fail
            have gs := gb_set w3 (w.heap.size + 1 + 1) 1 (.bool true)
            have hD4 := hD3.out.set1 true
            have hR4 := hR3.out.kept gs (by simp; omega)
            have hC4 := hC4.kept gs (by simp)
            have hO4 := hO3.out.kept gs (.inr (by intro e; have := (hO3.out.lt _ e).1; omega))
            have hB4 := hB3.out.setCell (p := ⟨w.heap.size + 1 + 1, 1, none⟩) (by simp; omega) (.bool true)
            clear gs hD3 hR3 hC3 hO3 hB3 k1 k2
            generalize w3.setCell ⟨w.heap.size + 1 + 1, 1, none⟩ (.bool true) = W4 at *
            replace hD4 := Lib.hid hD4
            replace hR4 := Lib.hid hR4
            replace hC4 := Lib.hid hC4
            replace hO4 := Lib.hid hO4
            replace hB4 := Lib.hid hB4
            generalize q2.tail = r at *
            generalize wideL ts = wd at *
            have hpo4 := Lib.hid hpo3
            clear hpo3 hpo2
            have h0 := hR4.out.c0
            have h1 := hR4.out.c1
            have h2 := hR4.out.c2
            have h3 := hR4.out.c3
            have f0 := hR4.out.f0
            have f1 := hR4.out.f1
            have f2 := hR4.out.f2
            have f3 := hR4.out.f3
            have d0 := hD4.out.c0
            have d1 := hD4.out.c1
            have d2 := hD4.out.c2
            have d3 := hD4.out.c3
            have p0 := hC4.out.c0
            have p1 := hC4.out.c1
            have hs4 := hR4.out.lt
            cases r with
            | cons x r =>
              have hpo5 : parseD l = (.zero, 4) := by rw [hpo4.out, descEnd, if_pos (by simp)]
              replace hpo5 := Lib.hid hpo5
              have hne : ¬ (bs (x :: r)).toList = [] := by
                rw [ByteArray.toList_eq]
                simp [bs]
              have hie : (bs (x :: r)).toList.isEmpty = false := by
                rw [ByteArray.toList_eq]
                simp [bs]
              generalize bs (x :: r) = sr at *
              go_wp2
              rw [Exit.noGoto_ret]
              have T5 := (((hR4.out.set0 (.slice none 0 0)).set1 false).set2 0).set3 ⟨#[]⟩
              refine bodyPost_ret (v := .tuple #[descV (.slice none 0 0) false 0 ⟨#[]⟩, .int .i64 4]) (by simp [results, Tryd.results31, go_sem, descV, T5.c0, T5.c1, T5.c2, T5.c3]) rfl ⟨_, by rw [hpo5.out]; rfl, by rw [hpo5.out]; exact World.ownsRow_nil _ _ _ _, ?_⟩
              have B0 := hB4.out
              repeat' (first | assumption | apply Below.setCell | apply Below.alloc | apply Below.drew)
              all_goals (first | omega | (simp; done) | (simp; omega))
            | nil =>
              rw [bs_nil] at p0
              by_cases hbad : wd = true ∨ 20 < ts.length
              · have hpo5 : parseD l = (.zero, 5) := by rw [hpo4.out, descEnd, if_neg (by simp), if_pos (by simpa using hbad)]
                replace hpo5 := Lib.hid hpo5
                rcases hbad with rfl | hbad
                · skip
                  go_wp2
                  rw [Exit.noGoto_ret]
                  have T5 := (((hR4.out.set0 (.slice none 0 0)).set1 false).set2 0).set3 ⟨#[]⟩
                  refine bodyPost_ret (v := .tuple #[descV (.slice none 0 0) false 0 ⟨#[]⟩, .int .i64 5]) (by simp [results, Tryd.results31, go_sem, descV, T5.c0, T5.c1, T5.c2, T5.c3]) rfl ⟨_, by rw [hpo5.out]; rfl, by rw [hpo5.out]; exact World.ownsRow_nil _ _ _ _, ?_⟩
                  have B0 := hB4.out
                  repeat' (first | assumption | apply Below.setCell | apply Below.alloc | apply Below.drew)
                  all_goals (first | omega | (simp; done) | (simp; omega))
                · have hbi : (20 : Int) < (ts.length : Int) := by omega
                  cases wd
                  all_goals
                    go_wp2
                    rw [Exit.noGoto_ret]
                    have T5 := (((hR4.out.set0 (.slice none 0 0)).set1 false).set2 0).set3 ⟨#[]⟩
                    refine bodyPost_ret (v := .tuple #[descV (.slice none 0 0) false 0 ⟨#[]⟩, .int .i64 5]) (by simp [results, Tryd.results31, go_sem, descV, T5.c0, T5.c1, T5.c2, T5.c3]) rfl ⟨_, by rw [hpo5.out]; rfl, by rw [hpo5.out]; exact World.ownsRow_nil _ _ _ _, ?_⟩
                    have B0 := hB4.out
                    repeat' (first | assumption | apply Below.setCell | apply Below.alloc | apply Below.drew)
                    all_goals (first | omega | (simp; done) | (simp; omega))
              · have hpo5 : parseD l = (⟨ts, true, 0, []⟩, 0) := by rw [hpo4.out, descEnd, if_neg (by simp), if_neg (by simpa using hbad)]
                replace hpo5 := Lib.hid hpo5
                obtain ⟨hw, hsm⟩ : wd = false ∧ (ts.length : Int) ≤ 20 := by simp at hbad; exact ⟨hbad.1, by omega⟩
                subst hw
                go_wp2
                rw [Exit.noGoto_ret]
                have T5 := (((hR4.out.set0 (.slice A ts.length cp)).set1 true).set2 0).set3 ⟨#[]⟩
                refine bodyPost_ret (v := .tuple #[descV (.slice A ts.length cp) true 0 ⟨#[]⟩, .int .i64 0]) (by simp [results, Tryd.results31, go_sem, descV, T5.c0, T5.c1, T5.c2, T5.c3]) rfl ⟨_, by rw [hpo5.out] <;> rfl, ?_, ?_⟩
                · rw [hpo5.out]
                  have hnB : ∀ kk, (Value.slice A ts.length cp).ownBlock = some kk → w.heap.size + 3 ≤ kk := fun kk h => (hO4.out.lt kk h).1
                  have hnn : (Value.slice A ts.length cp).ownBlock = none ∨ (Value.slice A ts.length cp).ownBlock ≠ some w.heap.size := .inr (by intro e; have := hnB _ e; omega)
                  exact own_mono ((((hO4.out.kept (gb_set _ _ _ _) hnn).kept (gb_set _ _ _ _) hnn).kept (gb_set _ _ _ _) hnn).kept (gb_set _ _ _ _) hnn) (by omega)
                · have B0 := hB4.out
                  repeat' (first | assumption | apply Below.setCell | apply Below.alloc | apply Below.drew)
                  all_goals (first | omega | (simp; done) | (simp; omega))
end Go.Proofs.YtpcdfjifhoofjaaDoor.Ty

/- The walk of types.Args. -/
namespace Go.Proofs.YtpcdfjifhoofjaaDoor.Ty
open Go Go.RowKit Go.Proofs.YtpcdfjifhoofjaaDoor.Nm
set_option linter.unusedVariables false
set_option linter.unusedSimpArgs false
set_option maxHeartbeats 1000000
set_option maxRecDepth 10000

theorem args_any (l : List UInt8) (w : World) (hm : ML w) : Calls Tryd.prog 34 #[.string (bs l)] w fun e w' =>
    e = .returned (.tuple #[.int .i64 (parseD l).1.args.length, .int .i64 (parseD l).2]) ∧ Below w.heap.size w w' := by
  have P := Lib.hid (parsedesc_any l w hm)
  go_enter Tryd.func34, Tryd.ntmps34
  go_wp2_with fail
  refine P.out.mono ?_
  rintro e w3 ⟨v, rfl, hown, hB⟩
  obtain ⟨n, hn⟩ : ∃ n, n = (parseD l).1.args.length := ⟨_, rfl⟩
  rw [← hn] at hown
  replace hn := Lib.hid hn
  obtain ⟨A, cp, rfl⟩ := own_shape hown
  replace hown := Lib.hid hown
  have hs := hB.size
  replace hB := Lib.hid hB
  clear P
  rw [descV]
  go_wp2
  go_ret2
  refine ⟨by rw [← hn.out]; rfl, ?_⟩
  have B0 := hB.out
  repeat' (first | assumption | apply Below.setCell | apply Below.alloc | apply Below.drew)
  all_goals (first | omega | (simp; done) | (simp; omega))
end Go.Proofs.YtpcdfjifhoofjaaDoor.Ty

/- What the walks by hand say of types and names, in the form that the printed texts ask for. -/
namespace Go.Proofs.YtpcdfjifhoofjaaDoor.Pt
open Go Go.RowKit Go.Proofs.YtpcdfjifhoofjaaDoor.Nm Go.Proofs.YtpcdfjifhoofjaaDoor.Ty Go.Proofs.YtpcdfjifhoofjaaDoorW.PrintWords Go.Proofs.YtpcdfjifhoofjaaDoorW.PrintLast Go.Proofs.YtpcdfjifhoofjaaDoorW.PrintMore
set_option linter.unusedVariables false
set_option linter.unusedSimpArgs false

def tup3 (p : Int × List UInt8 × Int) : Int × ByteArray × Int := (p.1, bs p.2.1, p.2.2)
def tup2 (p : List UInt8 × Int) : ByteArray × Int := (bs p.1, p.2)
theorem len_data (s : ByteArray) : s.data.toList.length = s.size := by rw [Array.length_toList]; rfl
theorem small_of {a : ByteArray} (h : a.size < 4294967281) : a.data.toList.length < 4294967281 := by have e := len_data a; omega
theorem some_inj3 {a b c : Type} {p : a × b × c} {x : a} {y : b} {z : c} (h : some p = some (x, y, z)) : p.1 = x ∧ p.2.1 = y ∧ p.2.2 = z := by cases h; exact ⟨rfl, rfl, rfl⟩
theorem some_inj2 {a b : Type} {p : a × b} {x : a} {y : b} (h : some p = some (x, y)) : p.1 = x ∧ p.2 = y := by cases h; exact ⟨rfl, rfl⟩
theorem if_some {c : Prop} [Decidable c] {α : Type} {x y : α} (h : (if c then some x else none) = some y) : c ∧ some x = some y := by
  split at h
  · exact ⟨by assumption, h⟩
  · cases h

def types_Parse.f (a0 : ByteArray) : Option (Int × ByteArray × Int) := some (tup3 (parseT a0.data.toList))
theorem types_Parse.calls (a0 : ByteArray) (r1 : Int) (r2 : ByteArray) (r3 : Int) (w : World) (h : types_Parse.f a0 = some (r1, r2, r3)) :
    Calls Tryd.prog 26 #[.string a0] w fun e w' => e = .returned (.tuple #[.agg #[.int .i64 r1, .string r2], .int .i64 r3]) ∧ Below w.heap.size w w' := by
  unfold types_Parse.f at h
  obtain ⟨rfl, rfl, rfl⟩ := some_inj3 h
  have C := parse_any a0.data.toList w trivial
  rw [mk_data] at C
  exact C
def types_ParseRef.f (a0 : ByteArray) : Option (Int × ByteArray × Int) := some (tup3 (parseR a0.data.toList))
theorem types_ParseRef.calls (a0 : ByteArray) (r1 : Int) (r2 : ByteArray) (r3 : Int) (w : World) (h : types_ParseRef.f a0 = some (r1, r2, r3)) :
    Calls Tryd.prog 29 #[.string a0] w fun e w' => e = .returned (.tuple #[.agg #[.int .i64 r1, .string r2], .int .i64 r3]) ∧ Below w.heap.size w w' := by
  unfold types_ParseRef.f at h
  obtain ⟨rfl, rfl, rfl⟩ := some_inj3 h
  have C := parseref_any a0.data.toList w trivial
  rw [mk_data] at C
  exact C
def arbiterref02_Parse.f (a0 : ByteArray) : Option (Int × ByteArray × Int) := some (tup3 (parseT a0.data.toList))
theorem arbiterref02_Parse.calls (a0 : ByteArray) (r1 : Int) (r2 : ByteArray) (r3 : Int) (w : World) (h : arbiterref02_Parse.f a0 = some (r1, r2, r3)) :
    Calls Tryd.prog 27 #[.string a0] w fun e w' => e = .returned (.tuple #[.agg #[.int .i64 r1, .string r2], .int .i64 r3]) ∧ Below w.heap.size w w' := by
  unfold arbiterref02_Parse.f at h
  obtain ⟨rfl, rfl, rfl⟩ := some_inj3 h
  have C := rparse_any a0.data.toList w trivial
  rw [mk_data] at C
  exact C
def arbiterref02_ParseRef.f (a0 : ByteArray) : Option (Int × ByteArray × Int) := some (tup3 (parseR a0.data.toList))
theorem arbiterref02_ParseRef.calls (a0 : ByteArray) (r1 : Int) (r2 : ByteArray) (r3 : Int) (w : World) (h : arbiterref02_ParseRef.f a0 = some (r1, r2, r3)) :
    Calls Tryd.prog 30 #[.string a0] w fun e w' => e = .returned (.tuple #[.agg #[.int .i64 r1, .string r2], .int .i64 r3]) ∧ Below w.heap.size w w' := by
  unfold arbiterref02_ParseRef.f at h
  obtain ⟨rfl, rfl, rfl⟩ := some_inj3 h
  have C := rparseref_any a0.data.toList w trivial
  rw [mk_data] at C
  exact C
def types_ArrayOf.f (a0_0 : Int) (a0_1 : ByteArray) : Option (Int × ByteArray × Int) := some (tup3 (arrT a0_0 a0_1.data.toList))
theorem types_ArrayOf.calls (a0_0 : Int) (a0_1 : ByteArray) (r1 : Int) (r2 : ByteArray) (r3 : Int) (w : World) (h : types_ArrayOf.f a0_0 a0_1 = some (r1, r2, r3)) :
    Calls Tryd.prog 47 #[.agg #[.int .i64 a0_0, .string a0_1]] w fun e w' => e = .returned (.tuple #[.agg #[.int .i64 r1, .string r2], .int .i64 r3]) ∧ Below w.heap.size w w' := by
  unfold types_ArrayOf.f at h
  obtain ⟨rfl, rfl, rfl⟩ := some_inj3 h
  have C := arrayof_any a0_0 a0_1.data.toList w trivial
  rw [tyV, mk_data] at C
  exact C
def types_Component.f (a0_0 : Int) (a0_1 : ByteArray) : Option (Int × ByteArray × Int) := some (tup3 (cmpT a0_0 a0_1.data.toList))
theorem types_Component.calls (a0_0 : Int) (a0_1 : ByteArray) (r1 : Int) (r2 : ByteArray) (r3 : Int) (w : World) (h : types_Component.f a0_0 a0_1 = some (r1, r2, r3)) :
    Calls Tryd.prog 49 #[.agg #[.int .i64 a0_0, .string a0_1]] w fun e w' => e = .returned (.tuple #[.agg #[.int .i64 r1, .string r2], .int .i64 r3]) ∧ Below w.heap.size w w' := by
  unfold types_Component.f at h
  obtain ⟨rfl, rfl, rfl⟩ := some_inj3 h
  have C := component_any a0_0 a0_1.data.toList w trivial
  rw [tyV, mk_data] at C
  exact C
def types_Element.f (a0_0 : Int) (a0_1 : ByteArray) : Option (Int × ByteArray × Int) := some (tup3 (eltT a0_0 a0_1.data.toList))
theorem types_Element.calls (a0_0 : Int) (a0_1 : ByteArray) (r1 : Int) (r2 : ByteArray) (r3 : Int) (w : World) (h : types_Element.f a0_0 a0_1 = some (r1, r2, r3)) :
    Calls Tryd.prog 51 #[.agg #[.int .i64 a0_0, .string a0_1]] w fun e w' => e = .returned (.tuple #[.agg #[.int .i64 r1, .string r2], .int .i64 r3]) ∧ Below w.heap.size w w' := by
  unfold types_Element.f at h
  obtain ⟨rfl, rfl, rfl⟩ := some_inj3 h
  have C := element_any a0_0 a0_1.data.toList w trivial
  rw [tyV, mk_data] at C
  exact C
def arbiterref02_ArrayOf.f (a0_0 : Int) (a0_1 : ByteArray) : Option (Int × ByteArray × Int) := some (tup3 (arrT a0_0 a0_1.data.toList))
theorem arbiterref02_ArrayOf.calls (a0_0 : Int) (a0_1 : ByteArray) (r1 : Int) (r2 : ByteArray) (r3 : Int) (w : World) (h : arbiterref02_ArrayOf.f a0_0 a0_1 = some (r1, r2, r3)) :
    Calls Tryd.prog 48 #[.agg #[.int .i64 a0_0, .string a0_1]] w fun e w' => e = .returned (.tuple #[.agg #[.int .i64 r1, .string r2], .int .i64 r3]) ∧ Below w.heap.size w w' := by
  unfold arbiterref02_ArrayOf.f at h
  obtain ⟨rfl, rfl, rfl⟩ := some_inj3 h
  have C := rarrayof_any a0_0 a0_1.data.toList w
  rw [tyV, mk_data] at C
  exact C
def arbiterref02_Component.f (a0_0 : Int) (a0_1 : ByteArray) : Option (Int × ByteArray × Int) := some (tup3 (cmpT a0_0 a0_1.data.toList))
theorem arbiterref02_Component.calls (a0_0 : Int) (a0_1 : ByteArray) (r1 : Int) (r2 : ByteArray) (r3 : Int) (w : World) (h : arbiterref02_Component.f a0_0 a0_1 = some (r1, r2, r3)) :
    Calls Tryd.prog 50 #[.agg #[.int .i64 a0_0, .string a0_1]] w fun e w' => e = .returned (.tuple #[.agg #[.int .i64 r1, .string r2], .int .i64 r3]) ∧ Below w.heap.size w w' := by
  unfold arbiterref02_Component.f at h
  obtain ⟨rfl, rfl, rfl⟩ := some_inj3 h
  have C := rcomponent_any a0_0 a0_1.data.toList w
  rw [tyV, mk_data] at C
  exact C
def arbiterref02_Element.f (a0_0 : Int) (a0_1 : ByteArray) : Option (Int × ByteArray × Int) := some (tup3 (eltT a0_0 a0_1.data.toList))
theorem arbiterref02_Element.calls (a0_0 : Int) (a0_1 : ByteArray) (r1 : Int) (r2 : ByteArray) (r3 : Int) (w : World) (h : arbiterref02_Element.f a0_0 a0_1 = some (r1, r2, r3)) :
    Calls Tryd.prog 52 #[.agg #[.int .i64 a0_0, .string a0_1]] w fun e w' => e = .returned (.tuple #[.agg #[.int .i64 r1, .string r2], .int .i64 r3]) ∧ Below w.heap.size w w' := by
  unfold arbiterref02_Element.f at h
  obtain ⟨rfl, rfl, rfl⟩ := some_inj3 h
  have C := relement_any a0_0 a0_1.data.toList w
  rw [tyV, mk_data] at C
  exact C
def types_Text.f (a0_0 : Int) (a0_1 : ByteArray) : Option (ByteArray × Int) := some (tup2 (textT a0_0 a0_1.data.toList))
theorem types_Text.calls (a0_0 : Int) (a0_1 : ByteArray) (r1 : ByteArray) (r2 : Int) (w : World) (h : types_Text.f a0_0 a0_1 = some (r1, r2)) :
    Calls Tryd.prog 41 #[.agg #[.int .i64 a0_0, .string a0_1]] w fun e w' => e = .returned (.tuple #[.string r1, .int .i64 r2]) ∧ Below w.heap.size w w' := by
  unfold types_Text.f at h
  obtain ⟨rfl, rfl⟩ := some_inj2 h
  have C := text_any a0_0 a0_1.data.toList w trivial
  rw [tyV, mk_data] at C
  exact C
def types_RefText.f (a0_0 : Int) (a0_1 : ByteArray) : Option (ByteArray × Int) := some (tup2 (refT a0_0 a0_1.data.toList))
theorem types_RefText.calls (a0_0 : Int) (a0_1 : ByteArray) (r1 : ByteArray) (r2 : Int) (w : World) (h : types_RefText.f a0_0 a0_1 = some (r1, r2)) :
    Calls Tryd.prog 45 #[.agg #[.int .i64 a0_0, .string a0_1]] w fun e w' => e = .returned (.tuple #[.string r1, .int .i64 r2]) ∧ Below w.heap.size w w' := by
  unfold types_RefText.f at h
  obtain ⟨rfl, rfl⟩ := some_inj2 h
  have C := reftext_any a0_0 a0_1.data.toList w trivial
  rw [tyV, mk_data] at C
  exact C
def types_Check.f (a0_0 : Int) (a0_1 : ByteArray) : Option Int := some (chk a0_0 a0_1.data.toList)
theorem types_Check.calls (a0_0 : Int) (a0_1 : ByteArray) (r : Int) (w : World) (h : types_Check.f a0_0 a0_1 = some r) :
    Calls Tryd.prog 43 #[.agg #[.int .i64 a0_0, .string a0_1]] w fun e w' => e = .returned (.int .i64 r) ∧ Below w.heap.size w w' := by
  unfold types_Check.f at h
  obtain rfl := Option.some.inj h
  have C := check_any a0_0 a0_1.data.toList w trivial
  rw [tyV, mk_data] at C
  exact C
def arbiterref02_Check.f (a0_0 : Int) (a0_1 : ByteArray) : Option Int := some (chk a0_0 a0_1.data.toList)
theorem arbiterref02_Check.calls (a0_0 : Int) (a0_1 : ByteArray) (r : Int) (w : World) (h : arbiterref02_Check.f a0_0 a0_1 = some r) :
    Calls Tryd.prog 44 #[.agg #[.int .i64 a0_0, .string a0_1]] w fun e w' => e = .returned (.int .i64 r) ∧ Below w.heap.size w w' := by
  unfold arbiterref02_Check.f at h
  obtain rfl := Option.some.inj h
  have C := rcheck_any a0_0 a0_1.data.toList w
  rw [tyV, mk_data] at C
  exact C
def arbiterref02_Same.f (a0_0 : Int) (a0_1 : ByteArray) (a1_0 : Int) (a1_1 : ByteArray) : Option Bool := some (decide (a0_0 = a1_0 ∧ a0_1.data.toList = a1_1.data.toList))
theorem arbiterref02_Same.calls (a0_0 : Int) (a0_1 : ByteArray) (a1_0 : Int) (a1_1 : ByteArray) (r : Bool) (w : World) (h : arbiterref02_Same.f a0_0 a0_1 a1_0 a1_1 = some r) :
    Calls Tryd.prog 28 #[.agg #[.int .i64 a0_0, .string a0_1], .agg #[.int .i64 a1_0, .string a1_1]] w fun e w' => e = .returned (.bool r) ∧ Below w.heap.size w w' := by
  unfold arbiterref02_Same.f at h
  obtain rfl := Option.some.inj h
  have C := same_any a0_0 a1_0 a0_1.data.toList a1_1.data.toList w
  rw [tyV, tyV, mk_data, mk_data] at C
  exact C
/-- A type as the printed texts have it. -/
def toS (p : Nat × List UInt8) : S37 := ⟨p.1, bs p.2⟩
theorem reps_ty {w : World} {base : Nat} {ok : Nat → Prop} (ts : List (Nat × List UInt8)) : Reps (k37.M w base ok) 2 (ts.map toS) (tyCells ts) := by
  refine ⟨?_, fun j p hj => ?_⟩
  · induction ts with
    | nil => rfl
    | cons a ts ih => simp only [tyCells, List.flatMap_cons, List.length_append, List.map_cons, List.length_cons, List.length_nil] at ih ⊢; omega
  · rw [List.getElem?_map] at hj
    obtain ⟨a, ha, rfl⟩ := Option.map_eq_some_iff.1 hj
    have e : ((tyCells ts).drop (j * 2)).take 2 = [.int .i64 (a.1 : Int), .string (bs a.2)] := by
      clear hj
      induction ts generalizing j with
      | nil => simp at ha
      | cons b ts ih =>
        cases j with
        | zero => simp at ha; subst ha; simp [tyCells]
        | succ j =>
          simp at ha
          have := ih j ha
          rw [show (j + 1) * 2 = j * 2 + 2 from by omega]
          simpa [tyCells] using this
    rw [e]
    exact k37_mkM w base ok (toS a)
theorem own_R {w' : World} {base : Nat} {v : Value} {ts : List (Nat × List UInt8)} (h : w'.ownsRow base 37 2 v ts.length (tyCells ts)) : Kd.R k37 37 w' base (fun _ => True) v (ts.map toS) :=
  ⟨fun _ _ => trivial, tyCells ts, by rw [List.length_map]; exact h, reps_ty ts⟩
def tup5 (p : DescR × Int) : (List S37) × Bool × Int × ByteArray × Int := (p.1.args.map toS, p.1.void, p.1.rdims, bs p.1.rname, p.2)
def types_ParseDesc.f (a0 : ByteArray) : Option ((List S37) × Bool × Int × ByteArray × Int) := some (tup5 (parseD a0.data.toList))
theorem types_ParseDesc.calls (a0 : ByteArray) (r1 : List S37) (r2 : Bool) (r3 : Int) (r4 : ByteArray) (r5 : Int) (w : World) (h : types_ParseDesc.f a0 = some (r1, r2, r3, r4, r5)) :
    Calls Tryd.prog 31 #[.string a0] w fun e w' => ∃ v0_ : Value, e = .returned (.tuple #[.agg #[v0_, .bool r2, .int .i64 r3, .string r4], .int .i64 r5]) ∧ Kd.R k37 37 w' w.heap.size (fun _ => True) v0_ r1 ∧ Below w.heap.size w w' := by
  unfold types_ParseDesc.f at h
  have h1 : tup5 (parseD a0.data.toList) = (r1, r2, r3, r4, r5) := Option.some.inj h
  simp only [tup5, Prod.mk.injEq] at h1
  obtain ⟨rfl, rfl, rfl, rfl, rfl⟩ := h1
  have C := parsedesc_any a0.data.toList w trivial
  rw [mk_data] at C
  refine C.mono ?_
  rintro e w' ⟨v, rfl, hown, hB⟩
  exact ⟨v, rfl, own_R hown, hB⟩
def types_Args.f (a0 : ByteArray) : Option (Int × Int) := some (((parseD a0.data.toList).1.args.length : Int), (parseD a0.data.toList).2)
theorem types_Args.calls (a0 : ByteArray) (r1 : Int) (r2 : Int) (w : World) (h : types_Args.f a0 = some (r1, r2)) :
    Calls Tryd.prog 34 #[.string a0] w fun e w' => e = .returned (.tuple #[.int .i64 r1, .int .i64 r2]) ∧ Below w.heap.size w w' := by
  unfold types_Args.f at h
  obtain ⟨rfl, rfl⟩ := some_inj2 h
  have C := args_any a0.data.toList w trivial
  rw [mk_data] at C
  exact C
end Go.Proofs.YtpcdfjifhoofjaaDoor.Pt

-- laid by a program of this session's own (a variant of the kit's print)
namespace Go.Proofs.YtpcdfjifhoofjaaDoor.Pt
open Go.RowKit Go.Proofs.YtpcdfjifhoofjaaDoorW.PrintWords Go.Proofs.YtpcdfjifhoofjaaDoorW.PrintLast Go.Proofs.YtpcdfjifhoofjaaDoorW.PrintMore
attribute [local go_sem] max2_int min2_int max_two min_two max_three min_three max_four min_four   -- for this text's walks alone
set_option linter.unusedVariables false
set_option linter.unusedSimpArgs false

/-! ### arbiterlaw02_awake: function 25 -/
def arbiterlaw02_awake.f  : Option (Bool) := (types_Parse.f (⟨#[91, 76, 112, 47, 65, 59]⟩ : ByteArray)).bind fun bt101 => (if bt101.2.2 = 0 then (if bt101.1 = 1 then (some (bt101.2.1.toList == ([112, 47, 65] : List UInt8))) else (some false)) else (some false))
set_option maxHeartbeats 8000000 in
set_option maxRecDepth 100000 in
theorem arbiterlaw02_awake.calls  (r : Bool) (w : World) (h : arbiterlaw02_awake.f  = some r) :
    Calls Tryd.prog 25 #[] w fun e w' => e = .returned (.bool r) ∧ Below w.heap.size w w' := by
  have hu37 := Tryd.underlying37
  have HB := Aside0.mk (Below.refl w.heap.size w)
  have H : ((types_Parse.f (⟨#[91, 76, 112, 47, 65, 59]⟩ : ByteArray)).bind fun bt101 => (if bt101.2.2 = 0 then (if bt101.1 = 1 then (some (bt101.2.1.toList == ([112, 47, 65] : List UInt8))) else (some false)) else (some false))) = some r := h
  clear h
  replace H := Option.bind_eq_some_iff.mp H
  obtain ⟨⟨t101, t102, t103⟩, A10, H⟩ := H
  replace H : (if t103 = 0 then (if t101 = 1 then (some (t102.toList == ([112, 47, 65] : List UInt8))) else (some false)) else (some false)) = some r := H
  have A1 := Aside0.mk A10
  clear A10
  by_cases c2 : t103 = 0
  · rw [if_pos c2] at H
    have c2b0 : (t103 == 0) = true := beq_iff_eq.mpr c2
    have c2b1 : (t103 != 0) = false := bne_eq_false_iff_eq.mpr c2
    clear c2
    by_cases c3 : t101 = 1
    · rw [if_pos c3] at H
      have c3b0 : (t101 == 1) = true := beq_iff_eq.mpr c3
      have c3b1 : (t101 != 1) = false := bne_eq_false_iff_eq.mpr c3
      clear c3
      obtain rfl := Option.some.inj H
      go_enter Tryd.func25, Tryd.ntmps25
      go_wp2_with (first | ((with_reducible refine gate_callee (f := 26) rfl ?_); refine goesL_ (some 4) rfl rfl Tryd.func26 (by kernel_rfl) rfl #[.string (⟨#[91, 76, 112, 47, 65, 59]⟩ : ByteArray)] rfl (by (try simp only [List.map_toArray, List.map_cons, List.map_nil]); first | done | rfl | (simp only [List.length_drop, List.length_take]; rfl)) ?_; (with_reducible refine (types_Parse.calls (⟨#[91, 76, 112, 47, 65, 59]⟩ : ByteArray) t101 t102 t103 _ A1.out).mono ?_); rintro e w4 ⟨rfl, hb⟩; refine ⟨_, rfl, ?_⟩; have n0_ := Aside0.mk (below_step (by repeat (first | (with_reducible first | exact HB.out | apply below_alloc | apply pw_below_drewN | apply below_drew1) | exact HB.out)) hb); clear HB; have HB := n0_; clear n0_; (try clear hb); (try clear hb2); (try clear hk); (try clear hi)) | ((with_reducible refine gate_dst (N := 1) rfl ?_); refine box_event ?hg (N := 1) ?hd (cs := #[.int .i64 0, .string (⟨#[]⟩ : ByteArray)]) (t := 37) ?hr ?_; (case hd => rfl); (case hg => rfl); (case hr => first | (go_simp; done) | (go_simp; rfl)); intro gb104 hg w5 hbox hb; have n0_ := Aside0.mk (below_step (by repeat (first | (with_reducible first | exact HB.out | apply below_alloc | apply pw_below_drewN | apply below_drew1) | exact HB.out)) hb); have n1_ := Aside0.mk (hbox); have n2_ := Aside0.mk ((by rw [hg]; exact (below_size (by repeat (first | (with_reducible first | exact HB.out | apply below_alloc | apply pw_below_drewN | apply below_drew1) | exact HB.out))) : w.heap.size ≤ gb104)); have n3_ := Aside0.mk ((by rw [hg]; exact (below_size (by repeat (first | (with_reducible first | exact HB.out | apply below_alloc | apply pw_below_drewN | apply below_drew1) | exact HB.out))) : w.heap.size ≤ gb104)); clear HB; have HB := n0_; have BK104 := n1_; have GW104 := n2_; have GE104 := n3_; clear n0_ n1_ n2_ n3_; clear hb hbox hg; have hcz6_0 : w5.cell? ⟨gb104, 0, none⟩ = some (.int .i64 0) := (blk_cell BK104.out 0).trans rfl; have hcz6_1 : w5.cell? ⟨gb104, 1, none⟩ = some (.string (⟨#[]⟩ : ByteArray)) := (blk_cell BK104.out 1).trans rfl; have hfz6_0 := blk_frozen BK104.out 0; have hfz6_1 := blk_frozen BK104.out 1))
      go_ret
      exact ⟨by first | rfl | (simp [errW_none, errW_some] <;> rfl) | (simp [*, errW_none, errW_some] <;> rfl), by repeat (first | (with_reducible first | exact HB.out | apply below_alloc | apply pw_below_drewN | apply below_drew1 | refine below_set ?_ GE104.out) | exact HB.out)⟩
    · rw [if_neg c3] at H
      have c3b0 : (t101 == 1) = false := beq_eq_false_iff_ne.mpr c3
      have c3b1 : (t101 != 1) = true := bne_iff_ne.mpr c3
      obtain rfl := Option.some.inj H
      go_enter Tryd.func25, Tryd.ntmps25
      go_wp2_with (first | ((with_reducible refine gate_callee (f := 26) rfl ?_); refine goesL_ (some 4) rfl rfl Tryd.func26 (by kernel_rfl) rfl #[.string (⟨#[91, 76, 112, 47, 65, 59]⟩ : ByteArray)] rfl (by (try simp only [List.map_toArray, List.map_cons, List.map_nil]); first | done | rfl | (simp only [List.length_drop, List.length_take]; rfl)) ?_; (with_reducible refine (types_Parse.calls (⟨#[91, 76, 112, 47, 65, 59]⟩ : ByteArray) t101 t102 t103 _ A1.out).mono ?_); rintro e w7 ⟨rfl, hb⟩; refine ⟨_, rfl, ?_⟩; have n0_ := Aside0.mk (below_step (by repeat (first | (with_reducible first | exact HB.out | apply below_alloc | apply pw_below_drewN | apply below_drew1) | exact HB.out)) hb); clear HB; have HB := n0_; clear n0_; (try clear hb); (try clear hb2); (try clear hk); (try clear hi)) | ((with_reducible refine gate_dst (N := 1) rfl ?_); refine box_event ?hg (N := 1) ?hd (cs := #[.int .i64 0, .string (⟨#[]⟩ : ByteArray)]) (t := 37) ?hr ?_; (case hd => rfl); (case hg => rfl); (case hr => first | (go_simp; done) | (go_simp; rfl)); intro gb104 hg w8 hbox hb; have n0_ := Aside0.mk (below_step (by repeat (first | (with_reducible first | exact HB.out | apply below_alloc | apply pw_below_drewN | apply below_drew1) | exact HB.out)) hb); have n1_ := Aside0.mk (hbox); have n2_ := Aside0.mk ((by rw [hg]; exact (below_size (by repeat (first | (with_reducible first | exact HB.out | apply below_alloc | apply pw_below_drewN | apply below_drew1) | exact HB.out))) : w.heap.size ≤ gb104)); have n3_ := Aside0.mk ((by rw [hg]; exact (below_size (by repeat (first | (with_reducible first | exact HB.out | apply below_alloc | apply pw_below_drewN | apply below_drew1) | exact HB.out))) : w.heap.size ≤ gb104)); clear HB; have HB := n0_; have BK104 := n1_; have GW104 := n2_; have GE104 := n3_; clear n0_ n1_ n2_ n3_; clear hb hbox hg; have hcz9_0 : w8.cell? ⟨gb104, 0, none⟩ = some (.int .i64 0) := (blk_cell BK104.out 0).trans rfl; have hcz9_1 : w8.cell? ⟨gb104, 1, none⟩ = some (.string (⟨#[]⟩ : ByteArray)) := (blk_cell BK104.out 1).trans rfl; have hfz9_0 := blk_frozen BK104.out 0; have hfz9_1 := blk_frozen BK104.out 1))
      go_ret
      exact ⟨by first | rfl | (simp [errW_none, errW_some] <;> rfl) | (simp [*, errW_none, errW_some] <;> rfl), by repeat (first | (with_reducible first | exact HB.out | apply below_alloc | apply pw_below_drewN | apply below_drew1 | refine below_set ?_ GE104.out) | exact HB.out)⟩
  · rw [if_neg c2] at H
    have c2b0 : (t103 == 0) = false := beq_eq_false_iff_ne.mpr c2
    have c2b1 : (t103 != 0) = true := bne_iff_ne.mpr c2
    obtain rfl := Option.some.inj H
    go_enter Tryd.func25, Tryd.ntmps25
    go_wp2_with (first | ((with_reducible refine gate_callee (f := 26) rfl ?_); refine goesL_ (some 4) rfl rfl Tryd.func26 (by kernel_rfl) rfl #[.string (⟨#[91, 76, 112, 47, 65, 59]⟩ : ByteArray)] rfl (by (try simp only [List.map_toArray, List.map_cons, List.map_nil]); first | done | rfl | (simp only [List.length_drop, List.length_take]; rfl)) ?_; (with_reducible refine (types_Parse.calls (⟨#[91, 76, 112, 47, 65, 59]⟩ : ByteArray) t101 t102 t103 _ A1.out).mono ?_); rintro e w10 ⟨rfl, hb⟩; refine ⟨_, rfl, ?_⟩; have n0_ := Aside0.mk (below_step (by repeat (first | (with_reducible first | exact HB.out | apply below_alloc | apply pw_below_drewN | apply below_drew1) | exact HB.out)) hb); clear HB; have HB := n0_; clear n0_; (try clear hb); (try clear hb2); (try clear hk); (try clear hi)) | ((with_reducible refine gate_dst (N := 1) rfl ?_); refine box_event ?hg (N := 1) ?hd (cs := #[.int .i64 0, .string (⟨#[]⟩ : ByteArray)]) (t := 37) ?hr ?_; (case hd => rfl); (case hg => rfl); (case hr => first | (go_simp; done) | (go_simp; rfl)); intro gb104 hg w11 hbox hb; have n0_ := Aside0.mk (below_step (by repeat (first | (with_reducible first | exact HB.out | apply below_alloc | apply pw_below_drewN | apply below_drew1) | exact HB.out)) hb); have n1_ := Aside0.mk (hbox); have n2_ := Aside0.mk ((by rw [hg]; exact (below_size (by repeat (first | (with_reducible first | exact HB.out | apply below_alloc | apply pw_below_drewN | apply below_drew1) | exact HB.out))) : w.heap.size ≤ gb104)); have n3_ := Aside0.mk ((by rw [hg]; exact (below_size (by repeat (first | (with_reducible first | exact HB.out | apply below_alloc | apply pw_below_drewN | apply below_drew1) | exact HB.out))) : w.heap.size ≤ gb104)); clear HB; have HB := n0_; have BK104 := n1_; have GW104 := n2_; have GE104 := n3_; clear n0_ n1_ n2_ n3_; clear hb hbox hg; have hcz12_0 : w11.cell? ⟨gb104, 0, none⟩ = some (.int .i64 0) := (blk_cell BK104.out 0).trans rfl; have hcz12_1 : w11.cell? ⟨gb104, 1, none⟩ = some (.string (⟨#[]⟩ : ByteArray)) := (blk_cell BK104.out 1).trans rfl; have hfz12_0 := blk_frozen BK104.out 0; have hfz12_1 := blk_frozen BK104.out 1))
    go_ret
    exact ⟨by first | rfl | (simp [errW_none, errW_some] <;> rfl) | (simp [*, errW_none, errW_some] <;> rfl), by repeat (first | (with_reducible first | exact HB.out | apply below_alloc | apply pw_below_drewN | apply below_drew1 | refine below_set ?_ GE104.out) | exact HB.out)⟩

/-! ### arbiterref01_Parts: function 24 -/
def arbiterref01_Parts.l0 : Nat → ByteArray → List ByteArray → Int → Int → Option (List ByteArray)
  | 0, _, _, _, _ => none
  | k + 1, x0, x3, x4, x5 => if x5 < (x0.size : Int) then (if 0 ≤ x5 then (if (bt x0 x5) = 47 then (if 0 ≤ x4 then (if x4 ≤ x5 then (if x5 ≤ (x0.size : Int) then (if x3.length < 8796093022208 then (arbiterref01_Parts.l0 k x0 (x3 ++ [x0.extract (x4 : Int).toNat (x5 : Int).toNat]) (wrap64 (x5 + 1)) (wrap64 (x5 + 1))) else (none)) else (none)) else (none)) else (none)) else (arbiterref01_Parts.l0 k x0 x3 x4 (wrap64 (x5 + 1)))) else (none)) else (if 0 ≤ x4 then (if x4 ≤ (x0.size : Int) then (if x3.length < 8796093022208 then (some (x3 ++ [x0.extract (x4 : Int).toNat x0.size])) else (none)) else (none)) else (none))
def arbiterref01_Parts.f (k : Nat) (a0 : ByteArray) : Option (List ByteArray) := arbiterref01_Parts.l0 k a0 ([] : List ByteArray) 0 0
theorem arbiterref01_Parts.mono_l : ∀ k, (∀ y0 y1 y2 y3, LeO (arbiterref01_Parts.l0 k y0 y1 y2 y3) (arbiterref01_Parts.l0 (k + 1) y0 y1 y2 y3))
  | 0 => fun _ _ _ _ r h => by simp [arbiterref01_Parts.l0] at h
  | k + 1 => by
    have ih0 := arbiterref01_Parts.mono_l k
    · intro y0 y1 y2 y3
      unfold arbiterref01_Parts.l0
      repeat' first
      | (with_reducible exact ih0 _ _ _ _)
      | (with_reducible exact LeO.refl _)
      | (with_reducible exact LeO.none _)
      | (with_reducible refine LeO.ite ?_ ?_)
      | (with_reducible refine LeO.bind ?_ (fun _ => ?_))
      | exact ih0 _ _ _ _
      | exact LeO.none _
      | refine LeO.ite ?_ ?_
      | refine LeO.bind ?_ (fun _ => ?_)
theorem arbiterref01_Parts.mono : ∀ a0 k, LeO (arbiterref01_Parts.f k a0) (arbiterref01_Parts.f (k + 1) a0) := by
  intro a0 k
  have ih0 := arbiterref01_Parts.mono_l k
  unfold arbiterref01_Parts.f
  repeat' first
      | (with_reducible exact ih0 _ _ _ _)
      | (with_reducible exact LeO.refl _)
      | (with_reducible exact LeO.none _)
      | (with_reducible refine LeO.ite ?_ ?_)
      | (with_reducible refine LeO.bind ?_ (fun _ => ?_))
      | exact ih0 _ _ _ _
      | exact LeO.none _
      | refine LeO.ite ?_ ?_
      | refine LeO.bind ?_ (fun _ => ?_)
set_option maxHeartbeats 8000000 in
set_option maxRecDepth 100000 in
theorem arbiterref01_Parts.calls (k : Nat) (a0 : ByteArray) (r : List ByteArray) (w : World) (h : arbiterref01_Parts.f k a0 = some r) :
    Calls Tryd.prog 24 #[.string a0] w fun e w' => ∃ v0_ : Value, e = .returned (v0_) ∧ Kd.R Kd.string 9 w' w.heap.size (fun _ => True) v0_ r ∧ Below w.heap.size w w' := by
  have HB := Aside0.mk (Below.refl w.heap.size w)
  have H : (arbiterref01_Parts.l0 k a0 ([] : List ByteArray) 0 0) = some r := h
  clear h
  have H' := Aside0.mk H
  clear H
  go_enter Tryd.func24, Tryd.ntmps24
  go_wp2
  go_loopg [3, 4, 5] k (fun kq v3 v4 v5 w' => ∃ (x3_1 : List ByteArray) (x4_1 : Int) (x5_1 : Int), v4 = .int .i64 x4_1 ∧ v5 = .int .i64 x5_1 ∧ Aside0 (arbiterref01_Parts.l0 kq a0 x3_1 x4_1 x5_1 = some r) ∧ Aside0 (kq ≤ k) ∧ Aside0 (Kd.R Kd.string 9 w' w.heap.size (fun _ => True) v3 x3_1) ∧ Aside0 (Below w.heap.size w w'))
  case atStart => exact ⟨(([] : List ByteArray)), (0), (0), (by first | rfl | (simp; done) | (simp [*]; done)), (by first | rfl | (simp; done) | (simp [*]; done)), H', ⟨Nat.le_refl _⟩, ⟨by first | exact Kd.R_nil _ _ _ _ _ | exact Kd.N_nil _ _ _ _ _ | exact Kd.V_nil _ _ _ _ _ | exact Kd.Q_nil _ _ _ _ _ | exact Kd.S_nil _ _ _ _ _⟩, ⟨by repeat (first | (with_reducible first | exact HB.out | apply below_alloc | apply pw_below_drewN | apply below_drew1) | exact HB.out)⟩⟩
  case round =>
    clear H'
    obtain ⟨x3_1, x4_1, x5_1, rfl, rfl, HA, HK1, HO_3, HB⟩ := hrel
    cases gk with
    | zero => exact absurd HA.out (by simp [arbiterref01_Parts.l0])
    | succ k1 =>
      have H := HA.out
      clear HA
      simp only [arbiterref01_Parts.l0] at H
      by_cases c2 : x5_1 < (a0.size : Int)
      · rw [if_pos c2] at H
        have c2b0 : decide (x5_1 < (a0.size : Int)) = true := decide_eq_true c2
        clear c2
        by_cases c3 : 0 ≤ x5_1
        · rw [if_pos c3] at H
          have c3b0 : decide (0 ≤ x5_1) = true := decide_eq_true c3
          clear c3
          by_cases c5 : (bt a0 x5_1) = 47
          · rw [if_pos c5] at H
            have c5b0 : ((bt a0 x5_1) == 47) = true := beq_iff_eq.mpr c5
            have c5b1 : ((bt a0 x5_1) != 47) = false := bne_eq_false_iff_eq.mpr c5
            clear c5
            by_cases c6 : 0 ≤ x4_1
            · rw [if_pos c6] at H
              have c6b0 := eq_true c6
              have c6b1 : decide (0 ≤ x4_1) = true := decide_eq_true c6
              clear c6
              by_cases c7 : x4_1 ≤ x5_1
              · rw [if_pos c7] at H
                have c7b0 := eq_true c7
                have c7b1 : decide (x4_1 ≤ x5_1) = true := decide_eq_true c7
                clear c7
                by_cases c8 : x5_1 ≤ (a0.size : Int)
                · rw [if_pos c8] at H
                  have c8b0 := eq_true c8
                  have c8b1 : decide (x5_1 ≤ (a0.size : Int)) = true := decide_eq_true c8
                  clear c8
                  by_cases c9 : x3_1.length < 8796093022208
                  · rw [if_pos c9] at H
                    have LMc9 := Aside0.mk c9
                    clear c9
                    obtain ⟨y105, hy105⟩ : ∃ y_ : List ByteArray, y_ = (x3_1 ++ [a0.extract (x4_1 : Int).toNat (x5_1 : Int).toNat]) := ⟨_, rfl⟩
                    replace H : (arbiterref01_Parts.l0 k1 a0 y105 (wrap64 (x5_1 + 1)) (wrap64 (x5_1 + 1))) = some r := by first | (rw [hy105]; with_reducible exact H) | (have H2_ := (Option.bind_some _ _).symm.trans H; rw [hy105]; with_reducible exact H2_) | (have H2_ := (Option.bind_some _ _).symm.trans H; with_reducible exact H2_) | with_reducible exact H | (rw [hy105]; exact H) | exact H
                    have Ny105 := Aside0.mk hy105
                    clear hy105
                    have H' := Aside0.mk H
                    clear H
                    have p4 : 0 ≤ (x5_1 : Int) := of_decide_eq_true (by first | (with_reducible assumption) | assumption)
                    have q4 : x5_1 < (a0.size : Int) := of_decide_eq_true (by first | (with_reducible assumption) | assumption)
                    have hx4 := bt_at a0 x5_1
                    replace p4 := eq_true p4
                    replace q4 := eq_true q4
                    go_wp2_with (first | ((with_reducible refine gate_builtin (b := .append) (xs := #[.tmp 16, .tmp 21]) rfl ?_); at_builtin; refine Kd.R_append Kd.string (w0 := w) w.heap.size rfl (.tmp 16) (.tmp 21) 25 9 (.string ⟨#[]⟩) 16 rfl Tryd.underlying25 info9 rfl (by decide) (by omega) u3 x3_1 (a0.extract (x4_1 : Int).toNat (x5_1 : Int).toNat) [.string (a0.extract (x4_1 : Int).toNat (x5_1 : Int).toNat)] (fun _ => True) (fun _ => False) rfl rfl ?aP (fun _ hk => hk.elim) ?aF ?aO ?aB ?aS ?aL ?_; (case aP => exact rfl); (case aB => exact (by repeat (first | (with_reducible first | exact HB.out | apply below_alloc | apply pw_below_drewN | apply below_drew1) | exact HB.out))); (case aF => exact (fun _ _ => trivial)); (case aO => exact (by (with_reducible repeat (first | apply Kd.R_alloc | apply Kd.R_drewN | apply Kd.R_drew)); exact HO_3.out)); (case aS => exact (below_size (by repeat (first | (with_reducible first | exact HB.out | apply below_alloc | apply pw_below_drewN | apply below_drew1) | exact HB.out)))); (case aL => have := LMc9.out; omega); intro v106 w10 ho hb hg hat; rw [← Ny105.out] at ho; have n0_ := Aside0.mk (hb); have n1_ := Aside0.mk (ho); clear HB; clear HO_3; have HB := n0_; have HO107 := n1_; clear n0_ n1_; clear ho hb hg hat))
                    go_roundg k1
                    case measure => have := HK1.out; omega
                    case rel => exact ⟨(y105), (wrap64 (x5_1 + 1)), (wrap64 (x5_1 + 1)), (by first | rfl | (simp; done) | (simp [*]; done)), (by first | rfl | (simp; done) | (simp [*]; done)), H', ⟨by have := HK1.out; omega⟩, ⟨by (with_reducible repeat (first | apply Kd.R_alloc | apply Kd.R_drewN | apply Kd.R_drew)); exact HO107.out⟩, ⟨by repeat (first | (with_reducible first | exact HB.out | apply below_alloc | apply pw_below_drewN | apply below_drew1) | exact HB.out)⟩⟩
                  · rw [if_neg c9] at H
                    exact absurd H (by simp)
                · rw [if_neg c8] at H
                  exact absurd H (by simp)
              · rw [if_neg c7] at H
                exact absurd H (by simp)
            · rw [if_neg c6] at H
              exact absurd H (by simp)
          · rw [if_neg c5] at H
            have c5b0 : ((bt a0 x5_1) == 47) = false := beq_eq_false_iff_ne.mpr c5
            have c5b1 : ((bt a0 x5_1) != 47) = true := bne_iff_ne.mpr c5
            have H' := Aside0.mk H
            clear H
            have p4 : 0 ≤ (x5_1 : Int) := of_decide_eq_true (by first | (with_reducible assumption) | assumption)
            have q4 : x5_1 < (a0.size : Int) := of_decide_eq_true (by first | (with_reducible assumption) | assumption)
            have hx4 := bt_at a0 x5_1
            replace p4 := eq_true p4
            replace q4 := eq_true q4
            go_wp2
            go_roundg k1
            case measure => have := HK1.out; omega
            case rel => exact ⟨(x3_1), (x4_1), (wrap64 (x5_1 + 1)), (by first | rfl | (simp; done) | (simp [*]; done)), (by first | rfl | (simp; done) | (simp [*]; done)), H', ⟨by have := HK1.out; omega⟩, ⟨by (with_reducible repeat (first | apply Kd.R_alloc | apply Kd.R_drewN | apply Kd.R_drew)); exact HO_3.out⟩, ⟨by repeat (first | (with_reducible first | exact HB.out | apply below_alloc | apply pw_below_drewN | apply below_drew1) | exact HB.out)⟩⟩
        · rw [if_neg c3] at H
          exact absurd H (by simp)
      · rw [if_neg c2] at H
        have c2b0 : decide (x5_1 < (a0.size : Int)) = false := decide_eq_false c2
        clear c2
        by_cases c11 : 0 ≤ x4_1
        · rw [if_pos c11] at H
          have c11b0 := eq_true c11
          have c11b1 : decide (0 ≤ x4_1) = true := decide_eq_true c11
          clear c11
          by_cases c12 : x4_1 ≤ (a0.size : Int)
          · rw [if_pos c12] at H
            have c12b0 := eq_true c12
            have c12b1 : decide (x4_1 ≤ (a0.size : Int)) = true := decide_eq_true c12
            clear c12
            by_cases c13 : x3_1.length < 8796093022208
            · rw [if_pos c13] at H
              have LMc13 := Aside0.mk c13
              clear c13
              obtain ⟨y108, hy108⟩ : ∃ y_ : List ByteArray, y_ = (x3_1 ++ [a0.extract (x4_1 : Int).toNat a0.size]) := ⟨_, rfl⟩
              replace H : (some y108) = some r := by first | (rw [hy108]; with_reducible exact H) | (have H2_ := (Option.bind_some _ _).symm.trans H; rw [hy108]; with_reducible exact H2_) | (have H2_ := (Option.bind_some _ _).symm.trans H; with_reducible exact H2_) | with_reducible exact H | (rw [hy108]; exact H) | exact H
              have Ny108 := Aside0.mk hy108
              clear hy108
              obtain rfl := Option.some.inj H
              go_wp2_with (first | ((with_reducible refine gate_builtin (b := .append) (xs := #[.tmp 25, .tmp 29]) rfl ?_); at_builtin; refine Kd.R_append Kd.string (w0 := w) w.heap.size rfl (.tmp 25) (.tmp 29) 25 9 (.string ⟨#[]⟩) 16 rfl Tryd.underlying25 info9 rfl (by decide) (by omega) u3 x3_1 (a0.extract (x4_1 : Int).toNat a0.size) [.string (a0.extract (x4_1 : Int).toNat a0.size)] (fun _ => True) (fun _ => False) rfl rfl ?aP (fun _ hk => hk.elim) ?aF ?aO ?aB ?aS ?aL ?_; (case aP => exact rfl); (case aB => exact (by repeat (first | (with_reducible first | exact HB.out | apply below_alloc | apply pw_below_drewN | apply below_drew1) | exact HB.out))); (case aF => exact (fun _ _ => trivial)); (case aO => exact (by (with_reducible repeat (first | apply Kd.R_alloc | apply Kd.R_drewN | apply Kd.R_drew)); exact HO_3.out)); (case aS => exact (below_size (by repeat (first | (with_reducible first | exact HB.out | apply below_alloc | apply pw_below_drewN | apply below_drew1) | exact HB.out)))); (case aL => have := LMc13.out; omega); intro v109 w14 ho hb hg hat; rw [← Ny108.out] at ho; have n0_ := Aside0.mk (hb); have n1_ := Aside0.mk (ho); clear HB; clear HO_3; have HB := n0_; have HO110 := n1_; clear n0_ n1_; clear ho hb hg hat))
              go_ret
              exact ⟨_, by first | rfl | (simp [errW_none, errW_some] <;> rfl) | (simp [*, errW_none, errW_some] <;> rfl), by (with_reducible repeat (first | apply Kd.R_alloc | apply Kd.R_drewN | apply Kd.R_drew)); exact HO110.out, by repeat (first | (with_reducible first | exact HB.out | apply below_alloc | apply pw_below_drewN | apply below_drew1) | exact HB.out)⟩
            · rw [if_neg c13] at H
              exact absurd H (by simp)
          · rw [if_neg c12] at H
            exact absurd H (by simp)
        · rw [if_neg c11] at H
          exact absurd H (by simp)

end Go.Proofs.YtpcdfjifhoofjaaDoor.Pt

-- laid by a program of this session's own (a variant of the kit's print)
namespace Go.Proofs.YtpcdfjifhoofjaaDoor.Pt
open Go.RowKit Go.Proofs.YtpcdfjifhoofjaaDoorW.PrintWords Go.Proofs.YtpcdfjifhoofjaaDoorW.PrintLast Go.Proofs.YtpcdfjifhoofjaaDoorW.PrintMore
attribute [local go_sem] max2_int min2_int max_two min_two max_three min_three max_four min_four   -- for this text's walks alone
set_option linter.unusedVariables false
set_option linter.unusedSimpArgs false

/-! ### arbiterref02_written: function 71 -/
def arbiterref02_written.l0 : Nat → List Int → Int → Int → ByteArray → Option (ByteArray)
  | 0, _, _, _, _ => none
  | k + 1, x3, x4, x190000, x190001 => if x4 < x190000 then (if 0 ≤ x4 then (if x4 < (x3.length : Int) then (arbiterref02_written.l0 k (x3.set (x4 : Int).toNat 91) (wrap64 (x4 + 1)) x190000 x190001) else (none)) else (none)) else (if x190001.toList = ([] : List UInt8) then (if (strOfNums x3).size + 1 ≤ 9223372036854775807 then (some ((strOfNums x3) ++ (⟨#[73]⟩ : ByteArray))) else (none)) else (if (strOfNums x3).size + 1 ≤ 9223372036854775807 then (if ((strOfNums x3) ++ (⟨#[76]⟩ : ByteArray)).size + x190001.size ≤ 9223372036854775807 then (if (((strOfNums x3) ++ (⟨#[76]⟩ : ByteArray)) ++ x190001).size + 1 ≤ 9223372036854775807 then (some ((((strOfNums x3) ++ (⟨#[76]⟩ : ByteArray)) ++ x190001) ++ (⟨#[59]⟩ : ByteArray))) else (none)) else (none)) else (none)))
def arbiterref02_written.f (k : Nat) (a0_0 : Int) (a0_1 : ByteArray) : Option (ByteArray) := if 0 ≤ a0_0 then (if (a0_0 : Int).toNat ≤ 281474976710656 then (arbiterref02_written.l0 k (List.replicate (a0_0 : Int).toNat 0) 0 a0_0 a0_1) else (none)) else (none)
theorem arbiterref02_written.mono_l : ∀ k, (∀ y0 y1 y2 y3, LeO (arbiterref02_written.l0 k y0 y1 y2 y3) (arbiterref02_written.l0 (k + 1) y0 y1 y2 y3))
  | 0 => fun _ _ _ _ r h => by simp [arbiterref02_written.l0] at h
  | k + 1 => by
    have ih0 := arbiterref02_written.mono_l k
    · intro y0 y1 y2 y3
      unfold arbiterref02_written.l0
      repeat' first
      | (with_reducible exact ih0 _ _ _ _)
      | (with_reducible exact LeO.refl _)
      | (with_reducible exact LeO.none _)
      | (with_reducible refine LeO.ite ?_ ?_)
      | (with_reducible refine LeO.bind ?_ (fun _ => ?_))
      | exact ih0 _ _ _ _
      | exact LeO.none _
      | refine LeO.ite ?_ ?_
      | refine LeO.bind ?_ (fun _ => ?_)
theorem arbiterref02_written.mono : ∀ a0 a1 k, LeO (arbiterref02_written.f k a0 a1) (arbiterref02_written.f (k + 1) a0 a1) := by
  intro a0 a1 k
  have ih0 := arbiterref02_written.mono_l k
  unfold arbiterref02_written.f
  repeat' first
      | (with_reducible exact ih0 _ _ _ _)
      | (with_reducible exact LeO.refl _)
      | (with_reducible exact LeO.none _)
      | (with_reducible refine LeO.ite ?_ ?_)
      | (with_reducible refine LeO.bind ?_ (fun _ => ?_))
      | exact ih0 _ _ _ _
      | exact LeO.none _
      | refine LeO.ite ?_ ?_
      | refine LeO.bind ?_ (fun _ => ?_)
set_option maxHeartbeats 8000000 in
set_option maxRecDepth 100000 in
theorem arbiterref02_written.calls (k : Nat) (a0_0 : Int) (a0_1 : ByteArray) (r : ByteArray) (w : World) (h : arbiterref02_written.f k a0_0 a0_1 = some r) :
    Calls Tryd.prog 71 #[.agg #[.int .i64 a0_0, .string a0_1]] w fun e w' => e = .returned (.string r) ∧ Below w.heap.size w w' := by
  have hu37 := Tryd.underlying37
  have HB := Aside0.mk (Below.refl w.heap.size w)
  have H : (if 0 ≤ a0_0 then (if (a0_0 : Int).toNat ≤ 281474976710656 then (arbiterref02_written.l0 k (List.replicate (a0_0 : Int).toNat 0) 0 a0_0 a0_1) else (none)) else (none)) = some r := h
  clear h
  by_cases c2 : 0 ≤ a0_0
  · rw [if_pos c2] at H
    have c2b0 := eq_true c2
    have c2b1 : decide (0 ≤ a0_0) = true := decide_eq_true c2
    clear c2
    by_cases c3 : (a0_0 : Int).toNat ≤ 281474976710656
    · rw [if_pos c3] at H
      have c3b0 := eq_true c3
      have c3b1 : decide ((a0_0 : Int).toNat ≤ 281474976710656) = true := decide_eq_true c3
      clear c3
      obtain ⟨y190, hy190⟩ : ∃ y_ : List Int, y_ = (List.replicate (a0_0 : Int).toNat 0) := ⟨_, rfl⟩
      replace H : (arbiterref02_written.l0 k y190 0 a0_0 a0_1) = some r := by first | (rw [hy190]; with_reducible exact H) | (have H2_ := (Option.bind_some _ _).symm.trans H; rw [hy190]; with_reducible exact H2_) | (have H2_ := (Option.bind_some _ _).symm.trans H; with_reducible exact H2_) | with_reducible exact H | (rw [hy190]; exact H) | exact H
      have Ny190 := Aside0.mk hy190
      clear hy190
      have H' := Aside0.mk H
      clear H
      go_enter Tryd.func71, Tryd.ntmps71
      go_wp2_with (first | ((with_reducible refine gate_dst (N := 1) rfl ?_); refine box_event ?hg (N := 1) ?hd (cs := #[.int .i64 a0_0, .string a0_1]) (t := 37) ?hr ?_; (case hd => rfl); (case hg => rfl); (case hr => first | (go_simp; done) | (go_simp; rfl)); intro gb189 hg w4 hbox hb; have n0_ := Aside0.mk (below_step (by repeat (first | (with_reducible first | exact HB.out | apply below_alloc | apply pw_below_drewN | apply below_drew1) | exact HB.out)) hb); have n1_ := Aside0.mk (hbox); have n2_ := Aside0.mk ((by rw [hg]; exact (below_size (by repeat (first | (with_reducible first | exact HB.out | apply below_alloc | apply pw_below_drewN | apply below_drew1) | exact HB.out))) : w.heap.size ≤ gb189)); have n3_ := Aside0.mk ((by rw [hg]; exact (below_size (by repeat (first | (with_reducible first | exact HB.out | apply below_alloc | apply pw_below_drewN | apply below_drew1) | exact HB.out))) : w.heap.size ≤ gb189)); clear HB; have HB := n0_; have BK189 := n1_; have GW189 := n2_; have GE189 := n3_; clear n0_ n1_ n2_ n3_; clear hb hbox hg; have hcz5_0 : w4.cell? ⟨gb189, 0, none⟩ = some (.int .i64 a0_0) := (blk_cell BK189.out 0).trans rfl; have hcz5_1 : w4.cell? ⟨gb189, 1, none⟩ = some (.string a0_1) := (blk_cell BK189.out 1).trans rfl; have hfz5_0 := blk_frozen BK189.out 0; have hfz5_1 := blk_frozen BK189.out 1) | ((with_reducible refine gate_dst (N := 7) rfl ?_); refine Kd.R_make (Kd.int .u8) _ 5 rfl (N := 7) rfl 78 _ _ rfl a0_0 rfl rfl Tryd.underlying78 (.int .u8 0) 1 info5 rfl (by decide) (by omega) 0 (ok := fun _ => True) (okp := fun _ => True) rfl (fun _ hk => hk) trivial (of_decide_eq_true (by first | (with_reducible assumption) | assumption)) (Nat.le_trans (Nat.mul_le_mul_right _ (of_decide_eq_true (by first | (with_reducible assumption) | assumption) : a0_0.toNat ≤ 281474976710656)) (by omega)) (Below.refl _ _) (Nat.le_refl _) ?_; intro v191 w6 ho7 hb hg_ hnew_; clear hg_ hnew_; (first | rw [← Ny190.out] at ho7 | (simp only [Int.reduceToNat] at ho7; rw [← Ny190.out] at ho7)); have n0_ := Aside0.mk (Kd.R_lower ho7 (below_size (by repeat (first | (with_reducible first | exact HB.out | apply below_alloc | apply pw_below_drewN | apply below_drew1 | refine below_set ?_ GE189.out) | exact HB.out)))); have n1_ := Aside0.mk (blk_below (g := gb189) (o := .cells #[.int .i64 a0_0, .string a0_1] 37 (0, 0)) (by (with_reducible repeat (first | refine blk_drewN ?_ _ | refine blk_drew ?_ | refine blk_alloc ?_ _)); exact BK189.out) hb); have n2_ := Aside0.mk (below_step (by repeat (first | (with_reducible first | exact HB.out | apply below_alloc | apply pw_below_drewN | apply below_drew1 | refine below_set ?_ GE189.out) | exact HB.out)) hb); clear BK189; clear HB; have HO192 := n0_; have BK189 := n1_; have HB := n2_; clear n0_ n1_ n2_; clear hb ho7))
      go_loopg [4] k (fun kq v4 w' => ∃ (x3_1 : List Int) (x4_1 : Int), v4 = .int .i64 x4_1 ∧ Aside0 (arbiterref02_written.l0 kq x3_1 x4_1 a0_0 a0_1 = some r) ∧ Aside0 (kq ≤ k) ∧ Aside0 (Kd.R (Kd.int .u8) 5 w' w.heap.size (fun _ => True) v191 x3_1) ∧ Aside0 (w'.heap[gb189]? = some (.cells #[.int .i64 a0_0, .string a0_1] 37 (0, 0))) ∧ Aside0 (Below w.heap.size w w'))
      case atStart => exact ⟨(y190), (0), (by first | rfl | (simp; done) | (simp [*]; done)), H', ⟨Nat.le_refl _⟩, ⟨by (with_reducible repeat (first | apply Kd.R_alloc | apply Kd.R_drewN | apply Kd.R_drew)); exact HO192.out⟩, ⟨by (with_reducible repeat (first | refine blk_drewN ?_ _ | refine blk_drew ?_ | refine blk_alloc ?_ _)); exact BK189.out⟩, ⟨by repeat (first | (with_reducible first | exact HB.out | apply below_alloc | apply pw_below_drewN | apply below_drew1 | refine below_set ?_ GE189.out) | exact HB.out)⟩⟩
      case round =>
        clear H'
        try clear c2
        try clear c2b0
        try clear c2b1
        try clear p2
        try clear c3
        try clear c3b0
        try clear c3b1
        try clear c7
        try clear hcz5_0
        try clear hcz5_1
        try clear hfz5_0
        try clear hfz5_1
        obtain ⟨x3_1, x4_1, rfl, HA, HK1, HO_3, BK189, HB⟩ := hrel
        cases gk with
        | zero => exact absurd HA.out (by simp [arbiterref02_written.l0])
        | succ k1 =>
          have H := HA.out
          clear HA
          simp only [arbiterref02_written.l0] at H
          by_cases c8 : x4_1 < a0_0
          · rw [if_pos c8] at H
            have c8b0 : decide (x4_1 < a0_0) = true := decide_eq_true c8
            clear c8
            by_cases c9 : 0 ≤ x4_1
            · rw [if_pos c9] at H
              have c9b0 : decide (0 ≤ x4_1) = true := decide_eq_true c9
              clear c9
              by_cases c10 : x4_1 < (x3_1.length : Int)
              · rw [if_pos c10] at H
                have c10b0 : decide (x4_1 < (x3_1.length : Int)) = true := decide_eq_true c10
                clear c10
                obtain ⟨y193, hy193⟩ : ∃ y_ : List Int, y_ = (x3_1.set (x4_1 : Int).toNat 91) := ⟨_, rfl⟩
                replace H : (arbiterref02_written.l0 k1 y193 (wrap64 (x4_1 + 1)) a0_0 a0_1) = some r := by first | (rw [hy193]; with_reducible exact H) | (have H2_ := (Option.bind_some _ _).symm.trans H; rw [hy193]; with_reducible exact H2_) | (have H2_ := (Option.bind_some _ _).symm.trans H; with_reducible exact H2_) | with_reducible exact H | (rw [hy193]; exact H) | exact H
                have Ny193 := Aside0.mk hy193
                clear hy193
                have H' := Aside0.mk H
                clear H
                have hcz12_0 : wr.cell? ⟨gb189, 0, none⟩ = some (.int .i64 a0_0) := (blk_cell BK189.out 0).trans rfl
                have hcz12_1 : wr.cell? ⟨gb189, 1, none⟩ = some (.string a0_1) := (blk_cell BK189.out 1).trans rfl
                have hfz12_0 := blk_frozen BK189.out 0
                have hfz12_1 := blk_frozen BK189.out 1
                have p11 : 0 ≤ (x4_1 : Int) := of_decide_eq_true (by first | (with_reducible assumption) | assumption)
                have q11 : (x4_1 : Int) < ((x3_1.length : Int) : Int) := of_decide_eq_true (by first | (with_reducible assumption) | assumption)
                obtain ⟨go11, co11, eo11, gb11, gl11, cl11, HG11⟩ := Kd.R_form HO_3.out (by omega)
                (first | cases eo11 | (injection eo11 with ea_ en_ ec_; (first | subst ea_ | (injection ea_ with ea_; subst ea_)); subst ec_; clear en_))
                have GB11 := Aside0.mk gb11
                have GG11 := Aside0.mk HG11
                clear gb11 gl11 HG11
                obtain ⟨hx11_0, hf11_0⟩ := Kd.R_celln 0 HO_3.out (x4_1 : Int) p11 q11
                replace p11 := eq_true p11
                replace q11 := eq_true q11
                have HP13 := Kd.R_putg HO_3.out (x4_1 : Int) 91
                go_wp2_with (first | ((with_reducible refine gate_store (t := 5) (p := 16) rfl ?_); refine store_event (t := 5) (p := 16) (v := ?vo_w14) (w1 := (wr.setCell ⟨go11, (x4_1 : Int).toNat, none⟩ (.int .u8 91))) ?hg ?ho ?hn ?hr ?_; (case ho => rfl); (case hg => rfl); (case hn => rfl); (case hr => first | (go_simp; done) | (go_simp; rfl)); intro w14 hw; have hg : wr.grownBy w14 (some go11) := (by rw [hw]; exact HP13.2); have hp_ : Kd.R (Kd.int .u8) 5 w14 w.heap.size (fun _ => True) (.slice (some ⟨go11, 0, none⟩) x3_1.length co11) y193 := (by rw [hw, Ny193.out]; exact HP13.1); clear HP13; have n0_ := Aside0.mk (hp_); have n1_ := Aside0.mk (blk_grown (g := gb189) (o := .cells #[.int .i64 a0_0, .string a0_1] 37 (0, 0)) (by (with_reducible repeat (first | refine blk_drewN ?_ _ | refine blk_drew ?_ | refine blk_alloc ?_ _)); exact BK189.out) hg (Kd.R_ne HO_3.out BK189.out (by decide))); have n2_ := Aside0.mk ((by rw [hw]; exact below_set (HB.out) GB11.out : Below w.heap.size w w14)); clear HO_3; clear BK189; clear HB; have HO_3 := n0_; have BK189 := n1_; have HB := n2_; clear n0_ n1_ n2_; clear hg hw hp_))
                go_roundg k1
                case measure => have := HK1.out; omega
                case rel => exact ⟨(y193), (wrap64 (x4_1 + 1)), (by first | rfl | (simp; done) | (simp [*]; done)), H', ⟨by have := HK1.out; omega⟩, ⟨by (with_reducible repeat (first | apply Kd.R_alloc | apply Kd.R_drewN | apply Kd.R_drew)); exact HO_3.out⟩, ⟨by (with_reducible repeat (first | refine blk_drewN ?_ _ | refine blk_drew ?_ | refine blk_alloc ?_ _)); exact BK189.out⟩, ⟨by repeat (first | (with_reducible first | exact HB.out | apply below_alloc | apply pw_below_drewN | apply below_drew1 | refine below_set ?_ GE189.out) | exact HB.out)⟩⟩
              · rw [if_neg c10] at H
                exact absurd H (by simp)
            · rw [if_neg c9] at H
              exact absurd H (by simp)
          · rw [if_neg c8] at H
            have c8b0 : decide (x4_1 < a0_0) = false := decide_eq_false c8
            clear c8
            by_cases c15 : a0_1.toList = ([] : List UInt8)
            · rw [if_pos c15] at H
              have c15b0 : (a0_1.toList == ([] : List UInt8)) = true := beq_iff_eq.mpr c15
              have c15b1 : (a0_1.toList != ([] : List UInt8)) = false := bne_eq_false_iff_eq.mpr c15
              clear c15
              by_cases c16 : (strOfNums x3_1).size + 1 ≤ 9223372036854775807
              · rw [if_pos c16] at H
                have c16b0 := eq_true c16
                have c16b1 : decide ((strOfNums x3_1).size + 1 ≤ 9223372036854775807) = true := decide_eq_true c16
                try have c16b2 : (9223372036854775807 < (strOfNums x3_1).size + 1) = False := eq_false (Nat.not_lt.2 c16)
                obtain rfl := Option.some.inj H
                have hcz17_0 : wr.cell? ⟨gb189, 0, none⟩ = some (.int .i64 a0_0) := (blk_cell BK189.out 0).trans rfl
                have hcz17_1 : wr.cell? ⟨gb189, 1, none⟩ = some (.string a0_1) := (blk_cell BK189.out 1).trans rfl
                have hfz17_0 := blk_frozen BK189.out 0
                have hfz17_1 := blk_frozen BK189.out 1
                have hcv18 := own_string (P := Tryd.prog) Tryd.underlying78 Tryd.underlying5 Tryd.underlying9 (Kd.own_of_R HO_3.out)
                go_wp2
                go_ret
                exact ⟨by first | rfl | (simp [errW_none, errW_some] <;> rfl) | (simp [*, errW_none, errW_some] <;> rfl), by repeat (first | (with_reducible first | exact HB.out | apply below_alloc | apply pw_below_drewN | apply below_drew1 | refine below_set ?_ GE189.out) | exact HB.out)⟩
              · rw [if_neg c16] at H
                exact absurd H (by simp)
            · rw [if_neg c15] at H
              have c15b0 : (a0_1.toList == ([] : List UInt8)) = false := beq_eq_false_iff_ne.mpr c15
              have c15b1 : (a0_1.toList != ([] : List UInt8)) = true := bne_iff_ne.mpr c15
              by_cases c19 : (strOfNums x3_1).size + 1 ≤ 9223372036854775807
              · rw [if_pos c19] at H
                have c19b0 := eq_true c19
                have c19b1 : decide ((strOfNums x3_1).size + 1 ≤ 9223372036854775807) = true := decide_eq_true c19
                try have c19b2 : (9223372036854775807 < (strOfNums x3_1).size + 1) = False := eq_false (Nat.not_lt.2 c19)
                by_cases c20 : ((strOfNums x3_1) ++ (⟨#[76]⟩ : ByteArray)).size + a0_1.size ≤ 9223372036854775807
                · rw [if_pos c20] at H
                  have c20b0 := eq_true c20
                  have c20b1 : decide (((strOfNums x3_1) ++ (⟨#[76]⟩ : ByteArray)).size + a0_1.size ≤ 9223372036854775807) = true := decide_eq_true c20
                  try have c20b2 : (9223372036854775807 < ((strOfNums x3_1) ++ (⟨#[76]⟩ : ByteArray)).size + a0_1.size) = False := eq_false (Nat.not_lt.2 c20)
                  by_cases c21 : (((strOfNums x3_1) ++ (⟨#[76]⟩ : ByteArray)) ++ a0_1).size + 1 ≤ 9223372036854775807
                  · rw [if_pos c21] at H
                    have c21b0 := eq_true c21
                    have c21b1 : decide ((((strOfNums x3_1) ++ (⟨#[76]⟩ : ByteArray)) ++ a0_1).size + 1 ≤ 9223372036854775807) = true := decide_eq_true c21
                    try have c21b2 : (9223372036854775807 < (((strOfNums x3_1) ++ (⟨#[76]⟩ : ByteArray)) ++ a0_1).size + 1) = False := eq_false (Nat.not_lt.2 c21)
                    have z1 := c20
                    have z2 := c21
                    simp only [ByteArray.size_append, show (⟨#[76]⟩ : ByteArray).size = 1 from rfl] at z1 z2
                    have z1b := eq_true z1
                    have z2b := eq_true z2
                    have z1c := eq_false (Nat.not_lt.2 z1)
                    have z2c := eq_false (Nat.not_lt.2 z2)
                    clear z1 z2
                    obtain rfl := Option.some.inj H
                    have hcz22_0 : wr.cell? ⟨gb189, 0, none⟩ = some (.int .i64 a0_0) := (blk_cell BK189.out 0).trans rfl
                    have hcz22_1 : wr.cell? ⟨gb189, 1, none⟩ = some (.string a0_1) := (blk_cell BK189.out 1).trans rfl
                    have hfz22_0 := blk_frozen BK189.out 0
                    have hfz22_1 := blk_frozen BK189.out 1
                    have hcv23 := own_string (P := Tryd.prog) Tryd.underlying78 Tryd.underlying5 Tryd.underlying9 (Kd.own_of_R HO_3.out)
                    go_wp2
                    go_ret
                    exact ⟨by first | rfl | (simp [errW_none, errW_some] <;> rfl) | (simp [*, errW_none, errW_some] <;> rfl), by repeat (first | (with_reducible first | exact HB.out | apply below_alloc | apply pw_below_drewN | apply below_drew1 | refine below_set ?_ GE189.out) | exact HB.out)⟩
                  · rw [if_neg c21] at H
                    exact absurd H (by simp)
                · rw [if_neg c20] at H
                  exact absurd H (by simp)
              · rw [if_neg c19] at H
                exact absurd H (by simp)
    · rw [if_neg c3] at H
      exact absurd H (by simp)
  · rw [if_neg c2] at H
    exact absurd H (by simp)

/-! ### arbiterref02_Text: function 42 -/
def arbiterref02_Text.f (k : Nat) (a0_0 : Int) (a0_1 : ByteArray) : Option (ByteArray × Int) := (arbiterref02_Check.f a0_0 a0_1).bind fun t195 => (if t195 = 0 then ((arbiterref02_written.f k a0_0 a0_1).bind fun t196 => (some (t196, 0))) else (some ((⟨#[]⟩ : ByteArray), 1)))
theorem arbiterref02_Text.mono : ∀ a0 a1 k, LeO (arbiterref02_Text.f k a0 a1) (arbiterref02_Text.f (k + 1) a0 a1) := by
  intro a0 a1 k
  unfold arbiterref02_Text.f
  repeat' first
      | (with_reducible exact arbiterref02_written.mono _ _ _)
      | (with_reducible exact LeO.refl _)
      | (with_reducible exact LeO.none _)
      | (with_reducible refine LeO.ite ?_ ?_)
      | (with_reducible refine LeO.bind ?_ (fun _ => ?_))
      | exact arbiterref02_written.mono _ _ _
      | exact LeO.none _
      | refine LeO.ite ?_ ?_
      | refine LeO.bind ?_ (fun _ => ?_)
set_option maxHeartbeats 8000000 in
set_option maxRecDepth 100000 in
theorem arbiterref02_Text.calls (k : Nat) (a0_0 : Int) (a0_1 : ByteArray) (r1 : ByteArray) (r2 : Int) (w : World) (h : arbiterref02_Text.f k a0_0 a0_1 = some (r1, r2)) :
    Calls Tryd.prog 42 #[.agg #[.int .i64 a0_0, .string a0_1]] w fun e w' => e = .returned (.tuple #[.string r1, .int .i64 r2]) ∧ Below w.heap.size w w' := by
  have hu37 := Tryd.underlying37
  have HB := Aside0.mk (Below.refl w.heap.size w)
  have H : ((arbiterref02_Check.f a0_0 a0_1).bind fun t195 => (if t195 = 0 then ((arbiterref02_written.f k a0_0 a0_1).bind fun t196 => (some (t196, 0))) else (some ((⟨#[]⟩ : ByteArray), 1)))) = some (r1, r2) := h
  clear h
  replace H := Option.bind_eq_some_iff.mp H
  obtain ⟨t195, A20, H⟩ := H
  replace H : (if t195 = 0 then ((arbiterref02_written.f k a0_0 a0_1).bind fun t196 => (some (t196, 0))) else (some ((⟨#[]⟩ : ByteArray), 1))) = some (r1, r2) := H
  have A2 := Aside0.mk A20
  clear A20
  by_cases c3 : t195 = 0
  · rw [if_pos c3] at H
    have c3b0 : (t195 == 0) = true := beq_iff_eq.mpr c3
    have c3b1 : (t195 != 0) = false := bne_eq_false_iff_eq.mpr c3
    clear c3
    replace H := Option.bind_eq_some_iff.mp H
    obtain ⟨t196, A40, H⟩ := H
    replace H : (some (t196, 0)) = some (r1, r2) := H
    have A4 := Aside0.mk A40
    clear A40
    simp only [Option.some.injEq, Prod.mk.injEq] at H
    obtain ⟨rfl, rfl⟩ := H
    go_enter Tryd.func42, Tryd.ntmps42
    go_wp2_with (first | ((with_reducible refine gate_dst (N := 1) rfl ?_); refine box_event ?hg (N := 1) ?hd (cs := #[.int .i64 a0_0, .string a0_1]) (t := 37) ?hr ?_; (case hd => rfl); (case hg => rfl); (case hr => first | (go_simp; done) | (go_simp; rfl)); intro gb194 hg w5 hbox hb; have n0_ := Aside0.mk (below_step (by repeat (first | (with_reducible first | exact HB.out | apply below_alloc | apply pw_below_drewN | apply below_drew1) | exact HB.out)) hb); have n1_ := Aside0.mk (hbox); have n2_ := Aside0.mk ((by rw [hg]; exact (below_size (by repeat (first | (with_reducible first | exact HB.out | apply below_alloc | apply pw_below_drewN | apply below_drew1) | exact HB.out))) : w.heap.size ≤ gb194)); have n3_ := Aside0.mk ((by rw [hg]; exact (below_size (by repeat (first | (with_reducible first | exact HB.out | apply below_alloc | apply pw_below_drewN | apply below_drew1) | exact HB.out))) : w.heap.size ≤ gb194)); clear HB; have HB := n0_; have BK194 := n1_; have GW194 := n2_; have GE194 := n3_; clear n0_ n1_ n2_ n3_; clear hb hbox hg; have hcz6_0 : w5.cell? ⟨gb194, 0, none⟩ = some (.int .i64 a0_0) := (blk_cell BK194.out 0).trans rfl; have hcz6_1 : w5.cell? ⟨gb194, 1, none⟩ = some (.string a0_1) := (blk_cell BK194.out 1).trans rfl; have hfz6_0 := blk_frozen BK194.out 0; have hfz6_1 := blk_frozen BK194.out 1) | ((with_reducible refine gate_callee (f := 44) rfl ?_); refine goesL_ (some 5) rfl rfl Tryd.func44 (by kernel_rfl) rfl #[.agg #[.int .i64 a0_0, .string a0_1]] rfl (by (try simp only [List.map_toArray, List.map_cons, List.map_nil]); first | done | rfl | (simp only [List.length_drop, List.length_take]; rfl)) ?_; (with_reducible refine (arbiterref02_Check.calls a0_0 a0_1 t195 _ A2.out).mono ?_); rintro e w7 ⟨rfl, hb⟩; refine ⟨_, rfl, ?_⟩; have n0_ := Aside0.mk (blk_below (g := gb194) (o := .cells #[.int .i64 a0_0, .string a0_1] 37 (0, 0)) (by (with_reducible repeat (first | refine blk_drewN ?_ _ | refine blk_drew ?_ | refine blk_alloc ?_ _)); exact BK194.out) hb); have n1_ := Aside0.mk (below_step (by repeat (first | (with_reducible first | exact HB.out | apply below_alloc | apply pw_below_drewN | apply below_drew1 | refine below_set ?_ GE194.out) | exact HB.out)) hb); clear BK194; clear HB; have BK194 := n0_; have HB := n1_; clear n0_ n1_; (try clear hb); (try clear hb2); (try clear hk); (try clear hi); have hcz8_0 : w7.cell? ⟨gb194, 0, none⟩ = some (.int .i64 a0_0) := (blk_cell BK194.out 0).trans rfl; have hcz8_1 : w7.cell? ⟨gb194, 1, none⟩ = some (.string a0_1) := (blk_cell BK194.out 1).trans rfl; have hfz8_0 := blk_frozen BK194.out 0; have hfz8_1 := blk_frozen BK194.out 1) | ((with_reducible refine gate_callee (f := 71) rfl ?_); refine goesL_ (some 8) rfl rfl Tryd.func71 (by kernel_rfl) rfl #[.agg #[.int .i64 a0_0, .string a0_1]] rfl (by (try simp only [List.map_toArray, List.map_cons, List.map_nil]); first | done | rfl | (simp only [List.length_drop, List.length_take]; rfl)) ?_; (with_reducible refine (arbiterref02_written.calls k a0_0 a0_1 t196 _ A4.out).mono ?_); rintro e w9 ⟨rfl, hb⟩; refine ⟨_, rfl, ?_⟩; have n0_ := Aside0.mk (blk_below (g := gb194) (o := .cells #[.int .i64 a0_0, .string a0_1] 37 (0, 0)) (by (with_reducible repeat (first | refine blk_drewN ?_ _ | refine blk_drew ?_ | refine blk_alloc ?_ _)); exact BK194.out) hb); have n1_ := Aside0.mk (below_step (by repeat (first | (with_reducible first | exact HB.out | apply below_alloc | apply pw_below_drewN | apply below_drew1 | refine below_set ?_ GE194.out) | exact HB.out)) hb); clear BK194; clear HB; have BK194 := n0_; have HB := n1_; clear n0_ n1_; (try clear hb); (try clear hb2); (try clear hk); (try clear hi)))
    go_ret2
    exact ⟨by first | rfl | (simp [errW_none, errW_some] <;> rfl) | (simp [*, errW_none, errW_some] <;> rfl), by repeat (first | (with_reducible first | exact HB.out | apply below_alloc | apply pw_below_drewN | apply below_drew1 | refine below_set ?_ GE194.out) | exact HB.out)⟩
  · rw [if_neg c3] at H
    have c3b0 : (t195 == 0) = false := beq_eq_false_iff_ne.mpr c3
    have c3b1 : (t195 != 0) = true := bne_iff_ne.mpr c3
    simp only [Option.some.injEq, Prod.mk.injEq] at H
    obtain ⟨rfl, rfl⟩ := H
    go_enter Tryd.func42, Tryd.ntmps42
    go_wp2_with (first | ((with_reducible refine gate_dst (N := 1) rfl ?_); refine box_event ?hg (N := 1) ?hd (cs := #[.int .i64 a0_0, .string a0_1]) (t := 37) ?hr ?_; (case hd => rfl); (case hg => rfl); (case hr => first | (go_simp; done) | (go_simp; rfl)); intro gb194 hg w10 hbox hb; have n0_ := Aside0.mk (below_step (by repeat (first | (with_reducible first | exact HB.out | apply below_alloc | apply pw_below_drewN | apply below_drew1) | exact HB.out)) hb); have n1_ := Aside0.mk (hbox); have n2_ := Aside0.mk ((by rw [hg]; exact (below_size (by repeat (first | (with_reducible first | exact HB.out | apply below_alloc | apply pw_below_drewN | apply below_drew1) | exact HB.out))) : w.heap.size ≤ gb194)); have n3_ := Aside0.mk ((by rw [hg]; exact (below_size (by repeat (first | (with_reducible first | exact HB.out | apply below_alloc | apply pw_below_drewN | apply below_drew1) | exact HB.out))) : w.heap.size ≤ gb194)); clear HB; have HB := n0_; have BK194 := n1_; have GW194 := n2_; have GE194 := n3_; clear n0_ n1_ n2_ n3_; clear hb hbox hg; have hcz11_0 : w10.cell? ⟨gb194, 0, none⟩ = some (.int .i64 a0_0) := (blk_cell BK194.out 0).trans rfl; have hcz11_1 : w10.cell? ⟨gb194, 1, none⟩ = some (.string a0_1) := (blk_cell BK194.out 1).trans rfl; have hfz11_0 := blk_frozen BK194.out 0; have hfz11_1 := blk_frozen BK194.out 1) | ((with_reducible refine gate_callee (f := 44) rfl ?_); refine goesL_ (some 5) rfl rfl Tryd.func44 (by kernel_rfl) rfl #[.agg #[.int .i64 a0_0, .string a0_1]] rfl (by (try simp only [List.map_toArray, List.map_cons, List.map_nil]); first | done | rfl | (simp only [List.length_drop, List.length_take]; rfl)) ?_; (with_reducible refine (arbiterref02_Check.calls a0_0 a0_1 t195 _ A2.out).mono ?_); rintro e w12 ⟨rfl, hb⟩; refine ⟨_, rfl, ?_⟩; have n0_ := Aside0.mk (blk_below (g := gb194) (o := .cells #[.int .i64 a0_0, .string a0_1] 37 (0, 0)) (by (with_reducible repeat (first | refine blk_drewN ?_ _ | refine blk_drew ?_ | refine blk_alloc ?_ _)); exact BK194.out) hb); have n1_ := Aside0.mk (below_step (by repeat (first | (with_reducible first | exact HB.out | apply below_alloc | apply pw_below_drewN | apply below_drew1 | refine below_set ?_ GE194.out) | exact HB.out)) hb); clear BK194; clear HB; have BK194 := n0_; have HB := n1_; clear n0_ n1_; (try clear hb); (try clear hb2); (try clear hk); (try clear hi)))
    go_ret2
    exact ⟨by first | rfl | (simp [errW_none, errW_some] <;> rfl) | (simp [*, errW_none, errW_some] <;> rfl), by repeat (first | (with_reducible first | exact HB.out | apply below_alloc | apply pw_below_drewN | apply below_drew1 | refine below_set ?_ GE194.out) | exact HB.out)⟩

end Go.Proofs.YtpcdfjifhoofjaaDoor.Pt

-- laid by a program of this session's own (a variant of the kit's print)
namespace Go.Proofs.YtpcdfjifhoofjaaDoor.Pt
open Go.RowKit Go.Proofs.YtpcdfjifhoofjaaDoorW.PrintWords Go.Proofs.YtpcdfjifhoofjaaDoorW.PrintLast Go.Proofs.YtpcdfjifhoofjaaDoorW.PrintMore
attribute [local go_sem] max2_int min2_int max_two min_two max_three min_three max_four min_four   -- for this text's walks alone
set_option linter.unusedVariables false
set_option linter.unusedSimpArgs false

/-! ### arbiterref02_RefText: function 46 -/
def arbiterref02_RefText.f (k : Nat) (a0_0 : Int) (a0_1 : ByteArray) : Option (ByteArray × Int) := (arbiterref02_Check.f a0_0 a0_1).bind fun t198 => (if t198 = 0 then (if a0_0 > 0 then ((arbiterref02_written.f k a0_0 a0_1).bind fun t199 => (some (t199, 0))) else (if a0_1.toList = ([] : List UInt8) then (some ((⟨#[]⟩ : ByteArray), 2)) else (some (a0_1, 0)))) else (some ((⟨#[]⟩ : ByteArray), 1)))
theorem arbiterref02_RefText.mono : ∀ a0 a1 k, LeO (arbiterref02_RefText.f k a0 a1) (arbiterref02_RefText.f (k + 1) a0 a1) := by
  intro a0 a1 k
  unfold arbiterref02_RefText.f
  repeat' first
      | (with_reducible exact arbiterref02_written.mono _ _ _)
      | (with_reducible exact LeO.refl _)
      | (with_reducible exact LeO.none _)
      | (with_reducible refine LeO.ite ?_ ?_)
      | (with_reducible refine LeO.bind ?_ (fun _ => ?_))
      | exact arbiterref02_written.mono _ _ _
      | exact LeO.none _
      | refine LeO.ite ?_ ?_
      | refine LeO.bind ?_ (fun _ => ?_)
set_option maxHeartbeats 8000000 in
set_option maxRecDepth 100000 in
theorem arbiterref02_RefText.calls (k : Nat) (a0_0 : Int) (a0_1 : ByteArray) (r1 : ByteArray) (r2 : Int) (w : World) (h : arbiterref02_RefText.f k a0_0 a0_1 = some (r1, r2)) :
    Calls Tryd.prog 46 #[.agg #[.int .i64 a0_0, .string a0_1]] w fun e w' => e = .returned (.tuple #[.string r1, .int .i64 r2]) ∧ Below w.heap.size w w' := by
  have hu37 := Tryd.underlying37
  have HB := Aside0.mk (Below.refl w.heap.size w)
  have H : ((arbiterref02_Check.f a0_0 a0_1).bind fun t198 => (if t198 = 0 then (if a0_0 > 0 then ((arbiterref02_written.f k a0_0 a0_1).bind fun t199 => (some (t199, 0))) else (if a0_1.toList = ([] : List UInt8) then (some ((⟨#[]⟩ : ByteArray), 2)) else (some (a0_1, 0)))) else (some ((⟨#[]⟩ : ByteArray), 1)))) = some (r1, r2) := h
  clear h
  replace H := Option.bind_eq_some_iff.mp H
  obtain ⟨t198, A20, H⟩ := H
  replace H : (if t198 = 0 then (if a0_0 > 0 then ((arbiterref02_written.f k a0_0 a0_1).bind fun t199 => (some (t199, 0))) else (if a0_1.toList = ([] : List UInt8) then (some ((⟨#[]⟩ : ByteArray), 2)) else (some (a0_1, 0)))) else (some ((⟨#[]⟩ : ByteArray), 1))) = some (r1, r2) := H
  have A2 := Aside0.mk A20
  clear A20
  by_cases c3 : t198 = 0
  · rw [if_pos c3] at H
    have c3b0 : (t198 == 0) = true := beq_iff_eq.mpr c3
    have c3b1 : (t198 != 0) = false := bne_eq_false_iff_eq.mpr c3
    clear c3
    by_cases c4 : a0_0 > 0
    · rw [if_pos c4] at H
      have c4b0 : decide (0 < a0_0) = true := decide_eq_true c4
      clear c4
      replace H := Option.bind_eq_some_iff.mp H
      obtain ⟨t199, A50, H⟩ := H
      replace H : (some (t199, 0)) = some (r1, r2) := H
      have A5 := Aside0.mk A50
      clear A50
      simp only [Option.some.injEq, Prod.mk.injEq] at H
      obtain ⟨rfl, rfl⟩ := H
      go_enter Tryd.func46, Tryd.ntmps46
      go_wp2_with (first | ((with_reducible refine gate_dst (N := 1) rfl ?_); refine box_event ?hg (N := 1) ?hd (cs := #[.int .i64 a0_0, .string a0_1]) (t := 37) ?hr ?_; (case hd => rfl); (case hg => rfl); (case hr => first | (go_simp; done) | (go_simp; rfl)); intro gb197 hg w6 hbox hb; have n0_ := Aside0.mk (below_step (by repeat (first | (with_reducible first | exact HB.out | apply below_alloc | apply pw_below_drewN | apply below_drew1) | exact HB.out)) hb); have n1_ := Aside0.mk (hbox); have n2_ := Aside0.mk ((by rw [hg]; exact (below_size (by repeat (first | (with_reducible first | exact HB.out | apply below_alloc | apply pw_below_drewN | apply below_drew1) | exact HB.out))) : w.heap.size ≤ gb197)); have n3_ := Aside0.mk ((by rw [hg]; exact (below_size (by repeat (first | (with_reducible first | exact HB.out | apply below_alloc | apply pw_below_drewN | apply below_drew1) | exact HB.out))) : w.heap.size ≤ gb197)); clear HB; have HB := n0_; have BK197 := n1_; have GW197 := n2_; have GE197 := n3_; clear n0_ n1_ n2_ n3_; clear hb hbox hg; have hcz7_0 : w6.cell? ⟨gb197, 0, none⟩ = some (.int .i64 a0_0) := (blk_cell BK197.out 0).trans rfl; have hcz7_1 : w6.cell? ⟨gb197, 1, none⟩ = some (.string a0_1) := (blk_cell BK197.out 1).trans rfl; have hfz7_0 := blk_frozen BK197.out 0; have hfz7_1 := blk_frozen BK197.out 1) | ((with_reducible refine gate_callee (f := 44) rfl ?_); refine goesL_ (some 5) rfl rfl Tryd.func44 (by kernel_rfl) rfl #[.agg #[.int .i64 a0_0, .string a0_1]] rfl (by (try simp only [List.map_toArray, List.map_cons, List.map_nil]); first | done | rfl | (simp only [List.length_drop, List.length_take]; rfl)) ?_; (with_reducible refine (arbiterref02_Check.calls a0_0 a0_1 t198 _ A2.out).mono ?_); rintro e w8 ⟨rfl, hb⟩; refine ⟨_, rfl, ?_⟩; have n0_ := Aside0.mk (blk_below (g := gb197) (o := .cells #[.int .i64 a0_0, .string a0_1] 37 (0, 0)) (by (with_reducible repeat (first | refine blk_drewN ?_ _ | refine blk_drew ?_ | refine blk_alloc ?_ _)); exact BK197.out) hb); have n1_ := Aside0.mk (below_step (by repeat (first | (with_reducible first | exact HB.out | apply below_alloc | apply pw_below_drewN | apply below_drew1 | refine below_set ?_ GE197.out) | exact HB.out)) hb); clear BK197; clear HB; have BK197 := n0_; have HB := n1_; clear n0_ n1_; (try clear hb); (try clear hb2); (try clear hk); (try clear hi); have hcz9_0 : w8.cell? ⟨gb197, 0, none⟩ = some (.int .i64 a0_0) := (blk_cell BK197.out 0).trans rfl; have hcz9_1 : w8.cell? ⟨gb197, 1, none⟩ = some (.string a0_1) := (blk_cell BK197.out 1).trans rfl; have hfz9_0 := blk_frozen BK197.out 0; have hfz9_1 := blk_frozen BK197.out 1) | ((with_reducible refine gate_callee (f := 71) rfl ?_); refine goesL_ (some 11) rfl rfl Tryd.func71 (by kernel_rfl) rfl #[.agg #[.int .i64 a0_0, .string a0_1]] rfl (by (try simp only [List.map_toArray, List.map_cons, List.map_nil]); first | done | rfl | (simp only [List.length_drop, List.length_take]; rfl)) ?_; (with_reducible refine (arbiterref02_written.calls k a0_0 a0_1 t199 _ A5.out).mono ?_); rintro e w10 ⟨rfl, hb⟩; refine ⟨_, rfl, ?_⟩; have n0_ := Aside0.mk (blk_below (g := gb197) (o := .cells #[.int .i64 a0_0, .string a0_1] 37 (0, 0)) (by (with_reducible repeat (first | refine blk_drewN ?_ _ | refine blk_drew ?_ | refine blk_alloc ?_ _)); exact BK197.out) hb); have n1_ := Aside0.mk (below_step (by repeat (first | (with_reducible first | exact HB.out | apply below_alloc | apply pw_below_drewN | apply below_drew1 | refine below_set ?_ GE197.out) | exact HB.out)) hb); clear BK197; clear HB; have BK197 := n0_; have HB := n1_; clear n0_ n1_; (try clear hb); (try clear hb2); (try clear hk); (try clear hi)))
      go_ret2
      exact ⟨by first | rfl | (simp [errW_none, errW_some] <;> rfl) | (simp [*, errW_none, errW_some] <;> rfl), by repeat (first | (with_reducible first | exact HB.out | apply below_alloc | apply pw_below_drewN | apply below_drew1 | refine below_set ?_ GE197.out) | exact HB.out)⟩
    · rw [if_neg c4] at H
      have c4b0 : decide (0 < a0_0) = false := decide_eq_false c4
      clear c4
      by_cases c11 : a0_1.toList = ([] : List UInt8)
      · rw [if_pos c11] at H
        have c11b0 : (a0_1.toList == ([] : List UInt8)) = true := beq_iff_eq.mpr c11
        have c11b1 : (a0_1.toList != ([] : List UInt8)) = false := bne_eq_false_iff_eq.mpr c11
        clear c11
        simp only [Option.some.injEq, Prod.mk.injEq] at H
        obtain ⟨rfl, rfl⟩ := H
        go_enter Tryd.func46, Tryd.ntmps46
        go_wp2_with (first | ((with_reducible refine gate_dst (N := 1) rfl ?_); refine box_event ?hg (N := 1) ?hd (cs := #[.int .i64 a0_0, .string a0_1]) (t := 37) ?hr ?_; (case hd => rfl); (case hg => rfl); (case hr => first | (go_simp; done) | (go_simp; rfl)); intro gb197 hg w12 hbox hb; have n0_ := Aside0.mk (below_step (by repeat (first | (with_reducible first | exact HB.out | apply below_alloc | apply pw_below_drewN | apply below_drew1) | exact HB.out)) hb); have n1_ := Aside0.mk (hbox); have n2_ := Aside0.mk ((by rw [hg]; exact (below_size (by repeat (first | (with_reducible first | exact HB.out | apply below_alloc | apply pw_below_drewN | apply below_drew1) | exact HB.out))) : w.heap.size ≤ gb197)); have n3_ := Aside0.mk ((by rw [hg]; exact (below_size (by repeat (first | (with_reducible first | exact HB.out | apply below_alloc | apply pw_below_drewN | apply below_drew1) | exact HB.out))) : w.heap.size ≤ gb197)); clear HB; have HB := n0_; have BK197 := n1_; have GW197 := n2_; have GE197 := n3_; clear n0_ n1_ n2_ n3_; clear hb hbox hg; have hcz13_0 : w12.cell? ⟨gb197, 0, none⟩ = some (.int .i64 a0_0) := (blk_cell BK197.out 0).trans rfl; have hcz13_1 : w12.cell? ⟨gb197, 1, none⟩ = some (.string a0_1) := (blk_cell BK197.out 1).trans rfl; have hfz13_0 := blk_frozen BK197.out 0; have hfz13_1 := blk_frozen BK197.out 1) | ((with_reducible refine gate_callee (f := 44) rfl ?_); refine goesL_ (some 5) rfl rfl Tryd.func44 (by kernel_rfl) rfl #[.agg #[.int .i64 a0_0, .string a0_1]] rfl (by (try simp only [List.map_toArray, List.map_cons, List.map_nil]); first | done | rfl | (simp only [List.length_drop, List.length_take]; rfl)) ?_; (with_reducible refine (arbiterref02_Check.calls a0_0 a0_1 t198 _ A2.out).mono ?_); rintro e w14 ⟨rfl, hb⟩; refine ⟨_, rfl, ?_⟩; have n0_ := Aside0.mk (blk_below (g := gb197) (o := .cells #[.int .i64 a0_0, .string a0_1] 37 (0, 0)) (by (with_reducible repeat (first | refine blk_drewN ?_ _ | refine blk_drew ?_ | refine blk_alloc ?_ _)); exact BK197.out) hb); have n1_ := Aside0.mk (below_step (by repeat (first | (with_reducible first | exact HB.out | apply below_alloc | apply pw_below_drewN | apply below_drew1 | refine below_set ?_ GE197.out) | exact HB.out)) hb); clear BK197; clear HB; have BK197 := n0_; have HB := n1_; clear n0_ n1_; (try clear hb); (try clear hb2); (try clear hk); (try clear hi); have hcz15_0 : w14.cell? ⟨gb197, 0, none⟩ = some (.int .i64 a0_0) := (blk_cell BK197.out 0).trans rfl; have hcz15_1 : w14.cell? ⟨gb197, 1, none⟩ = some (.string a0_1) := (blk_cell BK197.out 1).trans rfl; have hfz15_0 := blk_frozen BK197.out 0; have hfz15_1 := blk_frozen BK197.out 1))
        go_ret2
        exact ⟨by first | rfl | (simp [errW_none, errW_some] <;> rfl) | (simp [*, errW_none, errW_some] <;> rfl), by repeat (first | (with_reducible first | exact HB.out | apply below_alloc | apply pw_below_drewN | apply below_drew1 | refine below_set ?_ GE197.out) | exact HB.out)⟩
      · rw [if_neg c11] at H
        have c11b0 : (a0_1.toList == ([] : List UInt8)) = false := beq_eq_false_iff_ne.mpr c11
        have c11b1 : (a0_1.toList != ([] : List UInt8)) = true := bne_iff_ne.mpr c11
        simp only [Option.some.injEq, Prod.mk.injEq] at H
        obtain ⟨rfl, rfl⟩ := H
        go_enter Tryd.func46, Tryd.ntmps46
        go_wp2_with (first | ((with_reducible refine gate_dst (N := 1) rfl ?_); refine box_event ?hg (N := 1) ?hd (cs := #[.int .i64 a0_0, .string a0_1]) (t := 37) ?hr ?_; (case hd => rfl); (case hg => rfl); (case hr => first | (go_simp; done) | (go_simp; rfl)); intro gb197 hg w16 hbox hb; have n0_ := Aside0.mk (below_step (by repeat (first | (with_reducible first | exact HB.out | apply below_alloc | apply pw_below_drewN | apply below_drew1) | exact HB.out)) hb); have n1_ := Aside0.mk (hbox); have n2_ := Aside0.mk ((by rw [hg]; exact (below_size (by repeat (first | (with_reducible first | exact HB.out | apply below_alloc | apply pw_below_drewN | apply below_drew1) | exact HB.out))) : w.heap.size ≤ gb197)); have n3_ := Aside0.mk ((by rw [hg]; exact (below_size (by repeat (first | (with_reducible first | exact HB.out | apply below_alloc | apply pw_below_drewN | apply below_drew1) | exact HB.out))) : w.heap.size ≤ gb197)); clear HB; have HB := n0_; have BK197 := n1_; have GW197 := n2_; have GE197 := n3_; clear n0_ n1_ n2_ n3_; clear hb hbox hg; have hcz17_0 : w16.cell? ⟨gb197, 0, none⟩ = some (.int .i64 a0_0) := (blk_cell BK197.out 0).trans rfl; have hcz17_1 : w16.cell? ⟨gb197, 1, none⟩ = some (.string a0_1) := (blk_cell BK197.out 1).trans rfl; have hfz17_0 := blk_frozen BK197.out 0; have hfz17_1 := blk_frozen BK197.out 1) | ((with_reducible refine gate_callee (f := 44) rfl ?_); refine goesL_ (some 5) rfl rfl Tryd.func44 (by kernel_rfl) rfl #[.agg #[.int .i64 a0_0, .string a0_1]] rfl (by (try simp only [List.map_toArray, List.map_cons, List.map_nil]); first | done | rfl | (simp only [List.length_drop, List.length_take]; rfl)) ?_; (with_reducible refine (arbiterref02_Check.calls a0_0 a0_1 t198 _ A2.out).mono ?_); rintro e w18 ⟨rfl, hb⟩; refine ⟨_, rfl, ?_⟩; have n0_ := Aside0.mk (blk_below (g := gb197) (o := .cells #[.int .i64 a0_0, .string a0_1] 37 (0, 0)) (by (with_reducible repeat (first | refine blk_drewN ?_ _ | refine blk_drew ?_ | refine blk_alloc ?_ _)); exact BK197.out) hb); have n1_ := Aside0.mk (below_step (by repeat (first | (with_reducible first | exact HB.out | apply below_alloc | apply pw_below_drewN | apply below_drew1 | refine below_set ?_ GE197.out) | exact HB.out)) hb); clear BK197; clear HB; have BK197 := n0_; have HB := n1_; clear n0_ n1_; (try clear hb); (try clear hb2); (try clear hk); (try clear hi); have hcz19_0 : w18.cell? ⟨gb197, 0, none⟩ = some (.int .i64 a0_0) := (blk_cell BK197.out 0).trans rfl; have hcz19_1 : w18.cell? ⟨gb197, 1, none⟩ = some (.string a0_1) := (blk_cell BK197.out 1).trans rfl; have hfz19_0 := blk_frozen BK197.out 0; have hfz19_1 := blk_frozen BK197.out 1))
        go_ret2
        exact ⟨by first | rfl | (simp [errW_none, errW_some] <;> rfl) | (simp [*, errW_none, errW_some] <;> rfl), by repeat (first | (with_reducible first | exact HB.out | apply below_alloc | apply pw_below_drewN | apply below_drew1 | refine below_set ?_ GE197.out) | exact HB.out)⟩
  · rw [if_neg c3] at H
    have c3b0 : (t198 == 0) = false := beq_eq_false_iff_ne.mpr c3
    have c3b1 : (t198 != 0) = true := bne_iff_ne.mpr c3
    simp only [Option.some.injEq, Prod.mk.injEq] at H
    obtain ⟨rfl, rfl⟩ := H
    go_enter Tryd.func46, Tryd.ntmps46
    go_wp2_with (first | ((with_reducible refine gate_dst (N := 1) rfl ?_); refine box_event ?hg (N := 1) ?hd (cs := #[.int .i64 a0_0, .string a0_1]) (t := 37) ?hr ?_; (case hd => rfl); (case hg => rfl); (case hr => first | (go_simp; done) | (go_simp; rfl)); intro gb197 hg w20 hbox hb; have n0_ := Aside0.mk (below_step (by repeat (first | (with_reducible first | exact HB.out | apply below_alloc | apply pw_below_drewN | apply below_drew1) | exact HB.out)) hb); have n1_ := Aside0.mk (hbox); have n2_ := Aside0.mk ((by rw [hg]; exact (below_size (by repeat (first | (with_reducible first | exact HB.out | apply below_alloc | apply pw_below_drewN | apply below_drew1) | exact HB.out))) : w.heap.size ≤ gb197)); have n3_ := Aside0.mk ((by rw [hg]; exact (below_size (by repeat (first | (with_reducible first | exact HB.out | apply below_alloc | apply pw_below_drewN | apply below_drew1) | exact HB.out))) : w.heap.size ≤ gb197)); clear HB; have HB := n0_; have BK197 := n1_; have GW197 := n2_; have GE197 := n3_; clear n0_ n1_ n2_ n3_; clear hb hbox hg; have hcz21_0 : w20.cell? ⟨gb197, 0, none⟩ = some (.int .i64 a0_0) := (blk_cell BK197.out 0).trans rfl; have hcz21_1 : w20.cell? ⟨gb197, 1, none⟩ = some (.string a0_1) := (blk_cell BK197.out 1).trans rfl; have hfz21_0 := blk_frozen BK197.out 0; have hfz21_1 := blk_frozen BK197.out 1) | ((with_reducible refine gate_callee (f := 44) rfl ?_); refine goesL_ (some 5) rfl rfl Tryd.func44 (by kernel_rfl) rfl #[.agg #[.int .i64 a0_0, .string a0_1]] rfl (by (try simp only [List.map_toArray, List.map_cons, List.map_nil]); first | done | rfl | (simp only [List.length_drop, List.length_take]; rfl)) ?_; (with_reducible refine (arbiterref02_Check.calls a0_0 a0_1 t198 _ A2.out).mono ?_); rintro e w22 ⟨rfl, hb⟩; refine ⟨_, rfl, ?_⟩; have n0_ := Aside0.mk (blk_below (g := gb197) (o := .cells #[.int .i64 a0_0, .string a0_1] 37 (0, 0)) (by (with_reducible repeat (first | refine blk_drewN ?_ _ | refine blk_drew ?_ | refine blk_alloc ?_ _)); exact BK197.out) hb); have n1_ := Aside0.mk (below_step (by repeat (first | (with_reducible first | exact HB.out | apply below_alloc | apply pw_below_drewN | apply below_drew1 | refine below_set ?_ GE197.out) | exact HB.out)) hb); clear BK197; clear HB; have BK197 := n0_; have HB := n1_; clear n0_ n1_; (try clear hb); (try clear hb2); (try clear hk); (try clear hi)))
    go_ret2
    exact ⟨by first | rfl | (simp [errW_none, errW_some] <;> rfl) | (simp [*, errW_none, errW_some] <;> rfl), by repeat (first | (with_reducible first | exact HB.out | apply below_alloc | apply pw_below_drewN | apply below_drew1 | refine below_set ?_ GE197.out) | exact HB.out)⟩

end Go.Proofs.YtpcdfjifhoofjaaDoor.Pt

-- laid by a program of this session's own (a variant of the kit's print)
namespace Go.Proofs.YtpcdfjifhoofjaaDoor.Pt
open Go.RowKit Go.Proofs.YtpcdfjifhoofjaaDoorW.PrintWords Go.Proofs.YtpcdfjifhoofjaaDoorW.PrintLast Go.Proofs.YtpcdfjifhoofjaaDoorW.PrintMore
attribute [local go_sem] max2_int min2_int max_two min_two max_three min_three max_four min_four   -- for this text's walks alone
set_option linter.unusedVariables false
set_option linter.unusedSimpArgs false

/-! ### arbiterlaw02_TypesWrite: function 9 -/
mutual
def arbiterlaw02_TypesWrite.j0 : Nat → Bool → Int → ByteArray → Option (Bool)
  | 0, _, _, _ => none
  | k + 1, x35, x201000, x201001 => if x35 = true then (some false) else ((types_RefText.f x201000 x201001).bind fun bt208 => ((arbiterref02_RefText.f k x201000 x201001).bind fun bt210 => (if bt208.1.toList = bt210.1.toList then (arbiterlaw02_TypesWrite.j1 k (bt208.2 != bt210.2) x201000 x201001) else (arbiterlaw02_TypesWrite.j1 k true x201000 x201001))))
def arbiterlaw02_TypesWrite.j1 : Nat → Bool → Int → ByteArray → Option (Bool)
  | 0, _, _, _ => none
  | k + 1, x53, x201000, x201001 => if x53 = true then (some false) else ((types_ArrayOf.f x201000 x201001).bind fun bt212 => ((arbiterref02_ArrayOf.f x201000 x201001).bind fun bt216 => (if bt212.2.2 = bt216.2.2 then ((arbiterref02_Same.f bt212.1 bt212.2.1 bt216.1 bt216.2.1).bind fun t220 => (arbiterlaw02_TypesWrite.j2 k (!t220) x201000 x201001)) else (arbiterlaw02_TypesWrite.j2 k true x201000 x201001))))
def arbiterlaw02_TypesWrite.j2 : Nat → Bool → Int → ByteArray → Option (Bool)
  | 0, _, _, _ => none
  | k + 1, x72, x201000, x201001 => if x72 = true then (some false) else ((types_Component.f x201000 x201001).bind fun bt221 => ((arbiterref02_Component.f x201000 x201001).bind fun bt224 => (if bt221.2.2 = bt224.2.2 then ((arbiterref02_Same.f bt221.1 bt221.2.1 bt224.1 bt224.2.1).bind fun t227 => (arbiterlaw02_TypesWrite.j3 k (!t227) x201000 x201001)) else (arbiterlaw02_TypesWrite.j3 k true x201000 x201001))))
def arbiterlaw02_TypesWrite.j3 : Nat → Bool → Int → ByteArray → Option (Bool)
  | 0, _, _, _ => none
  | k + 1, x91, x201000, x201001 => if x91 = true then (some false) else ((types_Element.f x201000 x201001).bind fun bt228 => ((arbiterref02_Element.f x201000 x201001).bind fun bt231 => (if bt228.2.2 = bt231.2.2 then ((arbiterref02_Same.f bt228.1 bt228.2.1 bt231.1 bt231.2.1).bind fun t234 => (some t234)) else (some false))))
end
def arbiterlaw02_TypesWrite.f (k : Nat) (a0_0 : Int) (a0_1 : ByteArray) : Option (Bool) := (arbiterlaw02_awake.f).bind fun t201 => (if t201 = true then ((types_Text.f a0_0 a0_1).bind fun bt202 => ((arbiterref02_Text.f k a0_0 a0_1).bind fun bt204 => (if bt202.1.toList = bt204.1.toList then (if bt202.2 = bt204.2 then ((types_Check.f a0_0 a0_1).bind fun t206 => ((arbiterref02_Check.f a0_0 a0_1).bind fun t207 => (arbiterlaw02_TypesWrite.j0 k (t206 != t207) a0_0 a0_1))) else (arbiterlaw02_TypesWrite.j0 k true a0_0 a0_1)) else (arbiterlaw02_TypesWrite.j0 k true a0_0 a0_1)))) else (some false))
theorem arbiterlaw02_TypesWrite.mono_l : ∀ k, (∀ y0 y1 y2, LeO (arbiterlaw02_TypesWrite.j0 k y0 y1 y2) (arbiterlaw02_TypesWrite.j0 (k + 1) y0 y1 y2)) ∧ (∀ y0 y1 y2, LeO (arbiterlaw02_TypesWrite.j1 k y0 y1 y2) (arbiterlaw02_TypesWrite.j1 (k + 1) y0 y1 y2)) ∧ (∀ y0 y1 y2, LeO (arbiterlaw02_TypesWrite.j2 k y0 y1 y2) (arbiterlaw02_TypesWrite.j2 (k + 1) y0 y1 y2)) ∧ (∀ y0 y1 y2, LeO (arbiterlaw02_TypesWrite.j3 k y0 y1 y2) (arbiterlaw02_TypesWrite.j3 (k + 1) y0 y1 y2))
  | 0 => ⟨fun _ _ _ r h => by simp [arbiterlaw02_TypesWrite.j0] at h, fun _ _ _ r h => by simp [arbiterlaw02_TypesWrite.j1] at h, fun _ _ _ r h => by simp [arbiterlaw02_TypesWrite.j2] at h, fun _ _ _ r h => by simp [arbiterlaw02_TypesWrite.j3] at h⟩
  | k + 1 => by
    obtain ⟨ih0, ih1, ih2, ih3⟩ := arbiterlaw02_TypesWrite.mono_l k
    refine ⟨?_, ?_, ?_, ?_⟩
    · intro y0 y1 y2
      unfold arbiterlaw02_TypesWrite.j0
      repeat' first
      | (with_reducible exact ih0 _ _ _)
      | (with_reducible exact ih1 _ _ _)
      | (with_reducible exact ih2 _ _ _)
      | (with_reducible exact ih3 _ _ _)
      | (with_reducible exact arbiterref02_RefText.mono _ _ _)
      | (with_reducible exact arbiterref02_Text.mono _ _ _)
      | (with_reducible exact LeO.refl _)
      | (with_reducible exact LeO.none _)
      | (with_reducible refine LeO.ite ?_ ?_)
      | (with_reducible refine LeO.bind ?_ (fun _ => ?_))
      | exact ih0 _ _ _
      | exact ih1 _ _ _
      | exact ih2 _ _ _
      | exact ih3 _ _ _
      | exact arbiterref02_RefText.mono _ _ _
      | exact arbiterref02_Text.mono _ _ _
      | exact LeO.none _
      | refine LeO.ite ?_ ?_
      | refine LeO.bind ?_ (fun _ => ?_)
    · intro y0 y1 y2
      unfold arbiterlaw02_TypesWrite.j1
      repeat' first
      | (with_reducible exact ih0 _ _ _)
      | (with_reducible exact ih1 _ _ _)
      | (with_reducible exact ih2 _ _ _)
      | (with_reducible exact ih3 _ _ _)
      | (with_reducible exact arbiterref02_RefText.mono _ _ _)
      | (with_reducible exact arbiterref02_Text.mono _ _ _)
      | (with_reducible exact LeO.refl _)
      | (with_reducible exact LeO.none _)
      | (with_reducible refine LeO.ite ?_ ?_)
      | (with_reducible refine LeO.bind ?_ (fun _ => ?_))
      | exact ih0 _ _ _
      | exact ih1 _ _ _
      | exact ih2 _ _ _
      | exact ih3 _ _ _
      | exact arbiterref02_RefText.mono _ _ _
      | exact arbiterref02_Text.mono _ _ _
      | exact LeO.none _
      | refine LeO.ite ?_ ?_
      | refine LeO.bind ?_ (fun _ => ?_)
    · intro y0 y1 y2
      unfold arbiterlaw02_TypesWrite.j2
      repeat' first
      | (with_reducible exact ih0 _ _ _)
      | (with_reducible exact ih1 _ _ _)
      | (with_reducible exact ih2 _ _ _)
      | (with_reducible exact ih3 _ _ _)
      | (with_reducible exact arbiterref02_RefText.mono _ _ _)
      | (with_reducible exact arbiterref02_Text.mono _ _ _)
      | (with_reducible exact LeO.refl _)
      | (with_reducible exact LeO.none _)
      | (with_reducible refine LeO.ite ?_ ?_)
      | (with_reducible refine LeO.bind ?_ (fun _ => ?_))
      | exact ih0 _ _ _
      | exact ih1 _ _ _
      | exact ih2 _ _ _
      | exact ih3 _ _ _
      | exact arbiterref02_RefText.mono _ _ _
      | exact arbiterref02_Text.mono _ _ _
      | exact LeO.none _
      | refine LeO.ite ?_ ?_
      | refine LeO.bind ?_ (fun _ => ?_)
    · intro y0 y1 y2
      unfold arbiterlaw02_TypesWrite.j3
      repeat' first
      | (with_reducible exact ih0 _ _ _)
      | (with_reducible exact ih1 _ _ _)
      | (with_reducible exact ih2 _ _ _)
      | (with_reducible exact ih3 _ _ _)
      | (with_reducible exact arbiterref02_RefText.mono _ _ _)
      | (with_reducible exact arbiterref02_Text.mono _ _ _)
      | (with_reducible exact LeO.refl _)
      | (with_reducible exact LeO.none _)
      | (with_reducible refine LeO.ite ?_ ?_)
      | (with_reducible refine LeO.bind ?_ (fun _ => ?_))
      | exact ih0 _ _ _
      | exact ih1 _ _ _
      | exact ih2 _ _ _
      | exact ih3 _ _ _
      | exact arbiterref02_RefText.mono _ _ _
      | exact arbiterref02_Text.mono _ _ _
      | exact LeO.none _
      | refine LeO.ite ?_ ?_
      | refine LeO.bind ?_ (fun _ => ?_)
theorem arbiterlaw02_TypesWrite.mono : ∀ a0 a1 k, LeO (arbiterlaw02_TypesWrite.f k a0 a1) (arbiterlaw02_TypesWrite.f (k + 1) a0 a1) := by
  intro a0 a1 k
  obtain ⟨ih0, ih1, ih2, ih3⟩ := arbiterlaw02_TypesWrite.mono_l k
  unfold arbiterlaw02_TypesWrite.f
  repeat' first
      | (with_reducible exact ih0 _ _ _)
      | (with_reducible exact ih1 _ _ _)
      | (with_reducible exact ih2 _ _ _)
      | (with_reducible exact ih3 _ _ _)
      | (with_reducible exact arbiterref02_RefText.mono _ _ _)
      | (with_reducible exact arbiterref02_Text.mono _ _ _)
      | (with_reducible exact LeO.refl _)
      | (with_reducible exact LeO.none _)
      | (with_reducible refine LeO.ite ?_ ?_)
      | (with_reducible refine LeO.bind ?_ (fun _ => ?_))
      | exact ih0 _ _ _
      | exact ih1 _ _ _
      | exact ih2 _ _ _
      | exact ih3 _ _ _
      | exact arbiterref02_RefText.mono _ _ _
      | exact arbiterref02_Text.mono _ _ _
      | exact LeO.none _
      | refine LeO.ite ?_ ?_
      | refine LeO.bind ?_ (fun _ => ?_)
def arbiterlaw02_TypesWrite.T5 : Bool × List (List Nat × List Nat) := (true, [([], []), ([], []), ([0, 1], [0, 1]), ([2], [2]), ([3], [3]), ([3], [3]), ([4, 5, 3], [3, 4, 5]), ([3, 6], [3, 6]), ([7, 3], [7]), ([8], [8]), ([9, 8, 8], [8, 9]), ([8], [8]), ([11, 10, 8], [8, 11]), ([10, 12, 8], [8, 10, 12]), ([8, 13], [8, 13])])
def arbiterlaw02_TypesWrite.B5 : List Nat := [0, 0, 3, 7, 15, 15, 63, 127, 255, 511, 1023, 511, 4095, 8191, 16383]
theorem arbiterlaw02_TypesWrite.tab5 : rtab .any (opsOf Tryd.f9 5) = arbiterlaw02_TypesWrite.T5 := by kernel_rfl
theorem arbiterlaw02_TypesWrite.bits5 : waitsOk arbiterlaw02_TypesWrite.T5.2 arbiterlaw02_TypesWrite.B5 = true := by kernel_rfl
set_option maxHeartbeats 8000000 in
set_option maxRecDepth 100000 in
theorem arbiterlaw02_TypesWrite.calls (k : Nat) (a0_0 : Int) (a0_1 : ByteArray) (r : Bool) (w : World) (h : arbiterlaw02_TypesWrite.f k a0_0 a0_1 = some r) :
    Calls Tryd.prog 9 #[.agg #[.int .i64 a0_0, .string a0_1]] w fun e w' => e = .returned (.bool r) ∧ Below w.heap.size w w' := by
  have hu37 := Tryd.underlying37
  have HB := Aside0.mk (Below.refl w.heap.size w)
  have H : ((arbiterlaw02_awake.f).bind fun t201 => (if t201 = true then ((types_Text.f a0_0 a0_1).bind fun bt202 => ((arbiterref02_Text.f k a0_0 a0_1).bind fun bt204 => (if bt202.1.toList = bt204.1.toList then (if bt202.2 = bt204.2 then ((types_Check.f a0_0 a0_1).bind fun t206 => ((arbiterref02_Check.f a0_0 a0_1).bind fun t207 => (arbiterlaw02_TypesWrite.j0 k (t206 != t207) a0_0 a0_1))) else (arbiterlaw02_TypesWrite.j0 k true a0_0 a0_1)) else (arbiterlaw02_TypesWrite.j0 k true a0_0 a0_1)))) else (some false))) = some r := h
  clear h
  replace H := Option.bind_eq_some_iff.mp H
  obtain ⟨t201, A20, H⟩ := H
  replace H : (if t201 = true then ((types_Text.f a0_0 a0_1).bind fun bt202 => ((arbiterref02_Text.f k a0_0 a0_1).bind fun bt204 => (if bt202.1.toList = bt204.1.toList then (if bt202.2 = bt204.2 then ((types_Check.f a0_0 a0_1).bind fun t206 => ((arbiterref02_Check.f a0_0 a0_1).bind fun t207 => (arbiterlaw02_TypesWrite.j0 k (t206 != t207) a0_0 a0_1))) else (arbiterlaw02_TypesWrite.j0 k true a0_0 a0_1)) else (arbiterlaw02_TypesWrite.j0 k true a0_0 a0_1)))) else (some false)) = some r := H
  have A2 := Aside0.mk A20
  clear A20
  by_cases c3 : t201 = true
  · subst c3
    have H1 : ((types_Text.f a0_0 a0_1).bind fun bt202 => ((arbiterref02_Text.f k a0_0 a0_1).bind fun bt204 => (if bt202.1.toList = bt204.1.toList then (if bt202.2 = bt204.2 then ((types_Check.f a0_0 a0_1).bind fun t206 => ((arbiterref02_Check.f a0_0 a0_1).bind fun t207 => (arbiterlaw02_TypesWrite.j0 k (t206 != t207) a0_0 a0_1))) else (arbiterlaw02_TypesWrite.j0 k true a0_0 a0_1)) else (arbiterlaw02_TypesWrite.j0 k true a0_0 a0_1)))) = some r := by rw [if_pos rfl] at H; exact H
    clear H
    have H := H1
    clear H1
    replace H := Option.bind_eq_some_iff.mp H
    obtain ⟨⟨t202, t203⟩, A40, H⟩ := H
    replace H : ((arbiterref02_Text.f k a0_0 a0_1).bind fun bt204 => (if t202.toList = bt204.1.toList then (if t203 = bt204.2 then ((types_Check.f a0_0 a0_1).bind fun t206 => ((arbiterref02_Check.f a0_0 a0_1).bind fun t207 => (arbiterlaw02_TypesWrite.j0 k (t206 != t207) a0_0 a0_1))) else (arbiterlaw02_TypesWrite.j0 k true a0_0 a0_1)) else (arbiterlaw02_TypesWrite.j0 k true a0_0 a0_1))) = some r := H
    have A4 := Aside0.mk A40
    clear A40
    replace H := Option.bind_eq_some_iff.mp H
    obtain ⟨⟨t204, t205⟩, A50, H⟩ := H
    replace H : (if t202.toList = t204.toList then (if t203 = t205 then ((types_Check.f a0_0 a0_1).bind fun t206 => ((arbiterref02_Check.f a0_0 a0_1).bind fun t207 => (arbiterlaw02_TypesWrite.j0 k (t206 != t207) a0_0 a0_1))) else (arbiterlaw02_TypesWrite.j0 k true a0_0 a0_1)) else (arbiterlaw02_TypesWrite.j0 k true a0_0 a0_1)) = some r := H
    have A5 := Aside0.mk A50
    clear A50
    have HC6 := Aside0.mk H
    clear H
    go_enter Tryd.func9, Tryd.ntmps9
    go_upto_region 5 with (first | ((with_reducible refine gate_dst (N := 1) rfl ?_); refine box_event ?hg (N := 1) ?hd (cs := #[.int .i64 a0_0, .string a0_1]) (t := 37) ?hr ?_; (case hd => rfl); (case hg => rfl); (case hr => first | (go_simp; done) | (go_simp; rfl)); intro gb200 hg w7 hbox hb; have n0_ := Aside0.mk (below_step (by repeat (first | (with_reducible first | exact HB.out | apply below_alloc | apply pw_below_drewN | apply below_drew1) | exact HB.out)) hb); have n1_ := Aside0.mk (hbox); have n2_ := Aside0.mk ((by rw [hg]; exact (below_size (by repeat (first | (with_reducible first | exact HB.out | apply below_alloc | apply pw_below_drewN | apply below_drew1) | exact HB.out))) : w.heap.size ≤ gb200)); have n3_ := Aside0.mk ((by rw [hg]; exact (below_size (by repeat (first | (with_reducible first | exact HB.out | apply below_alloc | apply pw_below_drewN | apply below_drew1) | exact HB.out))) : w.heap.size ≤ gb200)); clear HB; have HB := n0_; have BK200 := n1_; have GW200 := n2_; have GE200 := n3_; clear n0_ n1_ n2_ n3_; clear hb hbox hg) | ((with_reducible refine gate_callee (f := 25) rfl ?_); refine goesL_ (some 9) rfl rfl Tryd.func25 (by kernel_rfl) rfl #[] rfl (by (try simp only [List.map_toArray, List.map_cons, List.map_nil]); first | done | rfl | (simp only [List.length_drop, List.length_take]; rfl)) ?_; (with_reducible refine (arbiterlaw02_awake.calls  true _ A2.out).mono ?_); rintro e w8 ⟨rfl, hb⟩; refine ⟨_, rfl, ?_⟩; have n0_ := Aside0.mk (blk_below (g := gb200) (o := .cells #[.int .i64 a0_0, .string a0_1] 37 (0, 0)) (by (with_reducible repeat (first | refine blk_drewN ?_ _ | refine blk_drew ?_ | refine blk_alloc ?_ _)); exact BK200.out) hb); have n1_ := Aside0.mk (below_step (by repeat (first | (with_reducible first | exact HB.out | apply below_alloc | apply pw_below_drewN | apply below_drew1 | refine below_set ?_ GE200.out) | exact HB.out)) hb); clear BK200; clear HB; have BK200 := n0_; have HB := n1_; clear n0_ n1_; (try clear hb); (try clear hb2); (try clear hk); (try clear hi); have hcz9_0 : w8.cell? ⟨gb200, 0, none⟩ = some (.int .i64 a0_0) := (blk_cell BK200.out 0).trans rfl; have hcz9_1 : w8.cell? ⟨gb200, 1, none⟩ = some (.string a0_1) := (blk_cell BK200.out 1).trans rfl; have hfz9_0 := blk_frozen BK200.out 0; have hfz9_1 := blk_frozen BK200.out 1) | ((with_reducible refine gate_callee (f := 41) rfl ?_); refine goesL_ (some 13) rfl rfl Tryd.func41 (by kernel_rfl) rfl #[.agg #[.int .i64 a0_0, .string a0_1]] rfl (by (try simp only [List.map_toArray, List.map_cons, List.map_nil]); first | done | rfl | (simp only [List.length_drop, List.length_take]; rfl)) ?_; (with_reducible refine (types_Text.calls a0_0 a0_1 t202 t203 _ A4.out).mono ?_); rintro e w10 ⟨rfl, hb⟩; refine ⟨_, rfl, ?_⟩; have n0_ := Aside0.mk (blk_below (g := gb200) (o := .cells #[.int .i64 a0_0, .string a0_1] 37 (0, 0)) (by (with_reducible repeat (first | refine blk_drewN ?_ _ | refine blk_drew ?_ | refine blk_alloc ?_ _)); exact BK200.out) hb); have n1_ := Aside0.mk (below_step (by repeat (first | (with_reducible first | exact HB.out | apply below_alloc | apply pw_below_drewN | apply below_drew1 | refine below_set ?_ GE200.out) | exact HB.out)) hb); clear BK200; clear HB; have BK200 := n0_; have HB := n1_; clear n0_ n1_; (try clear hb); (try clear hb2); (try clear hk); (try clear hi); have hcz11_0 : w10.cell? ⟨gb200, 0, none⟩ = some (.int .i64 a0_0) := (blk_cell BK200.out 0).trans rfl; have hcz11_1 : w10.cell? ⟨gb200, 1, none⟩ = some (.string a0_1) := (blk_cell BK200.out 1).trans rfl; have hfz11_0 := blk_frozen BK200.out 0; have hfz11_1 := blk_frozen BK200.out 1) | ((with_reducible refine gate_callee (f := 42) rfl ?_); refine goesL_ (some 18) rfl rfl Tryd.func42 (by kernel_rfl) rfl #[.agg #[.int .i64 a0_0, .string a0_1]] rfl (by (try simp only [List.map_toArray, List.map_cons, List.map_nil]); first | done | rfl | (simp only [List.length_drop, List.length_take]; rfl)) ?_; (with_reducible refine (arbiterref02_Text.calls k a0_0 a0_1 t204 t205 _ A5.out).mono ?_); rintro e w12 ⟨rfl, hb⟩; refine ⟨_, rfl, ?_⟩; have n0_ := Aside0.mk (blk_below (g := gb200) (o := .cells #[.int .i64 a0_0, .string a0_1] 37 (0, 0)) (by (with_reducible repeat (first | refine blk_drewN ?_ _ | refine blk_drew ?_ | refine blk_alloc ?_ _)); exact BK200.out) hb); have n1_ := Aside0.mk (below_step (by repeat (first | (with_reducible first | exact HB.out | apply below_alloc | apply pw_below_drewN | apply below_drew1 | refine below_set ?_ GE200.out) | exact HB.out)) hb); clear BK200; clear HB; have BK200 := n0_; have HB := n1_; clear n0_ n1_; (try clear hb); (try clear hb2); (try clear hk); (try clear hi)))
    (try simp only [Act.put, List.setIfInBounds_toArray, List.set_cons_zero, List.set_cons_succ])
    go_cut [35] (fun v35 wc => ∃ (kq : Nat) (x35_5 : Bool), v35 = .bool x35_5 ∧ Aside0 (arbiterlaw02_TypesWrite.j0 kq x35_5 a0_0 a0_1 = some r) ∧ Aside0 (kq ≤ k) ∧ Aside0 (wc.heap[gb200]? = some (.cells #[.int .i64 a0_0, .string a0_1] 37 (0, 0))) ∧ Aside0 (Below w.heap.size w wc))
    case first =>
      have H := HC6.out
      clear HC6
      by_cases c13 : t202.toList = t204.toList
      · rw [if_pos c13] at H
        have c13b0 : (t202.toList == t204.toList) = true := beq_iff_eq.mpr c13
        have c13b1 : (t202.toList != t204.toList) = false := bne_eq_false_iff_eq.mpr c13
        clear c13
        (first | rw [c13b0] | (simp only [i64_w, i32_w]; rw [c13b0]) | skip)
        by_cases c14 : t203 = t205
        · rw [if_pos c14] at H
          have c14b0 : (t203 == t205) = true := beq_iff_eq.mpr c14
          have c14b1 : (t203 != t205) = false := bne_eq_false_iff_eq.mpr c14
          clear c14
          replace H := Option.bind_eq_some_iff.mp H
          obtain ⟨t206, A150, H⟩ := H
          replace H : ((arbiterref02_Check.f a0_0 a0_1).bind fun t207 => (arbiterlaw02_TypesWrite.j0 k (t206 != t207) a0_0 a0_1)) = some r := H
          have A15 := Aside0.mk A150
          clear A150
          replace H := Option.bind_eq_some_iff.mp H
          obtain ⟨t207, A160, H⟩ := H
          replace H : (arbiterlaw02_TypesWrite.j0 k (t206 != t207) a0_0 a0_1) = some r := H
          have A16 := Aside0.mk A160
          clear A160
          have H' := Aside0.mk H
          clear H
          try go_wp2
          have n0_ := Aside0.mk (blk_drew BK200.out)
          have n1_ := Aside0.mk (below_drew1 HB.out)
          clear BK200
          clear HB
          have BK200 := n0_
          have HB := n1_
          clear n0_ n1_
          refine start_ (n := 15) (S := fun w' => w'.cell? ⟨gb200, 0, none⟩ = some (.int .i64 a0_0) ∧ w'.cell? ⟨gb200, 1, none⟩ = some (.string a0_1)) (ds := []) #[false, false, false, false, false, false, false, false, false, false, false, false, false, false, false] (by kernel_rfl) rfl rfl ⟨(blk_cell BK200.out 0).trans rfl, (blk_cell BK200.out 1).trans rfl⟩ (fun hHeld => ?_); refine with_tabW arbiterlaw02_TypesWrite.tab5 arbiterlaw02_TypesWrite.bits5 (fun HT_ HW_ => ?_)
          generalize w12.drew = w17 at BK200 HB hHeld ⊢
          refine pure_ (i := 0) (N := some 21) (v := ?_) (a' := ?_) #[true, false, false, false, false, false, false, false, false, false, false, false, false, false, false] rfl rfl (any_of HT_.out (by kernel_rfl)) (fun _ _ _ h => h) (Or.inl ⟨by rfl, ?_⟩) ?_ ?_
          rotate_left
          · intro w'
            go_simp
            with_reducible rfl
          rotate_left
          · simp only [Act.put, List.setIfInBounds_toArray, List.set_cons_zero, List.set_cons_succ, i64_w, i32_w]
            rfl
          refine pure_ (i := 1) (N := some 22) (v := ?_) (a' := ?_) #[true, true, false, false, false, false, false, false, false, false, false, false, false, false, false] rfl rfl (any_of HT_.out (by kernel_rfl)) (fun _ _ _ h => h) (Or.inl ⟨by rfl, ?_⟩) ?_ ?_
          rotate_left
          · intro w'
            go_simp
            with_reducible rfl
          rotate_left
          · simp only [Act.put, List.setIfInBounds_toArray, List.set_cons_zero, List.set_cons_succ, i64_w, i32_w]
            rfl
          refine pure_ (i := 2) (N := some 23) (v := ?_) (a' := ?_) #[true, true, true, false, false, false, false, false, false, false, false, false, false, false, false] rfl rfl (any_of HT_.out (by kernel_rfl)) (fun _ _ _ h => h) (Or.inl ⟨by rfl, ?_⟩) ?_ ?_
          rotate_left
          · intro w'
            go_simp
            with_reducible rfl
          rotate_left
          · simp only [Act.put, List.setIfInBounds_toArray, List.set_cons_zero, List.set_cons_succ, i64_w, i32_w]
            rfl
          refine pure_ (i := 3) (N := some 24) (v := ?_) (a' := ?_) #[true, true, true, true, false, false, false, false, false, false, false, false, false, false, false] rfl rfl (any_of HT_.out (by kernel_rfl)) (fun _ _ _ h => h) (Or.inl ⟨by rfl, ?_⟩) ?_ ?_
          rotate_left
          · intro w'
            go_simp
            with_reducible rfl
          rotate_left
          · simp only [Act.put, List.setIfInBounds_toArray, List.set_cons_zero, List.set_cons_succ, i64_w, i32_w]
            rfl
          refine pure_ (i := 4) (N := some 25) (v := ?_) (a' := ?_) #[true, true, true, true, true, false, false, false, false, false, false, false, false, false, false] rfl rfl (any_of HT_.out (by kernel_rfl)) (fun _ _ _ h => h) (Or.inl ⟨by rfl, ?_⟩) ?_ ?_
          rotate_left
          · intro w'
            go_simp
            with_reducible rfl
          rotate_left
          · simp only [Act.put, List.setIfInBounds_toArray, List.set_cons_zero, List.set_cons_succ, i64_w, i32_w]
            rfl
          refine pure_ (i := 5) (N := some 26) (v := ?_) (a' := ?_) #[true, true, true, true, true, true, false, false, false, false, false, false, false, false, false] rfl rfl (any_of HT_.out (by kernel_rfl)) (fun _ _ _ h => h) (Or.inl ⟨by rfl, ?_⟩) ?_ ?_
          rotate_left
          · intro w'
            go_simp
            with_reducible rfl
          rotate_left
          · simp only [Act.put, List.setIfInBounds_toArray, List.set_cons_zero, List.set_cons_succ, i64_w, i32_w]
            rfl
          refine pure_ (i := 6) (N := some 27) (v := ?_) (a' := ?_) #[true, true, true, true, true, true, true, false, false, false, false, false, false, false, false] rfl rfl (any_of HT_.out (by kernel_rfl)) (fun _ _ _ h => h) (Or.inl ⟨by rfl, ?_⟩) ?_ ?_
          rotate_left
          · intro w'
            go_simp
            with_reducible rfl
          rotate_left
          · simp only [Act.put, List.setIfInBounds_toArray, List.set_cons_zero, List.set_cons_succ, i64_w, i32_w]
            rfl
          refine pure_ (i := 7) (N := some 28) (v := ?_) (a' := ?_) #[true, true, true, true, true, true, true, true, false, false, false, false, false, false, false] rfl rfl (any_of HT_.out (by kernel_rfl)) (fun _ _ _ h => h) (Or.inl ⟨by rfl, ?_⟩) ?_ ?_
          rotate_left
          · intro w'
            go_simp
            with_reducible rfl
          rotate_left
          · simp only [Act.put, List.setIfInBounds_toArray, List.set_cons_zero, List.set_cons_succ, i64_w, i32_w]
            rfl
          refine pure_ (i := 8) (N := some 29) (v := ?_) (a' := ?_) #[true, true, true, true, true, true, true, true, true, false, false, false, false, false, false] rfl rfl (any_of HT_.out (by kernel_rfl)) (fun _ _ _ h => h) (Or.inl ⟨by rfl, ?_⟩) ?_ ?_
          rotate_left
          · intro w'
            go_simp
            with_reducible rfl
          rotate_left
          · simp only [Act.put, List.setIfInBounds_toArray, List.set_cons_zero, List.set_cons_succ, i64_w, i32_w]
            rfl
          refine take_ (i := 9) (N := some 30) (v := ?_) (a' := ?_) #[true, true, true, true, true, true, true, true, true, true, false, false, false, false, false] rfl rfl (take_ofW HT_.out HW_.out (by kernel_rfl)) (fun _ _ _ h => h) (Or.inl ⟨by rfl, ?_⟩) hHeld ?_ ?_
          rotate_left
          · rintro w' ⟨s0, s1⟩
            go_simp
            with_reducible rfl
          rotate_left
          · simp only [Act.put, List.setIfInBounds_toArray, List.set_cons_zero, List.set_cons_succ, i64_w, i32_w]
            rfl
          refine take_ (i := 11) (N := some 32) (v := ?_) (a' := ?_) #[true, true, true, true, true, true, true, true, true, true, false, true, false, false, false] rfl rfl (take_ofW HT_.out HW_.out (by kernel_rfl)) (fun _ _ _ h => h) (Or.inl ⟨by rfl, ?_⟩) hHeld ?_ ?_
          rotate_left
          · rintro w' ⟨s0, s1⟩
            go_simp
            with_reducible rfl
          rotate_left
          · simp only [Act.put, List.setIfInBounds_toArray, List.set_cons_zero, List.set_cons_succ, i64_w, i32_w]
            rfl
          refine one_ (i := 10) (N := some 31) #[true, true, true, true, true, true, true, true, true, true, true, true, false, false, false] rfl rfl (one_of HT_.out (by kernel_rfl)) (by decide) (fun K hK => ?_)
          refine goes_ Tryd.func43 (by kernel_rfl) rfl #[.agg #[.int .i64 a0_0, .string a0_1]] (by rfl) rfl rfl (by (try simp only [List.map_toArray, List.map_cons, List.map_nil]); first | done | rfl | (simp only [List.length_drop, List.length_take]; rfl)) ?_
          with_reducible refine (types_Check.calls a0_0 a0_1 t206 _ A15.out).mono ?_
          rintro e w18 ⟨rfl, hb⟩
          refine ⟨_, rfl, ?_⟩
          have n0_ := Aside0.mk (blk_below (g := gb200) (o := .cells #[.int .i64 a0_0, .string a0_1] 37 (0, 0)) (by (with_reducible repeat (first | refine blk_drewN ?_ _ | refine blk_drew ?_ | refine blk_alloc ?_ _)); exact BK200.out) hb)
          have n1_ := Aside0.mk (below_step (by repeat (first | (with_reducible first | exact HB.out | apply below_alloc | apply pw_below_drewN | apply below_drew1 | refine below_set ?_ GE200.out) | exact HB.out)) hb)
          clear BK200
          clear HB
          have BK200 := n0_
          have HB := n1_
          clear n0_ n1_
          (try clear hb)
          (try clear hb2)
          (try clear hk)
          (try clear hi)
          refine hK.out _ _ ⟨(blk_cell BK200.out 0).trans rfl, (blk_cell BK200.out 1).trans rfl⟩ (fun hHeld => ?_)
          clear hK K
          refine norm_ (a' := ?_) ?_ ?_
          rotate_left
          · show Act.put _ (some 31) _ = _
            simp only [Act.put, List.setIfInBounds_toArray, List.set_cons_zero, List.set_cons_succ, i64_w, i32_w]
            rfl
          refine one_ (i := 12) (N := some 33) #[true, true, true, true, true, true, true, true, true, true, true, true, true, false, false] rfl rfl (one_of HT_.out (by kernel_rfl)) (by decide) (fun K hK => ?_)
          refine goes_ Tryd.func44 (by kernel_rfl) rfl #[.agg #[.int .i64 a0_0, .string a0_1]] (by rfl) rfl rfl (by (try simp only [List.map_toArray, List.map_cons, List.map_nil]); first | done | rfl | (simp only [List.length_drop, List.length_take]; rfl)) ?_
          with_reducible refine (arbiterref02_Check.calls a0_0 a0_1 t207 _ A16.out).mono ?_
          rintro e w19 ⟨rfl, hb⟩
          refine ⟨_, rfl, ?_⟩
          have n0_ := Aside0.mk (blk_below (g := gb200) (o := .cells #[.int .i64 a0_0, .string a0_1] 37 (0, 0)) (by (with_reducible repeat (first | refine blk_drewN ?_ _ | refine blk_drew ?_ | refine blk_alloc ?_ _)); exact BK200.out) hb)
          have n1_ := Aside0.mk (below_step (by repeat (first | (with_reducible first | exact HB.out | apply below_alloc | apply pw_below_drewN | apply below_drew1 | refine below_set ?_ GE200.out) | exact HB.out)) hb)
          clear BK200
          clear HB
          have BK200 := n0_
          have HB := n1_
          clear n0_ n1_
          (try clear hb)
          (try clear hb2)
          (try clear hk)
          (try clear hi)
          refine hK.out _ _ ⟨(blk_cell BK200.out 0).trans rfl, (blk_cell BK200.out 1).trans rfl⟩ (fun hHeld => ?_)
          clear hK K
          refine norm_ (a' := ?_) ?_ ?_
          rotate_left
          · show Act.put _ (some 33) _ = _
            simp only [Act.put, List.setIfInBounds_toArray, List.set_cons_zero, List.set_cons_succ, i64_w, i32_w]
            rfl
          refine pure_ (i := 13) (N := some 34) (v := ?_) (a' := ?_) #[true, true, true, true, true, true, true, true, true, true, true, true, true, true, false] rfl rfl (any_of HT_.out (by kernel_rfl)) (fun _ _ _ h => h) (Or.inl ⟨by rfl, ?_⟩) ?_ ?_
          rotate_left
          · intro w'
            go_simp
            with_reducible rfl
          rotate_left
          · simp only [Act.put, List.setIfInBounds_toArray, List.set_cons_zero, List.set_cons_succ, i64_w, i32_w]
            rfl
          refine pure_ (i := 14) (N := some 35) (v := ?_) (a' := ?_) #[true, true, true, true, true, true, true, true, true, true, true, true, true, true, true] rfl rfl (any_of HT_.out (by kernel_rfl)) (fun _ _ _ h => h) (Or.inl ⟨by rfl, ?_⟩) ?_ ?_
          rotate_left
          · intro w'
            go_simp
            with_reducible rfl
          rotate_left
          · simp only [Act.put, List.setIfInBounds_toArray, List.set_cons_zero, List.set_cons_succ, i64_w, i32_w]
            rfl
          refine done_ (done_of HT_.out (by kernel_rfl)) ?_
          try go_wp2
          go_meet
          case rel => exact ⟨_, ((t206 != t207)), (by first | rfl | (simp; done) | (simp [*]; done)), H', ⟨by first | omega | exact Nat.le_refl _⟩, ⟨by (with_reducible repeat (first | refine blk_drewN ?_ _ | refine blk_drew ?_ | refine blk_alloc ?_ _)); exact BK200.out⟩, ⟨by repeat (first | (with_reducible first | exact HB.out | apply below_alloc | apply pw_below_drewN | apply below_drew1 | refine below_set ?_ GE200.out) | exact HB.out)⟩⟩
        · rw [if_neg c14] at H
          have c14b0 : (t203 == t205) = false := beq_eq_false_iff_ne.mpr c14
          have c14b1 : (t203 != t205) = true := bne_iff_ne.mpr c14
          have H' := Aside0.mk H
          clear H
          try go_wp2
          have n0_ := Aside0.mk (blk_drew BK200.out)
          have n1_ := Aside0.mk (below_drew1 HB.out)
          clear BK200
          clear HB
          have BK200 := n0_
          have HB := n1_
          clear n0_ n1_
          refine start_ (n := 15) (S := fun w' => True) (ds := []) #[false, false, false, false, false, false, false, false, false, false, false, false, false, false, false] (by kernel_rfl) rfl rfl trivial (fun hHeld => ?_); refine with_tabW arbiterlaw02_TypesWrite.tab5 arbiterlaw02_TypesWrite.bits5 (fun HT_ HW_ => ?_)
          generalize w12.drew = w20 at BK200 HB hHeld ⊢
          refine pure_ (i := 0) (N := some 21) (v := ?_) (a' := ?_) #[true, false, false, false, false, false, false, false, false, false, false, false, false, false, false] rfl rfl (any_of HT_.out (by kernel_rfl)) (fun _ _ _ h => h) (Or.inl ⟨by rfl, ?_⟩) ?_ ?_
          rotate_left
          · intro w'
            go_simp
            with_reducible rfl
          rotate_left
          · simp only [Act.put, List.setIfInBounds_toArray, List.set_cons_zero, List.set_cons_succ, i64_w, i32_w]
            rfl
          refine pure_ (i := 1) (N := some 22) (v := ?_) (a' := ?_) #[true, true, false, false, false, false, false, false, false, false, false, false, false, false, false] rfl rfl (any_of HT_.out (by kernel_rfl)) (fun _ _ _ h => h) (Or.inl ⟨by rfl, ?_⟩) ?_ ?_
          rotate_left
          · intro w'
            go_simp
            with_reducible rfl
          rotate_left
          · simp only [Act.put, List.setIfInBounds_toArray, List.set_cons_zero, List.set_cons_succ, i64_w, i32_w]
            rfl
          refine pure_ (i := 2) (N := some 23) (v := ?_) (a' := ?_) #[true, true, true, false, false, false, false, false, false, false, false, false, false, false, false] rfl rfl (any_of HT_.out (by kernel_rfl)) (fun _ _ _ h => h) (Or.inl ⟨by rfl, ?_⟩) ?_ ?_
          rotate_left
          · intro w'
            go_simp
            with_reducible rfl
          rotate_left
          · simp only [Act.put, List.setIfInBounds_toArray, List.set_cons_zero, List.set_cons_succ, i64_w, i32_w]
            rfl
          refine pure_ (i := 3) (N := some 24) (v := ?_) (a' := ?_) #[true, true, true, true, false, false, false, false, false, false, false, false, false, false, false] rfl rfl (any_of HT_.out (by kernel_rfl)) (fun _ _ _ h => h) (Or.inl ⟨by rfl, ?_⟩) ?_ ?_
          rotate_left
          · intro w'
            go_simp
            with_reducible rfl
          rotate_left
          · simp only [Act.put, List.setIfInBounds_toArray, List.set_cons_zero, List.set_cons_succ, i64_w, i32_w]
            rfl
          refine pure_ (i := 4) (N := some 25) (v := ?_) (a' := ?_) #[true, true, true, true, true, false, false, false, false, false, false, false, false, false, false] rfl rfl (any_of HT_.out (by kernel_rfl)) (fun _ _ _ h => h) (Or.inl ⟨by rfl, ?_⟩) ?_ ?_
          rotate_left
          · intro w'
            go_simp
            with_reducible rfl
          rotate_left
          · simp only [Act.put, List.setIfInBounds_toArray, List.set_cons_zero, List.set_cons_succ, i64_w, i32_w]
            rfl
          refine pure_ (i := 5) (N := some 26) (v := ?_) (a' := ?_) #[true, true, true, true, true, true, false, false, false, false, false, false, false, false, false] rfl rfl (any_of HT_.out (by kernel_rfl)) (fun _ _ _ h => h) (Or.inl ⟨by rfl, ?_⟩) ?_ ?_
          rotate_left
          · intro w'
            go_simp
            with_reducible rfl
          rotate_left
          · simp only [Act.put, List.setIfInBounds_toArray, List.set_cons_zero, List.set_cons_succ, i64_w, i32_w]
            rfl
          refine pure_ (i := 6) (N := some 27) (v := ?_) (a' := ?_) #[true, true, true, true, true, true, true, false, false, false, false, false, false, false, false] rfl rfl (any_of HT_.out (by kernel_rfl)) (fun _ _ _ h => h) (Or.inl ⟨by rfl, ?_⟩) ?_ ?_
          rotate_left
          · intro w'
            go_simp
            with_reducible rfl
          rotate_left
          · simp only [Act.put, List.setIfInBounds_toArray, List.set_cons_zero, List.set_cons_succ, i64_w, i32_w]
            rfl
          refine pure_ (i := 7) (N := some 28) (v := ?_) (a' := ?_) #[true, true, true, true, true, true, true, true, false, false, false, false, false, false, false] rfl rfl (any_of HT_.out (by kernel_rfl)) (fun _ _ _ h => h) (Or.inl ⟨by rfl, ?_⟩) ?_ ?_
          rotate_left
          · intro w'
            go_simp
            with_reducible rfl
          rotate_left
          · simp only [Act.put, List.setIfInBounds_toArray, List.set_cons_zero, List.set_cons_succ, i64_w, i32_w]
            rfl
          refine pure_ (i := 8) (N := some 29) (v := ?_) (a' := ?_) #[true, true, true, true, true, true, true, true, true, false, false, false, false, false, false] rfl rfl (any_of HT_.out (by kernel_rfl)) (fun _ _ _ h => h) (Or.inl ⟨by rfl, ?_⟩) ?_ ?_
          rotate_left
          · intro w'
            go_simp
            with_reducible rfl
          rotate_left
          · simp only [Act.put, List.setIfInBounds_toArray, List.set_cons_zero, List.set_cons_succ, i64_w, i32_w]
            rfl
          refine pure_ (i := 9) (N := some 30) (v := undef) (a' := ?_) #[true, true, true, true, true, true, true, true, true, true, false, false, false, false, false] rfl rfl (any_of HT_.out (by kernel_rfl)) (fun _ _ _ h => h) (Or.inr ⟨by rfl, rfl⟩) ?_ ?_
          rotate_left
          · simp only [Act.put, List.setIfInBounds_toArray, List.set_cons_zero, List.set_cons_succ, i64_w, i32_w]
            rfl
          refine pure_ (i := 10) (N := some 31) (v := undef) (a' := ?_) #[true, true, true, true, true, true, true, true, true, true, true, false, false, false, false] rfl rfl (any_of HT_.out (by kernel_rfl)) (fun _ _ _ h => h) (Or.inr ⟨by rfl, rfl⟩) ?_ ?_
          rotate_left
          · simp only [Act.put, List.setIfInBounds_toArray, List.set_cons_zero, List.set_cons_succ, i64_w, i32_w]
            rfl
          refine pure_ (i := 11) (N := some 32) (v := undef) (a' := ?_) #[true, true, true, true, true, true, true, true, true, true, true, true, false, false, false] rfl rfl (any_of HT_.out (by kernel_rfl)) (fun _ _ _ h => h) (Or.inr ⟨by rfl, rfl⟩) ?_ ?_
          rotate_left
          · simp only [Act.put, List.setIfInBounds_toArray, List.set_cons_zero, List.set_cons_succ, i64_w, i32_w]
            rfl
          refine pure_ (i := 12) (N := some 33) (v := undef) (a' := ?_) #[true, true, true, true, true, true, true, true, true, true, true, true, true, false, false] rfl rfl (any_of HT_.out (by kernel_rfl)) (fun _ _ _ h => h) (Or.inr ⟨by rfl, rfl⟩) ?_ ?_
          rotate_left
          · simp only [Act.put, List.setIfInBounds_toArray, List.set_cons_zero, List.set_cons_succ, i64_w, i32_w]
            rfl
          refine pure_ (i := 13) (N := some 34) (v := undef) (a' := ?_) #[true, true, true, true, true, true, true, true, true, true, true, true, true, true, false] rfl rfl (any_of HT_.out (by kernel_rfl)) (fun _ _ _ h => h) (Or.inr ⟨by rfl, rfl⟩) ?_ ?_
          rotate_left
          · simp only [Act.put, List.setIfInBounds_toArray, List.set_cons_zero, List.set_cons_succ, i64_w, i32_w]
            rfl
          refine pure_ (i := 14) (N := some 35) (v := ?_) (a' := ?_) #[true, true, true, true, true, true, true, true, true, true, true, true, true, true, true] rfl rfl (any_of HT_.out (by kernel_rfl)) (fun _ _ _ h => h) (Or.inl ⟨by rfl, ?_⟩) ?_ ?_
          rotate_left
          · intro w'
            go_simp
            with_reducible rfl
          rotate_left
          · simp only [Act.put, List.setIfInBounds_toArray, List.set_cons_zero, List.set_cons_succ, i64_w, i32_w]
            rfl
          refine done_ (done_of HT_.out (by kernel_rfl)) ?_
          try go_wp2
          go_meet
          case rel => exact ⟨_, (true), (by first | rfl | (simp; done) | (simp [*]; done)), H', ⟨by first | omega | exact Nat.le_refl _⟩, ⟨by (with_reducible repeat (first | refine blk_drewN ?_ _ | refine blk_drew ?_ | refine blk_alloc ?_ _)); exact BK200.out⟩, ⟨by repeat (first | (with_reducible first | exact HB.out | apply below_alloc | apply pw_below_drewN | apply below_drew1 | refine below_set ?_ GE200.out) | exact HB.out)⟩⟩
      · rw [if_neg c13] at H
        have c13b0 : (t202.toList == t204.toList) = false := beq_eq_false_iff_ne.mpr c13
        have c13b1 : (t202.toList != t204.toList) = true := bne_iff_ne.mpr c13
        (first | rw [c13b0] | (simp only [i64_w, i32_w]; rw [c13b0]) | skip)
        have H' := Aside0.mk H
        clear H
        try go_wp2
        have n0_ := Aside0.mk (blk_drew BK200.out)
        have n1_ := Aside0.mk (below_drew1 HB.out)
        clear BK200
        clear HB
        have BK200 := n0_
        have HB := n1_
        clear n0_ n1_
        refine start_ (n := 15) (S := fun w' => True) (ds := []) #[false, false, false, false, false, false, false, false, false, false, false, false, false, false, false] (by kernel_rfl) rfl rfl trivial (fun hHeld => ?_); refine with_tabW arbiterlaw02_TypesWrite.tab5 arbiterlaw02_TypesWrite.bits5 (fun HT_ HW_ => ?_)
        generalize w12.drew = w21 at BK200 HB hHeld ⊢
        refine pure_ (i := 0) (N := some 21) (v := ?_) (a' := ?_) #[true, false, false, false, false, false, false, false, false, false, false, false, false, false, false] rfl rfl (any_of HT_.out (by kernel_rfl)) (fun _ _ _ h => h) (Or.inl ⟨by rfl, ?_⟩) ?_ ?_
        rotate_left
        · intro w'
          go_simp
          with_reducible rfl
        rotate_left
        · simp only [Act.put, List.setIfInBounds_toArray, List.set_cons_zero, List.set_cons_succ, i64_w, i32_w]
          rfl
        refine pure_ (i := 1) (N := some 22) (v := ?_) (a' := ?_) #[true, true, false, false, false, false, false, false, false, false, false, false, false, false, false] rfl rfl (any_of HT_.out (by kernel_rfl)) (fun _ _ _ h => h) (Or.inl ⟨by rfl, ?_⟩) ?_ ?_
        rotate_left
        · intro w'
          go_simp
          with_reducible rfl
        rotate_left
        · simp only [Act.put, List.setIfInBounds_toArray, List.set_cons_zero, List.set_cons_succ, i64_w, i32_w]
          rfl
        refine pure_ (i := 2) (N := some 23) (v := ?_) (a' := ?_) #[true, true, true, false, false, false, false, false, false, false, false, false, false, false, false] rfl rfl (any_of HT_.out (by kernel_rfl)) (fun _ _ _ h => h) (Or.inl ⟨by rfl, ?_⟩) ?_ ?_
        rotate_left
        · intro w'
          go_simp
          with_reducible rfl
        rotate_left
        · simp only [Act.put, List.setIfInBounds_toArray, List.set_cons_zero, List.set_cons_succ, i64_w, i32_w]
          rfl
        refine pure_ (i := 3) (N := some 24) (v := ?_) (a' := ?_) #[true, true, true, true, false, false, false, false, false, false, false, false, false, false, false] rfl rfl (any_of HT_.out (by kernel_rfl)) (fun _ _ _ h => h) (Or.inl ⟨by rfl, ?_⟩) ?_ ?_
        rotate_left
        · intro w'
          go_simp
          with_reducible rfl
        rotate_left
        · simp only [Act.put, List.setIfInBounds_toArray, List.set_cons_zero, List.set_cons_succ, i64_w, i32_w]
          rfl
        refine pure_ (i := 4) (N := some 25) (v := undef) (a' := ?_) #[true, true, true, true, true, false, false, false, false, false, false, false, false, false, false] rfl rfl (any_of HT_.out (by kernel_rfl)) (fun _ _ _ h => h) (Or.inr ⟨by rfl, rfl⟩) ?_ ?_
        rotate_left
        · simp only [Act.put, List.setIfInBounds_toArray, List.set_cons_zero, List.set_cons_succ, i64_w, i32_w]
          rfl
        refine pure_ (i := 5) (N := some 26) (v := undef) (a' := ?_) #[true, true, true, true, true, true, false, false, false, false, false, false, false, false, false] rfl rfl (any_of HT_.out (by kernel_rfl)) (fun _ _ _ h => h) (Or.inr ⟨by rfl, rfl⟩) ?_ ?_
        rotate_left
        · simp only [Act.put, List.setIfInBounds_toArray, List.set_cons_zero, List.set_cons_succ, i64_w, i32_w]
          rfl
        refine pure_ (i := 6) (N := some 27) (v := undef) (a' := ?_) #[true, true, true, true, true, true, true, false, false, false, false, false, false, false, false] rfl rfl (any_of HT_.out (by kernel_rfl)) (fun _ _ _ h => h) (Or.inr ⟨by rfl, rfl⟩) ?_ ?_
        rotate_left
        · simp only [Act.put, List.setIfInBounds_toArray, List.set_cons_zero, List.set_cons_succ, i64_w, i32_w]
          rfl
        refine pure_ (i := 7) (N := some 28) (v := ?_) (a' := ?_) #[true, true, true, true, true, true, true, true, false, false, false, false, false, false, false] rfl rfl (any_of HT_.out (by kernel_rfl)) (fun _ _ _ h => h) (Or.inl ⟨by rfl, ?_⟩) ?_ ?_
        rotate_left
        · intro w'
          go_simp
          with_reducible rfl
        rotate_left
        · simp only [Act.put, List.setIfInBounds_toArray, List.set_cons_zero, List.set_cons_succ, i64_w, i32_w]
          rfl
        refine pure_ (i := 8) (N := some 29) (v := ?_) (a' := ?_) #[true, true, true, true, true, true, true, true, true, false, false, false, false, false, false] rfl rfl (any_of HT_.out (by kernel_rfl)) (fun _ _ _ h => h) (Or.inl ⟨by rfl, ?_⟩) ?_ ?_
        rotate_left
        · intro w'
          go_simp
          with_reducible rfl
        rotate_left
        · simp only [Act.put, List.setIfInBounds_toArray, List.set_cons_zero, List.set_cons_succ, i64_w, i32_w]
          rfl
        refine pure_ (i := 9) (N := some 30) (v := undef) (a' := ?_) #[true, true, true, true, true, true, true, true, true, true, false, false, false, false, false] rfl rfl (any_of HT_.out (by kernel_rfl)) (fun _ _ _ h => h) (Or.inr ⟨by rfl, rfl⟩) ?_ ?_
        rotate_left
        · simp only [Act.put, List.setIfInBounds_toArray, List.set_cons_zero, List.set_cons_succ, i64_w, i32_w]
          rfl
        refine pure_ (i := 10) (N := some 31) (v := undef) (a' := ?_) #[true, true, true, true, true, true, true, true, true, true, true, false, false, false, false] rfl rfl (any_of HT_.out (by kernel_rfl)) (fun _ _ _ h => h) (Or.inr ⟨by rfl, rfl⟩) ?_ ?_
        rotate_left
        · simp only [Act.put, List.setIfInBounds_toArray, List.set_cons_zero, List.set_cons_succ, i64_w, i32_w]
          rfl
        refine pure_ (i := 11) (N := some 32) (v := undef) (a' := ?_) #[true, true, true, true, true, true, true, true, true, true, true, true, false, false, false] rfl rfl (any_of HT_.out (by kernel_rfl)) (fun _ _ _ h => h) (Or.inr ⟨by rfl, rfl⟩) ?_ ?_
        rotate_left
        · simp only [Act.put, List.setIfInBounds_toArray, List.set_cons_zero, List.set_cons_succ, i64_w, i32_w]
          rfl
        refine pure_ (i := 12) (N := some 33) (v := undef) (a' := ?_) #[true, true, true, true, true, true, true, true, true, true, true, true, true, false, false] rfl rfl (any_of HT_.out (by kernel_rfl)) (fun _ _ _ h => h) (Or.inr ⟨by rfl, rfl⟩) ?_ ?_
        rotate_left
        · simp only [Act.put, List.setIfInBounds_toArray, List.set_cons_zero, List.set_cons_succ, i64_w, i32_w]
          rfl
        refine pure_ (i := 13) (N := some 34) (v := undef) (a' := ?_) #[true, true, true, true, true, true, true, true, true, true, true, true, true, true, false] rfl rfl (any_of HT_.out (by kernel_rfl)) (fun _ _ _ h => h) (Or.inr ⟨by rfl, rfl⟩) ?_ ?_
        rotate_left
        · simp only [Act.put, List.setIfInBounds_toArray, List.set_cons_zero, List.set_cons_succ, i64_w, i32_w]
          rfl
        refine pure_ (i := 14) (N := some 35) (v := ?_) (a' := ?_) #[true, true, true, true, true, true, true, true, true, true, true, true, true, true, true] rfl rfl (any_of HT_.out (by kernel_rfl)) (fun _ _ _ h => h) (Or.inl ⟨by rfl, ?_⟩) ?_ ?_
        rotate_left
        · intro w'
          go_simp
          with_reducible rfl
        rotate_left
        · simp only [Act.put, List.setIfInBounds_toArray, List.set_cons_zero, List.set_cons_succ, i64_w, i32_w]
          rfl
        refine done_ (done_of HT_.out (by kernel_rfl)) ?_
        try go_wp2
        go_meet
        case rel => exact ⟨_, (true), (by first | rfl | (simp; done) | (simp [*]; done)), H', ⟨by first | omega | exact Nat.le_refl _⟩, ⟨by (with_reducible repeat (first | refine blk_drewN ?_ _ | refine blk_drew ?_ | refine blk_alloc ?_ _)); exact BK200.out⟩, ⟨by repeat (first | (with_reducible first | exact HB.out | apply below_alloc | apply pw_below_drewN | apply below_drew1 | refine below_set ?_ GE200.out) | exact HB.out)⟩⟩
    case rest =>
      clear HC6
      try clear c1
      try clear c2
      try clear p2
      try clear c3
      try clear c4
      try clear c9
      try clear c13
      try clear c13b0
      try clear c13b1
      try clear c14
      try clear c14b0
      try clear c14b1
      try clear hcz11_0
      try clear hcz11_1
      try clear hcz9_0
      try clear hcz9_1
      try clear hfz11_0
      try clear hfz11_1
      try clear hfz9_0
      try clear hfz9_1
      obtain ⟨kq, x35_5, rfl, HA, HJ5, BK200, HB⟩ := hcut
      cases kq with
      | zero => exact absurd HA.out (by simp [arbiterlaw02_TypesWrite.j0])
      | succ kj5 =>
        have H := HA.out
        clear HA
        simp only [arbiterlaw02_TypesWrite.j0] at H
        by_cases c22 : x35_5 = true
        · subst c22
          have H1 : (some false) = some r := by rw [if_pos rfl] at H; exact H
          clear H
          have H := H1
          clear H1
          obtain rfl := Option.some.inj H
          go_wp2
          go_ret
          exact ⟨by first | rfl | (simp [errW_none, errW_some] <;> rfl) | (simp [*, errW_none, errW_some] <;> rfl), by repeat (first | (with_reducible first | exact HB.out | apply below_alloc | apply pw_below_drewN | apply below_drew1 | refine below_set ?_ GE200.out) | exact HB.out)⟩
        · replace c22 := Bool.eq_false_iff.mpr c22
          subst c22
          have H1 : ((types_RefText.f a0_0 a0_1).bind fun bt208 => ((arbiterref02_RefText.f kj5 a0_0 a0_1).bind fun bt210 => (if bt208.1.toList = bt210.1.toList then (arbiterlaw02_TypesWrite.j1 kj5 (bt208.2 != bt210.2) a0_0 a0_1) else (arbiterlaw02_TypesWrite.j1 kj5 true a0_0 a0_1)))) = some r := by rw [if_neg (show ¬ (false = true) by decide)] at H; exact H
          clear H
          have H := H1
          clear H1
          replace H := Option.bind_eq_some_iff.mp H
          obtain ⟨⟨t208, t209⟩, A230, H⟩ := H
          replace H : ((arbiterref02_RefText.f kj5 a0_0 a0_1).bind fun bt210 => (if t208.toList = bt210.1.toList then (arbiterlaw02_TypesWrite.j1 kj5 (t209 != bt210.2) a0_0 a0_1) else (arbiterlaw02_TypesWrite.j1 kj5 true a0_0 a0_1))) = some r := H
          have A23 := Aside0.mk A230
          clear A230
          replace H := Option.bind_eq_some_iff.mp H
          obtain ⟨⟨t210, t211⟩, A240, H⟩ := H
          replace H : (if t208.toList = t210.toList then (arbiterlaw02_TypesWrite.j1 kj5 (t209 != t211) a0_0 a0_1) else (arbiterlaw02_TypesWrite.j1 kj5 true a0_0 a0_1)) = some r := H
          have A24 := Aside0.mk A240
          clear A240
          have HC25 := Aside0.mk H
          clear H
          have hcz26_0 : wc.cell? ⟨gb200, 0, none⟩ = some (.int .i64 a0_0) := (blk_cell BK200.out 0).trans rfl
          have hcz26_1 : wc.cell? ⟨gb200, 1, none⟩ = some (.string a0_1) := (blk_cell BK200.out 1).trans rfl
          have hfz26_0 := blk_frozen BK200.out 0
          have hfz26_1 := blk_frozen BK200.out 1
          go_upto_region 9 with (first | ((with_reducible refine gate_callee (f := 45) rfl ?_); refine goesL_ (some 38) rfl rfl Tryd.func45 (by kernel_rfl) rfl #[.agg #[.int .i64 a0_0, .string a0_1]] rfl (by (try simp only [List.map_toArray, List.map_cons, List.map_nil]); first | done | rfl | (simp only [List.length_drop, List.length_take]; rfl)) ?_; (with_reducible refine (types_RefText.calls a0_0 a0_1 t208 t209 _ A23.out).mono ?_); rintro e w27 ⟨rfl, hb⟩; refine ⟨_, rfl, ?_⟩; have n0_ := Aside0.mk (blk_below (g := gb200) (o := .cells #[.int .i64 a0_0, .string a0_1] 37 (0, 0)) (by (with_reducible repeat (first | refine blk_drewN ?_ _ | refine blk_drew ?_ | refine blk_alloc ?_ _)); exact BK200.out) hb); have n1_ := Aside0.mk (below_step (by repeat (first | (with_reducible first | exact HB.out | apply below_alloc | apply pw_below_drewN | apply below_drew1 | refine below_set ?_ GE200.out) | exact HB.out)) hb); clear BK200; clear HB; have BK200 := n0_; have HB := n1_; clear n0_ n1_; (try clear hb); (try clear hb2); (try clear hk); (try clear hi); have hcz28_0 : w27.cell? ⟨gb200, 0, none⟩ = some (.int .i64 a0_0) := (blk_cell BK200.out 0).trans rfl; have hcz28_1 : w27.cell? ⟨gb200, 1, none⟩ = some (.string a0_1) := (blk_cell BK200.out 1).trans rfl; have hfz28_0 := blk_frozen BK200.out 0; have hfz28_1 := blk_frozen BK200.out 1) | ((with_reducible refine gate_callee (f := 46) rfl ?_); refine goesL_ (some 43) rfl rfl Tryd.func46 (by kernel_rfl) rfl #[.agg #[.int .i64 a0_0, .string a0_1]] rfl (by (try simp only [List.map_toArray, List.map_cons, List.map_nil]); first | done | rfl | (simp only [List.length_drop, List.length_take]; rfl)) ?_; (with_reducible refine (arbiterref02_RefText.calls kj5 a0_0 a0_1 t210 t211 _ A24.out).mono ?_); rintro e w29 ⟨rfl, hb⟩; refine ⟨_, rfl, ?_⟩; have n0_ := Aside0.mk (blk_below (g := gb200) (o := .cells #[.int .i64 a0_0, .string a0_1] 37 (0, 0)) (by (with_reducible repeat (first | refine blk_drewN ?_ _ | refine blk_drew ?_ | refine blk_alloc ?_ _)); exact BK200.out) hb); have n1_ := Aside0.mk (below_step (by repeat (first | (with_reducible first | exact HB.out | apply below_alloc | apply pw_below_drewN | apply below_drew1 | refine below_set ?_ GE200.out) | exact HB.out)) hb); clear BK200; clear HB; have BK200 := n0_; have HB := n1_; clear n0_ n1_; (try clear hb); (try clear hb2); (try clear hk); (try clear hi)))
          (try simp only [Act.put, List.setIfInBounds_toArray, List.set_cons_zero, List.set_cons_succ])
          go_cut [53] (fun v53 wc => ∃ (kq : Nat) (x53_24 : Bool), v53 = .bool x53_24 ∧ Aside0 (arbiterlaw02_TypesWrite.j1 kq x53_24 a0_0 a0_1 = some r) ∧ Aside0 (kq ≤ kj5) ∧ Aside0 (wc.heap[gb200]? = some (.cells #[.int .i64 a0_0, .string a0_1] 37 (0, 0))) ∧ Aside0 (Below w.heap.size w wc))
          case first =>
            have H := HC25.out
            clear HC25
            by_cases c30 : t208.toList = t210.toList
            · rw [if_pos c30] at H
              have c30b0 : (t208.toList == t210.toList) = true := beq_iff_eq.mpr c30
              have c30b1 : (t208.toList != t210.toList) = false := bne_eq_false_iff_eq.mpr c30
              clear c30
              (first | rw [c30b0] | (simp only [i64_w, i32_w]; rw [c30b0]) | skip)
              have H' := Aside0.mk H
              clear H
              go_wp2
              go_meet
              case rel => exact ⟨_, ((t209 != t211)), (by first | rfl | (simp; done) | (simp [*]; done)), H', ⟨by have := HJ5.out; first | omega | exact Nat.le_refl _⟩, ⟨by (with_reducible repeat (first | refine blk_drewN ?_ _ | refine blk_drew ?_ | refine blk_alloc ?_ _)); exact BK200.out⟩, ⟨by repeat (first | (with_reducible first | exact HB.out | apply below_alloc | apply pw_below_drewN | apply below_drew1 | refine below_set ?_ GE200.out) | exact HB.out)⟩⟩
            · rw [if_neg c30] at H
              have c30b0 : (t208.toList == t210.toList) = false := beq_eq_false_iff_ne.mpr c30
              have c30b1 : (t208.toList != t210.toList) = true := bne_iff_ne.mpr c30
              (first | rw [c30b0] | (simp only [i64_w, i32_w]; rw [c30b0]) | skip)
              have H' := Aside0.mk H
              clear H
              go_wp2
              go_meet
              case rel => exact ⟨_, (true), (by first | rfl | (simp; done) | (simp [*]; done)), H', ⟨by have := HJ5.out; first | omega | exact Nat.le_refl _⟩, ⟨by (with_reducible repeat (first | refine blk_drewN ?_ _ | refine blk_drew ?_ | refine blk_alloc ?_ _)); exact BK200.out⟩, ⟨by repeat (first | (with_reducible first | exact HB.out | apply below_alloc | apply pw_below_drewN | apply below_drew1 | refine below_set ?_ GE200.out) | exact HB.out)⟩⟩
          case rest =>
            clear HC25
            try clear c1
            try clear c2
            try clear p2
            try clear c3
            try clear c4
            try clear c9
            try clear c13
            try clear c13b0
            try clear c13b1
            try clear c14
            try clear c14b0
            try clear c14b1
            try clear c22
            try clear c25
            try clear c30
            try clear c30b0
            try clear c30b1
            try clear hcz11_0
            try clear hcz11_1
            try clear hcz26_0
            try clear hcz26_1
            try clear hcz28_0
            try clear hcz28_1
            try clear hcz9_0
            try clear hcz9_1
            try clear hfz11_0
            try clear hfz11_1
            try clear hfz26_0
            try clear hfz26_1
            try clear hfz28_0
            try clear hfz28_1
            try clear hfz9_0
            try clear hfz9_1
            try clear p2
            obtain ⟨kq, x53_24, rfl, HA, HJ24, BK200, HB⟩ := hcut
            cases kq with
            | zero => exact absurd HA.out (by simp [arbiterlaw02_TypesWrite.j1])
            | succ kj24 =>
              have H := HA.out
              clear HA
              simp only [arbiterlaw02_TypesWrite.j1] at H
              by_cases c31 : x53_24 = true
              · subst c31
                have H1 : (some false) = some r := by rw [if_pos rfl] at H; exact H
                clear H
                have H := H1
                clear H1
                obtain rfl := Option.some.inj H
                go_wp2
                go_ret
                exact ⟨by first | rfl | (simp [errW_none, errW_some] <;> rfl) | (simp [*, errW_none, errW_some] <;> rfl), by repeat (first | (with_reducible first | exact HB.out | apply below_alloc | apply pw_below_drewN | apply below_drew1 | refine below_set ?_ GE200.out) | exact HB.out)⟩
              · replace c31 := Bool.eq_false_iff.mpr c31
                subst c31
                have H1 : ((types_ArrayOf.f a0_0 a0_1).bind fun bt212 => ((arbiterref02_ArrayOf.f a0_0 a0_1).bind fun bt216 => (if bt212.2.2 = bt216.2.2 then ((arbiterref02_Same.f bt212.1 bt212.2.1 bt216.1 bt216.2.1).bind fun t220 => (arbiterlaw02_TypesWrite.j2 kj24 (!t220) a0_0 a0_1)) else (arbiterlaw02_TypesWrite.j2 kj24 true a0_0 a0_1)))) = some r := by rw [if_neg (show ¬ (false = true) by decide)] at H; exact H
                clear H
                have H := H1
                clear H1
                replace H := Option.bind_eq_some_iff.mp H
                obtain ⟨⟨t212, t213, t214⟩, A320, H⟩ := H
                replace H : ((arbiterref02_ArrayOf.f a0_0 a0_1).bind fun bt216 => (if t214 = bt216.2.2 then ((arbiterref02_Same.f t212 t213 bt216.1 bt216.2.1).bind fun t220 => (arbiterlaw02_TypesWrite.j2 kj24 (!t220) a0_0 a0_1)) else (arbiterlaw02_TypesWrite.j2 kj24 true a0_0 a0_1))) = some r := H
                have A32 := Aside0.mk A320
                clear A320
                replace H := Option.bind_eq_some_iff.mp H
                obtain ⟨⟨t216, t217, t218⟩, A330, H⟩ := H
                replace H : (if t214 = t218 then ((arbiterref02_Same.f t212 t213 t216 t217).bind fun t220 => (arbiterlaw02_TypesWrite.j2 kj24 (!t220) a0_0 a0_1)) else (arbiterlaw02_TypesWrite.j2 kj24 true a0_0 a0_1)) = some r := H
                have A33 := Aside0.mk A330
                clear A330
                have HC34 := Aside0.mk H
                clear H
                have hcz35_0 : wc.cell? ⟨gb200, 0, none⟩ = some (.int .i64 a0_0) := (blk_cell BK200.out 0).trans rfl
                have hcz35_1 : wc.cell? ⟨gb200, 1, none⟩ = some (.string a0_1) := (blk_cell BK200.out 1).trans rfl
                have hfz35_0 := blk_frozen BK200.out 0
                have hfz35_1 := blk_frozen BK200.out 1
                go_upto_region 13 with (first | ((with_reducible refine gate_callee (f := 47) rfl ?_); refine goesL_ (some 56) rfl rfl Tryd.func47 (by kernel_rfl) rfl #[.agg #[.int .i64 a0_0, .string a0_1]] rfl (by (try simp only [List.map_toArray, List.map_cons, List.map_nil]); first | done | rfl | (simp only [List.length_drop, List.length_take]; rfl)) ?_; (with_reducible refine (types_ArrayOf.calls a0_0 a0_1 t212 t213 t214 _ A32.out).mono ?_); rintro e w36 ⟨rfl, hb⟩; refine ⟨_, rfl, ?_⟩; have n0_ := Aside0.mk (blk_below (g := gb200) (o := .cells #[.int .i64 a0_0, .string a0_1] 37 (0, 0)) (by (with_reducible repeat (first | refine blk_drewN ?_ _ | refine blk_drew ?_ | refine blk_alloc ?_ _)); exact BK200.out) hb); have n1_ := Aside0.mk (below_step (by repeat (first | (with_reducible first | exact HB.out | apply below_alloc | apply pw_below_drewN | apply below_drew1 | refine below_set ?_ GE200.out) | exact HB.out)) hb); clear BK200; clear HB; have BK200 := n0_; have HB := n1_; clear n0_ n1_; (try clear hb); (try clear hb2); (try clear hk); (try clear hi)) | ((with_reducible refine gate_dst (N := 7) rfl ?_); refine box_event ?hg (N := 7) ?hd (cs := #[.int .i64 0, .string (⟨#[]⟩ : ByteArray)]) (t := 37) ?hr ?_; (case hd => rfl); (case hg => rfl); (case hr => first | (go_simp; done) | (go_simp; rfl)); intro gb215 hg w37 hbox hb; have n0_ := Aside0.mk (blk_below (g := gb200) (o := .cells #[.int .i64 a0_0, .string a0_1] 37 (0, 0)) (by (with_reducible repeat (first | refine blk_drewN ?_ _ | refine blk_drew ?_ | refine blk_alloc ?_ _)); exact BK200.out) hb); have n1_ := Aside0.mk (below_step (by repeat (first | (with_reducible first | exact HB.out | apply below_alloc | apply pw_below_drewN | apply below_drew1 | refine below_set ?_ GE200.out) | exact HB.out)) hb); have n2_ := Aside0.mk (hbox); have n3_ := Aside0.mk ((by rw [hg]; exact (below_size (by repeat (first | (with_reducible first | exact HB.out | apply below_alloc | apply pw_below_drewN | apply below_drew1 | refine below_set ?_ GE200.out) | exact HB.out))) : w.heap.size ≤ gb215)); have n4_ := Aside0.mk ((by rw [hg]; exact (below_size (by repeat (first | (with_reducible first | exact HB.out | apply below_alloc | apply pw_below_drewN | apply below_drew1 | refine below_set ?_ GE200.out) | exact HB.out))) : w.heap.size ≤ gb215)); have n5_ := Aside0.mk ((by rw [hg]; exact Nat.ne_of_lt (blk_lt (g := gb200) (o := .cells #[.int .i64 a0_0, .string a0_1] 37 (0, 0)) (by (with_reducible repeat (first | refine blk_drewN ?_ _ | refine blk_drew ?_ | refine blk_alloc ?_ _)); exact BK200.out)) : gb200 ≠ gb215)); have n6_ := Aside0.mk ((by rw [hg]; exact Nat.ne_of_gt (blk_lt (g := gb200) (o := .cells #[.int .i64 a0_0, .string a0_1] 37 (0, 0)) (by (with_reducible repeat (first | refine blk_drewN ?_ _ | refine blk_drew ?_ | refine blk_alloc ?_ _)); exact BK200.out)) : gb215 ≠ gb200)); clear BK200; clear HB; have BK200 := n0_; have HB := n1_; have BK215 := n2_; have GW215 := n3_; have GE215 := n4_; have NB200_215 := n5_; have NB215_200 := n6_; clear n0_ n1_ n2_ n3_ n4_ n5_ n6_; clear hb hbox hg; have hnb38 := NB215_200.out; have hnc38 := NB200_215.out; have hcz39_0 : w37.cell? ⟨gb215, 0, none⟩ = some (.int .i64 0) := (blk_cell BK215.out 0).trans rfl; have hcz39_1 : w37.cell? ⟨gb215, 1, none⟩ = some (.string (⟨#[]⟩ : ByteArray)) := (blk_cell BK215.out 1).trans rfl; have hfz39_0 := blk_frozen BK215.out 0; have hfz39_1 := blk_frozen BK215.out 1; have hcz40_0 : w37.cell? ⟨gb200, 0, none⟩ = some (.int .i64 a0_0) := (blk_cell BK200.out 0).trans rfl; have hcz40_1 : w37.cell? ⟨gb200, 1, none⟩ = some (.string a0_1) := (blk_cell BK200.out 1).trans rfl; have hfz40_0 := blk_frozen BK200.out 0; have hfz40_1 := blk_frozen BK200.out 1) | ((with_reducible refine gate_callee (f := 48) rfl ?_); refine goesL_ (some 61) rfl rfl Tryd.func48 (by kernel_rfl) rfl #[.agg #[.int .i64 a0_0, .string a0_1]] rfl (by (try simp only [List.map_toArray, List.map_cons, List.map_nil]); first | done | rfl | (simp only [List.length_drop, List.length_take]; rfl)) ?_; (with_reducible refine (arbiterref02_ArrayOf.calls a0_0 a0_1 t216 t217 t218 _ A33.out).mono ?_); rintro e w41 ⟨rfl, hb⟩; refine ⟨_, rfl, ?_⟩; have n0_ := Aside0.mk (blk_below (g := gb200) (o := .cells #[.int .i64 a0_0, .string a0_1] 37 (0, 0)) (by (with_reducible repeat (first | refine blk_drewN ?_ _ | refine blk_drew ?_ | refine blk_alloc ?_ _)); refine blk_far ?_ NB200_215.out _; (with_reducible repeat (first | refine blk_drewN ?_ _ | refine blk_drew ?_ | refine blk_alloc ?_ _)); refine blk_far ?_ NB200_215.out _; (with_reducible repeat (first | refine blk_drewN ?_ _ | refine blk_drew ?_ | refine blk_alloc ?_ _)); exact BK200.out) hb); have n1_ := Aside0.mk (blk_below (g := gb215) (o := .cells #[.int .i64 t212, .string t213] 37 (0, 0)) (by (with_reducible repeat (first | refine blk_drewN ?_ _ | refine blk_drew ?_ | refine blk_alloc ?_ _)); refine blk_put (cs := #[.int .i64 t212, .string (⟨#[]⟩ : ByteArray)]) ?_ 1 _ rfl; (with_reducible repeat (first | refine blk_drewN ?_ _ | refine blk_drew ?_ | refine blk_alloc ?_ _)); refine blk_put (cs := #[.int .i64 0, .string (⟨#[]⟩ : ByteArray)]) ?_ 0 _ rfl; (with_reducible repeat (first | refine blk_drewN ?_ _ | refine blk_drew ?_ | refine blk_alloc ?_ _)); exact BK215.out) hb); have n2_ := Aside0.mk (below_step (by repeat (first | (with_reducible first | exact HB.out | apply below_alloc | apply pw_below_drewN | apply below_drew1 | refine below_set ?_ GE200.out | refine below_set ?_ GE215.out) | exact HB.out)) hb); clear BK200; clear BK215; clear HB; have BK200 := n0_; have BK215 := n1_; have HB := n2_; clear n0_ n1_ n2_; (try clear hb); (try clear hb2); (try clear hk); (try clear hi)) | ((with_reducible refine gate_dst (N := 8) rfl ?_); refine box_event ?hg (N := 8) ?hd (cs := #[.int .i64 0, .string (⟨#[]⟩ : ByteArray)]) (t := 37) ?hr ?_; (case hd => rfl); (case hg => rfl); (case hr => first | (go_simp; done) | (go_simp; rfl)); intro gb219 hg w42 hbox hb; have n0_ := Aside0.mk (blk_below (g := gb200) (o := .cells #[.int .i64 a0_0, .string a0_1] 37 (0, 0)) (by (with_reducible repeat (first | refine blk_drewN ?_ _ | refine blk_drew ?_ | refine blk_alloc ?_ _)); exact BK200.out) hb); have n1_ := Aside0.mk (blk_below (g := gb215) (o := .cells #[.int .i64 t212, .string t213] 37 (0, 0)) (by (with_reducible repeat (first | refine blk_drewN ?_ _ | refine blk_drew ?_ | refine blk_alloc ?_ _)); exact BK215.out) hb); have n2_ := Aside0.mk (below_step (by repeat (first | (with_reducible first | exact HB.out | apply below_alloc | apply pw_below_drewN | apply below_drew1 | refine below_set ?_ GE200.out | refine below_set ?_ GE215.out) | exact HB.out)) hb); have n3_ := Aside0.mk (hbox); have n4_ := Aside0.mk ((by rw [hg]; exact (below_size (by repeat (first | (with_reducible first | exact HB.out | apply below_alloc | apply pw_below_drewN | apply below_drew1 | refine below_set ?_ GE200.out | refine below_set ?_ GE215.out) | exact HB.out))) : w.heap.size ≤ gb219)); have n5_ := Aside0.mk ((by rw [hg]; exact (below_size (by repeat (first | (with_reducible first | exact HB.out | apply below_alloc | apply pw_below_drewN | apply below_drew1 | refine below_set ?_ GE200.out | refine below_set ?_ GE215.out) | exact HB.out))) : w.heap.size ≤ gb219)); have n6_ := Aside0.mk ((by rw [hg]; exact Nat.ne_of_lt (blk_lt (g := gb200) (o := .cells #[.int .i64 a0_0, .string a0_1] 37 (0, 0)) (by (with_reducible repeat (first | refine blk_drewN ?_ _ | refine blk_drew ?_ | refine blk_alloc ?_ _)); exact BK200.out)) : gb200 ≠ gb219)); have n7_ := Aside0.mk ((by rw [hg]; exact Nat.ne_of_gt (blk_lt (g := gb200) (o := .cells #[.int .i64 a0_0, .string a0_1] 37 (0, 0)) (by (with_reducible repeat (first | refine blk_drewN ?_ _ | refine blk_drew ?_ | refine blk_alloc ?_ _)); exact BK200.out)) : gb219 ≠ gb200)); have n8_ := Aside0.mk ((by rw [hg]; exact Nat.ne_of_lt (blk_lt (g := gb215) (o := .cells #[.int .i64 t212, .string t213] 37 (0, 0)) (by (with_reducible repeat (first | refine blk_drewN ?_ _ | refine blk_drew ?_ | refine blk_alloc ?_ _)); exact BK215.out)) : gb215 ≠ gb219)); have n9_ := Aside0.mk ((by rw [hg]; exact Nat.ne_of_gt (blk_lt (g := gb215) (o := .cells #[.int .i64 t212, .string t213] 37 (0, 0)) (by (with_reducible repeat (first | refine blk_drewN ?_ _ | refine blk_drew ?_ | refine blk_alloc ?_ _)); exact BK215.out)) : gb219 ≠ gb215)); clear BK200; clear BK215; clear HB; have BK200 := n0_; have BK215 := n1_; have HB := n2_; have BK219 := n3_; have GW219 := n4_; have GE219 := n5_; have NB200_219 := n6_; have NB219_200 := n7_; have NB215_219 := n8_; have NB219_215 := n9_; clear n0_ n1_ n2_ n3_ n4_ n5_ n6_ n7_ n8_ n9_; clear hb hbox hg; have hnb43 := NB219_200.out; have hnc43 := NB200_219.out; have hnb44 := NB219_215.out; have hnc44 := NB215_219.out; have hcz45_0 : w42.cell? ⟨gb219, 0, none⟩ = some (.int .i64 0) := (blk_cell BK219.out 0).trans rfl; have hcz45_1 : w42.cell? ⟨gb219, 1, none⟩ = some (.string (⟨#[]⟩ : ByteArray)) := (blk_cell BK219.out 1).trans rfl; have hfz45_0 := blk_frozen BK219.out 0; have hfz45_1 := blk_frozen BK219.out 1))
                (try simp only [Act.put, List.setIfInBounds_toArray, List.set_cons_zero, List.set_cons_succ])
                go_cut [72] (fun v72 wc => ∃ (kq : Nat) (x72_33 : Bool), v72 = .bool x72_33 ∧ Aside0 (arbiterlaw02_TypesWrite.j2 kq x72_33 a0_0 a0_1 = some r) ∧ Aside0 (kq ≤ kj24) ∧ Aside0 (wc.heap[gb200]? = some (.cells #[.int .i64 a0_0, .string a0_1] 37 (0, 0))) ∧ Aside0 (wc.heap[gb215]? = some (.cells #[.int .i64 t212, .string t213] 37 (0, 0))) ∧ Aside0 (wc.heap[gb219]? = some (.cells #[.int .i64 t216, .string t217] 37 (0, 0))) ∧ Aside0 (Below w.heap.size w wc))
                case first =>
                  have H := HC34.out
                  clear HC34
                  by_cases c46 : t214 = t218
                  · rw [if_pos c46] at H
                    have c46b0 : (t214 == t218) = true := beq_iff_eq.mpr c46
                    have c46b1 : (t214 != t218) = false := bne_eq_false_iff_eq.mpr c46
                    clear c46
                    (first | rw [c46b0] | (simp only [i64_w, i32_w]; rw [c46b0]) | skip)
                    replace H := Option.bind_eq_some_iff.mp H
                    obtain ⟨t220, A470, H⟩ := H
                    replace H : (arbiterlaw02_TypesWrite.j2 kj24 (!t220) a0_0 a0_1) = some r := H
                    have A47 := Aside0.mk A470
                    clear A470
                    have H' := Aside0.mk H
                    clear H
                    have hnb48 := NB215_200.out
                    have hnc48 := NB200_215.out
                    have hnb49 := NB215_219.out
                    have hnc49 := NB219_215.out
                    have hcz50_0 : w42.cell? ⟨gb215, 0, none⟩ = some (.int .i64 t212) := (blk_cell BK215.out 0).trans rfl
                    have hcz50_1 : w42.cell? ⟨gb215, 1, none⟩ = some (.string t213) := (blk_cell BK215.out 1).trans rfl
                    have hfz50_0 := blk_frozen BK215.out 0
                    have hfz50_1 := blk_frozen BK215.out 1
                    have hnb51 := NB219_200.out
                    have hnc51 := NB200_219.out
                    have hcz52_0 : w42.cell? ⟨gb219, 0, none⟩ = some (.int .i64 0) := (blk_cell BK219.out 0).trans rfl
                    have hcz52_1 : w42.cell? ⟨gb219, 1, none⟩ = some (.string (⟨#[]⟩ : ByteArray)) := (blk_cell BK219.out 1).trans rfl
                    have hfz52_0 := blk_frozen BK219.out 0
                    have hfz52_1 := blk_frozen BK219.out 1
                    go_wp2_with (first | (go_at_call 28; (with_reducible refine (arbiterref02_Same.calls t212 t213 t216 t217 t220 _ A47.out).mono ?_); rintro e w53 ⟨rfl, hb⟩; have n0_ := Aside0.mk (blk_below (g := gb200) (o := .cells #[.int .i64 a0_0, .string a0_1] 37 (0, 0)) (by (with_reducible repeat (first | refine blk_drewN ?_ _ | refine blk_drew ?_ | refine blk_alloc ?_ _)); refine blk_far ?_ NB200_219.out _; (with_reducible repeat (first | refine blk_drewN ?_ _ | refine blk_drew ?_ | refine blk_alloc ?_ _)); refine blk_far ?_ NB200_219.out _; (with_reducible repeat (first | refine blk_drewN ?_ _ | refine blk_drew ?_ | refine blk_alloc ?_ _)); exact BK200.out) hb); have n1_ := Aside0.mk (blk_below (g := gb215) (o := .cells #[.int .i64 t212, .string t213] 37 (0, 0)) (by (with_reducible repeat (first | refine blk_drewN ?_ _ | refine blk_drew ?_ | refine blk_alloc ?_ _)); refine blk_far ?_ NB215_219.out _; (with_reducible repeat (first | refine blk_drewN ?_ _ | refine blk_drew ?_ | refine blk_alloc ?_ _)); refine blk_far ?_ NB215_219.out _; (with_reducible repeat (first | refine blk_drewN ?_ _ | refine blk_drew ?_ | refine blk_alloc ?_ _)); exact BK215.out) hb); have n2_ := Aside0.mk (blk_below (g := gb219) (o := .cells #[.int .i64 t216, .string t217] 37 (0, 0)) (by (with_reducible repeat (first | refine blk_drewN ?_ _ | refine blk_drew ?_ | refine blk_alloc ?_ _)); refine blk_put (cs := #[.int .i64 t216, .string (⟨#[]⟩ : ByteArray)]) ?_ 1 _ rfl; (with_reducible repeat (first | refine blk_drewN ?_ _ | refine blk_drew ?_ | refine blk_alloc ?_ _)); refine blk_put (cs := #[.int .i64 0, .string (⟨#[]⟩ : ByteArray)]) ?_ 0 _ rfl; (with_reducible repeat (first | refine blk_drewN ?_ _ | refine blk_drew ?_ | refine blk_alloc ?_ _)); exact BK219.out) hb); have n3_ := Aside0.mk (below_step (by repeat (first | (with_reducible first | exact HB.out | apply below_alloc | apply pw_below_drewN | apply below_drew1 | refine below_set ?_ GE200.out | refine below_set ?_ GE215.out | refine below_set ?_ GE219.out) | exact HB.out)) hb); clear BK200; clear BK215; clear BK219; clear HB; have BK200 := n0_; have BK215 := n1_; have BK219 := n2_; have HB := n3_; clear n0_ n1_ n2_ n3_; (try clear hb); (try clear hb2); (try clear hk); (try clear hi)))
                    go_meet
                    case rel => exact ⟨_, (!t220), (by first | rfl | (simp; done) | (simp [*]; done)), H', ⟨by have := HJ5.out; have := HJ24.out; first | omega | exact Nat.le_refl _⟩, ⟨by (with_reducible repeat (first | refine blk_drewN ?_ _ | refine blk_drew ?_ | refine blk_alloc ?_ _)); exact BK200.out⟩, ⟨by (with_reducible repeat (first | refine blk_drewN ?_ _ | refine blk_drew ?_ | refine blk_alloc ?_ _)); exact BK215.out⟩, ⟨by (with_reducible repeat (first | refine blk_drewN ?_ _ | refine blk_drew ?_ | refine blk_alloc ?_ _)); exact BK219.out⟩, ⟨by repeat (first | (with_reducible first | exact HB.out | apply below_alloc | apply pw_below_drewN | apply below_drew1 | refine below_set ?_ GE200.out | refine below_set ?_ GE215.out | refine below_set ?_ GE219.out) | exact HB.out)⟩⟩
                  · rw [if_neg c46] at H
                    have c46b0 : (t214 == t218) = false := beq_eq_false_iff_ne.mpr c46
                    have c46b1 : (t214 != t218) = true := bne_iff_ne.mpr c46
                    (first | rw [c46b0] | (simp only [i64_w, i32_w]; rw [c46b0]) | skip)
                    have H' := Aside0.mk H
                    clear H
                    go_wp2
                    go_meet
                    case rel => exact ⟨_, (true), (by first | rfl | (simp; done) | (simp [*]; done)), H', ⟨by have := HJ5.out; have := HJ24.out; first | omega | exact Nat.le_refl _⟩, ⟨by (with_reducible repeat (first | refine blk_drewN ?_ _ | refine blk_drew ?_ | refine blk_alloc ?_ _)); refine blk_far ?_ NB200_219.out _; (with_reducible repeat (first | refine blk_drewN ?_ _ | refine blk_drew ?_ | refine blk_alloc ?_ _)); refine blk_far ?_ NB200_219.out _; (with_reducible repeat (first | refine blk_drewN ?_ _ | refine blk_drew ?_ | refine blk_alloc ?_ _)); exact BK200.out⟩, ⟨by (with_reducible repeat (first | refine blk_drewN ?_ _ | refine blk_drew ?_ | refine blk_alloc ?_ _)); refine blk_far ?_ NB215_219.out _; (with_reducible repeat (first | refine blk_drewN ?_ _ | refine blk_drew ?_ | refine blk_alloc ?_ _)); refine blk_far ?_ NB215_219.out _; (with_reducible repeat (first | refine blk_drewN ?_ _ | refine blk_drew ?_ | refine blk_alloc ?_ _)); exact BK215.out⟩, ⟨by (with_reducible repeat (first | refine blk_drewN ?_ _ | refine blk_drew ?_ | refine blk_alloc ?_ _)); refine blk_put (cs := #[.int .i64 t216, .string (⟨#[]⟩ : ByteArray)]) ?_ 1 _ rfl; (with_reducible repeat (first | refine blk_drewN ?_ _ | refine blk_drew ?_ | refine blk_alloc ?_ _)); refine blk_put (cs := #[.int .i64 0, .string (⟨#[]⟩ : ByteArray)]) ?_ 0 _ rfl; (with_reducible repeat (first | refine blk_drewN ?_ _ | refine blk_drew ?_ | refine blk_alloc ?_ _)); exact BK219.out⟩, ⟨by repeat (first | (with_reducible first | exact HB.out | apply below_alloc | apply pw_below_drewN | apply below_drew1 | refine below_set ?_ GE200.out | refine below_set ?_ GE215.out | refine below_set ?_ GE219.out) | exact HB.out)⟩⟩
                case rest =>
                  clear HC34
                  try clear c1
                  try clear c2
                  try clear p2
                  try clear c3
                  try clear c4
                  try clear c5
                  try clear c9
                  try clear c13
                  try clear c13b0
                  try clear c13b1
                  try clear c14
                  try clear c14b0
                  try clear c14b1
                  try clear c22
                  try clear c25
                  try clear c30
                  try clear c30b0
                  try clear c30b1
                  try clear c31
                  try clear c38
                  try clear c43
                  try clear c44
                  try clear c45
                  try clear c46
                  try clear c46b0
                  try clear c46b1
                  try clear c47
                  try clear c48
                  try clear c49
                  try clear c51
                  try clear hcz11_0
                  try clear hcz11_1
                  try clear hcz26_0
                  try clear hcz26_1
                  try clear hcz28_0
                  try clear hcz28_1
                  try clear hcz35_0
                  try clear hcz35_1
                  try clear hcz39_0
                  try clear hcz39_1
                  try clear hcz40_0
                  try clear hcz40_1
                  try clear hcz45_0
                  try clear hcz45_1
                  try clear hcz50_0
                  try clear hcz50_1
                  try clear hcz52_0
                  try clear hcz52_1
                  try clear hcz9_0
                  try clear hcz9_1
                  try clear hfz11_0
                  try clear hfz11_1
                  try clear hfz26_0
                  try clear hfz26_1
                  try clear hfz28_0
                  try clear hfz28_1
                  try clear hfz35_0
                  try clear hfz35_1
                  try clear hfz39_0
                  try clear hfz39_1
                  try clear hfz40_0
                  try clear hfz40_1
                  try clear hfz45_0
                  try clear hfz45_1
                  try clear hfz50_0
                  try clear hfz50_1
                  try clear hfz52_0
                  try clear hfz52_1
                  try clear hfz9_0
                  try clear hfz9_1
                  try clear p2
                  obtain ⟨kq, x72_33, rfl, HA, HJ33, BK200, BK215, BK219, HB⟩ := hcut
                  cases kq with
                  | zero => exact absurd HA.out (by simp [arbiterlaw02_TypesWrite.j2])
                  | succ kj33 =>
                    have H := HA.out
                    clear HA
                    simp only [arbiterlaw02_TypesWrite.j2] at H
                    by_cases c54 : x72_33 = true
                    · subst c54
                      have H1 : (some false) = some r := by rw [if_pos rfl] at H; exact H
                      clear H
                      have H := H1
                      clear H1
                      obtain rfl := Option.some.inj H
                      go_wp2
                      go_ret
                      exact ⟨by first | rfl | (simp [errW_none, errW_some] <;> rfl) | (simp [*, errW_none, errW_some] <;> rfl), by repeat (first | (with_reducible first | exact HB.out | apply below_alloc | apply pw_below_drewN | apply below_drew1 | refine below_set ?_ GE200.out | refine below_set ?_ GE215.out | refine below_set ?_ GE219.out) | exact HB.out)⟩
                    · replace c54 := Bool.eq_false_iff.mpr c54
                      subst c54
                      have H1 : ((types_Component.f a0_0 a0_1).bind fun bt221 => ((arbiterref02_Component.f a0_0 a0_1).bind fun bt224 => (if bt221.2.2 = bt224.2.2 then ((arbiterref02_Same.f bt221.1 bt221.2.1 bt224.1 bt224.2.1).bind fun t227 => (arbiterlaw02_TypesWrite.j3 kj33 (!t227) a0_0 a0_1)) else (arbiterlaw02_TypesWrite.j3 kj33 true a0_0 a0_1)))) = some r := by rw [if_neg (show ¬ (false = true) by decide)] at H; exact H
                      clear H
                      have H := H1
                      clear H1
                      replace H := Option.bind_eq_some_iff.mp H
                      obtain ⟨⟨t221, t222, t223⟩, A550, H⟩ := H
                      replace H : ((arbiterref02_Component.f a0_0 a0_1).bind fun bt224 => (if t223 = bt224.2.2 then ((arbiterref02_Same.f t221 t222 bt224.1 bt224.2.1).bind fun t227 => (arbiterlaw02_TypesWrite.j3 kj33 (!t227) a0_0 a0_1)) else (arbiterlaw02_TypesWrite.j3 kj33 true a0_0 a0_1))) = some r := H
                      have A55 := Aside0.mk A550
                      clear A550
                      replace H := Option.bind_eq_some_iff.mp H
                      obtain ⟨⟨t224, t225, t226⟩, A560, H⟩ := H
                      replace H : (if t223 = t226 then ((arbiterref02_Same.f t221 t222 t224 t225).bind fun t227 => (arbiterlaw02_TypesWrite.j3 kj33 (!t227) a0_0 a0_1)) else (arbiterlaw02_TypesWrite.j3 kj33 true a0_0 a0_1)) = some r := H
                      have A56 := Aside0.mk A560
                      clear A560
                      have HC57 := Aside0.mk H
                      clear H
                      have hnb58 := NB200_215.out
                      have hnc58 := NB215_200.out
                      have hnb59 := NB200_219.out
                      have hnc59 := NB219_200.out
                      have hcz60_0 : wc.cell? ⟨gb200, 0, none⟩ = some (.int .i64 a0_0) := (blk_cell BK200.out 0).trans rfl
                      have hcz60_1 : wc.cell? ⟨gb200, 1, none⟩ = some (.string a0_1) := (blk_cell BK200.out 1).trans rfl
                      have hfz60_0 := blk_frozen BK200.out 0
                      have hfz60_1 := blk_frozen BK200.out 1
                      go_upto_region 17 with (first | ((with_reducible refine gate_callee (f := 49) rfl ?_); refine goesL_ (some 75) rfl rfl Tryd.func49 (by kernel_rfl) rfl #[.agg #[.int .i64 a0_0, .string a0_1]] rfl (by (try simp only [List.map_toArray, List.map_cons, List.map_nil]); first | done | rfl | (simp only [List.length_drop, List.length_take]; rfl)) ?_; (with_reducible refine (types_Component.calls a0_0 a0_1 t221 t222 t223 _ A55.out).mono ?_); rintro e w61 ⟨rfl, hb⟩; refine ⟨_, rfl, ?_⟩; have n0_ := Aside0.mk (blk_below (g := gb200) (o := .cells #[.int .i64 a0_0, .string a0_1] 37 (0, 0)) (by (with_reducible repeat (first | refine blk_drewN ?_ _ | refine blk_drew ?_ | refine blk_alloc ?_ _)); exact BK200.out) hb); have n1_ := Aside0.mk (blk_below (g := gb215) (o := .cells #[.int .i64 t212, .string t213] 37 (0, 0)) (by (with_reducible repeat (first | refine blk_drewN ?_ _ | refine blk_drew ?_ | refine blk_alloc ?_ _)); exact BK215.out) hb); have n2_ := Aside0.mk (blk_below (g := gb219) (o := .cells #[.int .i64 t216, .string t217] 37 (0, 0)) (by (with_reducible repeat (first | refine blk_drewN ?_ _ | refine blk_drew ?_ | refine blk_alloc ?_ _)); exact BK219.out) hb); have n3_ := Aside0.mk (below_step (by repeat (first | (with_reducible first | exact HB.out | apply below_alloc | apply pw_below_drewN | apply below_drew1 | refine below_set ?_ GE200.out | refine below_set ?_ GE215.out | refine below_set ?_ GE219.out) | exact HB.out)) hb); clear BK200; clear BK215; clear BK219; clear HB; have BK200 := n0_; have BK215 := n1_; have BK219 := n2_; have HB := n3_; clear n0_ n1_ n2_ n3_; (try clear hb); (try clear hb2); (try clear hk); (try clear hi); have hnb62 := NB215_219.out; have hnc62 := NB219_215.out; have hcz63_0 : w61.cell? ⟨gb215, 0, none⟩ = some (.int .i64 t212) := (blk_cell BK215.out 0).trans rfl; have hcz63_1 : w61.cell? ⟨gb215, 1, none⟩ = some (.string t213) := (blk_cell BK215.out 1).trans rfl; have hfz63_0 := blk_frozen BK215.out 0; have hfz63_1 := blk_frozen BK215.out 1; have hcz64_0 : w61.cell? ⟨gb200, 0, none⟩ = some (.int .i64 a0_0) := (blk_cell BK200.out 0).trans rfl; have hcz64_1 : w61.cell? ⟨gb200, 1, none⟩ = some (.string a0_1) := (blk_cell BK200.out 1).trans rfl; have hfz64_0 := blk_frozen BK200.out 0; have hfz64_1 := blk_frozen BK200.out 1) | ((with_reducible refine gate_callee (f := 50) rfl ?_); refine goesL_ (some 80) rfl rfl Tryd.func50 (by kernel_rfl) rfl #[.agg #[.int .i64 a0_0, .string a0_1]] rfl (by (try simp only [List.map_toArray, List.map_cons, List.map_nil]); first | done | rfl | (simp only [List.length_drop, List.length_take]; rfl)) ?_; (with_reducible refine (arbiterref02_Component.calls a0_0 a0_1 t224 t225 t226 _ A56.out).mono ?_); rintro e w65 ⟨rfl, hb⟩; refine ⟨_, rfl, ?_⟩; have n0_ := Aside0.mk (blk_below (g := gb200) (o := .cells #[.int .i64 a0_0, .string a0_1] 37 (0, 0)) (by (with_reducible repeat (first | refine blk_drewN ?_ _ | refine blk_drew ?_ | refine blk_alloc ?_ _)); refine blk_far ?_ NB200_215.out _; (with_reducible repeat (first | refine blk_drewN ?_ _ | refine blk_drew ?_ | refine blk_alloc ?_ _)); refine blk_far ?_ NB200_215.out _; (with_reducible repeat (first | refine blk_drewN ?_ _ | refine blk_drew ?_ | refine blk_alloc ?_ _)); exact BK200.out) hb); have n1_ := Aside0.mk (blk_below (g := gb215) (o := .cells #[.int .i64 t221, .string t222] 37 (0, 0)) (by (with_reducible repeat (first | refine blk_drewN ?_ _ | refine blk_drew ?_ | refine blk_alloc ?_ _)); refine blk_put (cs := #[.int .i64 t221, .string t213]) ?_ 1 _ rfl; (with_reducible repeat (first | refine blk_drewN ?_ _ | refine blk_drew ?_ | refine blk_alloc ?_ _)); refine blk_put (cs := #[.int .i64 t212, .string t213]) ?_ 0 _ rfl; (with_reducible repeat (first | refine blk_drewN ?_ _ | refine blk_drew ?_ | refine blk_alloc ?_ _)); exact BK215.out) hb); have n2_ := Aside0.mk (blk_below (g := gb219) (o := .cells #[.int .i64 t216, .string t217] 37 (0, 0)) (by (with_reducible repeat (first | refine blk_drewN ?_ _ | refine blk_drew ?_ | refine blk_alloc ?_ _)); refine blk_far ?_ NB219_215.out _; (with_reducible repeat (first | refine blk_drewN ?_ _ | refine blk_drew ?_ | refine blk_alloc ?_ _)); refine blk_far ?_ NB219_215.out _; (with_reducible repeat (first | refine blk_drewN ?_ _ | refine blk_drew ?_ | refine blk_alloc ?_ _)); exact BK219.out) hb); have n3_ := Aside0.mk (below_step (by repeat (first | (with_reducible first | exact HB.out | apply below_alloc | apply pw_below_drewN | apply below_drew1 | refine below_set ?_ GE200.out | refine below_set ?_ GE215.out | refine below_set ?_ GE219.out) | exact HB.out)) hb); clear BK200; clear BK215; clear BK219; clear HB; have BK200 := n0_; have BK215 := n1_; have BK219 := n2_; have HB := n3_; clear n0_ n1_ n2_ n3_; (try clear hb); (try clear hb2); (try clear hk); (try clear hi); have hcz66_0 : w65.cell? ⟨gb219, 0, none⟩ = some (.int .i64 t216) := (blk_cell BK219.out 0).trans rfl; have hcz66_1 : w65.cell? ⟨gb219, 1, none⟩ = some (.string t217) := (blk_cell BK219.out 1).trans rfl; have hfz66_0 := blk_frozen BK219.out 0; have hfz66_1 := blk_frozen BK219.out 1))
                      (try simp only [Act.put, List.setIfInBounds_toArray, List.set_cons_zero, List.set_cons_succ])
                      go_cut [91] (fun v91 wc => ∃ (kq : Nat) (x91_56 : Bool), v91 = .bool x91_56 ∧ Aside0 (arbiterlaw02_TypesWrite.j3 kq x91_56 a0_0 a0_1 = some r) ∧ Aside0 (kq ≤ kj33) ∧ Aside0 (wc.heap[gb200]? = some (.cells #[.int .i64 a0_0, .string a0_1] 37 (0, 0))) ∧ Aside0 (wc.heap[gb215]? = some (.cells #[.int .i64 t221, .string t222] 37 (0, 0))) ∧ Aside0 (wc.heap[gb219]? = some (.cells #[.int .i64 t224, .string t225] 37 (0, 0))) ∧ Aside0 (Below w.heap.size w wc))
                      case first =>
                        have H := HC57.out
                        clear HC57
                        by_cases c67 : t223 = t226
                        · rw [if_pos c67] at H
                          have c67b0 : (t223 == t226) = true := beq_iff_eq.mpr c67
                          have c67b1 : (t223 != t226) = false := bne_eq_false_iff_eq.mpr c67
                          clear c67
                          (first | rw [c67b0] | (simp only [i64_w, i32_w]; rw [c67b0]) | skip)
                          replace H := Option.bind_eq_some_iff.mp H
                          obtain ⟨t227, A680, H⟩ := H
                          replace H : (arbiterlaw02_TypesWrite.j3 kj33 (!t227) a0_0 a0_1) = some r := H
                          have A68 := Aside0.mk A680
                          clear A680
                          have H' := Aside0.mk H
                          clear H
                          have hnb69 := NB215_200.out
                          have hnc69 := NB200_215.out
                          have hnb70 := NB215_219.out
                          have hnc70 := NB219_215.out
                          have hcz71_0 : w65.cell? ⟨gb215, 0, none⟩ = some (.int .i64 t221) := (blk_cell BK215.out 0).trans rfl
                          have hcz71_1 : w65.cell? ⟨gb215, 1, none⟩ = some (.string t222) := (blk_cell BK215.out 1).trans rfl
                          have hfz71_0 := blk_frozen BK215.out 0
                          have hfz71_1 := blk_frozen BK215.out 1
                          have hnb72 := NB219_200.out
                          have hnc72 := NB200_219.out
                          have hcz73_0 : w65.cell? ⟨gb219, 0, none⟩ = some (.int .i64 t216) := (blk_cell BK219.out 0).trans rfl
                          have hcz73_1 : w65.cell? ⟨gb219, 1, none⟩ = some (.string t217) := (blk_cell BK219.out 1).trans rfl
                          have hfz73_0 := blk_frozen BK219.out 0
                          have hfz73_1 := blk_frozen BK219.out 1
                          go_wp2_with (first | (go_at_call 28; (with_reducible refine (arbiterref02_Same.calls t221 t222 t224 t225 t227 _ A68.out).mono ?_); rintro e w74 ⟨rfl, hb⟩; have n0_ := Aside0.mk (blk_below (g := gb200) (o := .cells #[.int .i64 a0_0, .string a0_1] 37 (0, 0)) (by (with_reducible repeat (first | refine blk_drewN ?_ _ | refine blk_drew ?_ | refine blk_alloc ?_ _)); refine blk_far ?_ NB200_219.out _; (with_reducible repeat (first | refine blk_drewN ?_ _ | refine blk_drew ?_ | refine blk_alloc ?_ _)); refine blk_far ?_ NB200_219.out _; (with_reducible repeat (first | refine blk_drewN ?_ _ | refine blk_drew ?_ | refine blk_alloc ?_ _)); exact BK200.out) hb); have n1_ := Aside0.mk (blk_below (g := gb215) (o := .cells #[.int .i64 t221, .string t222] 37 (0, 0)) (by (with_reducible repeat (first | refine blk_drewN ?_ _ | refine blk_drew ?_ | refine blk_alloc ?_ _)); refine blk_far ?_ NB215_219.out _; (with_reducible repeat (first | refine blk_drewN ?_ _ | refine blk_drew ?_ | refine blk_alloc ?_ _)); refine blk_far ?_ NB215_219.out _; (with_reducible repeat (first | refine blk_drewN ?_ _ | refine blk_drew ?_ | refine blk_alloc ?_ _)); exact BK215.out) hb); have n2_ := Aside0.mk (blk_below (g := gb219) (o := .cells #[.int .i64 t224, .string t225] 37 (0, 0)) (by (with_reducible repeat (first | refine blk_drewN ?_ _ | refine blk_drew ?_ | refine blk_alloc ?_ _)); refine blk_put (cs := #[.int .i64 t224, .string t217]) ?_ 1 _ rfl; (with_reducible repeat (first | refine blk_drewN ?_ _ | refine blk_drew ?_ | refine blk_alloc ?_ _)); refine blk_put (cs := #[.int .i64 t216, .string t217]) ?_ 0 _ rfl; (with_reducible repeat (first | refine blk_drewN ?_ _ | refine blk_drew ?_ | refine blk_alloc ?_ _)); exact BK219.out) hb); have n3_ := Aside0.mk (below_step (by repeat (first | (with_reducible first | exact HB.out | apply below_alloc | apply pw_below_drewN | apply below_drew1 | refine below_set ?_ GE200.out | refine below_set ?_ GE215.out | refine below_set ?_ GE219.out) | exact HB.out)) hb); clear BK200; clear BK215; clear BK219; clear HB; have BK200 := n0_; have BK215 := n1_; have BK219 := n2_; have HB := n3_; clear n0_ n1_ n2_ n3_; (try clear hb); (try clear hb2); (try clear hk); (try clear hi)))
                          go_meet
                          case rel => exact ⟨_, (!t227), (by first | rfl | (simp; done) | (simp [*]; done)), H', ⟨by have := HJ5.out; have := HJ24.out; have := HJ33.out; first | omega | exact Nat.le_refl _⟩, ⟨by (with_reducible repeat (first | refine blk_drewN ?_ _ | refine blk_drew ?_ | refine blk_alloc ?_ _)); exact BK200.out⟩, ⟨by (with_reducible repeat (first | refine blk_drewN ?_ _ | refine blk_drew ?_ | refine blk_alloc ?_ _)); exact BK215.out⟩, ⟨by (with_reducible repeat (first | refine blk_drewN ?_ _ | refine blk_drew ?_ | refine blk_alloc ?_ _)); exact BK219.out⟩, ⟨by repeat (first | (with_reducible first | exact HB.out | apply below_alloc | apply pw_below_drewN | apply below_drew1 | refine below_set ?_ GE200.out | refine below_set ?_ GE215.out | refine below_set ?_ GE219.out) | exact HB.out)⟩⟩
                        · rw [if_neg c67] at H
                          have c67b0 : (t223 == t226) = false := beq_eq_false_iff_ne.mpr c67
                          have c67b1 : (t223 != t226) = true := bne_iff_ne.mpr c67
                          (first | rw [c67b0] | (simp only [i64_w, i32_w]; rw [c67b0]) | skip)
                          have H' := Aside0.mk H
                          clear H
                          go_wp2
                          go_meet
                          case rel => exact ⟨_, (true), (by first | rfl | (simp; done) | (simp [*]; done)), H', ⟨by have := HJ5.out; have := HJ24.out; have := HJ33.out; first | omega | exact Nat.le_refl _⟩, ⟨by (with_reducible repeat (first | refine blk_drewN ?_ _ | refine blk_drew ?_ | refine blk_alloc ?_ _)); refine blk_far ?_ NB200_219.out _; (with_reducible repeat (first | refine blk_drewN ?_ _ | refine blk_drew ?_ | refine blk_alloc ?_ _)); refine blk_far ?_ NB200_219.out _; (with_reducible repeat (first | refine blk_drewN ?_ _ | refine blk_drew ?_ | refine blk_alloc ?_ _)); exact BK200.out⟩, ⟨by (with_reducible repeat (first | refine blk_drewN ?_ _ | refine blk_drew ?_ | refine blk_alloc ?_ _)); refine blk_far ?_ NB215_219.out _; (with_reducible repeat (first | refine blk_drewN ?_ _ | refine blk_drew ?_ | refine blk_alloc ?_ _)); refine blk_far ?_ NB215_219.out _; (with_reducible repeat (first | refine blk_drewN ?_ _ | refine blk_drew ?_ | refine blk_alloc ?_ _)); exact BK215.out⟩, ⟨by (with_reducible repeat (first | refine blk_drewN ?_ _ | refine blk_drew ?_ | refine blk_alloc ?_ _)); refine blk_put (cs := #[.int .i64 t224, .string t217]) ?_ 1 _ rfl; (with_reducible repeat (first | refine blk_drewN ?_ _ | refine blk_drew ?_ | refine blk_alloc ?_ _)); refine blk_put (cs := #[.int .i64 t216, .string t217]) ?_ 0 _ rfl; (with_reducible repeat (first | refine blk_drewN ?_ _ | refine blk_drew ?_ | refine blk_alloc ?_ _)); exact BK219.out⟩, ⟨by repeat (first | (with_reducible first | exact HB.out | apply below_alloc | apply pw_below_drewN | apply below_drew1 | refine below_set ?_ GE200.out | refine below_set ?_ GE215.out | refine below_set ?_ GE219.out) | exact HB.out)⟩⟩
                      case rest =>
                        clear HC57
                        try clear c1
                        try clear c2
                        try clear p2
                        try clear c3
                        try clear c4
                        try clear c5
                        try clear c6
                        try clear c7
                        try clear c9
                        try clear c13
                        try clear c13b0
                        try clear c13b1
                        try clear c14
                        try clear c14b0
                        try clear c14b1
                        try clear c22
                        try clear c25
                        try clear c30
                        try clear c30b0
                        try clear c30b1
                        try clear c31
                        try clear c38
                        try clear c43
                        try clear c44
                        try clear c45
                        try clear c46
                        try clear c46b0
                        try clear c46b1
                        try clear c47
                        try clear c48
                        try clear c49
                        try clear c50
                        try clear c51
                        try clear c54
                        try clear c58
                        try clear c59
                        try clear c62
                        try clear c67
                        try clear c67b0
                        try clear c67b1
                        try clear c69
                        try clear c70
                        try clear c72
                        try clear hcz11_0
                        try clear hcz11_1
                        try clear hcz26_0
                        try clear hcz26_1
                        try clear hcz28_0
                        try clear hcz28_1
                        try clear hcz35_0
                        try clear hcz35_1
                        try clear hcz39_0
                        try clear hcz39_1
                        try clear hcz40_0
                        try clear hcz40_1
                        try clear hcz45_0
                        try clear hcz45_1
                        try clear hcz50_0
                        try clear hcz50_1
                        try clear hcz52_0
                        try clear hcz52_1
                        try clear hcz60_0
                        try clear hcz60_1
                        try clear hcz63_0
                        try clear hcz63_1
                        try clear hcz64_0
                        try clear hcz64_1
                        try clear hcz66_0
                        try clear hcz66_1
                        try clear hcz71_0
                        try clear hcz71_1
                        try clear hcz73_0
                        try clear hcz73_1
                        try clear hcz9_0
                        try clear hcz9_1
                        try clear hfz11_0
                        try clear hfz11_1
                        try clear hfz26_0
                        try clear hfz26_1
                        try clear hfz28_0
                        try clear hfz28_1
                        try clear hfz35_0
                        try clear hfz35_1
                        try clear hfz39_0
                        try clear hfz39_1
                        try clear hfz40_0
                        try clear hfz40_1
                        try clear hfz45_0
                        try clear hfz45_1
                        try clear hfz50_0
                        try clear hfz50_1
                        try clear hfz52_0
                        try clear hfz52_1
                        try clear hfz60_0
                        try clear hfz60_1
                        try clear hfz63_0
                        try clear hfz63_1
                        try clear hfz64_0
                        try clear hfz64_1
                        try clear hfz66_0
                        try clear hfz66_1
                        try clear hfz71_0
                        try clear hfz71_1
                        try clear hfz73_0
                        try clear hfz73_1
                        try clear hfz9_0
                        try clear hfz9_1
                        try clear p2
                        obtain ⟨kq, x91_56, rfl, HA, HJ56, BK200, BK215, BK219, HB⟩ := hcut
                        cases kq with
                        | zero => exact absurd HA.out (by simp [arbiterlaw02_TypesWrite.j3])
                        | succ kj56 =>
                          have H := HA.out
                          clear HA
                          simp only [arbiterlaw02_TypesWrite.j3] at H
                          by_cases c75 : x91_56 = true
                          · subst c75
                            have H1 : (some false) = some r := by rw [if_pos rfl] at H; exact H
                            clear H
                            have H := H1
                            clear H1
                            obtain rfl := Option.some.inj H
                            go_wp2
                            go_ret
                            exact ⟨by first | rfl | (simp [errW_none, errW_some] <;> rfl) | (simp [*, errW_none, errW_some] <;> rfl), by repeat (first | (with_reducible first | exact HB.out | apply below_alloc | apply pw_below_drewN | apply below_drew1 | refine below_set ?_ GE200.out | refine below_set ?_ GE215.out | refine below_set ?_ GE219.out) | exact HB.out)⟩
                          · replace c75 := Bool.eq_false_iff.mpr c75
                            subst c75
                            have H1 : ((types_Element.f a0_0 a0_1).bind fun bt228 => ((arbiterref02_Element.f a0_0 a0_1).bind fun bt231 => (if bt228.2.2 = bt231.2.2 then ((arbiterref02_Same.f bt228.1 bt228.2.1 bt231.1 bt231.2.1).bind fun t234 => (some t234)) else (some false)))) = some r := by rw [if_neg (show ¬ (false = true) by decide)] at H; exact H
                            clear H
                            have H := H1
                            clear H1
                            replace H := Option.bind_eq_some_iff.mp H
                            obtain ⟨⟨t228, t229, t230⟩, A760, H⟩ := H
                            replace H : ((arbiterref02_Element.f a0_0 a0_1).bind fun bt231 => (if t230 = bt231.2.2 then ((arbiterref02_Same.f t228 t229 bt231.1 bt231.2.1).bind fun t234 => (some t234)) else (some false))) = some r := H
                            have A76 := Aside0.mk A760
                            clear A760
                            replace H := Option.bind_eq_some_iff.mp H
                            obtain ⟨⟨t231, t232, t233⟩, A770, H⟩ := H
                            replace H : (if t230 = t233 then ((arbiterref02_Same.f t228 t229 t231 t232).bind fun t234 => (some t234)) else (some false)) = some r := H
                            have A77 := Aside0.mk A770
                            clear A770
                            by_cases c78 : t230 = t233
                            · rw [if_pos c78] at H
                              have c78b0 : (t230 == t233) = true := beq_iff_eq.mpr c78
                              have c78b1 : (t230 != t233) = false := bne_eq_false_iff_eq.mpr c78
                              clear c78
                              replace H := Option.bind_eq_some_iff.mp H
                              obtain ⟨t234, A790, H⟩ := H
                              replace H : (some t234) = some r := H
                              have A79 := Aside0.mk A790
                              clear A790
                              obtain rfl := Option.some.inj H
                              have hnb80 := NB200_215.out
                              have hnc80 := NB215_200.out
                              have hnb81 := NB200_219.out
                              have hnc81 := NB219_200.out
                              have hcz82_0 : wc.cell? ⟨gb200, 0, none⟩ = some (.int .i64 a0_0) := (blk_cell BK200.out 0).trans rfl
                              have hcz82_1 : wc.cell? ⟨gb200, 1, none⟩ = some (.string a0_1) := (blk_cell BK200.out 1).trans rfl
                              have hfz82_0 := blk_frozen BK200.out 0
                              have hfz82_1 := blk_frozen BK200.out 1
                              go_wp2_with (first | ((with_reducible refine gate_callee (f := 51) rfl ?_); refine goesL_ (some 94) rfl rfl Tryd.func51 (by kernel_rfl) rfl #[.agg #[.int .i64 a0_0, .string a0_1]] rfl (by (try simp only [List.map_toArray, List.map_cons, List.map_nil]); first | done | rfl | (simp only [List.length_drop, List.length_take]; rfl)) ?_; (with_reducible refine (types_Element.calls a0_0 a0_1 t228 t229 t230 _ A76.out).mono ?_); rintro e w83 ⟨rfl, hb⟩; refine ⟨_, rfl, ?_⟩; have n0_ := Aside0.mk (blk_below (g := gb200) (o := .cells #[.int .i64 a0_0, .string a0_1] 37 (0, 0)) (by (with_reducible repeat (first | refine blk_drewN ?_ _ | refine blk_drew ?_ | refine blk_alloc ?_ _)); exact BK200.out) hb); have n1_ := Aside0.mk (blk_below (g := gb215) (o := .cells #[.int .i64 t221, .string t222] 37 (0, 0)) (by (with_reducible repeat (first | refine blk_drewN ?_ _ | refine blk_drew ?_ | refine blk_alloc ?_ _)); exact BK215.out) hb); have n2_ := Aside0.mk (blk_below (g := gb219) (o := .cells #[.int .i64 t224, .string t225] 37 (0, 0)) (by (with_reducible repeat (first | refine blk_drewN ?_ _ | refine blk_drew ?_ | refine blk_alloc ?_ _)); exact BK219.out) hb); have n3_ := Aside0.mk (below_step (by repeat (first | (with_reducible first | exact HB.out | apply below_alloc | apply pw_below_drewN | apply below_drew1 | refine below_set ?_ GE200.out | refine below_set ?_ GE215.out | refine below_set ?_ GE219.out) | exact HB.out)) hb); clear BK200; clear BK215; clear BK219; clear HB; have BK200 := n0_; have BK215 := n1_; have BK219 := n2_; have HB := n3_; clear n0_ n1_ n2_ n3_; (try clear hb); (try clear hb2); (try clear hk); (try clear hi); have hnb84 := NB215_219.out; have hnc84 := NB219_215.out; have hcz85_0 : w83.cell? ⟨gb215, 0, none⟩ = some (.int .i64 t221) := (blk_cell BK215.out 0).trans rfl; have hcz85_1 : w83.cell? ⟨gb215, 1, none⟩ = some (.string t222) := (blk_cell BK215.out 1).trans rfl; have hfz85_0 := blk_frozen BK215.out 0; have hfz85_1 := blk_frozen BK215.out 1; have hcz86_0 : w83.cell? ⟨gb200, 0, none⟩ = some (.int .i64 a0_0) := (blk_cell BK200.out 0).trans rfl; have hcz86_1 : w83.cell? ⟨gb200, 1, none⟩ = some (.string a0_1) := (blk_cell BK200.out 1).trans rfl; have hfz86_0 := blk_frozen BK200.out 0; have hfz86_1 := blk_frozen BK200.out 1) | ((with_reducible refine gate_callee (f := 52) rfl ?_); refine goesL_ (some 99) rfl rfl Tryd.func52 (by kernel_rfl) rfl #[.agg #[.int .i64 a0_0, .string a0_1]] rfl (by (try simp only [List.map_toArray, List.map_cons, List.map_nil]); first | done | rfl | (simp only [List.length_drop, List.length_take]; rfl)) ?_; (with_reducible refine (arbiterref02_Element.calls a0_0 a0_1 t231 t232 t233 _ A77.out).mono ?_); rintro e w87 ⟨rfl, hb⟩; refine ⟨_, rfl, ?_⟩; have n0_ := Aside0.mk (blk_below (g := gb200) (o := .cells #[.int .i64 a0_0, .string a0_1] 37 (0, 0)) (by (with_reducible repeat (first | refine blk_drewN ?_ _ | refine blk_drew ?_ | refine blk_alloc ?_ _)); refine blk_far ?_ NB200_215.out _; (with_reducible repeat (first | refine blk_drewN ?_ _ | refine blk_drew ?_ | refine blk_alloc ?_ _)); refine blk_far ?_ NB200_215.out _; (with_reducible repeat (first | refine blk_drewN ?_ _ | refine blk_drew ?_ | refine blk_alloc ?_ _)); exact BK200.out) hb); have n1_ := Aside0.mk (blk_below (g := gb215) (o := .cells #[.int .i64 t228, .string t229] 37 (0, 0)) (by (with_reducible repeat (first | refine blk_drewN ?_ _ | refine blk_drew ?_ | refine blk_alloc ?_ _)); refine blk_put (cs := #[.int .i64 t228, .string t222]) ?_ 1 _ rfl; (with_reducible repeat (first | refine blk_drewN ?_ _ | refine blk_drew ?_ | refine blk_alloc ?_ _)); refine blk_put (cs := #[.int .i64 t221, .string t222]) ?_ 0 _ rfl; (with_reducible repeat (first | refine blk_drewN ?_ _ | refine blk_drew ?_ | refine blk_alloc ?_ _)); exact BK215.out) hb); have n2_ := Aside0.mk (blk_below (g := gb219) (o := .cells #[.int .i64 t224, .string t225] 37 (0, 0)) (by (with_reducible repeat (first | refine blk_drewN ?_ _ | refine blk_drew ?_ | refine blk_alloc ?_ _)); refine blk_far ?_ NB219_215.out _; (with_reducible repeat (first | refine blk_drewN ?_ _ | refine blk_drew ?_ | refine blk_alloc ?_ _)); refine blk_far ?_ NB219_215.out _; (with_reducible repeat (first | refine blk_drewN ?_ _ | refine blk_drew ?_ | refine blk_alloc ?_ _)); exact BK219.out) hb); have n3_ := Aside0.mk (below_step (by repeat (first | (with_reducible first | exact HB.out | apply below_alloc | apply pw_below_drewN | apply below_drew1 | refine below_set ?_ GE200.out | refine below_set ?_ GE215.out | refine below_set ?_ GE219.out) | exact HB.out)) hb); clear BK200; clear BK215; clear BK219; clear HB; have BK200 := n0_; have BK215 := n1_; have BK219 := n2_; have HB := n3_; clear n0_ n1_ n2_ n3_; (try clear hb); (try clear hb2); (try clear hk); (try clear hi); have hcz88_0 : w87.cell? ⟨gb219, 0, none⟩ = some (.int .i64 t224) := (blk_cell BK219.out 0).trans rfl; have hcz88_1 : w87.cell? ⟨gb219, 1, none⟩ = some (.string t225) := (blk_cell BK219.out 1).trans rfl; have hfz88_0 := blk_frozen BK219.out 0; have hfz88_1 := blk_frozen BK219.out 1; have hcz89_0 : w87.cell? ⟨gb215, 0, none⟩ = some (.int .i64 t228) := (blk_cell BK215.out 0).trans rfl; have hcz89_1 : w87.cell? ⟨gb215, 1, none⟩ = some (.string t229) := (blk_cell BK215.out 1).trans rfl; have hfz89_0 := blk_frozen BK215.out 0; have hfz89_1 := blk_frozen BK215.out 1) | (go_at_call 28; (with_reducible refine (arbiterref02_Same.calls t228 t229 t231 t232 t234 _ A79.out).mono ?_); rintro e w90 ⟨rfl, hb⟩; have n0_ := Aside0.mk (blk_below (g := gb200) (o := .cells #[.int .i64 a0_0, .string a0_1] 37 (0, 0)) (by (with_reducible repeat (first | refine blk_drewN ?_ _ | refine blk_drew ?_ | refine blk_alloc ?_ _)); refine blk_far ?_ NB200_219.out _; (with_reducible repeat (first | refine blk_drewN ?_ _ | refine blk_drew ?_ | refine blk_alloc ?_ _)); refine blk_far ?_ NB200_219.out _; (with_reducible repeat (first | refine blk_drewN ?_ _ | refine blk_drew ?_ | refine blk_alloc ?_ _)); exact BK200.out) hb); have n1_ := Aside0.mk (blk_below (g := gb215) (o := .cells #[.int .i64 t228, .string t229] 37 (0, 0)) (by (with_reducible repeat (first | refine blk_drewN ?_ _ | refine blk_drew ?_ | refine blk_alloc ?_ _)); refine blk_far ?_ NB215_219.out _; (with_reducible repeat (first | refine blk_drewN ?_ _ | refine blk_drew ?_ | refine blk_alloc ?_ _)); refine blk_far ?_ NB215_219.out _; (with_reducible repeat (first | refine blk_drewN ?_ _ | refine blk_drew ?_ | refine blk_alloc ?_ _)); exact BK215.out) hb); have n2_ := Aside0.mk (blk_below (g := gb219) (o := .cells #[.int .i64 t231, .string t232] 37 (0, 0)) (by (with_reducible repeat (first | refine blk_drewN ?_ _ | refine blk_drew ?_ | refine blk_alloc ?_ _)); refine blk_put (cs := #[.int .i64 t231, .string t225]) ?_ 1 _ rfl; (with_reducible repeat (first | refine blk_drewN ?_ _ | refine blk_drew ?_ | refine blk_alloc ?_ _)); refine blk_put (cs := #[.int .i64 t224, .string t225]) ?_ 0 _ rfl; (with_reducible repeat (first | refine blk_drewN ?_ _ | refine blk_drew ?_ | refine blk_alloc ?_ _)); exact BK219.out) hb); have n3_ := Aside0.mk (below_step (by repeat (first | (with_reducible first | exact HB.out | apply below_alloc | apply pw_below_drewN | apply below_drew1 | refine below_set ?_ GE200.out | refine below_set ?_ GE215.out | refine below_set ?_ GE219.out) | exact HB.out)) hb); clear BK200; clear BK215; clear BK219; clear HB; have BK200 := n0_; have BK215 := n1_; have BK219 := n2_; have HB := n3_; clear n0_ n1_ n2_ n3_; (try clear hb); (try clear hb2); (try clear hk); (try clear hi)))
                              go_ret
                              exact ⟨by first | rfl | (simp [errW_none, errW_some] <;> rfl) | (simp [*, errW_none, errW_some] <;> rfl), by repeat (first | (with_reducible first | exact HB.out | apply below_alloc | apply pw_below_drewN | apply below_drew1 | refine below_set ?_ GE200.out | refine below_set ?_ GE215.out | refine below_set ?_ GE219.out) | exact HB.out)⟩
                            · rw [if_neg c78] at H
                              have c78b0 : (t230 == t233) = false := beq_eq_false_iff_ne.mpr c78
                              have c78b1 : (t230 != t233) = true := bne_iff_ne.mpr c78
                              obtain rfl := Option.some.inj H
                              have hnb91 := NB200_215.out
                              have hnc91 := NB215_200.out
                              have hnb92 := NB200_219.out
                              have hnc92 := NB219_200.out
                              have hcz93_0 : wc.cell? ⟨gb200, 0, none⟩ = some (.int .i64 a0_0) := (blk_cell BK200.out 0).trans rfl
                              have hcz93_1 : wc.cell? ⟨gb200, 1, none⟩ = some (.string a0_1) := (blk_cell BK200.out 1).trans rfl
                              have hfz93_0 := blk_frozen BK200.out 0
                              have hfz93_1 := blk_frozen BK200.out 1
                              go_wp2_with (first | ((with_reducible refine gate_callee (f := 51) rfl ?_); refine goesL_ (some 94) rfl rfl Tryd.func51 (by kernel_rfl) rfl #[.agg #[.int .i64 a0_0, .string a0_1]] rfl (by (try simp only [List.map_toArray, List.map_cons, List.map_nil]); first | done | rfl | (simp only [List.length_drop, List.length_take]; rfl)) ?_; (with_reducible refine (types_Element.calls a0_0 a0_1 t228 t229 t230 _ A76.out).mono ?_); rintro e w94 ⟨rfl, hb⟩; refine ⟨_, rfl, ?_⟩; have n0_ := Aside0.mk (blk_below (g := gb200) (o := .cells #[.int .i64 a0_0, .string a0_1] 37 (0, 0)) (by (with_reducible repeat (first | refine blk_drewN ?_ _ | refine blk_drew ?_ | refine blk_alloc ?_ _)); exact BK200.out) hb); have n1_ := Aside0.mk (blk_below (g := gb215) (o := .cells #[.int .i64 t221, .string t222] 37 (0, 0)) (by (with_reducible repeat (first | refine blk_drewN ?_ _ | refine blk_drew ?_ | refine blk_alloc ?_ _)); exact BK215.out) hb); have n2_ := Aside0.mk (blk_below (g := gb219) (o := .cells #[.int .i64 t224, .string t225] 37 (0, 0)) (by (with_reducible repeat (first | refine blk_drewN ?_ _ | refine blk_drew ?_ | refine blk_alloc ?_ _)); exact BK219.out) hb); have n3_ := Aside0.mk (below_step (by repeat (first | (with_reducible first | exact HB.out | apply below_alloc | apply pw_below_drewN | apply below_drew1 | refine below_set ?_ GE200.out | refine below_set ?_ GE215.out | refine below_set ?_ GE219.out) | exact HB.out)) hb); clear BK200; clear BK215; clear BK219; clear HB; have BK200 := n0_; have BK215 := n1_; have BK219 := n2_; have HB := n3_; clear n0_ n1_ n2_ n3_; (try clear hb); (try clear hb2); (try clear hk); (try clear hi); have hnb95 := NB215_219.out; have hnc95 := NB219_215.out; have hcz96_0 : w94.cell? ⟨gb215, 0, none⟩ = some (.int .i64 t221) := (blk_cell BK215.out 0).trans rfl; have hcz96_1 : w94.cell? ⟨gb215, 1, none⟩ = some (.string t222) := (blk_cell BK215.out 1).trans rfl; have hfz96_0 := blk_frozen BK215.out 0; have hfz96_1 := blk_frozen BK215.out 1; have hcz97_0 : w94.cell? ⟨gb200, 0, none⟩ = some (.int .i64 a0_0) := (blk_cell BK200.out 0).trans rfl; have hcz97_1 : w94.cell? ⟨gb200, 1, none⟩ = some (.string a0_1) := (blk_cell BK200.out 1).trans rfl; have hfz97_0 := blk_frozen BK200.out 0; have hfz97_1 := blk_frozen BK200.out 1) | ((with_reducible refine gate_callee (f := 52) rfl ?_); refine goesL_ (some 99) rfl rfl Tryd.func52 (by kernel_rfl) rfl #[.agg #[.int .i64 a0_0, .string a0_1]] rfl (by (try simp only [List.map_toArray, List.map_cons, List.map_nil]); first | done | rfl | (simp only [List.length_drop, List.length_take]; rfl)) ?_; (with_reducible refine (arbiterref02_Element.calls a0_0 a0_1 t231 t232 t233 _ A77.out).mono ?_); rintro e w98 ⟨rfl, hb⟩; refine ⟨_, rfl, ?_⟩; have n0_ := Aside0.mk (blk_below (g := gb200) (o := .cells #[.int .i64 a0_0, .string a0_1] 37 (0, 0)) (by (with_reducible repeat (first | refine blk_drewN ?_ _ | refine blk_drew ?_ | refine blk_alloc ?_ _)); refine blk_far ?_ NB200_215.out _; (with_reducible repeat (first | refine blk_drewN ?_ _ | refine blk_drew ?_ | refine blk_alloc ?_ _)); refine blk_far ?_ NB200_215.out _; (with_reducible repeat (first | refine blk_drewN ?_ _ | refine blk_drew ?_ | refine blk_alloc ?_ _)); exact BK200.out) hb); have n1_ := Aside0.mk (blk_below (g := gb215) (o := .cells #[.int .i64 t228, .string t229] 37 (0, 0)) (by (with_reducible repeat (first | refine blk_drewN ?_ _ | refine blk_drew ?_ | refine blk_alloc ?_ _)); refine blk_put (cs := #[.int .i64 t228, .string t222]) ?_ 1 _ rfl; (with_reducible repeat (first | refine blk_drewN ?_ _ | refine blk_drew ?_ | refine blk_alloc ?_ _)); refine blk_put (cs := #[.int .i64 t221, .string t222]) ?_ 0 _ rfl; (with_reducible repeat (first | refine blk_drewN ?_ _ | refine blk_drew ?_ | refine blk_alloc ?_ _)); exact BK215.out) hb); have n2_ := Aside0.mk (blk_below (g := gb219) (o := .cells #[.int .i64 t224, .string t225] 37 (0, 0)) (by (with_reducible repeat (first | refine blk_drewN ?_ _ | refine blk_drew ?_ | refine blk_alloc ?_ _)); refine blk_far ?_ NB219_215.out _; (with_reducible repeat (first | refine blk_drewN ?_ _ | refine blk_drew ?_ | refine blk_alloc ?_ _)); refine blk_far ?_ NB219_215.out _; (with_reducible repeat (first | refine blk_drewN ?_ _ | refine blk_drew ?_ | refine blk_alloc ?_ _)); exact BK219.out) hb); have n3_ := Aside0.mk (below_step (by repeat (first | (with_reducible first | exact HB.out | apply below_alloc | apply pw_below_drewN | apply below_drew1 | refine below_set ?_ GE200.out | refine below_set ?_ GE215.out | refine below_set ?_ GE219.out) | exact HB.out)) hb); clear BK200; clear BK215; clear BK219; clear HB; have BK200 := n0_; have BK215 := n1_; have BK219 := n2_; have HB := n3_; clear n0_ n1_ n2_ n3_; (try clear hb); (try clear hb2); (try clear hk); (try clear hi); have hcz99_0 : w98.cell? ⟨gb219, 0, none⟩ = some (.int .i64 t224) := (blk_cell BK219.out 0).trans rfl; have hcz99_1 : w98.cell? ⟨gb219, 1, none⟩ = some (.string t225) := (blk_cell BK219.out 1).trans rfl; have hfz99_0 := blk_frozen BK219.out 0; have hfz99_1 := blk_frozen BK219.out 1))
                              go_ret
                              exact ⟨by first | rfl | (simp [errW_none, errW_some] <;> rfl) | (simp [*, errW_none, errW_some] <;> rfl), by repeat (first | (with_reducible first | exact HB.out | apply below_alloc | apply pw_below_drewN | apply below_drew1 | refine below_set ?_ GE200.out | refine below_set ?_ GE215.out | refine below_set ?_ GE219.out) | exact HB.out)⟩
  · replace c3 := Bool.eq_false_iff.mpr c3
    subst c3
    have H1 : (some false) = some r := by rw [if_neg (show ¬ (false = true) by decide)] at H; exact H
    clear H
    have H := H1
    clear H1
    obtain rfl := Option.some.inj H
    go_enter Tryd.func9, Tryd.ntmps9
    go_wp2_with (first | ((with_reducible refine gate_dst (N := 1) rfl ?_); refine box_event ?hg (N := 1) ?hd (cs := #[.int .i64 a0_0, .string a0_1]) (t := 37) ?hr ?_; (case hd => rfl); (case hg => rfl); (case hr => first | (go_simp; done) | (go_simp; rfl)); intro gb200 hg w100 hbox hb; have n0_ := Aside0.mk (below_step (by repeat (first | (with_reducible first | exact HB.out | apply below_alloc | apply pw_below_drewN | apply below_drew1) | exact HB.out)) hb); have n1_ := Aside0.mk (hbox); have n2_ := Aside0.mk ((by rw [hg]; exact (below_size (by repeat (first | (with_reducible first | exact HB.out | apply below_alloc | apply pw_below_drewN | apply below_drew1) | exact HB.out))) : w.heap.size ≤ gb200)); have n3_ := Aside0.mk ((by rw [hg]; exact (below_size (by repeat (first | (with_reducible first | exact HB.out | apply below_alloc | apply pw_below_drewN | apply below_drew1) | exact HB.out))) : w.heap.size ≤ gb200)); clear HB; have HB := n0_; have BK200 := n1_; have GW200 := n2_; have GE200 := n3_; clear n0_ n1_ n2_ n3_; clear hb hbox hg) | ((with_reducible refine gate_callee (f := 25) rfl ?_); refine goesL_ (some 9) rfl rfl Tryd.func25 (by kernel_rfl) rfl #[] rfl (by (try simp only [List.map_toArray, List.map_cons, List.map_nil]); first | done | rfl | (simp only [List.length_drop, List.length_take]; rfl)) ?_; (with_reducible refine (arbiterlaw02_awake.calls  false _ A2.out).mono ?_); rintro e w101 ⟨rfl, hb⟩; refine ⟨_, rfl, ?_⟩; have n0_ := Aside0.mk (blk_below (g := gb200) (o := .cells #[.int .i64 a0_0, .string a0_1] 37 (0, 0)) (by (with_reducible repeat (first | refine blk_drewN ?_ _ | refine blk_drew ?_ | refine blk_alloc ?_ _)); exact BK200.out) hb); have n1_ := Aside0.mk (below_step (by repeat (first | (with_reducible first | exact HB.out | apply below_alloc | apply pw_below_drewN | apply below_drew1 | refine below_set ?_ GE200.out) | exact HB.out)) hb); clear BK200; clear HB; have BK200 := n0_; have HB := n1_; clear n0_ n1_; (try clear hb); (try clear hb2); (try clear hk); (try clear hi)))
    go_ret
    exact ⟨by first | rfl | (simp [errW_none, errW_some] <;> rfl) | (simp [*, errW_none, errW_some] <;> rfl), by repeat (first | (with_reducible first | exact HB.out | apply below_alloc | apply pw_below_drewN | apply below_drew1 | refine below_set ?_ GE200.out) | exact HB.out)⟩

end Go.Proofs.YtpcdfjifhoofjaaDoor.Pt

/- TypesWrite: what the printed functions say is true. -/
namespace Go.Proofs.YtpcdfjifhoofjaaDoor.Pt
open Go Go.RowKit Go.Proofs.YtpcdfjifhoofjaaDoor.Nm Go.Proofs.YtpcdfjifhoofjaaDoor.Ty Go.Proofs.YtpcdfjifhoofjaaDoorW.PrintWords
set_option linter.unusedVariables false
set_option linter.unusedSimpArgs false

theorem ba_ext {a b : ByteArray} (h : a.data.toList = b.data.toList) : a = b := by
  rw [← mk_data a, ← mk_data b, h]
theorem toList_data (a : ByteArray) : a.toList = a.data.toList := ByteArray.toList_eq a
theorem wrap_small {i : Int} (h0 : -9223372036854775808 ≤ i) (h : i ≤ 9223372036854775807) : wrap64 i = i := by
  unfold wrap64
  omega
theorem strOf_rep (d : Nat) : strOfNums (List.replicate d 91) = bs (List.replicate d 91) := by
  simp [strOfNums, bs]
  try rfl
theorem setRep (i d : Nat) (h : i < d) : (List.replicate i (91 : Int) ++ List.replicate (d - i) 0).set i 91 = List.replicate (i + 1) 91 ++ List.replicate (d - (i + 1)) 0 := by
  obtain ⟨m, rfl⟩ : ∃ m, d = i + 1 + m := ⟨d - (i + 1), by omega⟩
  rw [show i + 1 + m - i = m + 1 from by omega, show i + 1 + m - (i + 1) = m from by omega, List.replicate_succ, List.set_append_right _ _ (by simp), List.length_replicate, Nat.sub_self, List.set_cons_zero, List.replicate_succ' (n := i), List.append_assoc]
  rfl
theorem written_l0 (nm : ByteArray) (hn : nm.size ≤ 60) (d : Nat) (hd : d ≤ 255) (m : Nat) : ∀ (i k : Nat), i ≤ d → d - i = m → m < k →
    arbiterref02_written.l0 k (List.replicate i 91 ++ List.replicate (d - i) 0) i d nm = some (bs (wr d nm.data.toList)) := by
  induction m with
  | zero =>
    intro i k hi hm hk
    obtain ⟨k, rfl⟩ : ∃ j, k = j + 1 := ⟨k - 1, by omega⟩
    obtain rfl : i = d := by omega
    have hz : (strOfNums (List.replicate i 91)).size = i := by rw [strOf_rep, mk_size, List.length_replicate]
    simp only [arbiterref02_written.l0, Nat.sub_self, List.replicate_zero, List.append_nil]
    rw [if_neg (by omega)]
    by_cases h : nm.toList = []
    · rw [if_pos h, if_pos (by omega)]
      rw [toList_data] at h
      congr 1
      apply ba_ext
      rw [strOf_rep]
      simp [wr, base, h, mk_toList, bs]
    · rw [if_neg h, if_pos (by omega), if_pos (by rw [ByteArray.size_append, hz]; show i + 1 + _ ≤ _; omega), if_pos (by rw [ByteArray.size_append, ByteArray.size_append, hz]; show i + 1 + _ + 1 ≤ _; omega)]
      rw [toList_data] at h
      congr 1
      apply ba_ext
      rw [strOf_rep]
      simp [wr, base, h, mk_toList, bs]
  | succ m ih =>
    intro i k hi hm hk
    obtain ⟨k, rfl⟩ : ∃ j, k = j + 1 := ⟨k - 1, by omega⟩
    simp only [arbiterref02_written.l0]
    rw [if_pos (by omega), if_pos (by omega), if_pos (by rw [List.length_append, List.length_replicate, List.length_replicate]; omega)]
    rw [wrap_small (by omega) (by omega), Int.toNat_natCast, setRep i d (by omega)]
    exact ih (i + 1) k (by omega) (by omega) (by omega)
theorem written_f (d : Int) (h0 : 0 ≤ d) (h1 : d ≤ 255) (nm : ByteArray) (hn : nm.size ≤ 60) (k : Nat) (hk : 255 < k) : arbiterref02_written.f k d nm = some (bs (wr d.toNat nm.data.toList)) := by
  obtain ⟨n, rfl⟩ : ∃ n : Nat, d = n := ⟨d.toNat, by omega⟩
  unfold arbiterref02_written.f
  rw [if_pos h0, Int.toNat_natCast, if_pos (by omega)]
  exact written_l0 nm hn n (by omega) n 0 k (by omega) (by omega) (by omega)
theorem chk_size (d : Int) (nm : ByteArray) (h : chk d nm.data.toList = 0) : nm.size ≤ 60 := by
  have := chk_small d _ h
  rw [len_data] at this
  exact this
theorem rtext_f (d : Int) (nm : ByteArray) (k : Nat) (hk : 255 < k) : arbiterref02_Text.f k d nm = some (tup2 (textT d nm.data.toList)) := by
  unfold arbiterref02_Text.f arbiterref02_Check.f textT
  rw [Option.bind_some]
  rcases chk_cases d nm.data.toList with h | ⟨h, h0, h1⟩
  · rw [h]; rfl
  · rw [h, if_pos rfl, if_neg (by decide), written_f d h0 h1 nm (chk_size d nm h) k hk]; rfl
theorem rreftext_f (d : Int) (nm : ByteArray) (k : Nat) (hk : 255 < k) : arbiterref02_RefText.f k d nm = some (tup2 (refT d nm.data.toList)) := by
  unfold arbiterref02_RefText.f arbiterref02_Check.f refT
  rw [Option.bind_some]
  rcases chk_cases d nm.data.toList with h | ⟨h, h0, h1⟩
  · rw [h]; rfl
  · have e : ¬ ((0 : Int) ≠ 0) := by decide
    rw [h, if_pos rfl, if_neg e]
    by_cases hd : d = 0
    · rw [if_neg (show ¬ d > 0 by omega), if_pos hd, toList_data]
      by_cases hn : nm.data.toList = []
      · rw [if_pos hn, if_pos hn]; rfl
      · rw [if_neg hn, if_neg hn, tup2, mk_data]
    · rw [if_pos (show d > 0 by omega), if_neg hd, written_f d h0 h1 nm (chk_size d nm h) k hk]; rfl
theorem awake_f : arbiterlaw02_awake.f = some true := by decide +kernel
theorem same_self (d : Int) (nm : ByteArray) : arbiterref02_Same.f d nm d nm = some true := by simp [arbiterref02_Same.f]
theorem write_true (d : Int) (nm : ByteArray) : arbiterlaw02_TypesWrite.f 300 d nm = some true := by
  unfold arbiterlaw02_TypesWrite.f
  rw [awake_f]
  simp only [Option.bind_some, if_true, types_Text.f, rtext_f d nm 300 (by decide), types_Check.f, arbiterref02_Check.f]
  rw [show (300 : Nat) = 299 + 1 from rfl, bne_self_eq_false]
  simp only [arbiterlaw02_TypesWrite.j0]
  rw [if_neg (by decide)]
  simp only [Option.bind_some, if_true, types_RefText.f, rreftext_f d nm 299 (by decide)]
  rw [show (299 : Nat) = 298 + 1 from rfl, bne_self_eq_false]
  simp only [arbiterlaw02_TypesWrite.j1]
  rw [if_neg (by decide)]
  simp only [Option.bind_some, if_true, types_ArrayOf.f, arbiterref02_ArrayOf.f, same_self]
  rw [show (298 : Nat) = 297 + 1 from rfl]
  simp only [arbiterlaw02_TypesWrite.j2]
  rw [if_neg (by decide)]
  simp only [Option.bind_some, if_true, types_Component.f, arbiterref02_Component.f, same_self]
  rw [show (297 : Nat) = 296 + 1 from rfl]
  simp only [arbiterlaw02_TypesWrite.j3]
  rw [if_neg (by decide)]
  simp only [Option.bind_some, if_true, types_Element.f, arbiterref02_Element.f, same_self]
theorem write_any (d : Int) (nm : ByteArray) (w : World) : Calls Tryd.prog 9 #[.agg #[.int .i64 d, .string nm]] w fun e w' => e = .returned (.bool true) ∧ Below w.heap.size w w' :=
  arbiterlaw02_TypesWrite.calls 300 d nm true w (write_true d nm)
end Go.Proofs.YtpcdfjifhoofjaaDoor.Pt
